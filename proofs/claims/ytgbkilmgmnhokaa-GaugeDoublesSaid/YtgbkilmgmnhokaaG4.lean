/-
  THE WALKS: how many digits a word has.
-/
import Derived.Test.YtgbkilmgmnhokaaG3
set_option linter.unusedSimpArgs false
set_option linter.unusedVariables false
namespace Go.Am
open Go Go.Proofs Go.Fl

theorem u22 : Try.prog.underlying 22 = some (.int .u64) := by kernel_rfl
theorem u5 : Try.prog.underlying 5 = some (.int .u8) := by kernel_rfl
theorem u3 : Try.prog.underlying 3 = some (.int .i64) := by kernel_rfl
theorem u26 : Try.prog.underlying 26 = some (.float .f64) := by kernel_rfl

/-- How many digits. -/
def bl (n : Nat) : Nat := if n = 0 then 0 else n.log2 + 1

def strIn : Code → Option ByteArray
  | .region _ ops _ => ops.toList.findSome? fun o => match o.op with | .index _ (.const (.string s)) _ => some s | _ => none
  | .seq a b => (strIn a).orElse fun _ => strIn b
  | .cond _ a b => (strIn a).orElse fun _ => strIn b
  | .block _ c => strIn c
  | _ => none

noncomputable def LEN8 : ByteArray := ((Try.f35.body.bind strIn).getD ⟨#[]⟩)

def isU8 (n : Nat) : Option AV → Bool
  | some (.s (.i .u8 (.ofNat m))) => m == n
  | _ => false

theorem len8_all : (List.range 256).all (fun j => isU8 (bl j) (scVal Try.prog (Instr.index 9 (.string LEN8) (.int .u8 (Int.ofNat j))))) = true := by kernel_rfl

theorem len8 {j : Nat} (h : j < 256) : scVal Try.prog (Instr.index 9 (.string LEN8) (Sc.i .u8 (j : Int)).val) = some (.s (.i .u8 (bl j : Nat))) := by
  have := List.all_eq_true.1 len8_all j (by simpa using h)
  simp only [Sc.val]
  unfold isU8 at this
  split at this
  · rename_i m hm
    have e : m = bl j := by simpa using this
    subst e
    exact hm
  · cases this

theorem bl_shift {x d : Nat} (h : 2 ^ d ≤ x) : bl x = bl (x / 2 ^ d) + d := by
  have h0 : x ≠ 0 := by have := Nat.two_pow_pos d; omega
  have hq : x / 2 ^ d ≠ 0 := by
    have := (Nat.le_div_iff_mul_le (Nat.two_pow_pos d)).2 (by simpa using h : 1 * 2 ^ d ≤ x)
    omega
  have hle : d ≤ x.log2 := (Nat.le_log2 h0).2 h
  have hl : (x / 2 ^ d).log2 = x.log2 - d := by
    obtain ⟨q1, q2⟩ := div_log h0 rfl hle
    exact log2_of q1 q2
  unfold bl
  rw [if_neg h0, if_neg hq, hl]
  omega

theorem fdiv_nat (x d : Nat) : (x : Int).fdiv (2 ^ d) = ((x / 2 ^ d : Nat) : Int) := by
  have : ((2 : Int) ^ d) = ((2 ^ d : Nat) : Int) := by simp
  rw [this, Int.fdiv_eq_ediv_of_nonneg _ (Int.natCast_nonneg _)]
  exact (Int.natCast_ediv _ _).symm

theorem wrapu8 {n : Int} (h0 : 0 ≤ n) (h1 : n < 256) : IntKind.u8.wrap n = n := by
  simp [IntKind.wrap, IntKind.signed, IntKind.bits]
  omega

section
variable {F : Tab} (hF : F.valid Try.prog) (hq : Calm F (fun _ => true))
include hF hq

set_option maxRecDepth 4000 in
theorem len64 (x : Nat) (hx : x < 2 ^ 64) : ValidAt Try.prog 35 [.s (.i .u64 x)] [] [] (.s (.i .i64 (bl x : Nat))) [] [] := by
  have key := fun (j : Nat) (h : j < 256) => len8 h
  conv at key => enter [j, h, 1, 2, 2, 1]; whnf
  have dT1 : ∀ (a : Nat), 4294967296 ≤ a → decide ((a : Int) ≥ 4294967296) = true := fun a h => decide_eq_true (by omega)
  have dF1 : ∀ (a : Nat), ¬ 4294967296 ≤ a → decide ((a : Int) ≥ 4294967296) = false := fun a h => decide_eq_false (by omega)
  have dT2 : ∀ (a : Nat), 65536 ≤ a → decide ((a : Int) ≥ 65536) = true := fun a h => decide_eq_true (by omega)
  have dF2 : ∀ (a : Nat), ¬ 65536 ≤ a → decide ((a : Int) ≥ 65536) = false := fun a h => decide_eq_false (by omega)
  have dT3 : ∀ (a : Nat), 256 ≤ a → decide ((a : Int) ≥ 256) = true := fun a h => decide_eq_true (by omega)
  have dF3 : ∀ (a : Nat), ¬ 256 ≤ a → decide ((a : Int) ≥ 256) = false := fun a h => decide_eq_false (by omega)
  have bl32 : ∀ {x : Nat}, 4294967296 ≤ x → bl x = bl (x / 4294967296) + 32 := fun h => bl_shift (d := 32) h
  have bl16 : ∀ {x : Nat}, 65536 ≤ x → bl x = bl (x / 65536) + 16 := fun h => bl_shift (d := 16) h
  have bl8 : ∀ {x : Nat}, 256 ≤ x → bl x = bl (x / 256) + 8 := fun h => bl_shift (d := 8) h
  have k1 : IntKind.i64.wrap (32 + 16) = 48 := by decide
  have k2 : IntKind.i64.wrap (48 + 8) = 56 := by decide
  have k3 : IntKind.i64.wrap (32 + 8) = 40 := by decide
  have k4 : IntKind.i64.wrap (0 + 16) = 16 := by decide
  have k5 : IntKind.i64.wrap (16 + 8) = 24 := by decide
  have k6 : IntKind.i64.wrap (0 + 8) = 8 := by decide
  have w64 : ∀ (n : Nat), n < 1000 → IntKind.i64.wrap (n : Int) = n := fun n h => wrap64 (by omega) (by omega)
  have wu8 : ∀ (n : Nat), n < 256 → IntKind.u8.wrap (n : Int) = n := fun n h => wrapu8 (by omega) (by omega)
  have blt : ∀ n, n < 256 → bl n < 10 := fun n h => by
    unfold bl
    split
    · omega
    · rename_i h0
      have := (Nat.log2_lt h0).2 (show n < 2 ^ 8 by omega)
      omega
  refine valid_of_awp Try.func35 rfl (by simp [Try.ntmps35]) ?_
  refine XW_sound (esc := fun _ => false) orders hF hq _ _ _ ?_
  by_cases c1 : 4294967296 ≤ x
  · have d1 := dT1 x c1
    by_cases c2 : 65536 ≤ (x / 4294967296)
    · have d2 := dT2 (x / 4294967296) c2
      by_cases c3 : 256 ≤ ((x / 4294967296) / 65536)
      · have d3 := dT3 ((x / 4294967296) / 65536) c3
        have hy : (((x / 4294967296) / 65536) / 256) < 256 := by omega
        have e : bl x = bl (((x / 4294967296) / 65536) / 256) + 56 := by
          have q32 := bl32 (x := x) (by omega)
          have q16 := bl16 (x := (x / 4294967296)) (by omega)
          have q8 := bl8 (x := ((x / 4294967296) / 65536)) (by omega)
          omega
        simp only [Try.ntmps35, ↓XW, xOps, xStep, dOps, dRun, wild, yRun, yStep, yOp, cls, Am.dropL, aWant, xOp, xPure, rd, xCall, calleeAV, Option.bind_some, Option.bind_none, Option.map_some, Option.map_none, St.put, List.getD_cons_succ, List.getD_cons_zero, List.length_cons, List.length_nil, Array.toList, ofV, toV, ofC, List.set_cons_succ, List.set_cons_zero, List.cons_append, List.nil_append, List.append_nil, AV.cells?, newBox, St.setAt, boxCells, List.getElem?_cons_succ, List.getElem?_cons_zero, Nat.zero_add, Nat.add_zero, Option.any_some, Option.any_none, frame0, List.reduceReplicate, bin_i, bin_fl, bin_cadd, bin_csub, bin_cmul, bin_ceql, intBin, shiftBin, isShift, getB, strip, List.map_cons, List.map_nil, List.drop_zero, List.drop_succ_cons, AV.nrmL, AV.nrm, plainL, argCells, St.freezeIn, noRow, List.flatten_cons, List.flatten_nil, List.all_cons, List.all_nil, Option.getD_some, List.getElem?_toArray, Option.bind_fun_some, beq_true, beq_false, partsAV, xStoreOp, isOwn, isBox, xStore, setB, okScope, splice, AV.one, notW, AV.data, Nat.zero_le, decide_true, decide_false, Bool.false_or, Bool.true_or, idx, lenAV, finAV, resList, resOne, loadAV, single, AV.bel, AV.belL, List.take_zero, List.take_nil, List.take_succ_cons, Bool.false_eq_true, Bool.true_and, Bool.and_true, Bool.and_self, Bool.not_true, Bool.not_false, beq_self_eq_true, reduceIte, reduceCtorEq, Nat.reduceLT, Nat.reduceAdd, Nat.reduceSub, Nat.reduceMul, Nat.reduceLeDiff, Nat.reducePow, Nat.reduceEqDiff, Nat.reduceBEq, Int.reduceLT, Int.reduceLE, Int.reduceToNat, Int.reduceEq, Int.reduceNeg, and_self, and_true, true_and, false_or, or_false, or_true, true_or, Bool.or_self, Bool.or_false, Bool.or_true, ne_eq, not_true_eq_false, not_false_eq_true, u22, u5, u3, show min 32 IntKind.u64.bits = 32 from rfl, show min 16 IntKind.u64.bits = 16 from rfl, show min 8 IntKind.u64.bits = 8 from rfl, fdiv_nat, show Try.f35.results.toList = [.tmp 2] from rfl, d1, d2, d3, wu8 _ hy, key _ hy]
        refine congrArg (fun z => some (AV.s (Sc.i IntKind.i64 z), [], [])) ?_
        have hb := blt _ hy
        rw [e]
        rw [w64 _ (by omega)]
        try simp only [k1, k2, k3, k4, k5, k6]
        rw [wrap64 (by omega) (by omega)]
        omega
      · have d3 := dF3 ((x / 4294967296) / 65536) c3
        have hy : ((x / 4294967296) / 65536) < 256 := by omega
        have e : bl x = bl ((x / 4294967296) / 65536) + 48 := by
          have q32 := bl32 (x := x) (by omega)
          have q16 := bl16 (x := (x / 4294967296)) (by omega)
          omega
        simp only [Try.ntmps35, ↓XW, xOps, xStep, dOps, dRun, wild, yRun, yStep, yOp, cls, Am.dropL, aWant, xOp, xPure, rd, xCall, calleeAV, Option.bind_some, Option.bind_none, Option.map_some, Option.map_none, St.put, List.getD_cons_succ, List.getD_cons_zero, List.length_cons, List.length_nil, Array.toList, ofV, toV, ofC, List.set_cons_succ, List.set_cons_zero, List.cons_append, List.nil_append, List.append_nil, AV.cells?, newBox, St.setAt, boxCells, List.getElem?_cons_succ, List.getElem?_cons_zero, Nat.zero_add, Nat.add_zero, Option.any_some, Option.any_none, frame0, List.reduceReplicate, bin_i, bin_fl, bin_cadd, bin_csub, bin_cmul, bin_ceql, intBin, shiftBin, isShift, getB, strip, List.map_cons, List.map_nil, List.drop_zero, List.drop_succ_cons, AV.nrmL, AV.nrm, plainL, argCells, St.freezeIn, noRow, List.flatten_cons, List.flatten_nil, List.all_cons, List.all_nil, Option.getD_some, List.getElem?_toArray, Option.bind_fun_some, beq_true, beq_false, partsAV, xStoreOp, isOwn, isBox, xStore, setB, okScope, splice, AV.one, notW, AV.data, Nat.zero_le, decide_true, decide_false, Bool.false_or, Bool.true_or, idx, lenAV, finAV, resList, resOne, loadAV, single, AV.bel, AV.belL, List.take_zero, List.take_nil, List.take_succ_cons, Bool.false_eq_true, Bool.true_and, Bool.and_true, Bool.and_self, Bool.not_true, Bool.not_false, beq_self_eq_true, reduceIte, reduceCtorEq, Nat.reduceLT, Nat.reduceAdd, Nat.reduceSub, Nat.reduceMul, Nat.reduceLeDiff, Nat.reducePow, Nat.reduceEqDiff, Nat.reduceBEq, Int.reduceLT, Int.reduceLE, Int.reduceToNat, Int.reduceEq, Int.reduceNeg, and_self, and_true, true_and, false_or, or_false, or_true, true_or, Bool.or_self, Bool.or_false, Bool.or_true, ne_eq, not_true_eq_false, not_false_eq_true, u22, u5, u3, show min 32 IntKind.u64.bits = 32 from rfl, show min 16 IntKind.u64.bits = 16 from rfl, show min 8 IntKind.u64.bits = 8 from rfl, fdiv_nat, show Try.f35.results.toList = [.tmp 2] from rfl, d1, d2, d3, wu8 _ hy, key _ hy]
        refine congrArg (fun z => some (AV.s (Sc.i IntKind.i64 z), [], [])) ?_
        have hb := blt _ hy
        rw [e]
        rw [w64 _ (by omega)]
        try simp only [k1, k2, k3, k4, k5, k6]
        rw [wrap64 (by omega) (by omega)]
        omega
    · have d2 := dF2 (x / 4294967296) c2
      by_cases c3 : 256 ≤ (x / 4294967296)
      · have d3 := dT3 (x / 4294967296) c3
        have hy : ((x / 4294967296) / 256) < 256 := by omega
        have e : bl x = bl ((x / 4294967296) / 256) + 40 := by
          have q32 := bl32 (x := x) (by omega)
          have q8 := bl8 (x := (x / 4294967296)) (by omega)
          omega
        simp only [Try.ntmps35, ↓XW, xOps, xStep, dOps, dRun, wild, yRun, yStep, yOp, cls, Am.dropL, aWant, xOp, xPure, rd, xCall, calleeAV, Option.bind_some, Option.bind_none, Option.map_some, Option.map_none, St.put, List.getD_cons_succ, List.getD_cons_zero, List.length_cons, List.length_nil, Array.toList, ofV, toV, ofC, List.set_cons_succ, List.set_cons_zero, List.cons_append, List.nil_append, List.append_nil, AV.cells?, newBox, St.setAt, boxCells, List.getElem?_cons_succ, List.getElem?_cons_zero, Nat.zero_add, Nat.add_zero, Option.any_some, Option.any_none, frame0, List.reduceReplicate, bin_i, bin_fl, bin_cadd, bin_csub, bin_cmul, bin_ceql, intBin, shiftBin, isShift, getB, strip, List.map_cons, List.map_nil, List.drop_zero, List.drop_succ_cons, AV.nrmL, AV.nrm, plainL, argCells, St.freezeIn, noRow, List.flatten_cons, List.flatten_nil, List.all_cons, List.all_nil, Option.getD_some, List.getElem?_toArray, Option.bind_fun_some, beq_true, beq_false, partsAV, xStoreOp, isOwn, isBox, xStore, setB, okScope, splice, AV.one, notW, AV.data, Nat.zero_le, decide_true, decide_false, Bool.false_or, Bool.true_or, idx, lenAV, finAV, resList, resOne, loadAV, single, AV.bel, AV.belL, List.take_zero, List.take_nil, List.take_succ_cons, Bool.false_eq_true, Bool.true_and, Bool.and_true, Bool.and_self, Bool.not_true, Bool.not_false, beq_self_eq_true, reduceIte, reduceCtorEq, Nat.reduceLT, Nat.reduceAdd, Nat.reduceSub, Nat.reduceMul, Nat.reduceLeDiff, Nat.reducePow, Nat.reduceEqDiff, Nat.reduceBEq, Int.reduceLT, Int.reduceLE, Int.reduceToNat, Int.reduceEq, Int.reduceNeg, and_self, and_true, true_and, false_or, or_false, or_true, true_or, Bool.or_self, Bool.or_false, Bool.or_true, ne_eq, not_true_eq_false, not_false_eq_true, u22, u5, u3, show min 32 IntKind.u64.bits = 32 from rfl, show min 16 IntKind.u64.bits = 16 from rfl, show min 8 IntKind.u64.bits = 8 from rfl, fdiv_nat, show Try.f35.results.toList = [.tmp 2] from rfl, d1, d2, d3, wu8 _ hy, key _ hy]
        refine congrArg (fun z => some (AV.s (Sc.i IntKind.i64 z), [], [])) ?_
        have hb := blt _ hy
        rw [e]
        rw [w64 _ (by omega)]
        try simp only [k1, k2, k3, k4, k5, k6]
        rw [wrap64 (by omega) (by omega)]
        omega
      · have d3 := dF3 (x / 4294967296) c3
        have hy : (x / 4294967296) < 256 := by omega
        have e : bl x = bl (x / 4294967296) + 32 := by
          have q32 := bl32 (x := x) (by omega)
          omega
        simp only [Try.ntmps35, ↓XW, xOps, xStep, dOps, dRun, wild, yRun, yStep, yOp, cls, Am.dropL, aWant, xOp, xPure, rd, xCall, calleeAV, Option.bind_some, Option.bind_none, Option.map_some, Option.map_none, St.put, List.getD_cons_succ, List.getD_cons_zero, List.length_cons, List.length_nil, Array.toList, ofV, toV, ofC, List.set_cons_succ, List.set_cons_zero, List.cons_append, List.nil_append, List.append_nil, AV.cells?, newBox, St.setAt, boxCells, List.getElem?_cons_succ, List.getElem?_cons_zero, Nat.zero_add, Nat.add_zero, Option.any_some, Option.any_none, frame0, List.reduceReplicate, bin_i, bin_fl, bin_cadd, bin_csub, bin_cmul, bin_ceql, intBin, shiftBin, isShift, getB, strip, List.map_cons, List.map_nil, List.drop_zero, List.drop_succ_cons, AV.nrmL, AV.nrm, plainL, argCells, St.freezeIn, noRow, List.flatten_cons, List.flatten_nil, List.all_cons, List.all_nil, Option.getD_some, List.getElem?_toArray, Option.bind_fun_some, beq_true, beq_false, partsAV, xStoreOp, isOwn, isBox, xStore, setB, okScope, splice, AV.one, notW, AV.data, Nat.zero_le, decide_true, decide_false, Bool.false_or, Bool.true_or, idx, lenAV, finAV, resList, resOne, loadAV, single, AV.bel, AV.belL, List.take_zero, List.take_nil, List.take_succ_cons, Bool.false_eq_true, Bool.true_and, Bool.and_true, Bool.and_self, Bool.not_true, Bool.not_false, beq_self_eq_true, reduceIte, reduceCtorEq, Nat.reduceLT, Nat.reduceAdd, Nat.reduceSub, Nat.reduceMul, Nat.reduceLeDiff, Nat.reducePow, Nat.reduceEqDiff, Nat.reduceBEq, Int.reduceLT, Int.reduceLE, Int.reduceToNat, Int.reduceEq, Int.reduceNeg, and_self, and_true, true_and, false_or, or_false, or_true, true_or, Bool.or_self, Bool.or_false, Bool.or_true, ne_eq, not_true_eq_false, not_false_eq_true, u22, u5, u3, show min 32 IntKind.u64.bits = 32 from rfl, show min 16 IntKind.u64.bits = 16 from rfl, show min 8 IntKind.u64.bits = 8 from rfl, fdiv_nat, show Try.f35.results.toList = [.tmp 2] from rfl, d1, d2, d3, wu8 _ hy, key _ hy]
        refine congrArg (fun z => some (AV.s (Sc.i IntKind.i64 z), [], [])) ?_
        have hb := blt _ hy
        rw [e]
        rw [w64 _ (by omega)]
        try simp only [k1, k2, k3, k4, k5, k6]
        rw [wrap64 (by omega) (by omega)]
        omega
  · have d1 := dF1 x c1
    by_cases c2 : 65536 ≤ x
    · have d2 := dT2 x c2
      by_cases c3 : 256 ≤ (x / 65536)
      · have d3 := dT3 (x / 65536) c3
        have hy : ((x / 65536) / 256) < 256 := by omega
        have e : bl x = bl ((x / 65536) / 256) + 24 := by
          have q16 := bl16 (x := x) (by omega)
          have q8 := bl8 (x := (x / 65536)) (by omega)
          omega
        simp only [Try.ntmps35, ↓XW, xOps, xStep, dOps, dRun, wild, yRun, yStep, yOp, cls, Am.dropL, aWant, xOp, xPure, rd, xCall, calleeAV, Option.bind_some, Option.bind_none, Option.map_some, Option.map_none, St.put, List.getD_cons_succ, List.getD_cons_zero, List.length_cons, List.length_nil, Array.toList, ofV, toV, ofC, List.set_cons_succ, List.set_cons_zero, List.cons_append, List.nil_append, List.append_nil, AV.cells?, newBox, St.setAt, boxCells, List.getElem?_cons_succ, List.getElem?_cons_zero, Nat.zero_add, Nat.add_zero, Option.any_some, Option.any_none, frame0, List.reduceReplicate, bin_i, bin_fl, bin_cadd, bin_csub, bin_cmul, bin_ceql, intBin, shiftBin, isShift, getB, strip, List.map_cons, List.map_nil, List.drop_zero, List.drop_succ_cons, AV.nrmL, AV.nrm, plainL, argCells, St.freezeIn, noRow, List.flatten_cons, List.flatten_nil, List.all_cons, List.all_nil, Option.getD_some, List.getElem?_toArray, Option.bind_fun_some, beq_true, beq_false, partsAV, xStoreOp, isOwn, isBox, xStore, setB, okScope, splice, AV.one, notW, AV.data, Nat.zero_le, decide_true, decide_false, Bool.false_or, Bool.true_or, idx, lenAV, finAV, resList, resOne, loadAV, single, AV.bel, AV.belL, List.take_zero, List.take_nil, List.take_succ_cons, Bool.false_eq_true, Bool.true_and, Bool.and_true, Bool.and_self, Bool.not_true, Bool.not_false, beq_self_eq_true, reduceIte, reduceCtorEq, Nat.reduceLT, Nat.reduceAdd, Nat.reduceSub, Nat.reduceMul, Nat.reduceLeDiff, Nat.reducePow, Nat.reduceEqDiff, Nat.reduceBEq, Int.reduceLT, Int.reduceLE, Int.reduceToNat, Int.reduceEq, Int.reduceNeg, and_self, and_true, true_and, false_or, or_false, or_true, true_or, Bool.or_self, Bool.or_false, Bool.or_true, ne_eq, not_true_eq_false, not_false_eq_true, u22, u5, u3, show min 32 IntKind.u64.bits = 32 from rfl, show min 16 IntKind.u64.bits = 16 from rfl, show min 8 IntKind.u64.bits = 8 from rfl, fdiv_nat, show Try.f35.results.toList = [.tmp 2] from rfl, d1, d2, d3, wu8 _ hy, key _ hy]
        refine congrArg (fun z => some (AV.s (Sc.i IntKind.i64 z), [], [])) ?_
        have hb := blt _ hy
        rw [e]
        rw [w64 _ (by omega)]
        try simp only [k1, k2, k3, k4, k5, k6]
        rw [wrap64 (by omega) (by omega)]
        omega
      · have d3 := dF3 (x / 65536) c3
        have hy : (x / 65536) < 256 := by omega
        have e : bl x = bl (x / 65536) + 16 := by
          have q16 := bl16 (x := x) (by omega)
          omega
        simp only [Try.ntmps35, ↓XW, xOps, xStep, dOps, dRun, wild, yRun, yStep, yOp, cls, Am.dropL, aWant, xOp, xPure, rd, xCall, calleeAV, Option.bind_some, Option.bind_none, Option.map_some, Option.map_none, St.put, List.getD_cons_succ, List.getD_cons_zero, List.length_cons, List.length_nil, Array.toList, ofV, toV, ofC, List.set_cons_succ, List.set_cons_zero, List.cons_append, List.nil_append, List.append_nil, AV.cells?, newBox, St.setAt, boxCells, List.getElem?_cons_succ, List.getElem?_cons_zero, Nat.zero_add, Nat.add_zero, Option.any_some, Option.any_none, frame0, List.reduceReplicate, bin_i, bin_fl, bin_cadd, bin_csub, bin_cmul, bin_ceql, intBin, shiftBin, isShift, getB, strip, List.map_cons, List.map_nil, List.drop_zero, List.drop_succ_cons, AV.nrmL, AV.nrm, plainL, argCells, St.freezeIn, noRow, List.flatten_cons, List.flatten_nil, List.all_cons, List.all_nil, Option.getD_some, List.getElem?_toArray, Option.bind_fun_some, beq_true, beq_false, partsAV, xStoreOp, isOwn, isBox, xStore, setB, okScope, splice, AV.one, notW, AV.data, Nat.zero_le, decide_true, decide_false, Bool.false_or, Bool.true_or, idx, lenAV, finAV, resList, resOne, loadAV, single, AV.bel, AV.belL, List.take_zero, List.take_nil, List.take_succ_cons, Bool.false_eq_true, Bool.true_and, Bool.and_true, Bool.and_self, Bool.not_true, Bool.not_false, beq_self_eq_true, reduceIte, reduceCtorEq, Nat.reduceLT, Nat.reduceAdd, Nat.reduceSub, Nat.reduceMul, Nat.reduceLeDiff, Nat.reducePow, Nat.reduceEqDiff, Nat.reduceBEq, Int.reduceLT, Int.reduceLE, Int.reduceToNat, Int.reduceEq, Int.reduceNeg, and_self, and_true, true_and, false_or, or_false, or_true, true_or, Bool.or_self, Bool.or_false, Bool.or_true, ne_eq, not_true_eq_false, not_false_eq_true, u22, u5, u3, show min 32 IntKind.u64.bits = 32 from rfl, show min 16 IntKind.u64.bits = 16 from rfl, show min 8 IntKind.u64.bits = 8 from rfl, fdiv_nat, show Try.f35.results.toList = [.tmp 2] from rfl, d1, d2, d3, wu8 _ hy, key _ hy]
        refine congrArg (fun z => some (AV.s (Sc.i IntKind.i64 z), [], [])) ?_
        have hb := blt _ hy
        rw [e]
        rw [w64 _ (by omega)]
        try simp only [k1, k2, k3, k4, k5, k6]
        rw [wrap64 (by omega) (by omega)]
        omega
    · have d2 := dF2 x c2
      by_cases c3 : 256 ≤ x
      · have d3 := dT3 x c3
        have hy : (x / 256) < 256 := by omega
        have e : bl x = bl (x / 256) + 8 := by
          have q8 := bl8 (x := x) (by omega)
          omega
        simp only [Try.ntmps35, ↓XW, xOps, xStep, dOps, dRun, wild, yRun, yStep, yOp, cls, Am.dropL, aWant, xOp, xPure, rd, xCall, calleeAV, Option.bind_some, Option.bind_none, Option.map_some, Option.map_none, St.put, List.getD_cons_succ, List.getD_cons_zero, List.length_cons, List.length_nil, Array.toList, ofV, toV, ofC, List.set_cons_succ, List.set_cons_zero, List.cons_append, List.nil_append, List.append_nil, AV.cells?, newBox, St.setAt, boxCells, List.getElem?_cons_succ, List.getElem?_cons_zero, Nat.zero_add, Nat.add_zero, Option.any_some, Option.any_none, frame0, List.reduceReplicate, bin_i, bin_fl, bin_cadd, bin_csub, bin_cmul, bin_ceql, intBin, shiftBin, isShift, getB, strip, List.map_cons, List.map_nil, List.drop_zero, List.drop_succ_cons, AV.nrmL, AV.nrm, plainL, argCells, St.freezeIn, noRow, List.flatten_cons, List.flatten_nil, List.all_cons, List.all_nil, Option.getD_some, List.getElem?_toArray, Option.bind_fun_some, beq_true, beq_false, partsAV, xStoreOp, isOwn, isBox, xStore, setB, okScope, splice, AV.one, notW, AV.data, Nat.zero_le, decide_true, decide_false, Bool.false_or, Bool.true_or, idx, lenAV, finAV, resList, resOne, loadAV, single, AV.bel, AV.belL, List.take_zero, List.take_nil, List.take_succ_cons, Bool.false_eq_true, Bool.true_and, Bool.and_true, Bool.and_self, Bool.not_true, Bool.not_false, beq_self_eq_true, reduceIte, reduceCtorEq, Nat.reduceLT, Nat.reduceAdd, Nat.reduceSub, Nat.reduceMul, Nat.reduceLeDiff, Nat.reducePow, Nat.reduceEqDiff, Nat.reduceBEq, Int.reduceLT, Int.reduceLE, Int.reduceToNat, Int.reduceEq, Int.reduceNeg, and_self, and_true, true_and, false_or, or_false, or_true, true_or, Bool.or_self, Bool.or_false, Bool.or_true, ne_eq, not_true_eq_false, not_false_eq_true, u22, u5, u3, show min 32 IntKind.u64.bits = 32 from rfl, show min 16 IntKind.u64.bits = 16 from rfl, show min 8 IntKind.u64.bits = 8 from rfl, fdiv_nat, show Try.f35.results.toList = [.tmp 2] from rfl, d1, d2, d3, wu8 _ hy, key _ hy]
        refine congrArg (fun z => some (AV.s (Sc.i IntKind.i64 z), [], [])) ?_
        have hb := blt _ hy
        rw [e]
        rw [w64 _ (by omega)]
        try simp only [k1, k2, k3, k4, k5, k6]
        rw [wrap64 (by omega) (by omega)]
        omega
      · have d3 := dF3 x c3
        have hy : x < 256 := by omega
        have e : bl x = bl x + 0 := by
          rfl
        simp only [Try.ntmps35, ↓XW, xOps, xStep, dOps, dRun, wild, yRun, yStep, yOp, cls, Am.dropL, aWant, xOp, xPure, rd, xCall, calleeAV, Option.bind_some, Option.bind_none, Option.map_some, Option.map_none, St.put, List.getD_cons_succ, List.getD_cons_zero, List.length_cons, List.length_nil, Array.toList, ofV, toV, ofC, List.set_cons_succ, List.set_cons_zero, List.cons_append, List.nil_append, List.append_nil, AV.cells?, newBox, St.setAt, boxCells, List.getElem?_cons_succ, List.getElem?_cons_zero, Nat.zero_add, Nat.add_zero, Option.any_some, Option.any_none, frame0, List.reduceReplicate, bin_i, bin_fl, bin_cadd, bin_csub, bin_cmul, bin_ceql, intBin, shiftBin, isShift, getB, strip, List.map_cons, List.map_nil, List.drop_zero, List.drop_succ_cons, AV.nrmL, AV.nrm, plainL, argCells, St.freezeIn, noRow, List.flatten_cons, List.flatten_nil, List.all_cons, List.all_nil, Option.getD_some, List.getElem?_toArray, Option.bind_fun_some, beq_true, beq_false, partsAV, xStoreOp, isOwn, isBox, xStore, setB, okScope, splice, AV.one, notW, AV.data, Nat.zero_le, decide_true, decide_false, Bool.false_or, Bool.true_or, idx, lenAV, finAV, resList, resOne, loadAV, single, AV.bel, AV.belL, List.take_zero, List.take_nil, List.take_succ_cons, Bool.false_eq_true, Bool.true_and, Bool.and_true, Bool.and_self, Bool.not_true, Bool.not_false, beq_self_eq_true, reduceIte, reduceCtorEq, Nat.reduceLT, Nat.reduceAdd, Nat.reduceSub, Nat.reduceMul, Nat.reduceLeDiff, Nat.reducePow, Nat.reduceEqDiff, Nat.reduceBEq, Int.reduceLT, Int.reduceLE, Int.reduceToNat, Int.reduceEq, Int.reduceNeg, and_self, and_true, true_and, false_or, or_false, or_true, true_or, Bool.or_self, Bool.or_false, Bool.or_true, ne_eq, not_true_eq_false, not_false_eq_true, u22, u5, u3, show min 32 IntKind.u64.bits = 32 from rfl, show min 16 IntKind.u64.bits = 16 from rfl, show min 8 IntKind.u64.bits = 8 from rfl, fdiv_nat, show Try.f35.results.toList = [.tmp 2] from rfl, d1, d2, d3, wu8 _ hy, key _ hy]
        refine congrArg (fun z => some (AV.s (Sc.i IntKind.i64 z), [], [])) ?_
        have hb := blt _ hy
        rw [e]
        rw [w64 _ (by omega)]
        try simp only [k1, k2, k3, k4, k5, k6]
        rw [wrap64 (by omega) (by omega)]
        omega
end
end Go.Am
