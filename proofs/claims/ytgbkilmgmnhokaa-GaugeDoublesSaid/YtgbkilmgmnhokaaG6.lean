/-
  THE WALKS: a float times a power of two.
-/
import Derived.Test.YtgbkilmgmnhokaaG5
set_option linter.unusedSimpArgs false
set_option linter.unusedVariables false
namespace Go.Am
open Go Go.Proofs Go.Fl

theorem hb46 : hasBody Try.prog 46 = true := by kernel_rfl
theorem hb39 : hasBody Try.prog 39 = true := by kernel_rfl
theorem hb40 : hasBody Try.prog 40 = true := by kernel_rfl
theorem hb41 : hasBody Try.prog 41 = true := by kernel_rfl
theorem hb38 : hasBody Try.prog 38 = true := by kernel_rfl
theorem nb42 : hasBody Try.prog 42 = false := by kernel_rfl
theorem nb45 : hasBody Try.prog 45 = false := by kernel_rfl
theorem ex42 (x : Nat) : extVal Try.prog 42 [.float .f64 x] = some (.int .u64 x) := by kernel_rfl
theorem ex45 (x : Nat) : extVal Try.prog 45 [.int .u64 (x : Int)] = some (.float .f64 x) := by kernel_rfl

theorem and_mask {x : Nat} (h : x < 2 ^ 63) : x &&& (2 ^ 63 + (2 ^ 52 - 1)) = x % 2 ^ 52 := by
  apply Nat.eq_of_testBit_eq
  intro i
  rw [Nat.testBit_and, Nat.testBit_mod_two_pow]
  rcases Nat.lt_trichotomy i 63 with hi | hi | hi
  · rw [Nat.testBit_two_pow_add_gt hi, Nat.testBit_two_pow_sub_one, Bool.and_comm]
  · subst hi
    have : x.testBit 63 = false := Nat.testBit_lt_two_pow h
    rw [this]; simp
  · have : x.testBit i = false := Nat.testBit_lt_two_pow (Nat.lt_of_lt_of_le h (Nat.pow_le_pow_right (by omega) (by omega)))
    rw [this]; simp

theorem and_low {x : Nat} (h : x < 2 ^ 63) : x &&& (2 ^ 63 - 1) = x := by
  rw [Nat.and_two_pow_sub_one_eq_mod, Nat.mod_eq_of_lt h]

theorem wrapu64 {n : Int} (h0 : 0 ≤ n) (h1 : n < 18446744073709551616) : IntKind.u64.wrap n = n := by
  simp [IntKind.wrap, IntKind.signed, IntKind.bits]
  omega

theorem bv_nat (x : Nat) (h : x < 2 ^ 64) : (BitVec.ofInt 64 (x : Int)).toNat = x := by
  rw [BitVec.ofInt_natCast, BitVec.toNat_ofNat, Nat.mod_eq_of_lt h]

theorem not63 {x : Nat} (h : x < 2 ^ 63) : IntKind.u64.wrap ((BitVec.ofInt IntKind.u64.bits (x : Int) &&& ~~~(BitVec.ofInt IntKind.u64.bits 9223372036854775808)).toNat : Int) = (x : Int) := by
  have e : (~~~(BitVec.ofInt 64 9223372036854775808)).toNat = 2 ^ 63 - 1 := by decide +kernel
  have e2 : (BitVec.ofInt IntKind.u64.bits (x : Int) &&& ~~~(BitVec.ofInt IntKind.u64.bits 9223372036854775808)).toNat = x := by
    show (BitVec.ofInt 64 (x : Int) &&& ~~~(BitVec.ofInt 64 9223372036854775808)).toNat = x
    rw [BitVec.toNat_and, e, bv_nat x (by omega), and_low h]
  rw [e2, wrapu64 (by omega) (by omega)]

theorem notExp {x : Nat} (h : x < 2 ^ 63) : IntKind.u64.wrap ((BitVec.ofInt IntKind.u64.bits (x : Int) &&& ~~~(BitVec.ofInt IntKind.u64.bits 9218868437227405312)).toNat : Int) = ((x % 2 ^ 52 : Nat) : Int) := by
  have e : (~~~(BitVec.ofInt 64 9218868437227405312)).toNat = 2 ^ 63 + (2 ^ 52 - 1) := by decide +kernel
  have e2 : (BitVec.ofInt IntKind.u64.bits (x : Int) &&& ~~~(BitVec.ofInt IntKind.u64.bits 9218868437227405312)).toNat = x % 2 ^ 52 := by
    show (BitVec.ofInt 64 (x : Int) &&& ~~~(BitVec.ofInt 64 9218868437227405312)).toNat = x % 2 ^ 52
    rw [BitVec.toNat_and, e, bv_nat x (by omega), and_mask h]
  rw [e2, wrapu64 (by omega) (by omega)]

theorem or_exp {e m : Nat} (hm : m < 2 ^ 52) : m ||| e * 2 ^ 52 = e * 2 ^ 52 + m := by
  rw [Nat.or_comm, Nat.mul_comm]
  exact (Nat.two_pow_add_eq_or_of_lt hm e).symm

theorem one_mul {w : Nat} (h : fin w) : Ieee.double.mul 4607182418800017408 w = some w := by
  have h1 := mul_one h
  have h2 := mul_fin h fin_one
  have h3 := mul_fin fin_one h
  rw [h2] at h1
  rw [Nat.mul_comm, Bool.xor_comm] at h3
  rw [h1] at h3
  exact h3

theorem and2047 {q : Nat} (h : q < 2048) : IntKind.i64.wrap ((BitVec.ofInt IntKind.i64.bits (q : Int) &&& BitVec.ofInt IntKind.i64.bits 2047).toNat : Int) = (q : Int) := by
  have e : (BitVec.ofInt 64 2047).toNat = 2 ^ 11 - 1 := by decide +kernel
  have e2 : (BitVec.ofInt IntKind.i64.bits (q : Int) &&& BitVec.ofInt IntKind.i64.bits 2047).toNat = q := by
    show (BitVec.ofInt 64 (q : Int) &&& BitVec.ofInt 64 2047).toNat = q
    rw [BitVec.toNat_and, e, bv_nat q (by omega), Nat.and_two_pow_sub_one_eq_mod, Nat.mod_eq_of_lt h]
  rw [e2, wrap64 (by omega) (by omega)]

theorem orExp {m k : Nat} (hm : m < 2 ^ 52) (hk : k < 2048) : IntKind.u64.wrap ((BitVec.ofInt IntKind.u64.bits (m : Int) ||| BitVec.ofInt IntKind.u64.bits ((k * 2 ^ 52 : Nat) : Int)).toNat : Int) = ((k * 2 ^ 52 + m : Nat) : Int) := by
  have e2 : (BitVec.ofInt IntKind.u64.bits (m : Int) ||| BitVec.ofInt IntKind.u64.bits ((k * 2 ^ 52 : Nat) : Int)).toNat = k * 2 ^ 52 + m := by
    show (BitVec.ofInt 64 (m : Int) ||| BitVec.ofInt 64 ((k * 2 ^ 52 : Nat) : Int)).toNat = k * 2 ^ 52 + m
    rw [BitVec.toNat_or, bv_nat m (by omega), bv_nat _ (by omega), or_exp hm]
  rw [e2, wrapu64 (by omega) (by omega)]

theorem ldexp_facts (x e q m z : Nat) (h0 : 2 ^ 52 ≤ x) (hx : x < 2047 * 2 ^ 52) (he : z < 2047 * 2 ^ 52) (hz : z = (q + e) * 2 ^ 52 + m) (hqd : x / 2 ^ 52 = q) (hmd : x % 2 ^ 52 = m) (hq1 : 1 ≤ q) (hqe : q + e ≤ 2046) (hm : m < 2 ^ 52) :
    (x : Int).fdiv (2 ^ min 52 IntKind.u64.bits) = (q : Int) ∧ IntKind.i64.wrap (q : Int) = q ∧
    IntKind.i64.wrap ((BitVec.ofInt IntKind.i64.bits (q : Int) &&& BitVec.ofInt IntKind.i64.bits 2047).toNat : Int) = (q : Int) ∧
    IntKind.i64.wrap ((q : Int) - 1023) = (q : Int) - 1023 ∧ IntKind.i64.wrap ((e : Int) + ((q : Int) - 1023)) = (e : Int) + ((q : Int) - 1023) ∧
    decide ((e : Int) + ((q : Int) - 1023) < -1075) = false ∧ decide ((e : Int) + ((q : Int) - 1023) > 1023) = false ∧ decide ((e : Int) + ((q : Int) - 1023) < -1022) = false ∧
    IntKind.i64.wrap ((e : Int) + ((q : Int) - 1023) + 1023) = ((q + e : Nat) : Int) ∧ IntKind.u64.wrap ((q + e : Nat) : Int) = ((q + e : Nat) : Int) := by
  refine ⟨?_, wrap64 (by omega) (by omega), and2047 (by omega), wrap64 (by omega) (by omega), wrap64 (by omega) (by omega), decide_eq_false (by omega), decide_eq_false (by omega), decide_eq_false (by omega), ?_, wrapu64 (by omega) (by omega)⟩
  · rw [← hqd]; exact fdiv_nat x 52
  · rw [wrap64 (by omega) (by omega)]; omega

theorem ldexp_shift (k : Nat) (hk : k < 2048) : IntKind.u64.wrap ((k : Int) * 2 ^ min 52 IntKind.u64.bits) = ((k * 2 ^ 52 : Nat) : Int) := by
  have e : (2 : Int) ^ min 52 IntKind.u64.bits = ((2 ^ 52 : Nat) : Int) := by decide +kernel
  rw [e, ← Int.natCast_mul, wrapu64 (by omega) (by omega)]

section
variable {F : Tab} (hF : F.valid Try.prog) (hq : Calm F (fun _ => true))
include hF hq

set_option maxRecDepth 4000 in
theorem abs46 (x : Nat) (hx : x < 2 ^ 63) : ValidAt Try.prog 46 [.s (.fl .f64 x)] [] [] (.s (.fl .f64 x)) [] [] := by
  have h1 := not63 hx
  refine valid_of_awp Try.func46 rfl (by simp [Try.ntmps46]) ?_
  refine XW_sound (esc := fun _ => false) orders hF hq _ _ _ ?_
  simp only [Try.ntmps46, ↓XW, xOps, xStep, dOps, dRun, wild, yRun, yStep, yOp, cls, Am.dropL, aWant, xOp, xPure, rd, xCall, calleeAV, Option.bind_some, Option.bind_none, Option.map_some, Option.map_none, St.put, List.getD_cons_succ, List.getD_cons_zero, List.length_cons, List.length_nil, Array.toList, ofV, toV, ofC, List.set_cons_succ, List.set_cons_zero, List.cons_append, List.nil_append, List.append_nil, AV.cells?, newBox, St.setAt, boxCells, List.getElem?_cons_succ, List.getElem?_cons_zero, Nat.zero_add, Nat.add_zero, Option.any_some, Option.any_none, frame0, List.reduceReplicate, bin_i, bin_fl, bin_cadd, bin_csub, bin_cmul, bin_ceql, intBin, shiftBin, isShift, getB, strip, List.map_cons, List.map_nil, List.drop_zero, List.drop_succ_cons, AV.nrmL, AV.nrm, plainL, argCells, St.freezeIn, noRow, List.flatten_cons, List.flatten_nil, List.all_cons, List.all_nil, Option.getD_some, List.getElem?_toArray, Option.bind_fun_some, beq_true, beq_false, partsAV, xStoreOp, isOwn, isBox, xStore, setB, okScope, splice, AV.one, notW, AV.data, Nat.zero_le, decide_true, decide_false, Bool.false_or, Bool.true_or, idx, lenAV, finAV, resList, resOne, loadAV, single, AV.bel, AV.belL, List.take_zero, List.take_nil, List.take_succ_cons, Bool.false_eq_true, Bool.true_and, Bool.and_true, Bool.and_self, Bool.not_true, Bool.not_false, beq_self_eq_true, reduceIte, reduceCtorEq, Nat.reduceLT, Nat.reduceAdd, Nat.reduceSub, Nat.reduceMul, Nat.reduceLeDiff, Nat.reducePow, Nat.reduceEqDiff, Nat.reduceBEq, Int.reduceLT, Int.reduceLE, Int.reduceToNat, Int.reduceEq, Int.reduceNeg, and_self, and_true, true_and, false_or, or_false, or_true, true_or, Bool.or_self, Bool.or_false, Bool.or_true, ne_eq, not_true_eq_false, not_false_eq_true, nb42, nb45, toVs, Sc.val, ex42, ex45, h1, show Try.f46.results.toList = [.tmp 2] from rfl]

set_option maxRecDepth 4000 in
theorem inf39 (x : Nat) (hx : x < 2047 * 2 ^ 52) (h46 : ∀ S O, F 46 [.s (.fl .f64 x)] S O = some (.s (.fl .f64 x), S, O)) : ValidAt Try.prog 39 [.s (.fl .f64 x), .s (.i .i64 0)] [] [] (.s (.b false)) [] [] := by
  have h1 : (Ieee.double.order x 9218868437227405311 == some .gt) = false := by
    rw [order_words hx (by omega)]
    rcases Nat.lt_or_eq_of_le (show x ≤ 9218868437227405311 by omega) with h | h
    · rw [ncmp_lt h]; rfl
    · rw [h, ncmp_eq]; rfl
  refine valid_of_awp Try.func39 rfl (by simp [Try.ntmps39]) ?_
  refine XW_sound (esc := fun _ => false) orders hF hq _ _ _ ?_
  simp only [Try.ntmps39, ↓XW, xOps, xStep, dOps, dRun, wild, yRun, yStep, yOp, cls, Am.dropL, aWant, xOp, xPure, rd, xCall, calleeAV, Option.bind_some, Option.bind_none, Option.map_some, Option.map_none, St.put, List.getD_cons_succ, List.getD_cons_zero, List.length_cons, List.length_nil, Array.toList, ofV, toV, ofC, List.set_cons_succ, List.set_cons_zero, List.cons_append, List.nil_append, List.append_nil, AV.cells?, newBox, St.setAt, boxCells, List.getElem?_cons_succ, List.getElem?_cons_zero, Nat.zero_add, Nat.add_zero, Option.any_some, Option.any_none, frame0, List.reduceReplicate, bin_i, bin_fl, bin_cadd, bin_csub, bin_cmul, bin_ceql, intBin, shiftBin, isShift, getB, strip, List.map_cons, List.map_nil, List.drop_zero, List.drop_succ_cons, AV.nrmL, AV.nrm, plainL, argCells, St.freezeIn, noRow, List.flatten_cons, List.flatten_nil, List.all_cons, List.all_nil, Option.getD_some, List.getElem?_toArray, Option.bind_fun_some, beq_true, beq_false, partsAV, xStoreOp, isOwn, isBox, xStore, setB, okScope, splice, AV.one, notW, AV.data, Nat.zero_le, decide_true, decide_false, Bool.false_or, Bool.true_or, idx, lenAV, finAV, resList, resOne, loadAV, single, AV.bel, AV.belL, List.take_zero, List.take_nil, List.take_succ_cons, Bool.false_eq_true, Bool.true_and, Bool.and_true, Bool.and_self, Bool.not_true, Bool.not_false, beq_self_eq_true, reduceIte, reduceCtorEq, Nat.reduceLT, Nat.reduceAdd, Nat.reduceSub, Nat.reduceMul, Nat.reduceLeDiff, Nat.reducePow, Nat.reduceEqDiff, Nat.reduceBEq, Int.reduceLT, Int.reduceLE, Int.reduceToNat, Int.reduceEq, Int.reduceNeg, and_self, and_true, true_and, false_or, or_false, or_true, true_or, Bool.or_self, Bool.or_false, Bool.or_true, ne_eq, not_true_eq_false, not_false_eq_true, hb46, h46, f64, h1, show decide ((0 : Int) = 0) = true from rfl, show ((0 : Int) == 0) = true from rfl, show Try.f39.results.toList = [.tmp 4] from rfl]

set_option maxRecDepth 4000 in
theorem nan40 (x : Nat) (hx : x < 2047 * 2 ^ 52) : ValidAt Try.prog 40 [.s (.fl .f64 x)] [] [] (.s (.b false)) [] [] := by
  have h1 : (Ieee.double.order x x != some .eq) = false := by rw [order_words hx hx, ncmp_eq]; rfl
  refine valid_of_awp Try.func40 rfl (by simp [Try.ntmps40]) ?_
  refine XW_sound (esc := fun _ => false) orders hF hq _ _ _ ?_
  simp only [Try.ntmps40, ↓XW, xOps, xStep, dOps, dRun, wild, yRun, yStep, yOp, cls, Am.dropL, aWant, xOp, xPure, rd, xCall, calleeAV, Option.bind_some, Option.bind_none, Option.map_some, Option.map_none, St.put, List.getD_cons_succ, List.getD_cons_zero, List.length_cons, List.length_nil, Array.toList, ofV, toV, ofC, List.set_cons_succ, List.set_cons_zero, List.cons_append, List.nil_append, List.append_nil, AV.cells?, newBox, St.setAt, boxCells, List.getElem?_cons_succ, List.getElem?_cons_zero, Nat.zero_add, Nat.add_zero, Option.any_some, Option.any_none, frame0, List.reduceReplicate, bin_i, bin_fl, bin_cadd, bin_csub, bin_cmul, bin_ceql, intBin, shiftBin, isShift, getB, strip, List.map_cons, List.map_nil, List.drop_zero, List.drop_succ_cons, AV.nrmL, AV.nrm, plainL, argCells, St.freezeIn, noRow, List.flatten_cons, List.flatten_nil, List.all_cons, List.all_nil, Option.getD_some, List.getElem?_toArray, Option.bind_fun_some, beq_true, beq_false, partsAV, xStoreOp, isOwn, isBox, xStore, setB, okScope, splice, AV.one, notW, AV.data, Nat.zero_le, decide_true, decide_false, Bool.false_or, Bool.true_or, idx, lenAV, finAV, resList, resOne, loadAV, single, AV.bel, AV.belL, List.take_zero, List.take_nil, List.take_succ_cons, Bool.false_eq_true, Bool.true_and, Bool.and_true, Bool.and_self, Bool.not_true, Bool.not_false, beq_self_eq_true, reduceIte, reduceCtorEq, Nat.reduceLT, Nat.reduceAdd, Nat.reduceSub, Nat.reduceMul, Nat.reduceLeDiff, Nat.reducePow, Nat.reduceEqDiff, Nat.reduceBEq, Int.reduceLT, Int.reduceLE, Int.reduceToNat, Int.reduceEq, Int.reduceNeg, and_self, and_true, true_and, false_or, or_false, or_true, true_or, Bool.or_self, Bool.or_false, Bool.or_true, ne_eq, not_true_eq_false, not_false_eq_true, f64, h1, show Try.f40.results.toList = [.tmp 2] from rfl]

set_option maxRecDepth 4000 in
theorem norm41 (x : Nat) (h0 : 2 ^ 52 ≤ x) (hx : x < 2047 * 2 ^ 52) (h46 : ∀ S O, F 46 [.s (.fl .f64 x)] S O = some (.s (.fl .f64 x), S, O)) : ValidAt Try.prog 41 [.s (.fl .f64 x)] [] [] (.t [.s (.fl .f64 x), .s (.i .i64 0)]) [] [] := by
  have h1 : (Ieee.double.order x 4503599627370496 == some .lt) = false := by
    rw [order_words hx (by omega)]
    rcases Nat.lt_or_eq_of_le (show 4503599627370496 ≤ x by omega) with h | h
    · rw [ncmp_gt h]; rfl
    · rw [← h, ncmp_eq]; rfl
  refine valid_of_awp Try.func41 rfl (by simp [Try.ntmps41]) ?_
  refine XW_sound (esc := fun _ => false) orders hF hq _ _ _ ?_
  simp only [Try.ntmps41, ↓XW, xOps, xStep, dOps, dRun, wild, yRun, yStep, yOp, cls, Am.dropL, aWant, xOp, xPure, rd, xCall, calleeAV, Option.bind_some, Option.bind_none, Option.map_some, Option.map_none, St.put, List.getD_cons_succ, List.getD_cons_zero, List.length_cons, List.length_nil, Array.toList, ofV, toV, ofC, List.set_cons_succ, List.set_cons_zero, List.cons_append, List.nil_append, List.append_nil, AV.cells?, newBox, St.setAt, boxCells, List.getElem?_cons_succ, List.getElem?_cons_zero, Nat.zero_add, Nat.add_zero, Option.any_some, Option.any_none, frame0, List.reduceReplicate, bin_i, bin_fl, bin_cadd, bin_csub, bin_cmul, bin_ceql, intBin, shiftBin, isShift, getB, strip, List.map_cons, List.map_nil, List.drop_zero, List.drop_succ_cons, AV.nrmL, AV.nrm, plainL, argCells, St.freezeIn, noRow, List.flatten_cons, List.flatten_nil, List.all_cons, List.all_nil, Option.getD_some, List.getElem?_toArray, Option.bind_fun_some, beq_true, beq_false, partsAV, xStoreOp, isOwn, isBox, xStore, setB, okScope, splice, AV.one, notW, AV.data, Nat.zero_le, decide_true, decide_false, Bool.false_or, Bool.true_or, idx, lenAV, finAV, resList, resOne, loadAV, single, AV.bel, AV.belL, List.take_zero, List.take_nil, List.take_succ_cons, Bool.false_eq_true, Bool.true_and, Bool.and_true, Bool.and_self, Bool.not_true, Bool.not_false, beq_self_eq_true, reduceIte, reduceCtorEq, Nat.reduceLT, Nat.reduceAdd, Nat.reduceSub, Nat.reduceMul, Nat.reduceLeDiff, Nat.reducePow, Nat.reduceEqDiff, Nat.reduceBEq, Int.reduceLT, Int.reduceLE, Int.reduceToNat, Int.reduceEq, Int.reduceNeg, and_self, and_true, true_and, false_or, or_false, or_true, true_or, Bool.or_self, Bool.or_false, Bool.or_true, ne_eq, not_true_eq_false, not_false_eq_true, hb46, h46, f64, h1, show Try.f41.results.toList = [.tmp 2, .tmp 3] from rfl]

set_option maxRecDepth 4000 in
theorem ldexp38 (x : Nat) (e : Nat) (h0 : 2 ^ 52 ≤ x) (hx : x < 2047 * 2 ^ 52) (he : x + e * 2 ^ 52 < 2047 * 2 ^ 52)
    (h39 : ∀ S O, F 39 [.s (.fl .f64 x), .s (.i .i64 0)] S O = some (.s (.b false), S, O)) (h40 : ∀ S O, F 40 [.s (.fl .f64 x)] S O = some (.s (.b false), S, O))
    (h41 : ∀ S O, F 41 [.s (.fl .f64 x)] S O = some (.t [.s (.fl .f64 x), .s (.i .i64 0)], S, O)) :
    ValidAt Try.prog 38 [.s (.fl .f64 x), .s (.i .i64 (e : Int))] [] [] (.s (.fl .f64 (x + e * 2 ^ 52))) [] [] := by
  have c1 : (Ieee.double.order x 0 == some .eq) = false := by
    rw [order_words hx (by omega), ncmp_gt (by omega)]; rfl
  have w1 : IntKind.i64.wrap ((e : Int) + 0) = (e : Int) := by rw [wrap64 (by omega) (by omega)]; omega
  obtain ⟨q, m, z, hz, hq1, hqe, hm, hqd, hmd, hzz⟩ : ∃ q m z : Nat, z = (q + e) * 2 ^ 52 + m ∧ 1 ≤ q ∧ q + e ≤ 2046 ∧ m < 2 ^ 52 ∧ x / 2 ^ 52 = q ∧ x % 2 ^ 52 = m ∧ x + e * 2 ^ 52 = z := ⟨x / 2 ^ 52, x % 2 ^ 52, x + e * 2 ^ 52, by omega, by omega, by omega, by omega, rfl, rfl, rfl⟩
  rw [hzz] at he ⊢
  obtain ⟨r1, r2, r3, r4, r5, d1, d2, d3, r6, r7⟩ := ldexp_facts x e q m z h0 hx he hz hqd hmd hq1 hqe hm
  have r8 := ldexp_shift (q + e) (by omega)
  have r9 := notExp (x := x) (by omega)
  rw [hmd] at r9
  have r10 := orExp (m := m) (k := q + e) hm (by omega)
  rw [← hz] at r10
  have r12 : Ieee.double.mul 4607182418800017408 z = some z := one_mul (.inl ⟨by omega, he⟩)
  clear hz hzz hqd hmd he h0 hx
  refine valid_of_awp Try.func38 rfl (by simp [Try.ntmps38]) ?_
  refine XW_sound (esc := fun _ => false) orders hF hq _ _ _ ?_
  simp only [Try.ntmps38, ↓XW, xOps, xStep, dOps, dRun, wild, yRun, yStep, yOp, cls, Am.dropL, aWant, xOp, xPure, rd, xCall, calleeAV, Option.bind_some, Option.bind_none, Option.map_some, Option.map_none, St.put, List.getD_cons_succ, List.getD_cons_zero, List.length_cons, List.length_nil, Array.toList, ofV, toV, ofC, List.set_cons_succ, List.set_cons_zero, List.cons_append, List.nil_append, List.append_nil, AV.cells?, newBox, St.setAt, boxCells, List.getElem?_cons_succ, List.getElem?_cons_zero, Nat.zero_add, Nat.add_zero, Option.any_some, Option.any_none, frame0, List.reduceReplicate, bin_i, bin_fl, bin_cadd, bin_csub, bin_cmul, bin_ceql, intBin, shiftBin, isShift, getB, strip, List.map_cons, List.map_nil, List.drop_zero, List.drop_succ_cons, AV.nrmL, AV.nrm, plainL, argCells, St.freezeIn, noRow, List.flatten_cons, List.flatten_nil, List.all_cons, List.all_nil, Option.getD_some, List.getElem?_toArray, Option.bind_fun_some, beq_true, beq_false, partsAV, xStoreOp, isOwn, isBox, xStore, setB, okScope, splice, AV.one, notW, AV.data, Nat.zero_le, decide_true, decide_false, Bool.false_or, Bool.true_or, idx, lenAV, finAV, resList, resOne, loadAV, single, AV.bel, AV.belL, List.take_zero, List.take_nil, List.take_succ_cons, Bool.false_eq_true, Bool.true_and, Bool.and_true, Bool.and_self, Bool.not_true, Bool.not_false, beq_self_eq_true, reduceIte, reduceCtorEq, Nat.reduceLT, Nat.reduceAdd, Nat.reduceSub, Nat.reduceMul, Nat.reduceLeDiff, Nat.reducePow, Nat.reduceEqDiff, Nat.reduceBEq, Int.reduceLT, Int.reduceLE, Int.reduceToNat, Int.reduceEq, Int.reduceNeg, and_self, and_true, true_and, false_or, or_false, or_true, true_or, Bool.or_self, Bool.or_false, Bool.or_true, ne_eq, not_true_eq_false, not_false_eq_true, hb39, hb40, hb41, h39, h40, h41, c1, w1, r1, r2, r3, r4, r5, r6, r7, r8, r9, r10, r12, d1, d2, d3, f64, u22, u3, nb42, nb45, toVs, Sc.val, ex42, ex45, show Try.f38.results.toList = [.tmp 4] from rfl]
end
end Go.Am
