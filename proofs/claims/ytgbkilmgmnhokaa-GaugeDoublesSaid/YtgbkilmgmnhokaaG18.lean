/-
  THE WALKS: points, turned and apart, as they are called.
-/
import Derived.Test.YtgbkilmgmnhokaaG15
set_option linter.unusedSimpArgs false
set_option linter.unusedVariables false
namespace Go.Am
open Go Go.Proofs Go.Fl

theorem kq_spec (k : Int) : kq k < 4 ∧ (IntKind.i64.wrap (Int.tmod k 4 + 4)).tmod 4 = ((kq k : Nat) : Int) := by
  have h1 : k.tmod 4 < 4 := Int.tmod_lt_of_pos k (by decide)
  have h2 : -4 < k.tmod 4 := by
    have := Int.tmod_lt_of_pos (-k) (show (0 : Int) < 4 by decide)
    rw [Int.neg_tmod] at this; omega
  have hw : IntKind.i64.wrap (k.tmod 4 + 4) = k.tmod 4 + 4 := wrap64 (by omega) (by omega)
  unfold kq
  rw [hw]
  generalize k.tmod 4 = t at *
  have h3 : (t + 4).tmod 4 = (t + 4) % 4 := Int.tmod_eq_emod_of_nonneg (by omega)
  rw [h3]
  omega

theorem order_eq {x y : Nat} (hx : fin x) (hy : fin y) (h : sv x = sv y) : (Ieee.double.order x y == some .eq) = true := by
  rw [order_fin hx hy, h]
  simp [compare, compareOfLessAndEq]

/-- So small that nothing overflows. -/
def lowp (x : Nat) : Prop := fin x ∧ (sv x).natAbs < 2 ^ 1400

theorem lowp_nr {N : Nat} (h : N < 2 ^ 256) : lowp (nr N) := ⟨(nr_fin h).1, (nr_fin h).2.2.1⟩

theorem lowp_turn (n : Nat) {a b : Nat} (ha : lowp a) (hb : lowp b) : lowp (turnN n a b).1 ∧ lowp (turnN n a b).2 := by
  induction n with
  | zero => exact ⟨ha, hb⟩
  | succ n ih =>
    obtain ⟨f1, f2, s1, s2⟩ := quarter_spec ih.1.1 ih.2.1
    refine ⟨⟨f1, ?_⟩, ⟨f2, ?_⟩⟩
    · show (sv (qre _ _)).natAbs < _
      rw [s1, Int.natAbs_neg]; exact ih.2.2
    · show (sv (qim _ _)).natAbs < _
      rw [s2]; exact ih.1.2

/-- Turned both, they are as far from one another. -/
theorem apw_turn (n : Nat) {a b c d : Nat} (ha : lowp a) (hb : lowp b) (hc : lowp c) (hd : lowp d) : apw (turnN n a b).1 (turnN n a b).2 (turnN n c d).1 (turnN n c d).2 = apw a b c d := by
  induction n with
  | zero => rfl
  | succ n ih =>
    have p := lowp_turn n ha hb
    have q := lowp_turn n hc hd
    obtain ⟨_, _, s1, s2⟩ := quarter_spec p.1.1 p.2.1
    obtain ⟨_, _, t1, t2⟩ := quarter_spec q.1.1 q.2.1
    rw [← ih]
    unfold apw
    rw [apv_comm]
    show apv (sv (qim _ _) - sv (qim _ _)).natAbs (sv (qre _ _) - sv (qre _ _)).natAbs = _
    rw [s1, s2, t1, t2]
    congr 1
    omega

theorem apw_comm (a b c d : Nat) : apw a b c d = apw c d a b := by
  unfold apw
  congr 1
  · omega
  · omega

theorem apw_self (a b : Nat) : apw a b a b = 0 := by
  unfold apw
  rw [Int.sub_self, Int.sub_self]
  exact apv_zero

theorem apw_le (a b c d : Nat) : apw a b c d ≤ 2047 * 2 ^ 52 := (apv_spec _ _).2

theorem order_apw (a b c d : Nat) : (Ieee.double.order (apw a b c d) (apw a b c d) == some .eq) = true := by
  rw [order_le (apw_le a b c d) (apw_le a b c d), ncmp_eq]; rfl

/-- Four quarters are none. -/
theorem turn_four {a b : Nat} (ha : fin a) (hb : fin b) : sv (turnN 4 a b).1 = sv a ∧ sv (turnN 4 a b).2 = sv b := by
  obtain ⟨p1, p2⟩ := turnN_fin 1 ha hb
  obtain ⟨q1, q2⟩ := turnN_fin 2 ha hb
  obtain ⟨r1, r2⟩ := turnN_fin 3 ha hb
  obtain ⟨_, _, a1, a2⟩ := quarter_spec ha hb
  obtain ⟨_, _, b1, b2⟩ := quarter_spec p1 p2
  obtain ⟨_, _, c1, c2⟩ := quarter_spec q1 q2
  obtain ⟨_, _, d1, d2⟩ := quarter_spec r1 r2
  constructor
  · show sv (qre _ _) = _
    rw [d1]
    show - sv (qim _ _) = _
    rw [c2]
    show - sv (qre _ _) = _
    rw [b1]
    show - - sv (qim _ _) = _
    rw [Int.neg_neg]
    exact a2
  · show sv (qim _ _) = _
    rw [d2]
    show sv (qre _ _) = _
    rw [c1]
    show - sv (qim _ _) = _
    rw [b2]
    show - sv (qre _ _) = _
    have : sv (qre a b) = - sv b := a1
    exact this ▸ Int.neg_neg _

theorem k16 {a b c d : Nat} (h1 : (Ieee.double.order a c == some .eq) = true) (S O : List Blk) : FG 16 [.a [.s (.fl .f64 a), .s (.fl .f64 b)], .s (.cx .f64 c d)] S O = some (.s (.b (Ieee.double.order b d == some .eq)), S, O) :=
  FK_eq (same16 hFG qFG a b c d h1) (by simp only [gg, g16, h1, Bool.true_and]) rfl rfl S O
theorem k21 {a b : Nat} (ha : fin a) (hb : fin b) (k : Int) (S O : List Blk) : FG 21 [.s (.cx .f64 a b), .s (.i .i64 k)] S O = some (.s (.cx .f64 (turnN (kq k) a b).1 (turnN (kq k) a b).2), S, O) :=
  FK_eq (turn21 hFG qFG a b k ha hb (kq k) (kq_spec k).1 (kq_spec k).2) rfl rfl rfl S O
theorem k22 {a b : Nat} (ha : fin a) (hb : fin b) (k : Int) (S O : List Blk) : FG 22 [.a [.s (.fl .f64 a), .s (.fl .f64 b)], .s (.i .i64 k)] S O = some (.a [.s (.fl .f64 (turnR (kq k) a b).1), .s (.fl .f64 (turnR (kq k) a b).2)], S, O) :=
  FK_eq (turn22 hFG qFG a b k ha hb (kq k) (kq_spec k).1 (kq_spec k).2) rfl rfl rfl S O
theorem k23 (a b : Nat) (S O : List Blk) : FG 23 [.s (.cx .f64 a b)] S O = some (.a [.s (.fl .f64 a), .s (.fl .f64 b)], S, O) :=
  FK_eq (of23 hFG qFG a b) rfl rfl rfl S O
theorem k24 {a b c d : Nat} (ha : lowp a) (hb : lowp b) (hc : lowp c) (hd : lowp d) (S O : List Blk) : FG 24 [.s (.cx .f64 a b), .s (.cx .f64 c d)] S O = some (.s (.fl .f64 (apw a b c d)), S, O) := by
  obtain ⟨x, y, xx, yy, e1, e2, e3, e4, e5⟩ := apart_chain ha.1 hb.1 hc.1 hd.1 (diff_lt ha.2 hc.2) (diff_lt hb.2 hd.2)
  exact FK_eq (apart24 hFG qFG e1 e2 e3 e4 e5) rfl rfl rfl S O
theorem k25 {a b c d : Nat} (ha : lowp a) (hb : lowp b) (hc : lowp c) (hd : lowp d) (S O : List Blk) : FG 25 [.a [.s (.fl .f64 a), .s (.fl .f64 b)], .a [.s (.fl .f64 c), .s (.fl .f64 d)]] S O = some (.s (.fl .f64 (apw a b c d)), S, O) := by
  obtain ⟨x, y, xx, yy, e1, e2, e3, e4, e5⟩ := apart_chain ha.1 hb.1 hc.1 hd.1 (diff_lt ha.2 hc.2) (diff_lt hb.2 hd.2)
  exact FK_eq (apart25 hFG qFG e1 e2 e3 e4 e5) rfl rfl rfl S O

set_option maxRecDepth 8000 in
theorem point17 {xs ys : List AV} {N M : Nat} (hx : isNum xs N) (hy : isNum ys M) : ValidAt Try.prog 17 [.a xs, .a ys] [] [] (.s (.cx .f64 (nr N) (nr M))) [] [] := by
  have f1 := hx.f12
  have f2 := hy.f12
  obtain ⟨a0, a1, a2, a3, _, _, _, _, rfl, _⟩ := hx
  obtain ⟨b0, b1, b2, b3, _, _, _, _, rfl, _⟩ := hy
  generalize nr N = x at *
  generalize nr M = y at *
  refine valid_of_awp Try.func17 rfl (by simp [Try.ntmps17]) ?_
  refine XV_sound (esc := fun _ => false) orders hFG qFG _ _ _ ?_
  simp only [Try.ntmps17, ↓XV, isLoop, xOps, xStep, dOps, dRun, wild, yRun, yStep, yOp, cls, Am.dropL, aWant, xOp, xPure, rd, xCall, calleeAV, Option.bind_some, Option.bind_none, Option.map_some, Option.map_none, St.put, List.getD_cons_succ, List.getD_cons_zero, List.length_cons, List.length_nil, Array.toList, ofV, toV, ofC, List.set_cons_succ, List.set_cons_zero, List.cons_append, List.nil_append, List.append_nil, AV.cells?, newBox, St.setAt, boxCells, List.getElem?_cons_succ, List.getElem?_cons_zero, Nat.zero_add, Nat.add_zero, Option.any_some, Option.any_none, frame0, List.reduceReplicate, bin_i, bin_fl, bin_cadd, bin_csub, bin_cmul, bin_ceql, intBin, shiftBin, isShift, getB, strip, List.map_cons, List.map_nil, List.drop_zero, List.drop_succ_cons, AV.nrmL, AV.nrm, plainL, argCells, St.freezeIn, noRow, List.flatten_cons, List.flatten_nil, List.all_cons, List.all_nil, Option.getD_some, List.getElem?_toArray, Option.bind_fun_some, beq_true, beq_false, partsAV, xStoreOp, isOwn, isBox, xStore, setB, okScope, splice, AV.one, notW, AV.data, Nat.zero_le, decide_true, decide_false, Bool.false_or, Bool.true_or, idx, lenAV, finAV, resList, resOne, loadAV, single, AV.bel, AV.belL, List.take_zero, List.take_nil, List.take_succ_cons, Bool.false_eq_true, Bool.true_and, Bool.and_true, Bool.and_self, Bool.not_true, Bool.not_false, beq_self_eq_true, ↓reduceIte, reduceCtorEq, Nat.reduceLT, Nat.reduceAdd, Nat.reduceSub, Nat.reduceMul, Nat.reduceLeDiff, Nat.reducePow, Nat.reduceEqDiff, Nat.reduceBEq, Int.reduceLT, Int.reduceLE, Int.reduceGT, Int.reduceGE, Int.cast_ofNat_Int, Int.reduceBEq, Int.reduceSub, Int.reduceAdd, Int.reduceMul, Int.reduceToNat, Int.reduceEq, Int.reduceNeg, and_self, and_true, true_and, false_or, or_false, or_true, true_or, Bool.or_self, Bool.or_false, Bool.or_true, ne_eq, not_true_eq_false, not_false_eq_true, hb12, f1, f2, pa24, show Try.f17.results.toList = [.tmp 4] from rfl]
  kernel_rfl

theorem isNum.f17 {xs ys : List AV} {N M : Nat} (hx : isNum xs N) (hy : isNum ys M) (S O : List Blk) : FG 17 [.a xs, .a ys] S O = some (.s (.cx .f64 (nr N) (nr M)), S, O) := by
  have h := point17 hx hy
  obtain ⟨a0, a1, a2, a3, _, _, _, _, rfl, rfl⟩ := hx
  obtain ⟨b0, b1, b2, b3, _, _, _, _, rfl, rfl⟩ := hy
  exact FK_eq h rfl rfl rfl S O
end Go.Am
