/-
  THE WALKS: the nearest points.
-/
import Derived.Test.YtgbkilmgmnhokaaG26
set_option linter.unusedSimpArgs false
set_option linter.unusedVariables false
namespace Go.Am
open Go Go.Proofs Go.Fl

/-- The first of the least ones, among those from lo on, ahead of hi. -/
def firstIn (d : Nat → Nat) (lo hi b : Nat) : Prop := lo ≤ b ∧ b < hi ∧ ∀ i, lo ≤ i → i < hi → d b ≤ d i ∧ (i < b → d b < d i)

theorem first_unique {d : Nat → Nat} {lo hi b c : Nat} (hb : firstIn d lo hi b) (hc : firstIn d lo hi c) : b = c := by
  obtain ⟨b1, b2, b3⟩ := hb
  obtain ⟨c1, c2, c3⟩ := hc
  have h1 := b3 c c1 c2
  have h2 := c3 b b1 b2
  rcases Nat.lt_trichotomy b c with h | h | h
  · have := h2.2 h; omega
  · exact h
  · have := h1.2 h; omega

theorem near_spec (v : List Nat) : (v = [] ∧ nearL v = none) ∨ ∃ b, nearL v = some b ∧ firstIn (fun i => v.getD i 0) 0 v.length b := by
  induction v with
  | nil => exact .inl ⟨rfl, rfl⟩
  | cons x xs ih =>
    right
    rcases ih with ⟨rfl, h⟩ | ⟨b, h, _, h2, h3⟩
    · refine ⟨0, rfl, Nat.le_refl _, by simp, fun i _ hi => ?_⟩
      have : i = 0 := by simpa using hi
      subst this
      exact ⟨Nat.le_refl _, fun h => absurd h (Nat.lt_irrefl _)⟩
    · by_cases hx : x ≤ xs.getD b 0
      · refine ⟨0, by simp only [nearL, h, hx, if_true], Nat.le_refl _, by simp, fun i _ hi => ?_⟩
        cases i with
        | zero => exact ⟨Nat.le_refl _, fun h => absurd h (Nat.lt_irrefl _)⟩
        | succ i =>
          have := h3 i (Nat.zero_le _) (by simpa using hi)
          refine ⟨?_, fun h => absurd h (by omega)⟩
          show x ≤ xs.getD i 0
          have h4 : xs.getD b 0 ≤ xs.getD i 0 := this.1
          omega
      · refine ⟨b + 1, by simp only [nearL, h, hx, if_false], Nat.zero_le _, by simpa using h2, fun i _ hi => ?_⟩
        cases i with
        | zero =>
          show xs.getD b 0 ≤ x ∧ (0 < b + 1 → xs.getD b 0 < x)
          omega
        | succ i =>
          have := h3 i (Nat.zero_le _) (by simpa using hi)
          show xs.getD b 0 ≤ xs.getD i 0 ∧ (i + 1 < b + 1 → xs.getD b 0 < xs.getD i 0)
          have h4 : xs.getD b 0 ≤ xs.getD i 0 := this.1
          exact ⟨h4, fun h => this.2 (by omega)⟩

/-- What the search has found so far. -/
def found (d : Nat → Nat) (lo hi : Nat) (best : Int) : Prop := (lo = hi ∧ best = -1) ∨ ∃ b : Nat, best = (b : Int) ∧ firstIn d lo hi b

theorem found_near {v : List Nat} {best : Int} (h : found (fun i => v.getD i 0) 0 v.length best) : best = optI (nearL v) := by
  rcases near_spec v with ⟨rfl, h1⟩ | ⟨b, h1, h2⟩
  · rw [h1]
    rcases h with ⟨_, rfl⟩ | ⟨c, _, _, hc, _⟩
    · rfl
    · simp at hc
  · rw [h1]
    rcases h with ⟨he, _⟩ | ⟨c, rfl, hc⟩
    · have := h2.2.1; omega
    · rw [first_unique hc h2]; rfl

theorem found_up {d : Nat → Nat} {j b : Nat} (h : firstIn d 0 j b) : firstIn d 0 (j + 1) (if d j < d b then j else b) := by
  obtain ⟨_, h2, h3⟩ := h
  by_cases hlt : d j < d b
  · rw [if_pos hlt]
    refine ⟨Nat.zero_le _, by omega, fun i _ hi => ?_⟩
    by_cases hij : i = j
    · subst hij; exact ⟨Nat.le_refl _, fun h => absurd h (Nat.lt_irrefl _)⟩
    · have := h3 i (Nat.zero_le _) (by omega); omega
  · rw [if_neg hlt]
    refine ⟨Nat.zero_le _, by omega, fun i _ hi => ?_⟩
    by_cases hij : i = j
    · subst hij; omega
    · exact h3 i (Nat.zero_le _) (by omega)

theorem found_down {d : Nat → Nat} {k hi b : Nat} (h : firstIn d (k + 1) hi b) : firstIn d k hi (if d k ≤ d b then k else b) := by
  obtain ⟨h1, h2, h3⟩ := h
  by_cases hlt : d k ≤ d b
  · rw [if_pos hlt]
    refine ⟨Nat.le_refl _, by omega, fun i _ hi => ?_⟩
    by_cases hij : i = k
    · subst hij; exact ⟨Nat.le_refl _, fun h => absurd h (Nat.lt_irrefl _)⟩
    · have := h3 i (by omega) hi; omega
  · rw [if_neg hlt]
    refine ⟨by omega, h2, fun i _ hi => ?_⟩
    by_cases hij : i = k
    · subst hij; omega
    · exact h3 i (by omega) hi

theorem dists_get (ps : List (Nat × Nat)) (a b : Nat) {j : Nat} (h : j < ps.length) : (dists ps a b).getD j 0 = apw ps[j].1 ps[j].2 a b := by
  simp [dists, List.getD_eq_getElem?_getD, h]
theorem dists_length (ps : List (Nat × Nat)) (a b : Nat) : (dists ps a b).length = ps.length := by simp [dists]

theorem order_lt_apw {x y : Nat} (hx : x ≤ 2047 * 2 ^ 52) (hy : y ≤ 2047 * 2 ^ 52) : (Ieee.double.order x y == some .lt) = decide (x < y) := by
  rw [order_le hx hy]
  rcases Nat.lt_trichotomy x y with h | h | h
  · rw [ncmp_lt h, decide_eq_true h]; rfl
  · rw [h, ncmp_eq, decide_eq_false (by omega)]; rfl
  · rw [ncmp_gt h, decide_eq_false (by omega)]; rfl

set_option maxRecDepth 8000 in
theorem near26 (ps : List (Nat × Nat)) (a b : Nat) (h50 : ps.length ≤ 50) (hps : ∀ q ∈ ps, lowp q.1 ∧ lowp q.2) (ha : lowp a) (hb : lowp b) : ValidAt Try.prog 26 [.l ps.length (ofCx ps), .s (.cx .f64 a b)] [] [] (.s (.i .i64 (optI (nearL (dists ps a b))))) [] [] := by
  have f24 : ∀ j (h : j < ps.length) S O, FG 24 [.s (.cx .f64 ps[j].1 ps[j].2), .s (.cx .f64 a b)] S O = some (.s (.fl .f64 (apw ps[j].1 ps[j].2 a b)), S, O) := fun j h => k24 (hps _ (List.getElem_mem h)).1 (hps _ (List.getElem_mem h)).2 ha hb
  have dg := fun j h => dists_get ps a b (j := j) h
  have dl := dists_length ps a b
  have dle : ∀ j, j < ps.length → (dists ps a b).getD j 0 ≤ 2047 * 2 ^ 52 := fun j h => by rw [dg j h]; exact apw_le _ _ _ _
  have fin1 := fun best => found_near (v := dists ps a b) (best := best)
  rw [dl] at fin1
  generalize hd : (fun i => (dists ps a b).getD i 0) = d at *
  have dd : ∀ i, (dists ps a b).getD i 0 = d i := fun i => by rw [← hd]
  simp only [dd] at dg dle
  clear dd hd
  generalize optI (nearL (dists ps a b)) = R at *
  have l1 := fun j h => ofCx_ld ps (j := j) h
  refine valid_of_awp Try.func26 rfl (by simp [Try.ntmps26]) ?_
  refine XV_sound (esc := fun _ => false) orders hFG qFG _ _ _ ?_
  simp only [Try.ntmps26, ↓XV, isLoop, xOps, xStep, dOps, dRun, wild, yRun, yStep, yOp, cls, Am.dropL, aWant, xOp, xPure, rd, xCall, calleeAV, Option.bind_some, Option.bind_none, Option.map_some, Option.map_none, St.put, List.getD_cons_succ, List.getD_cons_zero, List.length_cons, List.length_nil, Array.toList, ofV, toV, ofC, List.set_cons_succ, List.set_cons_zero, List.cons_append, List.nil_append, List.append_nil, AV.cells?, newBox, St.setAt, boxCells, List.getElem?_cons_succ, List.getElem?_cons_zero, Nat.zero_add, Nat.add_zero, Option.any_some, Option.any_none, frame0, List.reduceReplicate, bin_i, bin_fl, bin_cadd, bin_csub, bin_cmul, bin_ceql, intBin, shiftBin, isShift, getB, strip, List.map_cons, List.map_nil, List.drop_zero, List.drop_succ_cons, AV.nrmL, AV.nrm, plainL, argCells, St.freezeIn, noRow, List.flatten_cons, List.flatten_nil, List.all_cons, List.all_nil, Option.getD_some, List.getElem?_toArray, Option.bind_fun_some, beq_true, beq_false, partsAV, xStoreOp, isOwn, isBox, xStore, setB, okScope, splice, AV.one, notW, AV.data, Nat.zero_le, decide_true, decide_false, Bool.false_or, Bool.true_or, idx, lenAV, finAV, resList, resOne, loadAV, single, AV.bel, AV.belL, List.take_zero, List.take_nil, List.take_succ_cons, Bool.false_eq_true, Bool.true_and, Bool.and_true, Bool.and_self, Bool.not_true, Bool.not_false, beq_self_eq_true, ↓reduceIte, reduceCtorEq, Nat.reduceLT, Nat.reduceAdd, Nat.reduceSub, Nat.reduceMul, Nat.reduceLeDiff, Nat.reducePow, Nat.reduceEqDiff, Nat.reduceBEq, Int.reduceLT, Int.reduceLE, Int.reduceGT, Int.reduceGE, Int.cast_ofNat_Int, Int.reduceBEq, Int.reduceSub, Int.reduceAdd, Int.reduceMul, Int.reduceToNat, Int.reduceEq, Int.reduceNeg, and_self, and_true, true_and, false_or, or_false, or_true, true_or, Bool.or_self, Bool.or_false, Bool.or_true, ne_eq, not_true_eq_false, not_false_eq_true, u40, show Try.f26.results.toList = [.tmp 4] from rfl]
  refine AWP.loopK [true, true, false, false, true, true, false, false, true, true, true] (fun k st => ∃ (j : Nat) (best : Int), j + k = ps.length ∧ found d 0 j best ∧ st = ⟨[.l ps.length (ofCx ps), .s (.cx .f64 a b), .u, .u, .s (.i .i64 0), .s (.i .i64 best), .u, .u, .l ps.length (ofCx ps), .s (.i .i64 ps.length), .s (.i .i64 j)] ++ List.replicate 21 .u, List.replicate 32 .dead, []⟩) ps.length ?_ ?_
  · exact ⟨0, -1, by omega, .inl ⟨rfl, rfl⟩, rfl⟩
  rintro k st ⟨j, best, hj, hf, rfl⟩
  by_cases hlt : j < ps.length
  · obtain ⟨g1, g2, g3, g4, g5⟩ := ix_facts hlt h50
    have lj := l1 j hlt
    have fj := f24 j hlt
    have dj := dg j hlt
    rcases hf with ⟨h0, rfl⟩ | ⟨c, rfl, hc⟩
    · have h0' : j = 0 := by omega
      refine XV_sound (esc := fun _ => false) orders hFG qFG _ _ _ ?_
      simp only [↓XV, isLoop, xOps, xStep, dOps, dRun, wild, yRun, yStep, yOp, cls, Am.dropL, aWant, xOp, xPure, rd, xCall, calleeAV, Option.bind_some, Option.bind_none, Option.map_some, Option.map_none, St.put, List.getD_cons_succ, List.getD_cons_zero, List.length_cons, List.length_nil, Array.toList, ofV, toV, ofC, List.set_cons_succ, List.set_cons_zero, List.cons_append, List.nil_append, List.append_nil, AV.cells?, newBox, St.setAt, boxCells, List.getElem?_cons_succ, List.getElem?_cons_zero, Nat.zero_add, Nat.add_zero, Option.any_some, Option.any_none, frame0, List.reduceReplicate, bin_i, bin_fl, bin_cadd, bin_csub, bin_cmul, bin_ceql, intBin, shiftBin, isShift, getB, strip, List.map_cons, List.map_nil, List.drop_zero, List.drop_succ_cons, AV.nrmL, AV.nrm, plainL, argCells, St.freezeIn, noRow, List.flatten_cons, List.flatten_nil, List.all_cons, List.all_nil, Option.getD_some, List.getElem?_toArray, Option.bind_fun_some, beq_true, beq_false, partsAV, xStoreOp, isOwn, isBox, xStore, setB, okScope, splice, AV.one, notW, AV.data, Nat.zero_le, decide_true, decide_false, Bool.false_or, Bool.true_or, idx, lenAV, finAV, resList, resOne, loadAV, single, AV.bel, AV.belL, List.take_zero, List.take_nil, List.take_succ_cons, Bool.false_eq_true, Bool.true_and, Bool.and_true, Bool.and_self, Bool.not_true, Bool.not_false, beq_self_eq_true, ↓reduceIte, reduceCtorEq, Nat.reduceLT, Nat.reduceAdd, Nat.reduceSub, Nat.reduceMul, Nat.reduceLeDiff, Nat.reducePow, Nat.reduceEqDiff, Nat.reduceBEq, Int.reduceLT, Int.reduceLE, Int.reduceGT, Int.reduceGE, Int.cast_ofNat_Int, Int.reduceBEq, Int.reduceSub, Int.reduceAdd, Int.reduceMul, Int.reduceToNat, Int.reduceEq, Int.reduceNeg, and_self, and_true, true_and, false_or, or_false, or_true, true_or, Bool.or_self, Bool.or_false, Bool.or_true, ne_eq, not_true_eq_false, not_false_eq_true, thenA, St.only, wkL, sl40, sz36, hb24, g1, g2, g3, g4, g5, lj]
      refine ⟨by kernel_rfl, k - 1, by omega, j + 1, (j : Int), by omega, .inr ⟨j, rfl, by omega, by omega, fun i _ hi => ?_⟩, rfl⟩
      have hij : i = j := by omega
      subst hij
      exact ⟨Nat.le_refl _, fun h => absurd h (Nat.lt_irrefl _)⟩
    · have hcn : c < ps.length := by have := hc.2.1; omega
      obtain ⟨c1, c2, c3, c4, c5⟩ := ix_facts hcn h50
      have lc := l1 c hcn
      have fc := f24 c hcn
      have dc := dg c hcn
      have cn : decide ((c : Int) < 0) = false := decide_eq_false (by omega)
      have ho := order_lt_apw (dle j hlt) (dle c hcn)
      have hup := found_up hc
      rw [← dj] at fj
      rw [← dc] at fc
      by_cases hdl : d j < d c
      · rw [decide_eq_true hdl] at ho
        rw [if_pos hdl] at hup
        refine XV_sound (esc := fun _ => false) orders hFG qFG _ _ _ ?_
        simp only [↓XV, isLoop, xOps, xStep, dOps, dRun, wild, yRun, yStep, yOp, cls, Am.dropL, aWant, xOp, xPure, rd, xCall, calleeAV, Option.bind_some, Option.bind_none, Option.map_some, Option.map_none, St.put, List.getD_cons_succ, List.getD_cons_zero, List.length_cons, List.length_nil, Array.toList, ofV, toV, ofC, List.set_cons_succ, List.set_cons_zero, List.cons_append, List.nil_append, List.append_nil, AV.cells?, newBox, St.setAt, boxCells, List.getElem?_cons_succ, List.getElem?_cons_zero, Nat.zero_add, Nat.add_zero, Option.any_some, Option.any_none, frame0, List.reduceReplicate, bin_i, bin_fl, bin_cadd, bin_csub, bin_cmul, bin_ceql, intBin, shiftBin, isShift, getB, strip, List.map_cons, List.map_nil, List.drop_zero, List.drop_succ_cons, AV.nrmL, AV.nrm, plainL, argCells, St.freezeIn, noRow, List.flatten_cons, List.flatten_nil, List.all_cons, List.all_nil, Option.getD_some, List.getElem?_toArray, Option.bind_fun_some, beq_true, beq_false, partsAV, xStoreOp, isOwn, isBox, xStore, setB, okScope, splice, AV.one, notW, AV.data, Nat.zero_le, decide_true, decide_false, Bool.false_or, Bool.true_or, idx, lenAV, finAV, resList, resOne, loadAV, single, AV.bel, AV.belL, List.take_zero, List.take_nil, List.take_succ_cons, Bool.false_eq_true, Bool.true_and, Bool.and_true, Bool.and_self, Bool.not_true, Bool.not_false, beq_self_eq_true, ↓reduceIte, reduceCtorEq, Nat.reduceLT, Nat.reduceAdd, Nat.reduceSub, Nat.reduceMul, Nat.reduceLeDiff, Nat.reducePow, Nat.reduceEqDiff, Nat.reduceBEq, Int.reduceLT, Int.reduceLE, Int.reduceGT, Int.reduceGE, Int.cast_ofNat_Int, Int.reduceBEq, Int.reduceSub, Int.reduceAdd, Int.reduceMul, Int.reduceToNat, Int.reduceEq, Int.reduceNeg, and_self, and_true, true_and, false_or, or_false, or_true, true_or, Bool.or_self, Bool.or_false, Bool.or_true, ne_eq, not_true_eq_false, not_false_eq_true, thenA, St.only, wkL, sl40, sz36, hb24, g1, g2, g3, g4, g5, lj, c1, c2, c3, c4, lc, fj, fc, cn, f64, ho]
        exact ⟨by kernel_rfl, k - 1, by omega, j + 1, (j : Int), by omega, .inr ⟨j, rfl, hup⟩, rfl⟩
      · rw [decide_eq_false hdl] at ho
        rw [if_neg hdl] at hup
        refine XV_sound (esc := fun _ => false) orders hFG qFG _ _ _ ?_
        simp only [↓XV, isLoop, xOps, xStep, dOps, dRun, wild, yRun, yStep, yOp, cls, Am.dropL, aWant, xOp, xPure, rd, xCall, calleeAV, Option.bind_some, Option.bind_none, Option.map_some, Option.map_none, St.put, List.getD_cons_succ, List.getD_cons_zero, List.length_cons, List.length_nil, Array.toList, ofV, toV, ofC, List.set_cons_succ, List.set_cons_zero, List.cons_append, List.nil_append, List.append_nil, AV.cells?, newBox, St.setAt, boxCells, List.getElem?_cons_succ, List.getElem?_cons_zero, Nat.zero_add, Nat.add_zero, Option.any_some, Option.any_none, frame0, List.reduceReplicate, bin_i, bin_fl, bin_cadd, bin_csub, bin_cmul, bin_ceql, intBin, shiftBin, isShift, getB, strip, List.map_cons, List.map_nil, List.drop_zero, List.drop_succ_cons, AV.nrmL, AV.nrm, plainL, argCells, St.freezeIn, noRow, List.flatten_cons, List.flatten_nil, List.all_cons, List.all_nil, Option.getD_some, List.getElem?_toArray, Option.bind_fun_some, beq_true, beq_false, partsAV, xStoreOp, isOwn, isBox, xStore, setB, okScope, splice, AV.one, notW, AV.data, Nat.zero_le, decide_true, decide_false, Bool.false_or, Bool.true_or, idx, lenAV, finAV, resList, resOne, loadAV, single, AV.bel, AV.belL, List.take_zero, List.take_nil, List.take_succ_cons, Bool.false_eq_true, Bool.true_and, Bool.and_true, Bool.and_self, Bool.not_true, Bool.not_false, beq_self_eq_true, ↓reduceIte, reduceCtorEq, Nat.reduceLT, Nat.reduceAdd, Nat.reduceSub, Nat.reduceMul, Nat.reduceLeDiff, Nat.reducePow, Nat.reduceEqDiff, Nat.reduceBEq, Int.reduceLT, Int.reduceLE, Int.reduceGT, Int.reduceGE, Int.cast_ofNat_Int, Int.reduceBEq, Int.reduceSub, Int.reduceAdd, Int.reduceMul, Int.reduceToNat, Int.reduceEq, Int.reduceNeg, and_self, and_true, true_and, false_or, or_false, or_true, true_or, Bool.or_self, Bool.or_false, Bool.or_true, ne_eq, not_true_eq_false, not_false_eq_true, thenA, St.only, wkL, sl40, sz36, hb24, g1, g2, g3, g4, g5, lj, c1, c2, c3, c4, lc, fj, fc, cn, f64, ho]
        exact ⟨by kernel_rfl, k - 1, by omega, j + 1, (c : Int), by omega, .inr ⟨c, rfl, hup⟩, rfl⟩
  · have hjn : j = ps.length := by omega
    subst hjn
    have g1 : decide ((ps.length : Int) < (ps.length : Int)) = false := decide_eq_false (by omega)
    have hR := fin1 best hf
    refine XV_sound (esc := fun _ => false) orders hFG qFG _ _ _ ?_
    simp only [↓XV, isLoop, xOps, xStep, dOps, dRun, wild, yRun, yStep, yOp, cls, Am.dropL, aWant, xOp, xPure, rd, xCall, calleeAV, Option.bind_some, Option.bind_none, Option.map_some, Option.map_none, St.put, List.getD_cons_succ, List.getD_cons_zero, List.length_cons, List.length_nil, Array.toList, ofV, toV, ofC, List.set_cons_succ, List.set_cons_zero, List.cons_append, List.nil_append, List.append_nil, AV.cells?, newBox, St.setAt, boxCells, List.getElem?_cons_succ, List.getElem?_cons_zero, Nat.zero_add, Nat.add_zero, Option.any_some, Option.any_none, frame0, List.reduceReplicate, bin_i, bin_fl, bin_cadd, bin_csub, bin_cmul, bin_ceql, intBin, shiftBin, isShift, getB, strip, List.map_cons, List.map_nil, List.drop_zero, List.drop_succ_cons, AV.nrmL, AV.nrm, plainL, argCells, St.freezeIn, noRow, List.flatten_cons, List.flatten_nil, List.all_cons, List.all_nil, Option.getD_some, List.getElem?_toArray, Option.bind_fun_some, beq_true, beq_false, partsAV, xStoreOp, isOwn, isBox, xStore, setB, okScope, splice, AV.one, notW, AV.data, Nat.zero_le, decide_true, decide_false, Bool.false_or, Bool.true_or, idx, lenAV, finAV, resList, resOne, loadAV, single, AV.bel, AV.belL, List.take_zero, List.take_nil, List.take_succ_cons, Bool.false_eq_true, Bool.true_and, Bool.and_true, Bool.and_self, Bool.not_true, Bool.not_false, beq_self_eq_true, ↓reduceIte, reduceCtorEq, Nat.reduceLT, Nat.reduceAdd, Nat.reduceSub, Nat.reduceMul, Nat.reduceLeDiff, Nat.reducePow, Nat.reduceEqDiff, Nat.reduceBEq, Int.reduceLT, Int.reduceLE, Int.reduceGT, Int.reduceGE, Int.cast_ofNat_Int, Int.reduceBEq, Int.reduceSub, Int.reduceAdd, Int.reduceMul, Int.reduceToNat, Int.reduceEq, Int.reduceNeg, and_self, and_true, true_and, false_or, or_false, or_true, true_or, Bool.or_self, Bool.or_false, Bool.or_true, ne_eq, not_true_eq_false, not_false_eq_true, thenA, St.only, wkL, g1]
    refine XV_sound (esc := fun _ => false) orders hFG qFG _ _ _ ?_
    simp only [↓XV, isLoop, xOps, xStep, dOps, dRun, wild, yRun, yStep, yOp, cls, Am.dropL, aWant, xOp, xPure, rd, xCall, calleeAV, Option.bind_some, Option.bind_none, Option.map_some, Option.map_none, St.put, List.getD_cons_succ, List.getD_cons_zero, List.length_cons, List.length_nil, Array.toList, ofV, toV, ofC, List.set_cons_succ, List.set_cons_zero, List.cons_append, List.nil_append, List.append_nil, AV.cells?, newBox, St.setAt, boxCells, List.getElem?_cons_succ, List.getElem?_cons_zero, Nat.zero_add, Nat.add_zero, Option.any_some, Option.any_none, frame0, List.reduceReplicate, bin_i, bin_fl, bin_cadd, bin_csub, bin_cmul, bin_ceql, intBin, shiftBin, isShift, getB, strip, List.map_cons, List.map_nil, List.drop_zero, List.drop_succ_cons, AV.nrmL, AV.nrm, plainL, argCells, St.freezeIn, noRow, List.flatten_cons, List.flatten_nil, List.all_cons, List.all_nil, Option.getD_some, List.getElem?_toArray, Option.bind_fun_some, beq_true, beq_false, partsAV, xStoreOp, isOwn, isBox, xStore, setB, okScope, splice, AV.one, notW, AV.data, Nat.zero_le, decide_true, decide_false, Bool.false_or, Bool.true_or, idx, lenAV, finAV, resList, resOne, loadAV, single, AV.bel, AV.belL, List.take_zero, List.take_nil, List.take_succ_cons, Bool.false_eq_true, Bool.true_and, Bool.and_true, Bool.and_self, Bool.not_true, Bool.not_false, beq_self_eq_true, ↓reduceIte, reduceCtorEq, Nat.reduceLT, Nat.reduceAdd, Nat.reduceSub, Nat.reduceMul, Nat.reduceLeDiff, Nat.reducePow, Nat.reduceEqDiff, Nat.reduceBEq, Int.reduceLT, Int.reduceLE, Int.reduceGT, Int.reduceGE, Int.cast_ofNat_Int, Int.reduceBEq, Int.reduceSub, Int.reduceAdd, Int.reduceMul, Int.reduceToNat, Int.reduceEq, Int.reduceNeg, and_self, and_true, true_and, false_or, or_false, or_true, true_or, Bool.or_self, Bool.or_false, Bool.or_true, ne_eq, not_true_eq_false, not_false_eq_true, hR, show Try.f26.results.toList = [.tmp 4] from rfl]

theorem order_le_apw {x y : Nat} (hx : x ≤ 2047 * 2 ^ 52) (hy : y ≤ 2047 * 2 ^ 52) : (Ieee.double.order x y == some .lt || Ieee.double.order x y == some .eq) = decide (x ≤ y) := by
  rw [order_le hx hy]
  rcases Nat.lt_trichotomy x y with h | h | h
  · rw [ncmp_lt h, decide_eq_true (by omega)]; rfl
  · rw [h, ncmp_eq, decide_eq_true (by omega)]; rfl
  · rw [ncmp_gt h, decide_eq_false (by omega)]; rfl

theorem pa35c (x y : Nat) (r : List AV) : partAV Try.prog 35 (.s (.fl .f64 x) :: .s (.fl .f64 y) :: r) 0 = some (.a [.s (.fl .f64 x), .s (.fl .f64 y)]) := by kernel_rfl

set_option maxRecDepth 8000 in
theorem near27 (ps : List (Nat × Nat)) (a b : Nat) (h50 : ps.length ≤ 50) (hps : ∀ q ∈ ps, lowp q.1 ∧ lowp q.2) (ha : lowp a) (hb : lowp b) : ValidAt Try.prog 27 [.l ps.length (ofFl ps), .a [.s (.fl .f64 a), .s (.fl .f64 b)]] [] [] (.s (.i .i64 (optI (nearL (dists ps a b))))) [] [] := by
  have f25 : ∀ j (h : j < ps.length) S O, FG 25 [.a [.s (.fl .f64 ps[j].1), .s (.fl .f64 ps[j].2)], .a [.s (.fl .f64 a), .s (.fl .f64 b)]] S O = some (.s (.fl .f64 (apw ps[j].1 ps[j].2 a b)), S, O) := fun j h => k25 (hps _ (List.getElem_mem h)).1 (hps _ (List.getElem_mem h)).2 ha hb
  have dg := fun j h => dists_get ps a b (j := j) h
  have dl := dists_length ps a b
  have dle : ∀ j, j < ps.length → (dists ps a b).getD j 0 ≤ 2047 * 2 ^ 52 := fun j h => by rw [dg j h]; exact apw_le _ _ _ _
  have fin1 := fun best => found_near (v := dists ps a b) (best := best)
  rw [dl] at fin1
  generalize hd : (fun i => (dists ps a b).getD i 0) = d at *
  have dd : ∀ i, (dists ps a b).getD i 0 = d i := fun i => by rw [← hd]
  simp only [dd] at dg dle
  clear dd hd
  generalize optI (nearL (dists ps a b)) = R at *
  have l1 := fun j h => ofFl_drop ps (j := j) h
  have w0 : IntKind.i64.wrap ((ps.length : Int) - 1) = (ps.length : Int) - 1 := wrap64 (by omega) (by omega)
  refine valid_of_awp Try.func27 rfl (by simp [Try.ntmps27]) ?_
  refine XV_sound (esc := fun _ => false) orders hFG qFG _ _ _ ?_
  simp only [Try.ntmps27, ↓XV, isLoop, xOps, xStep, dOps, dRun, wild, yRun, yStep, yOp, cls, Am.dropL, aWant, xOp, xPure, rd, xCall, calleeAV, Option.bind_some, Option.bind_none, Option.map_some, Option.map_none, St.put, List.getD_cons_succ, List.getD_cons_zero, List.length_cons, List.length_nil, Array.toList, ofV, toV, ofC, List.set_cons_succ, List.set_cons_zero, List.cons_append, List.nil_append, List.append_nil, AV.cells?, newBox, St.setAt, boxCells, List.getElem?_cons_succ, List.getElem?_cons_zero, Nat.zero_add, Nat.add_zero, Option.any_some, Option.any_none, frame0, List.reduceReplicate, bin_i, bin_fl, bin_cadd, bin_csub, bin_cmul, bin_ceql, intBin, shiftBin, isShift, getB, strip, List.map_cons, List.map_nil, List.drop_zero, List.drop_succ_cons, AV.nrmL, AV.nrm, plainL, argCells, St.freezeIn, noRow, List.flatten_cons, List.flatten_nil, List.all_cons, List.all_nil, Option.getD_some, List.getElem?_toArray, Option.bind_fun_some, beq_true, beq_false, partsAV, xStoreOp, isOwn, isBox, xStore, setB, okScope, splice, AV.one, notW, AV.data, Nat.zero_le, decide_true, decide_false, Bool.false_or, Bool.true_or, idx, lenAV, finAV, resList, resOne, loadAV, single, AV.bel, AV.belL, List.take_zero, List.take_nil, List.take_succ_cons, Bool.false_eq_true, Bool.true_and, Bool.and_true, Bool.and_self, Bool.not_true, Bool.not_false, beq_self_eq_true, ↓reduceIte, reduceCtorEq, Nat.reduceLT, Nat.reduceAdd, Nat.reduceSub, Nat.reduceMul, Nat.reduceLeDiff, Nat.reducePow, Nat.reduceEqDiff, Nat.reduceBEq, Int.reduceLT, Int.reduceLE, Int.reduceGT, Int.reduceGE, Int.cast_ofNat_Int, Int.reduceBEq, Int.reduceSub, Int.reduceAdd, Int.reduceMul, Int.reduceToNat, Int.reduceEq, Int.reduceNeg, and_self, and_true, true_and, false_or, or_false, or_true, true_or, Bool.or_self, Bool.or_false, Bool.or_true, ne_eq, not_true_eq_false, not_false_eq_true, u41, w0, show Try.f27.results.toList = [.tmp 4] from rfl]
  refine AWP.loopK [true, true, false, true, true, true, true] (fun k st => ∃ (best : Int), k ≤ ps.length ∧ found d k ps.length best ∧ st = ⟨[.l ps.length (ofFl ps), .a [.s (.fl .f64 a), .s (.fl .f64 b)], .u, .p (.s 3) 0, .s (.i .i64 0), .s (.i .i64 best), .s (.i .i64 ((k : Int) - 1))] ++ List.replicate 26 .u,
      [.dead, .dead, .dead, .box 35 [.s (.fl .f64 a), .s (.fl .f64 b)]] ++ List.replicate 29 .dead, []⟩) ps.length ?_ ?_
  · exact ⟨-1, Nat.le_refl _, .inl ⟨rfl, rfl⟩, rfl⟩
  rintro k st ⟨best, hk, hf, rfl⟩
  cases k with
  | succ k =>
    have hlt : k < ps.length := by omega
    obtain ⟨_, g2, g3, g4, _⟩ := ix_facts hlt h50
    have g1 : decide ((k : Int) ≥ 0) = true := decide_eq_true (by omega)
    have g5 : IntKind.i64.wrap ((k : Int) - 1) = (k : Int) - 1 := wrap64 (by omega) (by omega)
    have lj := l1 k hlt
    have fj := f25 k hlt
    have dj := dg k hlt
    rw [show ((k + 1 : Nat) : Int) - 1 = (k : Int) by omega]
    rcases hf with ⟨h0, rfl⟩ | ⟨c, rfl, hc⟩
    · refine XV_sound (esc := fun _ => false) orders hFG qFG _ _ _ ?_
      simp only [↓XV, isLoop, xOps, xStep, dOps, dRun, wild, yRun, yStep, yOp, cls, Am.dropL, aWant, xOp, xPure, rd, xCall, calleeAV, Option.bind_some, Option.bind_none, Option.map_some, Option.map_none, St.put, List.getD_cons_succ, List.getD_cons_zero, List.length_cons, List.length_nil, Array.toList, ofV, toV, ofC, List.set_cons_succ, List.set_cons_zero, List.cons_append, List.nil_append, List.append_nil, AV.cells?, newBox, St.setAt, boxCells, List.getElem?_cons_succ, List.getElem?_cons_zero, Nat.zero_add, Nat.add_zero, Option.any_some, Option.any_none, frame0, List.reduceReplicate, bin_i, bin_fl, bin_cadd, bin_csub, bin_cmul, bin_ceql, intBin, shiftBin, isShift, getB, strip, List.map_cons, List.map_nil, List.drop_zero, List.drop_succ_cons, AV.nrmL, AV.nrm, plainL, argCells, St.freezeIn, noRow, List.flatten_cons, List.flatten_nil, List.all_cons, List.all_nil, Option.getD_some, List.getElem?_toArray, Option.bind_fun_some, beq_true, beq_false, partsAV, xStoreOp, isOwn, isBox, xStore, setB, okScope, splice, AV.one, notW, AV.data, Nat.zero_le, decide_true, decide_false, Bool.false_or, Bool.true_or, idx, lenAV, finAV, resList, resOne, loadAV, single, AV.bel, AV.belL, List.take_zero, List.take_nil, List.take_succ_cons, Bool.false_eq_true, Bool.true_and, Bool.and_true, Bool.and_self, Bool.not_true, Bool.not_false, beq_self_eq_true, ↓reduceIte, reduceCtorEq, Nat.reduceLT, Nat.reduceAdd, Nat.reduceSub, Nat.reduceMul, Nat.reduceLeDiff, Nat.reducePow, Nat.reduceEqDiff, Nat.reduceBEq, Int.reduceLT, Int.reduceLE, Int.reduceGT, Int.reduceGE, Int.cast_ofNat_Int, Int.reduceBEq, Int.reduceSub, Int.reduceAdd, Int.reduceMul, Int.reduceToNat, Int.reduceEq, Int.reduceNeg, and_self, and_true, true_and, false_or, or_false, or_true, true_or, Bool.or_self, Bool.or_false, Bool.or_true, ne_eq, not_true_eq_false, not_false_eq_true, thenA, St.only, wkL, sl41, sz35, hb25, g1, g2, g3, g4, g5, lj]
      refine ⟨by kernel_rfl, k, by omega, (k : Int), by omega, .inr ⟨k, rfl, by omega, by omega, fun i h1 hi => ?_⟩, rfl⟩
      have hij : i = k := by omega
      subst hij
      exact ⟨Nat.le_refl _, fun h => absurd h (Nat.lt_irrefl _)⟩
    · have hcn : c < ps.length := hc.2.1
      obtain ⟨_, c2, c3, c4, _⟩ := ix_facts hcn h50
      have lc := l1 c hcn
      have fc := f25 c hcn
      have dc := dg c hcn
      have cn : decide ((c : Int) < 0) = false := decide_eq_false (by omega)
      have ho := order_le_apw (dle k hlt) (dle c hcn)
      have hup := found_down hc
      rw [← dj] at fj
      rw [← dc] at fc
      by_cases hdl : d k ≤ d c
      · rw [decide_eq_true hdl] at ho
        rw [if_pos hdl] at hup
        refine XV_sound (esc := fun _ => false) orders hFG qFG _ _ _ ?_
        simp only [↓XV, isLoop, xOps, xStep, dOps, dRun, wild, yRun, yStep, yOp, cls, Am.dropL, aWant, xOp, xPure, rd, xCall, calleeAV, Option.bind_some, Option.bind_none, Option.map_some, Option.map_none, St.put, List.getD_cons_succ, List.getD_cons_zero, List.length_cons, List.length_nil, Array.toList, ofV, toV, ofC, List.set_cons_succ, List.set_cons_zero, List.cons_append, List.nil_append, List.append_nil, AV.cells?, newBox, St.setAt, boxCells, List.getElem?_cons_succ, List.getElem?_cons_zero, Nat.zero_add, Nat.add_zero, Option.any_some, Option.any_none, frame0, List.reduceReplicate, bin_i, bin_fl, bin_cadd, bin_csub, bin_cmul, bin_ceql, intBin, shiftBin, isShift, getB, strip, List.map_cons, List.map_nil, List.drop_zero, List.drop_succ_cons, AV.nrmL, AV.nrm, plainL, argCells, St.freezeIn, noRow, List.flatten_cons, List.flatten_nil, List.all_cons, List.all_nil, Option.getD_some, List.getElem?_toArray, Option.bind_fun_some, beq_true, beq_false, partsAV, xStoreOp, isOwn, isBox, xStore, setB, okScope, splice, AV.one, notW, AV.data, Nat.zero_le, decide_true, decide_false, Bool.false_or, Bool.true_or, idx, lenAV, finAV, resList, resOne, loadAV, single, AV.bel, AV.belL, List.take_zero, List.take_nil, List.take_succ_cons, Bool.false_eq_true, Bool.true_and, Bool.and_true, Bool.and_self, Bool.not_true, Bool.not_false, beq_self_eq_true, ↓reduceIte, reduceCtorEq, Nat.reduceLT, Nat.reduceAdd, Nat.reduceSub, Nat.reduceMul, Nat.reduceLeDiff, Nat.reducePow, Nat.reduceEqDiff, Nat.reduceBEq, Int.reduceLT, Int.reduceLE, Int.reduceGT, Int.reduceGE, Int.cast_ofNat_Int, Int.reduceBEq, Int.reduceSub, Int.reduceAdd, Int.reduceMul, Int.reduceToNat, Int.reduceEq, Int.reduceNeg, and_self, and_true, true_and, false_or, or_false, or_true, true_or, Bool.or_self, Bool.or_false, Bool.or_true, ne_eq, not_true_eq_false, not_false_eq_true, thenA, St.only, wkL, sl41, sz35, hb25, pa35c, g1, g2, g3, g4, g5, lj, c2, c3, c4, lc, fj, fc, cn, f64, ho]
        exact ⟨by kernel_rfl, k, by omega, (k : Int), by omega, .inr ⟨k, rfl, hup⟩, rfl⟩
      · rw [decide_eq_false hdl] at ho
        rw [if_neg hdl] at hup
        refine XV_sound (esc := fun _ => false) orders hFG qFG _ _ _ ?_
        simp only [↓XV, isLoop, xOps, xStep, dOps, dRun, wild, yRun, yStep, yOp, cls, Am.dropL, aWant, xOp, xPure, rd, xCall, calleeAV, Option.bind_some, Option.bind_none, Option.map_some, Option.map_none, St.put, List.getD_cons_succ, List.getD_cons_zero, List.length_cons, List.length_nil, Array.toList, ofV, toV, ofC, List.set_cons_succ, List.set_cons_zero, List.cons_append, List.nil_append, List.append_nil, AV.cells?, newBox, St.setAt, boxCells, List.getElem?_cons_succ, List.getElem?_cons_zero, Nat.zero_add, Nat.add_zero, Option.any_some, Option.any_none, frame0, List.reduceReplicate, bin_i, bin_fl, bin_cadd, bin_csub, bin_cmul, bin_ceql, intBin, shiftBin, isShift, getB, strip, List.map_cons, List.map_nil, List.drop_zero, List.drop_succ_cons, AV.nrmL, AV.nrm, plainL, argCells, St.freezeIn, noRow, List.flatten_cons, List.flatten_nil, List.all_cons, List.all_nil, Option.getD_some, List.getElem?_toArray, Option.bind_fun_some, beq_true, beq_false, partsAV, xStoreOp, isOwn, isBox, xStore, setB, okScope, splice, AV.one, notW, AV.data, Nat.zero_le, decide_true, decide_false, Bool.false_or, Bool.true_or, idx, lenAV, finAV, resList, resOne, loadAV, single, AV.bel, AV.belL, List.take_zero, List.take_nil, List.take_succ_cons, Bool.false_eq_true, Bool.true_and, Bool.and_true, Bool.and_self, Bool.not_true, Bool.not_false, beq_self_eq_true, ↓reduceIte, reduceCtorEq, Nat.reduceLT, Nat.reduceAdd, Nat.reduceSub, Nat.reduceMul, Nat.reduceLeDiff, Nat.reducePow, Nat.reduceEqDiff, Nat.reduceBEq, Int.reduceLT, Int.reduceLE, Int.reduceGT, Int.reduceGE, Int.cast_ofNat_Int, Int.reduceBEq, Int.reduceSub, Int.reduceAdd, Int.reduceMul, Int.reduceToNat, Int.reduceEq, Int.reduceNeg, and_self, and_true, true_and, false_or, or_false, or_true, true_or, Bool.or_self, Bool.or_false, Bool.or_true, ne_eq, not_true_eq_false, not_false_eq_true, thenA, St.only, wkL, sl41, sz35, hb25, pa35c, g1, g2, g3, g4, g5, lj, c2, c3, c4, lc, fj, fc, cn, f64, ho]
        exact ⟨by kernel_rfl, k, by omega, (c : Int), by omega, .inr ⟨c, rfl, hup⟩, rfl⟩
  | zero =>
    have hR := fin1 best hf
    have g1 : decide (((0 : Nat) : Int) - 1 ≥ 0) = false := rfl
    refine XV_sound (esc := fun _ => false) orders hFG qFG _ _ _ ?_
    simp only [↓XV, isLoop, xOps, xStep, dOps, dRun, wild, yRun, yStep, yOp, cls, Am.dropL, aWant, xOp, xPure, rd, xCall, calleeAV, Option.bind_some, Option.bind_none, Option.map_some, Option.map_none, St.put, List.getD_cons_succ, List.getD_cons_zero, List.length_cons, List.length_nil, Array.toList, ofV, toV, ofC, List.set_cons_succ, List.set_cons_zero, List.cons_append, List.nil_append, List.append_nil, AV.cells?, newBox, St.setAt, boxCells, List.getElem?_cons_succ, List.getElem?_cons_zero, Nat.zero_add, Nat.add_zero, Option.any_some, Option.any_none, frame0, List.reduceReplicate, bin_i, bin_fl, bin_cadd, bin_csub, bin_cmul, bin_ceql, intBin, shiftBin, isShift, getB, strip, List.map_cons, List.map_nil, List.drop_zero, List.drop_succ_cons, AV.nrmL, AV.nrm, plainL, argCells, St.freezeIn, noRow, List.flatten_cons, List.flatten_nil, List.all_cons, List.all_nil, Option.getD_some, List.getElem?_toArray, Option.bind_fun_some, beq_true, beq_false, partsAV, xStoreOp, isOwn, isBox, xStore, setB, okScope, splice, AV.one, notW, AV.data, Nat.zero_le, decide_true, decide_false, Bool.false_or, Bool.true_or, idx, lenAV, finAV, resList, resOne, loadAV, single, AV.bel, AV.belL, List.take_zero, List.take_nil, List.take_succ_cons, Bool.false_eq_true, Bool.true_and, Bool.and_true, Bool.and_self, Bool.not_true, Bool.not_false, beq_self_eq_true, ↓reduceIte, reduceCtorEq, Nat.reduceLT, Nat.reduceAdd, Nat.reduceSub, Nat.reduceMul, Nat.reduceLeDiff, Nat.reducePow, Nat.reduceEqDiff, Nat.reduceBEq, Int.reduceLT, Int.reduceLE, Int.reduceGT, Int.reduceGE, Int.cast_ofNat_Int, Int.reduceBEq, Int.reduceSub, Int.reduceAdd, Int.reduceMul, Int.reduceToNat, Int.reduceEq, Int.reduceNeg, and_self, and_true, true_and, false_or, or_false, or_true, true_or, Bool.or_self, Bool.or_false, Bool.or_true, ne_eq, not_true_eq_false, not_false_eq_true, thenA, St.only, wkL, g1]
    refine XV_sound (esc := fun _ => false) orders hFG qFG _ _ _ ?_
    simp only [↓XV, isLoop, xOps, xStep, dOps, dRun, wild, yRun, yStep, yOp, cls, Am.dropL, aWant, xOp, xPure, rd, xCall, calleeAV, Option.bind_some, Option.bind_none, Option.map_some, Option.map_none, St.put, List.getD_cons_succ, List.getD_cons_zero, List.length_cons, List.length_nil, Array.toList, ofV, toV, ofC, List.set_cons_succ, List.set_cons_zero, List.cons_append, List.nil_append, List.append_nil, AV.cells?, newBox, St.setAt, boxCells, List.getElem?_cons_succ, List.getElem?_cons_zero, Nat.zero_add, Nat.add_zero, Option.any_some, Option.any_none, frame0, List.reduceReplicate, bin_i, bin_fl, bin_cadd, bin_csub, bin_cmul, bin_ceql, intBin, shiftBin, isShift, getB, strip, List.map_cons, List.map_nil, List.drop_zero, List.drop_succ_cons, AV.nrmL, AV.nrm, plainL, argCells, St.freezeIn, noRow, List.flatten_cons, List.flatten_nil, List.all_cons, List.all_nil, Option.getD_some, List.getElem?_toArray, Option.bind_fun_some, beq_true, beq_false, partsAV, xStoreOp, isOwn, isBox, xStore, setB, okScope, splice, AV.one, notW, AV.data, Nat.zero_le, decide_true, decide_false, Bool.false_or, Bool.true_or, idx, lenAV, finAV, resList, resOne, loadAV, single, AV.bel, AV.belL, List.take_zero, List.take_nil, List.take_succ_cons, Bool.false_eq_true, Bool.true_and, Bool.and_true, Bool.and_self, Bool.not_true, Bool.not_false, beq_self_eq_true, ↓reduceIte, reduceCtorEq, Nat.reduceLT, Nat.reduceAdd, Nat.reduceSub, Nat.reduceMul, Nat.reduceLeDiff, Nat.reducePow, Nat.reduceEqDiff, Nat.reduceBEq, Int.reduceLT, Int.reduceLE, Int.reduceGT, Int.reduceGE, Int.cast_ofNat_Int, Int.reduceBEq, Int.reduceSub, Int.reduceAdd, Int.reduceMul, Int.reduceToNat, Int.reduceEq, Int.reduceNeg, and_self, and_true, true_and, false_or, or_false, or_true, true_or, Bool.or_self, Bool.or_false, Bool.or_true, ne_eq, not_true_eq_false, not_false_eq_true, hR, show Try.f27.results.toList = [.tmp 4] from rfl]

theorem k26 (ps : List (Nat × Nat)) (a b : Nat) (h50 : ps.length ≤ 50) (hps : ∀ q ∈ ps, lowp q.1 ∧ lowp q.2) (ha : lowp a) (hb : lowp b) (S O : List Blk) : FG 26 [.l ps.length (ofCx ps), .s (.cx .f64 a b)] S O = some (.s (.i .i64 (optI (nearL (dists ps a b)))), S, O) :=
  FK_eq (near26 ps a b h50 hps ha hb) (by simp only [gg, g26, cxL_of]) rfl rfl S O
theorem k27 (ps : List (Nat × Nat)) (a b : Nat) (h50 : ps.length ≤ 50) (hps : ∀ q ∈ ps, lowp q.1 ∧ lowp q.2) (ha : lowp a) (hb : lowp b) (S O : List Blk) : FG 27 [.l ps.length (ofFl ps), .a [.s (.fl .f64 a), .s (.fl .f64 b)]] S O = some (.s (.i .i64 (optI (nearL (dists ps a b)))), S, O) :=
  FK_eq (near27 ps a b h50 hps ha hb) (by simp only [gg, g27, flL_of]) rfl rfl S O
end Go.Am
