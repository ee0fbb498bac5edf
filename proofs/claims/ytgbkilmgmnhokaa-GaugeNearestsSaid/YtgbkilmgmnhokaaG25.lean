/-
  THE WALKS: sums of points.
-/
import Derived.Test.YtgbkilmgmnhokaaG24
set_option linter.unusedSimpArgs false
set_option linter.unusedVariables false
namespace Go.Am
open Go Go.Proofs Go.Fl

def pts (L : List T8) : List (Nat × Nat) := L.map fun t => (t.x, t.y)

theorem cxs_eq (L : List T8) : cxs L = ofCx (pts L) := by
  unfold cxs ofCx pts; rw [List.map_map]; rfl
theorem fls_eq (L : List T8) : fls L = ofFl (pts L) := by
  unfold fls ofFl pts; rw [List.flatMap_map]
theorem ptsOf_cells (L : List T8) : ptsOf (cellsOf L) = pts L := by
  induction L with
  | nil => rfl
  | cons t L ih =>
    show ptsOf (t.cells ++ cellsOf L) = (t.x, t.y) :: pts L
    rw [← ih]; rfl
theorem cxL_of (ps : List (Nat × Nat)) : cxL (ofCx ps) = ps := by
  induction ps with
  | nil => rfl
  | cons q ps ih =>
    show (q.1, q.2) :: cxL (ofCx ps) = q :: ps
    rw [ih]
theorem flL_of (ps : List (Nat × Nat)) : flL (ofFl ps) = ps := by
  induction ps with
  | nil => rfl
  | cons q ps ih =>
    show (q.1, q.2) :: flL (ofFl ps) = q :: ps
    rw [ih]
theorem pts_length (L : List T8) : (pts L).length = L.length := by simp [pts]

theorem k18 (L : List T8) (hlen : L.length ≤ 50) (hok : ∀ t ∈ L, t.ok) (S O : List Blk) : FG 18 [.l L.length (cellsOf L)] S O = some (.t [.l L.length (ofCx (pts L)), .l L.length (ofFl (pts L))], S, O) := by
  have h := points18 L hlen hok
  rw [cxs_eq, fls_eq] at h
  exact FK_eq h (by simp only [gg, g18, ptsOf_cells]) rfl rfl S O

theorem addv_spec {a b : Nat} (ha : a ≤ 2047 * 2 ^ 52) (hb : b ≤ 2047 * 2 ^ 52) : Ieee.double.add a b = some (addv a b) ∧ addv a b ≤ 2047 * 2 ^ 52 := by
  obtain ⟨z, h1, h2, _⟩ := add_le ha hb
  unfold addv; rw [h1]; exact ⟨rfl, h2⟩

theorem sum_steps (xs : List Nat) (h : ∀ x ∈ xs, x ≤ 2047 * 2 ^ 52) :
    ∃ s : Nat → Nat, s 0 = 0 ∧ s xs.length = sumL xs ∧ (∀ j (hj : j < xs.length), Ieee.double.add (s j) xs[j] = some (s (j + 1))) ∧ ∀ j, j ≤ xs.length → s j ≤ 2047 * 2 ^ 52 := by
  have hs : ∀ j (hj : j < xs.length), sumL (xs.take (j + 1)) = addv (sumL (xs.take j)) xs[j] := fun j hj => by
    unfold sumL; rw [List.take_succ_eq_append_getElem hj, List.foldl_append]; rfl
  have hb : ∀ j, j ≤ xs.length → sumL (xs.take j) ≤ 2047 * 2 ^ 52 := fun j => by
    induction j with
    | zero => intro _; exact Nat.zero_le _
    | succ j ih =>
      intro hj
      rw [hs j (by omega)]
      exact (addv_spec (ih (by omega)) (h _ (List.getElem_mem _))).2
  refine ⟨fun j => sumL (xs.take j), rfl, by simp, fun j hj => ?_, hb⟩
  show Ieee.double.add (sumL (xs.take j)) xs[j] = some (sumL (xs.take (j + 1)))
  rw [hs j hj]
  exact (addv_spec (hb j (by omega)) (h _ (List.getElem_mem _))).1

theorem ofCx_ld (ps : List (Nat × Nat)) {j : Nat} (h : j < ps.length) : partAV Try.prog 36 ((ofCx ps).drop (j * 1)) 0 = some (.s (.cx .f64 ps[j].1 ps[j].2)) := by
  have hl : j < (ofCx ps).length := by simpa [ofCx] using h
  rw [Nat.mul_one, List.drop_eq_getElem_cons hl]
  simp [partAV, ag36, sz36, ofCx]

theorem ofFl_drop (ps : List (Nat × Nat)) {j : Nat} (h : j < ps.length) : (ofFl ps).drop (j * 2) = .s (.fl .f64 ps[j].1) :: .s (.fl .f64 ps[j].2) :: ofFl (ps.drop (j + 1)) := by
  induction ps generalizing j with
  | nil => simp at h
  | cons t L ih =>
    cases j with
    | zero => rfl
    | succ j =>
      have e : (j + 1) * 2 = 2 + j * 2 := by omega
      have h' : j < L.length := by simpa using h
      rw [e, ← List.drop_drop]
      show (ofFl L).drop (j * 2) = _
      rw [ih h']
      simp

theorem pa26 (x : Nat) (r : List AV) : partAV Try.prog 26 (.s (.fl .f64 x) :: r) 0 = some (.s (.fl .f64 x)) := by kernel_rfl
theorem pa35 (x y : Nat) : partAV Try.prog 35 [.s (.fl .f64 x), .s (.fl .f64 y)] 0 = some (.a [.s (.fl .f64 x), .s (.fl .f64 y)]) := by kernel_rfl

theorem ix_facts {j n : Nat} (h : j < n) (h50 : n ≤ 50) :
    decide ((j : Int) < (n : Int)) = true ∧ (0 ≤ (j : Int)) = True ∧ ((j : Int) < (n : Int)) = True ∧ (j : Int).toNat = j ∧ IntKind.i64.wrap ((j : Int) + 1) = ((j + 1 : Nat) : Int) := by
  refine ⟨decide_eq_true (by omega), eq_true (by omega), eq_true (by omega), Int.toNat_natCast _, ?_⟩
  rw [wrap64 (by omega) (by omega)]; omega

set_option maxRecDepth 8000 in
theorem sum20 (ps : List (Nat × Nat)) (h50 : ps.length ≤ 50) (hps : ∀ q ∈ ps, q.1 ≤ 2047 * 2 ^ 52 ∧ q.2 ≤ 2047 * 2 ^ 52) : ValidAt Try.prog 20 [.l ps.length (ofCx ps)] [] [] (.s (.cx .f64 (sumL (ps.map (·.1))) (sumL (ps.map (·.2))))) [] [] := by
  obtain ⟨sx, x0, xn, xs, _⟩ := sum_steps (ps.map (·.1)) (fun x hx => by obtain ⟨q, hq, rfl⟩ := List.mem_map.1 hx; exact (hps q hq).1)
  obtain ⟨sy, y0, yn, ys, _⟩ := sum_steps (ps.map (·.2)) (fun x hx => by obtain ⟨q, hq, rfl⟩ := List.mem_map.1 hx; exact (hps q hq).2)
  rw [List.length_map] at xn yn
  rw [← xn, ← yn]
  refine valid_of_awp Try.func20 rfl (by simp [Try.ntmps20]) ?_
  refine XV_sound (esc := fun _ => false) orders hFG qFG _ _ _ ?_
  simp only [Try.ntmps20, ↓XV, isLoop, xOps, xStep, dOps, dRun, wild, yRun, yStep, yOp, cls, Am.dropL, aWant, xOp, xPure, rd, xCall, calleeAV, Option.bind_some, Option.bind_none, Option.map_some, Option.map_none, St.put, List.getD_cons_succ, List.getD_cons_zero, List.length_cons, List.length_nil, Array.toList, ofV, toV, ofC, List.set_cons_succ, List.set_cons_zero, List.cons_append, List.nil_append, List.append_nil, AV.cells?, newBox, St.setAt, boxCells, List.getElem?_cons_succ, List.getElem?_cons_zero, Nat.zero_add, Nat.add_zero, Option.any_some, Option.any_none, frame0, List.reduceReplicate, bin_i, bin_fl, bin_cadd, bin_csub, bin_cmul, bin_ceql, intBin, shiftBin, isShift, getB, strip, List.map_cons, List.map_nil, List.drop_zero, List.drop_succ_cons, AV.nrmL, AV.nrm, plainL, argCells, St.freezeIn, noRow, List.flatten_cons, List.flatten_nil, List.all_cons, List.all_nil, Option.getD_some, List.getElem?_toArray, Option.bind_fun_some, beq_true, beq_false, partsAV, xStoreOp, isOwn, isBox, xStore, setB, okScope, splice, AV.one, notW, AV.data, Nat.zero_le, decide_true, decide_false, Bool.false_or, Bool.true_or, idx, lenAV, finAV, resList, resOne, loadAV, single, AV.bel, AV.belL, List.take_zero, List.take_nil, List.take_succ_cons, Bool.false_eq_true, Bool.true_and, Bool.and_true, Bool.and_self, Bool.not_true, Bool.not_false, beq_self_eq_true, ↓reduceIte, reduceCtorEq, Nat.reduceLT, Nat.reduceAdd, Nat.reduceSub, Nat.reduceMul, Nat.reduceLeDiff, Nat.reducePow, Nat.reduceEqDiff, Nat.reduceBEq, Int.reduceLT, Int.reduceLE, Int.reduceGT, Int.reduceGE, Int.cast_ofNat_Int, Int.reduceBEq, Int.reduceSub, Int.reduceAdd, Int.reduceMul, Int.reduceToNat, Int.reduceEq, Int.reduceNeg, and_self, and_true, true_and, false_or, or_false, or_true, true_or, Bool.or_self, Bool.or_false, Bool.or_true, ne_eq, not_true_eq_false, not_false_eq_true, u40, show Try.f20.results.toList = [.tmp 2] from rfl]
  refine AWP.loopK [true, false, true, true, false, false, true, true, true] (fun k st => ∃ j, j + k = ps.length ∧ st = ⟨[.l ps.length (ofCx ps), .u, .s (.cx .f64 0 0), .s (.cx .f64 (sx j) (sy j)), .u, .u, .l ps.length (ofCx ps), .s (.i .i64 ps.length), .s (.i .i64 j)] ++ List.replicate 8 .u, List.replicate 17 .dead, []⟩) ps.length ?_ ?_
  · exact ⟨0, by omega, by rw [x0, y0]; rfl⟩
  rintro k st ⟨j, hj, rfl⟩
  by_cases hlt : j < ps.length
  · obtain ⟨g1, g2, g3, g4, g5⟩ := ix_facts hlt h50
    have a1 := xs j (by simpa using hlt)
    have a2 := ys j (by simpa using hlt)
    rw [List.getElem_map] at a1 a2
    have l1 := ofCx_ld ps hlt
    refine XV_sound (esc := fun _ => false) orders hFG qFG _ _ _ ?_
    simp only [↓XV, isLoop, xOps, xStep, dOps, dRun, wild, yRun, yStep, yOp, cls, Am.dropL, aWant, xOp, xPure, rd, xCall, calleeAV, Option.bind_some, Option.bind_none, Option.map_some, Option.map_none, St.put, List.getD_cons_succ, List.getD_cons_zero, List.length_cons, List.length_nil, Array.toList, ofV, toV, ofC, List.set_cons_succ, List.set_cons_zero, List.cons_append, List.nil_append, List.append_nil, AV.cells?, newBox, St.setAt, boxCells, List.getElem?_cons_succ, List.getElem?_cons_zero, Nat.zero_add, Nat.add_zero, Option.any_some, Option.any_none, frame0, List.reduceReplicate, bin_i, bin_fl, bin_cadd, bin_csub, bin_cmul, bin_ceql, intBin, shiftBin, isShift, getB, strip, List.map_cons, List.map_nil, List.drop_zero, List.drop_succ_cons, AV.nrmL, AV.nrm, plainL, argCells, St.freezeIn, noRow, List.flatten_cons, List.flatten_nil, List.all_cons, List.all_nil, Option.getD_some, List.getElem?_toArray, Option.bind_fun_some, beq_true, beq_false, partsAV, xStoreOp, isOwn, isBox, xStore, setB, okScope, splice, AV.one, notW, AV.data, Nat.zero_le, decide_true, decide_false, Bool.false_or, Bool.true_or, idx, lenAV, finAV, resList, resOne, loadAV, single, AV.bel, AV.belL, List.take_zero, List.take_nil, List.take_succ_cons, Bool.false_eq_true, Bool.true_and, Bool.and_true, Bool.and_self, Bool.not_true, Bool.not_false, beq_self_eq_true, ↓reduceIte, reduceCtorEq, Nat.reduceLT, Nat.reduceAdd, Nat.reduceSub, Nat.reduceMul, Nat.reduceLeDiff, Nat.reducePow, Nat.reduceEqDiff, Nat.reduceBEq, Int.reduceLT, Int.reduceLE, Int.reduceGT, Int.reduceGE, Int.cast_ofNat_Int, Int.reduceBEq, Int.reduceSub, Int.reduceAdd, Int.reduceMul, Int.reduceToNat, Int.reduceEq, Int.reduceNeg, and_self, and_true, true_and, false_or, or_false, or_true, true_or, Bool.or_self, Bool.or_false, Bool.or_true, ne_eq, not_true_eq_false, not_false_eq_true, thenA, St.only, wkL, sl40, sz36, g1, g2, g3, g4, g5, l1, a1, a2, f64]
    exact ⟨k - 1, by omega, j + 1, by omega, rfl⟩
  · have hjn : j = ps.length := by omega
    have g1 : decide ((ps.length : Int) < (ps.length : Int)) = false := decide_eq_false (by omega)
    rw [hjn]
    refine XV_sound (esc := fun _ => false) orders hFG qFG _ _ _ ?_
    simp only [↓XV, isLoop, xOps, xStep, dOps, dRun, wild, yRun, yStep, yOp, cls, Am.dropL, aWant, xOp, xPure, rd, xCall, calleeAV, Option.bind_some, Option.bind_none, Option.map_some, Option.map_none, St.put, List.getD_cons_succ, List.getD_cons_zero, List.length_cons, List.length_nil, Array.toList, ofV, toV, ofC, List.set_cons_succ, List.set_cons_zero, List.cons_append, List.nil_append, List.append_nil, AV.cells?, newBox, St.setAt, boxCells, List.getElem?_cons_succ, List.getElem?_cons_zero, Nat.zero_add, Nat.add_zero, Option.any_some, Option.any_none, frame0, List.reduceReplicate, bin_i, bin_fl, bin_cadd, bin_csub, bin_cmul, bin_ceql, intBin, shiftBin, isShift, getB, strip, List.map_cons, List.map_nil, List.drop_zero, List.drop_succ_cons, AV.nrmL, AV.nrm, plainL, argCells, St.freezeIn, noRow, List.flatten_cons, List.flatten_nil, List.all_cons, List.all_nil, Option.getD_some, List.getElem?_toArray, Option.bind_fun_some, beq_true, beq_false, partsAV, xStoreOp, isOwn, isBox, xStore, setB, okScope, splice, AV.one, notW, AV.data, Nat.zero_le, decide_true, decide_false, Bool.false_or, Bool.true_or, idx, lenAV, finAV, resList, resOne, loadAV, single, AV.bel, AV.belL, List.take_zero, List.take_nil, List.take_succ_cons, Bool.false_eq_true, Bool.true_and, Bool.and_true, Bool.and_self, Bool.not_true, Bool.not_false, beq_self_eq_true, ↓reduceIte, reduceCtorEq, Nat.reduceLT, Nat.reduceAdd, Nat.reduceSub, Nat.reduceMul, Nat.reduceLeDiff, Nat.reducePow, Nat.reduceEqDiff, Nat.reduceBEq, Int.reduceLT, Int.reduceLE, Int.reduceGT, Int.reduceGE, Int.cast_ofNat_Int, Int.reduceBEq, Int.reduceSub, Int.reduceAdd, Int.reduceMul, Int.reduceToNat, Int.reduceEq, Int.reduceNeg, and_self, and_true, true_and, false_or, or_false, or_true, true_or, Bool.or_self, Bool.or_false, Bool.or_true, ne_eq, not_true_eq_false, not_false_eq_true, thenA, St.only, wkL, g1]
    refine XV_sound (esc := fun _ => false) orders hFG qFG _ _ _ ?_
    simp only [↓XV, isLoop, xOps, xStep, dOps, dRun, wild, yRun, yStep, yOp, cls, Am.dropL, aWant, xOp, xPure, rd, xCall, calleeAV, Option.bind_some, Option.bind_none, Option.map_some, Option.map_none, St.put, List.getD_cons_succ, List.getD_cons_zero, List.length_cons, List.length_nil, Array.toList, ofV, toV, ofC, List.set_cons_succ, List.set_cons_zero, List.cons_append, List.nil_append, List.append_nil, AV.cells?, newBox, St.setAt, boxCells, List.getElem?_cons_succ, List.getElem?_cons_zero, Nat.zero_add, Nat.add_zero, Option.any_some, Option.any_none, frame0, List.reduceReplicate, bin_i, bin_fl, bin_cadd, bin_csub, bin_cmul, bin_ceql, intBin, shiftBin, isShift, getB, strip, List.map_cons, List.map_nil, List.drop_zero, List.drop_succ_cons, AV.nrmL, AV.nrm, plainL, argCells, St.freezeIn, noRow, List.flatten_cons, List.flatten_nil, List.all_cons, List.all_nil, Option.getD_some, List.getElem?_toArray, Option.bind_fun_some, beq_true, beq_false, partsAV, xStoreOp, isOwn, isBox, xStore, setB, okScope, splice, AV.one, notW, AV.data, Nat.zero_le, decide_true, decide_false, Bool.false_or, Bool.true_or, idx, lenAV, finAV, resList, resOne, loadAV, single, AV.bel, AV.belL, List.take_zero, List.take_nil, List.take_succ_cons, Bool.false_eq_true, Bool.true_and, Bool.and_true, Bool.and_self, Bool.not_true, Bool.not_false, beq_self_eq_true, ↓reduceIte, reduceCtorEq, Nat.reduceLT, Nat.reduceAdd, Nat.reduceSub, Nat.reduceMul, Nat.reduceLeDiff, Nat.reducePow, Nat.reduceEqDiff, Nat.reduceBEq, Int.reduceLT, Int.reduceLE, Int.reduceGT, Int.reduceGE, Int.cast_ofNat_Int, Int.reduceBEq, Int.reduceSub, Int.reduceAdd, Int.reduceMul, Int.reduceToNat, Int.reduceEq, Int.reduceNeg, and_self, and_true, true_and, false_or, or_false, or_true, true_or, Bool.or_self, Bool.or_false, Bool.or_true, ne_eq, not_true_eq_false, not_false_eq_true, show Try.f20.results.toList = [.tmp 2] from rfl]

set_option maxRecDepth 8000 in
theorem sum19 (ps : List (Nat × Nat)) (h50 : ps.length ≤ 50) (hps : ∀ q ∈ ps, q.1 ≤ 2047 * 2 ^ 52 ∧ q.2 ≤ 2047 * 2 ^ 52) : ValidAt Try.prog 19 [.l ps.length (ofFl ps)] [] [] (.a [.s (.fl .f64 (sumL (ps.map (·.1)))), .s (.fl .f64 (sumL (ps.map (·.2))))]) [] [] := by
  obtain ⟨sx, x0, xn, xs, _⟩ := sum_steps (ps.map (·.1)) (fun x hx => by obtain ⟨q, hq, rfl⟩ := List.mem_map.1 hx; exact (hps q hq).1)
  obtain ⟨sy, y0, yn, ys, _⟩ := sum_steps (ps.map (·.2)) (fun x hx => by obtain ⟨q, hq, rfl⟩ := List.mem_map.1 hx; exact (hps q hq).2)
  rw [List.length_map] at xn yn
  rw [← xn, ← yn]
  refine valid_of_awp Try.func19 rfl (by simp [Try.ntmps19]) ?_
  refine XV_sound (esc := fun _ => false) orders hFG qFG _ _ _ ?_
  simp only [Try.ntmps19, ↓XV, isLoop, xOps, xStep, dOps, dRun, wild, yRun, yStep, yOp, cls, Am.dropL, aWant, xOp, xPure, rd, xCall, calleeAV, Option.bind_some, Option.bind_none, Option.map_some, Option.map_none, St.put, List.getD_cons_succ, List.getD_cons_zero, List.length_cons, List.length_nil, Array.toList, ofV, toV, ofC, List.set_cons_succ, List.set_cons_zero, List.cons_append, List.nil_append, List.append_nil, AV.cells?, newBox, St.setAt, boxCells, List.getElem?_cons_succ, List.getElem?_cons_zero, Nat.zero_add, Nat.add_zero, Option.any_some, Option.any_none, frame0, List.reduceReplicate, bin_i, bin_fl, bin_cadd, bin_csub, bin_cmul, bin_ceql, intBin, shiftBin, isShift, getB, strip, List.map_cons, List.map_nil, List.drop_zero, List.drop_succ_cons, AV.nrmL, AV.nrm, plainL, argCells, St.freezeIn, noRow, List.flatten_cons, List.flatten_nil, List.all_cons, List.all_nil, Option.getD_some, List.getElem?_toArray, Option.bind_fun_some, beq_true, beq_false, partsAV, xStoreOp, isOwn, isBox, xStore, setB, okScope, splice, AV.one, notW, AV.data, Nat.zero_le, decide_true, decide_false, Bool.false_or, Bool.true_or, idx, lenAV, finAV, resList, resOne, loadAV, single, AV.bel, AV.belL, List.take_zero, List.take_nil, List.take_succ_cons, Bool.false_eq_true, Bool.true_and, Bool.and_true, Bool.and_self, Bool.not_true, Bool.not_false, beq_self_eq_true, ↓reduceIte, reduceCtorEq, Nat.reduceLT, Nat.reduceAdd, Nat.reduceSub, Nat.reduceMul, Nat.reduceLeDiff, Nat.reducePow, Nat.reduceEqDiff, Nat.reduceBEq, Int.reduceLT, Int.reduceLE, Int.reduceGT, Int.reduceGE, Int.cast_ofNat_Int, Int.reduceBEq, Int.reduceSub, Int.reduceAdd, Int.reduceMul, Int.reduceToNat, Int.reduceEq, Int.reduceNeg, and_self, and_true, true_and, false_or, or_false, or_true, true_or, Bool.or_self, Bool.or_false, Bool.or_true, ne_eq, not_true_eq_false, not_false_eq_true, zero35, u41, show Try.f19.results.toList = [.cell 2 35] from rfl]
  refine AWP.loopK [true, false, true, true, true] (fun k st => ∃ j, j + k = ps.length ∧ st = ⟨[.l ps.length (ofFl ps), .u, .p (.s 2) 0, .p (.s 3) 0, .s (.i .i64 j)] ++ List.replicate 24 .u,
      [.dead, .dead, .box 35 [.s (.fl .f64 0), .s (.fl .f64 0)], .box 35 [.s (.fl .f64 (sx j)), .s (.fl .f64 (sy j))]] ++ List.replicate 25 .dead, []⟩) ps.length ?_ ?_
  · exact ⟨0, by omega, by rw [x0, y0]; rfl⟩
  rintro k st ⟨j, hj, rfl⟩
  by_cases hlt : j < ps.length
  · obtain ⟨g1, g2, g3, g4, g5⟩ := ix_facts hlt h50
    have a1 := xs j (by simpa using hlt)
    have a2 := ys j (by simpa using hlt)
    rw [List.getElem_map] at a1 a2
    have l1 := ofFl_drop ps hlt
    generalize ps[j].1 = x at *
    generalize ps[j].2 = y at *
    refine XV_sound (esc := fun _ => false) orders hFG qFG _ _ _ ?_
    simp only [↓XV, isLoop, xOps, xStep, dOps, dRun, wild, yRun, yStep, yOp, cls, Am.dropL, aWant, xOp, xPure, rd, xCall, calleeAV, Option.bind_some, Option.bind_none, Option.map_some, Option.map_none, St.put, List.getD_cons_succ, List.getD_cons_zero, List.length_cons, List.length_nil, Array.toList, ofV, toV, ofC, List.set_cons_succ, List.set_cons_zero, List.cons_append, List.nil_append, List.append_nil, AV.cells?, newBox, St.setAt, boxCells, List.getElem?_cons_succ, List.getElem?_cons_zero, Nat.zero_add, Nat.add_zero, Option.any_some, Option.any_none, frame0, List.reduceReplicate, bin_i, bin_fl, bin_cadd, bin_csub, bin_cmul, bin_ceql, intBin, shiftBin, isShift, getB, strip, List.map_cons, List.map_nil, List.drop_zero, List.drop_succ_cons, AV.nrmL, AV.nrm, plainL, argCells, St.freezeIn, noRow, List.flatten_cons, List.flatten_nil, List.all_cons, List.all_nil, Option.getD_some, List.getElem?_toArray, Option.bind_fun_some, beq_true, beq_false, partsAV, xStoreOp, isOwn, isBox, xStore, setB, okScope, splice, AV.one, notW, AV.data, Nat.zero_le, decide_true, decide_false, Bool.false_or, Bool.true_or, idx, lenAV, finAV, resList, resOne, loadAV, single, AV.bel, AV.belL, List.take_zero, List.take_nil, List.take_succ_cons, Bool.false_eq_true, Bool.true_and, Bool.and_true, Bool.and_self, Bool.not_true, Bool.not_false, beq_self_eq_true, ↓reduceIte, reduceCtorEq, Nat.reduceLT, Nat.reduceAdd, Nat.reduceSub, Nat.reduceMul, Nat.reduceLeDiff, Nat.reducePow, Nat.reduceEqDiff, Nat.reduceBEq, Int.reduceLT, Int.reduceLE, Int.reduceGT, Int.reduceGE, Int.cast_ofNat_Int, Int.reduceBEq, Int.reduceSub, Int.reduceAdd, Int.reduceMul, Int.reduceToNat, Int.reduceEq, Int.reduceNeg, and_self, and_true, true_and, false_or, or_false, or_true, true_or, Bool.or_self, Bool.or_false, Bool.or_true, ne_eq, not_true_eq_false, not_false_eq_true, thenA, St.only, wkL, u41, sl41, sz35, sz26, fo350, fo351, build35, pa26, pa35, g1, g2, g3, g4, g5, l1, a1, a2, f64]
    exact ⟨by kernel_rfl, k - 1, by omega, j + 1, by omega, rfl⟩
  · have hjn : j = ps.length := by omega
    have g1 : decide ((ps.length : Int) < (ps.length : Int)) = false := decide_eq_false (by omega)
    rw [hjn]
    refine XV_sound (esc := fun _ => false) orders hFG qFG _ _ _ ?_
    simp only [↓XV, isLoop, xOps, xStep, dOps, dRun, wild, yRun, yStep, yOp, cls, Am.dropL, aWant, xOp, xPure, rd, xCall, calleeAV, Option.bind_some, Option.bind_none, Option.map_some, Option.map_none, St.put, List.getD_cons_succ, List.getD_cons_zero, List.length_cons, List.length_nil, Array.toList, ofV, toV, ofC, List.set_cons_succ, List.set_cons_zero, List.cons_append, List.nil_append, List.append_nil, AV.cells?, newBox, St.setAt, boxCells, List.getElem?_cons_succ, List.getElem?_cons_zero, Nat.zero_add, Nat.add_zero, Option.any_some, Option.any_none, frame0, List.reduceReplicate, bin_i, bin_fl, bin_cadd, bin_csub, bin_cmul, bin_ceql, intBin, shiftBin, isShift, getB, strip, List.map_cons, List.map_nil, List.drop_zero, List.drop_succ_cons, AV.nrmL, AV.nrm, plainL, argCells, St.freezeIn, noRow, List.flatten_cons, List.flatten_nil, List.all_cons, List.all_nil, Option.getD_some, List.getElem?_toArray, Option.bind_fun_some, beq_true, beq_false, partsAV, xStoreOp, isOwn, isBox, xStore, setB, okScope, splice, AV.one, notW, AV.data, Nat.zero_le, decide_true, decide_false, Bool.false_or, Bool.true_or, idx, lenAV, finAV, resList, resOne, loadAV, single, AV.bel, AV.belL, List.take_zero, List.take_nil, List.take_succ_cons, Bool.false_eq_true, Bool.true_and, Bool.and_true, Bool.and_self, Bool.not_true, Bool.not_false, beq_self_eq_true, ↓reduceIte, reduceCtorEq, Nat.reduceLT, Nat.reduceAdd, Nat.reduceSub, Nat.reduceMul, Nat.reduceLeDiff, Nat.reducePow, Nat.reduceEqDiff, Nat.reduceBEq, Int.reduceLT, Int.reduceLE, Int.reduceGT, Int.reduceGE, Int.cast_ofNat_Int, Int.reduceBEq, Int.reduceSub, Int.reduceAdd, Int.reduceMul, Int.reduceToNat, Int.reduceEq, Int.reduceNeg, and_self, and_true, true_and, false_or, or_false, or_true, true_or, Bool.or_self, Bool.or_false, Bool.or_true, ne_eq, not_true_eq_false, not_false_eq_true, thenA, St.only, wkL, u41, g1]
    refine XV_sound (esc := fun _ => false) orders hFG qFG _ _ _ ?_
    simp only [↓XV, isLoop, xOps, xStep, dOps, dRun, wild, yRun, yStep, yOp, cls, Am.dropL, aWant, xOp, xPure, rd, xCall, calleeAV, Option.bind_some, Option.bind_none, Option.map_some, Option.map_none, St.put, List.getD_cons_succ, List.getD_cons_zero, List.length_cons, List.length_nil, Array.toList, ofV, toV, ofC, List.set_cons_succ, List.set_cons_zero, List.cons_append, List.nil_append, List.append_nil, AV.cells?, newBox, St.setAt, boxCells, List.getElem?_cons_succ, List.getElem?_cons_zero, Nat.zero_add, Nat.add_zero, Option.any_some, Option.any_none, frame0, List.reduceReplicate, bin_i, bin_fl, bin_cadd, bin_csub, bin_cmul, bin_ceql, intBin, shiftBin, isShift, getB, strip, List.map_cons, List.map_nil, List.drop_zero, List.drop_succ_cons, AV.nrmL, AV.nrm, plainL, argCells, St.freezeIn, noRow, List.flatten_cons, List.flatten_nil, List.all_cons, List.all_nil, Option.getD_some, List.getElem?_toArray, Option.bind_fun_some, beq_true, beq_false, partsAV, xStoreOp, isOwn, isBox, xStore, setB, okScope, splice, AV.one, notW, AV.data, Nat.zero_le, decide_true, decide_false, Bool.false_or, Bool.true_or, idx, lenAV, finAV, resList, resOne, loadAV, single, AV.bel, AV.belL, List.take_zero, List.take_nil, List.take_succ_cons, Bool.false_eq_true, Bool.true_and, Bool.and_true, Bool.and_self, Bool.not_true, Bool.not_false, beq_self_eq_true, ↓reduceIte, reduceCtorEq, Nat.reduceLT, Nat.reduceAdd, Nat.reduceSub, Nat.reduceMul, Nat.reduceLeDiff, Nat.reducePow, Nat.reduceEqDiff, Nat.reduceBEq, Int.reduceLT, Int.reduceLE, Int.reduceGT, Int.reduceGE, Int.cast_ofNat_Int, Int.reduceBEq, Int.reduceSub, Int.reduceAdd, Int.reduceMul, Int.reduceToNat, Int.reduceEq, Int.reduceNeg, and_self, and_true, true_and, false_or, or_false, or_true, true_or, Bool.or_self, Bool.or_false, Bool.or_true, ne_eq, not_true_eq_false, not_false_eq_true, pa35, sz35, show Try.f19.results.toList = [.cell 2 35] from rfl]

theorem k20 (ps : List (Nat × Nat)) (h50 : ps.length ≤ 50) (hps : ∀ q ∈ ps, q.1 ≤ 2047 * 2 ^ 52 ∧ q.2 ≤ 2047 * 2 ^ 52) (S O : List Blk) : FG 20 [.l ps.length (ofCx ps)] S O = some (.s (.cx .f64 (sumL (ps.map (·.1))) (sumL (ps.map (·.2)))), S, O) :=
  FK_eq (sum20 ps h50 hps) (by simp only [gg, g20, cxL_of]) rfl rfl S O
theorem k19 (ps : List (Nat × Nat)) (h50 : ps.length ≤ 50) (hps : ∀ q ∈ ps, q.1 ≤ 2047 * 2 ^ 52 ∧ q.2 ≤ 2047 * 2 ^ 52) (S O : List Blk) : FG 19 [.l ps.length (ofFl ps)] S O = some (.a [.s (.fl .f64 (sumL (ps.map (·.1)))), .s (.fl .f64 (sumL (ps.map (·.2))))], S, O) :=
  FK_eq (sum19 ps h50 hps) (by simp only [gg, g19, flL_of]) rfl rfl S O
end Go.Am
