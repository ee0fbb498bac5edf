/-
  THE WALKS: points of a list.
-/
import Derived.Test.YtgbkilmgmnhokaaG19
import Derived.Test.YtgbkilmgmnhokaaMB
set_option linter.unusedSimpArgs false
set_option linter.unusedVariables false
namespace Go.Am
open Go Go.Proofs Go.Fl

theorem i36 : (Try.prog.info? 36).map (fun i => (i.size, i.bytes)) = some (1, 16) := by kernel_rfl
theorem i35 : (Try.prog.info? 35).map (fun i => (i.size, i.bytes)) = some (2, 16) := by kernel_rfl
theorem sl40 : sliceO Try.prog 40 = some 36 := by kernel_rfl
theorem sl41 : sliceO Try.prog 41 = some 35 := by kernel_rfl
theorem sl39 : sliceO Try.prog 39 = some 48 := by kernel_rfl
theorem sz48 : szO Try.prog 48 = some 8 := by kernel_rfl
theorem z36 : zeroO Try.prog 36 = some [.complex .f64 0 0] := by kernel_rfl
theorem u39 : Try.prog.underlying 39 = some (.slice 48) := by kernel_rfl
theorem u40 : Try.prog.underlying 40 = some (.slice 36) := by kernel_rfl
theorem u41 : Try.prog.underlying 41 = some (.slice 35) := by kernel_rfl

def lit1 (P : Program) (t : TypeId) (v : AV) : Option Blk := litRow P t 1 #[(0, .tmp 0)] [v]
theorem litRow_one {P : Program} {t : TypeId} {x : Operand} {env : List AV} : litRow P t 1 #[(0, x)] env = lit1 P t (rd env x) := rfl
theorem lit40 (a b : Nat) : lit1 Try.prog 40 (.s (.cx .f64 a b)) = some (.row 36 1 1 [.s (.cx .f64 a b)]) := by kernel_rfl
theorem lit41 (a b : Nat) : lit1 Try.prog 41 (.a [.s (.fl .f64 a), .s (.fl .f64 b)]) = some (.row 35 2 1 [.s (.fl .f64 a), .s (.fl .f64 b)]) := by kernel_rfl

/-- An append, where the type's sizes are known. -/
def apAV (e sz by' base : Nat) (d : Option Nat) (s : AV) (x : Operand) (st : St) : Option (AV × St) :=
  match dstAV base d e sz s st with
  | some (m, st1) =>
    match st1.S[m]?, srcAV st1 m (rd st1.env x) with
    | some (.row e' sz' n cs), some (k, xs) =>
      if e' = e ∧ sz' = sz ∧ xs.length = k * sz ∧ n + k ≤ maxLen ∧ (n + k) * by' ≤ 140737488355328 then
        some (.r m, st1.giveTo base m (fun _ => .u) .u (.row e sz (n + k) (cs ++ xs)))
      else none
    | _, _ => none
  | none => none

theorem ap_gen {t e sz by' base : Nat} {d : Option Nat} {s x : Operand} {st : St} {z : List Value} (h1 : sliceO Try.prog t = some e) (h2 : (Try.prog.info? e).map (fun i => (i.size, i.bytes)) = some (sz, by')) (h3 : zeroO Try.prog e = some z) (h4 : z.length = sz) :
    xAppend Try.prog base d t t s x st = apAV e sz by' base d (rd st.env s) x st := by
  obtain ⟨ie, hi, he⟩ := Option.map_eq_some_iff.1 h2
  simp only [Prod.mk.injEq] at he
  obtain ⟨rfl, rfl⟩ := he
  unfold xAppend apAV
  simp only [if_true, h1, hi, h3, h4, true_and]
  rfl
theorem ap40 {base : Nat} {d : Option Nat} {s x : Operand} {st : St} : xAppend Try.prog base d 40 40 s x st = apAV 36 1 16 base d (rd st.env s) x st := ap_gen sl40 i36 z36 rfl
theorem ap41 {base : Nat} {d : Option Nat} {s x : Operand} {st : St} : xAppend Try.prog base d 41 41 s x st = apAV 35 2 16 base d (rd st.env s) x st := ap_gen sl41 i35 zero35 rfl

/-- Two numbers' parts. -/
structure T8 where
  a0 : Nat
  a1 : Nat
  a2 : Nat
  a3 : Nat
  b0 : Nat
  b1 : Nat
  b2 : Nat
  b3 : Nat

def T8.cells (t : T8) : List AV := [.s (.i .u64 t.a0), .s (.i .u64 t.a1), .s (.i .u64 t.a2), .s (.i .u64 t.a3), .s (.i .u64 t.b0), .s (.i .u64 t.b1), .s (.i .u64 t.b2), .s (.i .u64 t.b3)]
def T8.ok (t : T8) : Prop := t.a0 < 2 ^ 64 ∧ t.a1 < 2 ^ 64 ∧ t.a2 < 2 ^ 64 ∧ t.a3 < 2 ^ 64 ∧ t.b0 < 2 ^ 64 ∧ t.b1 < 2 ^ 64 ∧ t.b2 < 2 ^ 64 ∧ t.b3 < 2 ^ 64
def T8.x (t : T8) : Nat := nr (num t.a0 t.a1 t.a2 t.a3)
def T8.y (t : T8) : Nat := nr (num t.b0 t.b1 t.b2 t.b3)
def cellsOf (L : List T8) : List AV := L.flatMap T8.cells
def cxs (L : List T8) : List AV := L.map fun t => .s (.cx .f64 t.x t.y)
def fls (L : List T8) : List AV := L.flatMap fun t => [.s (.fl .f64 t.x), .s (.fl .f64 t.y)]

theorem cells_drop (L : List T8) {j : Nat} (h : j < L.length) : (cellsOf L).drop (j * 8) = L[j].cells ++ cellsOf (L.drop (j + 1)) := by
  induction L generalizing j with
  | nil => simp at h
  | cons t L ih =>
    cases j with
    | zero => rfl
    | succ j =>
      have e : (j + 1) * 8 = 8 + j * 8 := by omega
      have h' : j < L.length := by simpa using h
      rw [e, ← List.drop_drop]
      show (cellsOf L).drop (j * 8) = _
      rw [ih h']
      simp

theorem pa24c (a0 a1 a2 a3 : Nat) (r : List AV) : partAV Try.prog 24 (.s (.i .u64 a0) :: .s (.i .u64 a1) :: .s (.i .u64 a2) :: .s (.i .u64 a3) :: r) 0 = some (.a [.s (.i .u64 a0), .s (.i .u64 a1), .s (.i .u64 a2), .s (.i .u64 a3)]) := by kernel_rfl

theorem cxs_take (L : List T8) {j : Nat} (h : j < L.length) : cxs (L.take (j + 1)) = cxs (L.take j) ++ [.s (.cx .f64 L[j].x L[j].y)] := by
  rw [List.take_succ_eq_append_getElem h]; unfold cxs; rw [List.map_append]; rfl
theorem fls_take (L : List T8) {j : Nat} (h : j < L.length) : fls (L.take (j + 1)) = fls (L.take j) ++ [.s (.fl .f64 L[j].x), .s (.fl .f64 L[j].y)] := by
  rw [List.take_succ_eq_append_getElem h]; unfold fls; rw [List.flatMap_append]; rfl

theorem T8.isA {t : T8} (h : t.ok) : isNum [.s (.i .u64 t.a0), .s (.i .u64 t.a1), .s (.i .u64 t.a2), .s (.i .u64 t.a3)] (num t.a0 t.a1 t.a2 t.a3) := ⟨_, _, _, _, h.1, h.2.1, h.2.2.1, h.2.2.2.1, rfl, rfl⟩
theorem T8.isB {t : T8} (h : t.ok) : isNum [.s (.i .u64 t.b0), .s (.i .u64 t.b1), .s (.i .u64 t.b2), .s (.i .u64 t.b3)] (num t.b0 t.b1 t.b2 t.b3) := ⟨_, _, _, _, h.2.2.2.2.1, h.2.2.2.2.2.1, h.2.2.2.2.2.2.1, h.2.2.2.2.2.2.2, rfl, rfl⟩

/-- The state after so many rounds. -/
def ptS (L : List T8) : Nat → St
  | 0 => ⟨[.l L.length (cellsOf L), .u, .s .sn, .s .sn, .s .sn, .s .sn, .s (.i .i64 0)] ++ List.replicate 38 .u, List.replicate 45 .dead, []⟩
  | j + 1 => ⟨[.l L.length (cellsOf L), .u, .s .sn, .s .sn, .r 26, .r 42, .s (.i .i64 ((j + 1 : Nat) : Int))] ++ List.replicate 38 .u,
      List.replicate 25 .dead ++ [.row 36 1 1 [(cxs (L.drop j)).headD .u], .row 36 1 (j + 1) (cxs (L.take (j + 1)))] ++ List.replicate 14 .dead ++ [.row 35 2 1 ((fls (L.drop j)).take 2), .row 35 2 (j + 1) (fls (L.take (j + 1)))] ++ List.replicate 2 .dead, []⟩

theorem pt_facts {L : List T8} {j : Nat} (h : j < L.length) (h50 : L.length ≤ 50) :
    decide ((j : Int) < (L.length : Int)) = true ∧ (0 ≤ (j : Int)) = True ∧ ((j : Int) < (L.length : Int)) = True ∧ (j : Int).toNat = j ∧ IntKind.i64.wrap ((j : Int) + 1) = ((j + 1 : Nat) : Int) := by
  refine ⟨decide_eq_true (by omega), eq_true (by omega), eq_true (by omega), Int.toNat_natCast _, ?_⟩
  rw [wrap64 (by omega) (by omega)]; omega

theorem mx_facts {j : Nat} (h : j < 50) : (j + 1 ≤ maxLen) = True ∧ ((j + 1) * 16 ≤ 140737488355328) = True := by
  have hm : 1000 ≤ maxLen := by decide +kernel
  exact ⟨eq_true (by omega), eq_true (by omega)⟩

theorem len_cxs (L : List T8) (j : Nat) (h : j ≤ L.length) : (cxs (L.take j)).length = j := by simp [cxs]; omega

set_option maxRecDepth 8000 in
theorem points18 (L : List T8) (hlen : L.length ≤ 50) (hok : ∀ t ∈ L, t.ok) : ValidAt Try.prog 18 [.l L.length (cellsOf L)] [] [] (.t [.l L.length (cxs L), .l L.length (fls L)]) [] [] := by
  refine valid_of_awp Try.func18 rfl (by simp [Try.ntmps18]) ?_
  refine XV_sound (esc := fun _ => false) orders hFG qFG _ _ _ ?_
  simp only [Try.ntmps18, ↓XV, isLoop, xOps, xStep, dOps, dRun, wild, yRun, yStep, yOp, cls, Am.dropL, aWant, xOp, xPure, rd, xCall, calleeAV, Option.bind_some, Option.bind_none, Option.map_some, Option.map_none, St.put, List.getD_cons_succ, List.getD_cons_zero, List.length_cons, List.length_nil, Array.toList, ofV, toV, ofC, List.set_cons_succ, List.set_cons_zero, List.cons_append, List.nil_append, List.append_nil, AV.cells?, newBox, St.setAt, boxCells, List.getElem?_cons_succ, List.getElem?_cons_zero, Nat.zero_add, Nat.add_zero, Option.any_some, Option.any_none, frame0, List.reduceReplicate, bin_i, bin_fl, bin_cadd, bin_csub, bin_cmul, bin_ceql, intBin, shiftBin, isShift, getB, strip, List.map_cons, List.map_nil, List.drop_zero, List.drop_succ_cons, AV.nrmL, AV.nrm, plainL, argCells, St.freezeIn, noRow, List.flatten_cons, List.flatten_nil, List.all_cons, List.all_nil, Option.getD_some, List.getElem?_toArray, Option.bind_fun_some, beq_true, beq_false, partsAV, xStoreOp, isOwn, isBox, xStore, setB, okScope, splice, AV.one, notW, AV.data, Nat.zero_le, decide_true, decide_false, Bool.false_or, Bool.true_or, idx, lenAV, finAV, resList, resOne, loadAV, single, AV.bel, AV.belL, List.take_zero, List.take_nil, List.take_succ_cons, Bool.false_eq_true, Bool.true_and, Bool.and_true, Bool.and_self, Bool.not_true, Bool.not_false, beq_self_eq_true, ↓reduceIte, reduceCtorEq, Nat.reduceLT, Nat.reduceAdd, Nat.reduceSub, Nat.reduceMul, Nat.reduceLeDiff, Nat.reducePow, Nat.reduceEqDiff, Nat.reduceBEq, Int.reduceLT, Int.reduceLE, Int.reduceGT, Int.reduceGE, Int.cast_ofNat_Int, Int.reduceBEq, Int.reduceSub, Int.reduceAdd, Int.reduceMul, Int.reduceToNat, Int.reduceEq, Int.reduceNeg, and_self, and_true, true_and, false_or, or_false, or_true, true_or, Bool.or_self, Bool.or_false, Bool.or_true, ne_eq, not_true_eq_false, not_false_eq_true, show Try.f18.results.toList = [.tmp 2, .tmp 3] from rfl]
  refine AWP.loopK [true, false, true, true, true, true, true] (fun k st => ∃ j, j + k = L.length ∧ st = ptS L j) L.length ?_ ?_
  · exact ⟨0, by omega, rfl⟩
  rintro k st ⟨j, hj, rfl⟩
  by_cases hlt : j < L.length
  · obtain ⟨g1, g2, g3, g4, g5⟩ := pt_facts hlt hlen
    have hd := cells_drop L hlt
    have ht1 := cxs_take L hlt
    have ht2 := fls_take L hlt
    obtain ⟨m1, m2⟩ := mx_facts (j := j) (by omega)
    have hk := hok L[j] (List.getElem_mem hlt)
    have f17 := (T8.isA hk).f17 (T8.isB hk)
    have f13a := (T8.isA hk).f13
    have f13b := (T8.isB hk).f13
    have hc : (cxs (L.drop j)).headD .u = .s (.cx .f64 L[j].x L[j].y) := by rw [List.drop_eq_getElem_cons hlt]; rfl
    have hf : (fls (L.drop j)).take 2 = [.s (.fl .f64 L[j].x), .s (.fl .f64 L[j].y)] := by rw [List.drop_eq_getElem_cons hlt]; rfl
    have hpost : ptS L (j + 1) = ⟨[.l L.length (cellsOf L), .u, .s .sn, .s .sn, .r 26, .r 42, .s (.i .i64 ((j + 1 : Nat) : Int))] ++ List.replicate 38 .u,
      List.replicate 25 .dead ++ [.row 36 1 1 [.s (.cx .f64 L[j].x L[j].y)], .row 36 1 (j + 1) (cxs (L.take j) ++ [.s (.cx .f64 L[j].x L[j].y)])] ++ List.replicate 14 .dead ++ [.row 35 2 1 [.s (.fl .f64 L[j].x), .s (.fl .f64 L[j].y)], .row 35 2 (j + 1) (fls (L.take j) ++ [.s (.fl .f64 L[j].x), .s (.fl .f64 L[j].y)])] ++ List.replicate 2 .dead, []⟩ := by
      simp only [ptS]; rw [hc, hf, ht1, ht2]
    have e1 : T8.x L[j] = nr (num L[j].a0 L[j].a1 L[j].a2 L[j].a3) := rfl
    have e2 : T8.y L[j] = nr (num L[j].b0 L[j].b1 L[j].b2 L[j].b3) := rfl
    rw [← e1, ← e2] at f17
    rw [← e1] at f13a
    rw [← e2] at f13b
    have hcell : L[j].cells = [.s (.i .u64 L[j].a0), .s (.i .u64 L[j].a1), .s (.i .u64 L[j].a2), .s (.i .u64 L[j].a3), .s (.i .u64 L[j].b0), .s (.i .u64 L[j].b1), .s (.i .u64 L[j].b2), .s (.i .u64 L[j].b3)] := rfl
    rw [hcell] at hd
    clear e1 e2 hcell hk hc hf ht1 ht2
    generalize L[j].x = x at *
    generalize L[j].y = y at *
    generalize L[j].a0 = a0 at *
    generalize L[j].a1 = a1 at *
    generalize L[j].a2 = a2 at *
    generalize L[j].a3 = a3 at *
    generalize L[j].b0 = b0 at *
    generalize L[j].b1 = b1 at *
    generalize L[j].b2 = b2 at *
    generalize L[j].b3 = b3 at *
    have m3 : (1 ≤ maxLen) = True := eq_true (by decide +kernel)
    by_cases hj0 : j = 0
    · have hs : ptS L j = ⟨[.l L.length (cellsOf L), .u, .s .sn, .s .sn, .s .sn, .s .sn, .s (.i .i64 (j : Int))] ++ List.replicate 38 .u, List.replicate 45 .dead, []⟩ := by subst hj0; rfl
      have hpost0 : ptS L (j + 1) = ⟨[.l L.length (cellsOf L), .u, .s .sn, .s .sn, .r 26, .r 42, .s (.i .i64 ((j + 1 : Nat) : Int))] ++ List.replicate 38 .u,
        List.replicate 25 .dead ++ [.row 36 1 1 [.s (.cx .f64 x y)], .row 36 1 1 [.s (.cx .f64 x y)]] ++ List.replicate 14 .dead ++ [.row 35 2 1 [.s (.fl .f64 x), .s (.fl .f64 y)], .row 35 2 1 [.s (.fl .f64 x), .s (.fl .f64 y)]] ++ List.replicate 2 .dead, []⟩ := by
        rw [hpost]; subst hj0; rfl
      rw [hs]
      refine XV_sound (esc := fun _ => false) orders hFG qFG _ _ _ ?_
      simp only [↓XV, isLoop, xOps, xStep, dOps, dRun, wild, yRun, yStep, yOp, cls, Am.dropL, aWant, xOp, xPure, rd, xCall, calleeAV, Option.bind_some, Option.bind_none, Option.map_some, Option.map_none, St.put, List.getD_cons_succ, List.getD_cons_zero, List.length_cons, List.length_nil, Array.toList, ofV, toV, ofC, List.set_cons_succ, List.set_cons_zero, List.cons_append, List.nil_append, List.append_nil, AV.cells?, newBox, St.setAt, boxCells, List.getElem?_cons_succ, List.getElem?_cons_zero, Nat.zero_add, Nat.add_zero, Option.any_some, Option.any_none, frame0, List.reduceReplicate, bin_i, bin_fl, bin_cadd, bin_csub, bin_cmul, bin_ceql, intBin, shiftBin, isShift, getB, strip, List.map_cons, List.map_nil, List.drop_zero, List.drop_succ_cons, AV.nrmL, AV.nrm, plainL, argCells, St.freezeIn, noRow, List.flatten_cons, List.flatten_nil, List.all_cons, List.all_nil, Option.getD_some, List.getElem?_toArray, Option.bind_fun_some, beq_true, beq_false, partsAV, xStoreOp, isOwn, isBox, xStore, setB, okScope, splice, AV.one, notW, AV.data, Nat.zero_le, decide_true, decide_false, Bool.false_or, Bool.true_or, idx, lenAV, finAV, resList, resOne, loadAV, single, AV.bel, AV.belL, List.take_zero, List.take_nil, List.take_succ_cons, Bool.false_eq_true, Bool.true_and, Bool.and_true, Bool.and_self, Bool.not_true, Bool.not_false, beq_self_eq_true, ↓reduceIte, reduceCtorEq, Nat.reduceLT, Nat.reduceAdd, Nat.reduceSub, Nat.reduceMul, Nat.reduceLeDiff, Nat.reducePow, Nat.reduceEqDiff, Nat.reduceBEq, Int.reduceLT, Int.reduceLE, Int.reduceGT, Int.reduceGE, Int.cast_ofNat_Int, Int.reduceBEq, Int.reduceSub, Int.reduceAdd, Int.reduceMul, Int.reduceToNat, Int.reduceEq, Int.reduceNeg, and_self, and_true, true_and, false_or, or_false, or_true, true_or, Bool.or_self, Bool.or_false, Bool.or_true, ne_eq, not_true_eq_false, not_false_eq_true, thenA, St.only, wkL, u39, sl39, sz48, fo480, fo481, sz24, pa24c, hb17, hb13, f17, f13a, f13b, build35, litRow_one, lit40, lit41, ap40, ap41, apAV, dstAV, srcAV, St.giveTo, AV.subL, AV.sub, Blk.sub, List.mapIdx_cons, List.mapIdx_nil, g1, g2, g3, g4, g5, m1, m2, m3, hd]
      refine ⟨by kernel_rfl, by kernel_rfl, k - 1, by omega, j + 1, by omega, ?_⟩
      rw [hpost0]; rfl
    · obtain ⟨c, d, hs⟩ : ∃ c d, ptS L j = ⟨[.l L.length (cellsOf L), .u, .s .sn, .s .sn, .r 26, .r 42, .s (.i .i64 (j : Int))] ++ List.replicate 38 .u,
          List.replicate 25 .dead ++ [.row 36 1 1 c, .row 36 1 j (cxs (L.take j))] ++ List.replicate 14 .dead ++ [.row 35 2 1 d, .row 35 2 j (fls (L.take j))] ++ List.replicate 2 .dead, []⟩ := by
        obtain ⟨i, rfl⟩ : ∃ i, j = i + 1 := ⟨j - 1, by omega⟩
        exact ⟨_, _, rfl⟩
      rw [hs]
      generalize cxs (L.take j) = P at *
      generalize fls (L.take j) = Q at *
      refine XV_sound (esc := fun _ => false) orders hFG qFG _ _ _ ?_
      simp only [↓XV, isLoop, xOps, xStep, dOps, dRun, wild, yRun, yStep, yOp, cls, Am.dropL, aWant, xOp, xPure, rd, xCall, calleeAV, Option.bind_some, Option.bind_none, Option.map_some, Option.map_none, St.put, List.getD_cons_succ, List.getD_cons_zero, List.length_cons, List.length_nil, Array.toList, ofV, toV, ofC, List.set_cons_succ, List.set_cons_zero, List.cons_append, List.nil_append, List.append_nil, AV.cells?, newBox, St.setAt, boxCells, List.getElem?_cons_succ, List.getElem?_cons_zero, Nat.zero_add, Nat.add_zero, Option.any_some, Option.any_none, frame0, List.reduceReplicate, bin_i, bin_fl, bin_cadd, bin_csub, bin_cmul, bin_ceql, intBin, shiftBin, isShift, getB, strip, List.map_cons, List.map_nil, List.drop_zero, List.drop_succ_cons, AV.nrmL, AV.nrm, plainL, argCells, St.freezeIn, noRow, List.flatten_cons, List.flatten_nil, List.all_cons, List.all_nil, Option.getD_some, List.getElem?_toArray, Option.bind_fun_some, beq_true, beq_false, partsAV, xStoreOp, isOwn, isBox, xStore, setB, okScope, splice, AV.one, notW, AV.data, Nat.zero_le, decide_true, decide_false, Bool.false_or, Bool.true_or, idx, lenAV, finAV, resList, resOne, loadAV, single, AV.bel, AV.belL, List.take_zero, List.take_nil, List.take_succ_cons, Bool.false_eq_true, Bool.true_and, Bool.and_true, Bool.and_self, Bool.not_true, Bool.not_false, beq_self_eq_true, ↓reduceIte, reduceCtorEq, Nat.reduceLT, Nat.reduceAdd, Nat.reduceSub, Nat.reduceMul, Nat.reduceLeDiff, Nat.reducePow, Nat.reduceEqDiff, Nat.reduceBEq, Int.reduceLT, Int.reduceLE, Int.reduceGT, Int.reduceGE, Int.cast_ofNat_Int, Int.reduceBEq, Int.reduceSub, Int.reduceAdd, Int.reduceMul, Int.reduceToNat, Int.reduceEq, Int.reduceNeg, and_self, and_true, true_and, false_or, or_false, or_true, true_or, Bool.or_self, Bool.or_false, Bool.or_true, ne_eq, not_true_eq_false, not_false_eq_true, thenA, St.only, wkL, u39, sl39, sz48, fo480, fo481, sz24, pa24c, hb17, hb13, f17, f13a, f13b, build35, litRow_one, lit40, lit41, ap40, ap41, apAV, dstAV, srcAV, St.giveTo, AV.subL, AV.sub, Blk.sub, List.mapIdx_cons, List.mapIdx_nil, g1, g2, g3, g4, g5, m1, m2, m3, hd]
      refine ⟨by kernel_rfl, by kernel_rfl, k - 1, by omega, j + 1, by omega, ?_⟩
      rw [hpost]; rfl
  · have hjn : j = L.length := by omega
    have g1 : decide ((j : Int) < (L.length : Int)) = false := decide_eq_false (by omega)
    by_cases hj0 : j = 0
    · have hs : ptS L j = ⟨[.l L.length (cellsOf L), .u, .s .sn, .s .sn, .s .sn, .s .sn, .s (.i .i64 (j : Int))] ++ List.replicate 38 .u, List.replicate 45 .dead, []⟩ := by subst hj0; rfl
      have hL : L = [] := List.length_eq_zero_iff.1 (by omega)
      rw [hs]
      refine XV_sound (esc := fun _ => false) orders hFG qFG _ _ _ ?_
      simp only [↓XV, isLoop, xOps, xStep, dOps, dRun, wild, yRun, yStep, yOp, cls, Am.dropL, aWant, xOp, xPure, rd, xCall, calleeAV, Option.bind_some, Option.bind_none, Option.map_some, Option.map_none, St.put, List.getD_cons_succ, List.getD_cons_zero, List.length_cons, List.length_nil, Array.toList, ofV, toV, ofC, List.set_cons_succ, List.set_cons_zero, List.cons_append, List.nil_append, List.append_nil, AV.cells?, newBox, St.setAt, boxCells, List.getElem?_cons_succ, List.getElem?_cons_zero, Nat.zero_add, Nat.add_zero, Option.any_some, Option.any_none, frame0, List.reduceReplicate, bin_i, bin_fl, bin_cadd, bin_csub, bin_cmul, bin_ceql, intBin, shiftBin, isShift, getB, strip, List.map_cons, List.map_nil, List.drop_zero, List.drop_succ_cons, AV.nrmL, AV.nrm, plainL, argCells, St.freezeIn, noRow, List.flatten_cons, List.flatten_nil, List.all_cons, List.all_nil, Option.getD_some, List.getElem?_toArray, Option.bind_fun_some, beq_true, beq_false, partsAV, xStoreOp, isOwn, isBox, xStore, setB, okScope, splice, AV.one, notW, AV.data, Nat.zero_le, decide_true, decide_false, Bool.false_or, Bool.true_or, idx, lenAV, finAV, resList, resOne, loadAV, single, AV.bel, AV.belL, List.take_zero, List.take_nil, List.take_succ_cons, Bool.false_eq_true, Bool.true_and, Bool.and_true, Bool.and_self, Bool.not_true, Bool.not_false, beq_self_eq_true, ↓reduceIte, reduceCtorEq, Nat.reduceLT, Nat.reduceAdd, Nat.reduceSub, Nat.reduceMul, Nat.reduceLeDiff, Nat.reducePow, Nat.reduceEqDiff, Nat.reduceBEq, Int.reduceLT, Int.reduceLE, Int.reduceGT, Int.reduceGE, Int.cast_ofNat_Int, Int.reduceBEq, Int.reduceSub, Int.reduceAdd, Int.reduceMul, Int.reduceToNat, Int.reduceEq, Int.reduceNeg, and_self, and_true, true_and, false_or, or_false, or_true, true_or, Bool.or_self, Bool.or_false, Bool.or_true, ne_eq, not_true_eq_false, not_false_eq_true, thenA, St.only, wkL, St.freezeRow, St.give, St.giveTo, AV.subL, AV.sub, Blk.sub, List.mapIdx_cons, List.mapIdx_nil, u39, g1]
      refine XV_sound (esc := fun _ => false) orders hFG qFG _ _ _ ?_
      simp only [↓XV, isLoop, xOps, xStep, dOps, dRun, wild, yRun, yStep, yOp, cls, Am.dropL, aWant, xOp, xPure, rd, xCall, calleeAV, Option.bind_some, Option.bind_none, Option.map_some, Option.map_none, St.put, List.getD_cons_succ, List.getD_cons_zero, List.length_cons, List.length_nil, Array.toList, ofV, toV, ofC, List.set_cons_succ, List.set_cons_zero, List.cons_append, List.nil_append, List.append_nil, AV.cells?, newBox, St.setAt, boxCells, List.getElem?_cons_succ, List.getElem?_cons_zero, Nat.zero_add, Nat.add_zero, Option.any_some, Option.any_none, frame0, List.reduceReplicate, bin_i, bin_fl, bin_cadd, bin_csub, bin_cmul, bin_ceql, intBin, shiftBin, isShift, getB, strip, List.map_cons, List.map_nil, List.drop_zero, List.drop_succ_cons, AV.nrmL, AV.nrm, plainL, argCells, St.freezeIn, noRow, List.flatten_cons, List.flatten_nil, List.all_cons, List.all_nil, Option.getD_some, List.getElem?_toArray, Option.bind_fun_some, beq_true, beq_false, partsAV, xStoreOp, isOwn, isBox, xStore, setB, okScope, splice, AV.one, notW, AV.data, Nat.zero_le, decide_true, decide_false, Bool.false_or, Bool.true_or, idx, lenAV, finAV, resList, resOne, loadAV, single, AV.bel, AV.belL, List.take_zero, List.take_nil, List.take_succ_cons, Bool.false_eq_true, Bool.true_and, Bool.and_true, Bool.and_self, Bool.not_true, Bool.not_false, beq_self_eq_true, ↓reduceIte, reduceCtorEq, Nat.reduceLT, Nat.reduceAdd, Nat.reduceSub, Nat.reduceMul, Nat.reduceLeDiff, Nat.reducePow, Nat.reduceEqDiff, Nat.reduceBEq, Int.reduceLT, Int.reduceLE, Int.reduceGT, Int.reduceGE, Int.cast_ofNat_Int, Int.reduceBEq, Int.reduceSub, Int.reduceAdd, Int.reduceMul, Int.reduceToNat, Int.reduceEq, Int.reduceNeg, and_self, and_true, true_and, false_or, or_false, or_true, true_or, Bool.or_self, Bool.or_false, Bool.or_true, ne_eq, not_true_eq_false, not_false_eq_true, thenA, St.only, wkL, St.freezeRow, St.give, St.giveTo, AV.subL, AV.sub, Blk.sub, List.mapIdx_cons, List.mapIdx_nil, u39, g1, show Try.f18.results.toList = [.tmp 2, .tmp 3] from rfl]
      subst hL; rfl
    · obtain ⟨c, d, hs⟩ : ∃ c d, ptS L j = ⟨[.l L.length (cellsOf L), .u, .s .sn, .s .sn, .r 26, .r 42, .s (.i .i64 (j : Int))] ++ List.replicate 38 .u,
          List.replicate 25 .dead ++ [.row 36 1 1 c, .row 36 1 j (cxs (L.take j))] ++ List.replicate 14 .dead ++ [.row 35 2 1 d, .row 35 2 j (fls (L.take j))] ++ List.replicate 2 .dead, []⟩ := by
        obtain ⟨i, rfl⟩ : ∃ i, j = i + 1 := ⟨j - 1, by omega⟩
        exact ⟨_, _, rfl⟩
      rw [hs, hjn, List.take_length]
      rw [hjn] at g1
      refine XV_sound (esc := fun _ => false) orders hFG qFG _ _ _ ?_
      simp only [↓XV, isLoop, xOps, xStep, dOps, dRun, wild, yRun, yStep, yOp, cls, Am.dropL, aWant, xOp, xPure, rd, xCall, calleeAV, Option.bind_some, Option.bind_none, Option.map_some, Option.map_none, St.put, List.getD_cons_succ, List.getD_cons_zero, List.length_cons, List.length_nil, Array.toList, ofV, toV, ofC, List.set_cons_succ, List.set_cons_zero, List.cons_append, List.nil_append, List.append_nil, AV.cells?, newBox, St.setAt, boxCells, List.getElem?_cons_succ, List.getElem?_cons_zero, Nat.zero_add, Nat.add_zero, Option.any_some, Option.any_none, frame0, List.reduceReplicate, bin_i, bin_fl, bin_cadd, bin_csub, bin_cmul, bin_ceql, intBin, shiftBin, isShift, getB, strip, List.map_cons, List.map_nil, List.drop_zero, List.drop_succ_cons, AV.nrmL, AV.nrm, plainL, argCells, St.freezeIn, noRow, List.flatten_cons, List.flatten_nil, List.all_cons, List.all_nil, Option.getD_some, List.getElem?_toArray, Option.bind_fun_some, beq_true, beq_false, partsAV, xStoreOp, isOwn, isBox, xStore, setB, okScope, splice, AV.one, notW, AV.data, Nat.zero_le, decide_true, decide_false, Bool.false_or, Bool.true_or, idx, lenAV, finAV, resList, resOne, loadAV, single, AV.bel, AV.belL, List.take_zero, List.take_nil, List.take_succ_cons, Bool.false_eq_true, Bool.true_and, Bool.and_true, Bool.and_self, Bool.not_true, Bool.not_false, beq_self_eq_true, ↓reduceIte, reduceCtorEq, Nat.reduceLT, Nat.reduceAdd, Nat.reduceSub, Nat.reduceMul, Nat.reduceLeDiff, Nat.reducePow, Nat.reduceEqDiff, Nat.reduceBEq, Int.reduceLT, Int.reduceLE, Int.reduceGT, Int.reduceGE, Int.cast_ofNat_Int, Int.reduceBEq, Int.reduceSub, Int.reduceAdd, Int.reduceMul, Int.reduceToNat, Int.reduceEq, Int.reduceNeg, and_self, and_true, true_and, false_or, or_false, or_true, true_or, Bool.or_self, Bool.or_false, Bool.or_true, ne_eq, not_true_eq_false, not_false_eq_true, thenA, St.only, wkL, St.freezeRow, St.give, St.giveTo, AV.subL, AV.sub, Blk.sub, List.mapIdx_cons, List.mapIdx_nil, u39, g1]
      refine XV_sound (esc := fun _ => false) orders hFG qFG _ _ _ ?_
      simp only [↓XV, isLoop, xOps, xStep, dOps, dRun, wild, yRun, yStep, yOp, cls, Am.dropL, aWant, xOp, xPure, rd, xCall, calleeAV, Option.bind_some, Option.bind_none, Option.map_some, Option.map_none, St.put, List.getD_cons_succ, List.getD_cons_zero, List.length_cons, List.length_nil, Array.toList, ofV, toV, ofC, List.set_cons_succ, List.set_cons_zero, List.cons_append, List.nil_append, List.append_nil, AV.cells?, newBox, St.setAt, boxCells, List.getElem?_cons_succ, List.getElem?_cons_zero, Nat.zero_add, Nat.add_zero, Option.any_some, Option.any_none, frame0, List.reduceReplicate, bin_i, bin_fl, bin_cadd, bin_csub, bin_cmul, bin_ceql, intBin, shiftBin, isShift, getB, strip, List.map_cons, List.map_nil, List.drop_zero, List.drop_succ_cons, AV.nrmL, AV.nrm, plainL, argCells, St.freezeIn, noRow, List.flatten_cons, List.flatten_nil, List.all_cons, List.all_nil, Option.getD_some, List.getElem?_toArray, Option.bind_fun_some, beq_true, beq_false, partsAV, xStoreOp, isOwn, isBox, xStore, setB, okScope, splice, AV.one, notW, AV.data, Nat.zero_le, decide_true, decide_false, Bool.false_or, Bool.true_or, idx, lenAV, finAV, resList, resOne, loadAV, single, AV.bel, AV.belL, List.take_zero, List.take_nil, List.take_succ_cons, Bool.false_eq_true, Bool.true_and, Bool.and_true, Bool.and_self, Bool.not_true, Bool.not_false, beq_self_eq_true, ↓reduceIte, reduceCtorEq, Nat.reduceLT, Nat.reduceAdd, Nat.reduceSub, Nat.reduceMul, Nat.reduceLeDiff, Nat.reducePow, Nat.reduceEqDiff, Nat.reduceBEq, Int.reduceLT, Int.reduceLE, Int.reduceGT, Int.reduceGE, Int.cast_ofNat_Int, Int.reduceBEq, Int.reduceSub, Int.reduceAdd, Int.reduceMul, Int.reduceToNat, Int.reduceEq, Int.reduceNeg, and_self, and_true, true_and, false_or, or_false, or_true, true_or, Bool.or_self, Bool.or_false, Bool.or_true, ne_eq, not_true_eq_false, not_false_eq_true, thenA, St.only, wkL, St.freezeRow, St.give, St.giveTo, AV.subL, AV.sub, Blk.sub, List.mapIdx_cons, List.mapIdx_nil, u39, g1, show Try.f18.results.toList = [.tmp 2, .tmp 3] from rfl]
end Go.Am
