/-
  THE WALKS: GaugeAparts.
-/
import Derived.Test.YtgbkilmgmnhokaaG19
set_option linter.unusedSimpArgs false
set_option linter.unusedVariables false
namespace Go.Am
open Go Go.Proofs Go.Fl

set_option maxRecDepth 8000 in
theorem aparts9 {xs ys us vs : List AV} {N M N' M' : Nat} (hx : isNum xs N) (hy : isNum ys M) (hu : isNum us N') (hv : isNum vs M') (k : Int) : ValidAt Try.prog 9 [.a (xs ++ ys), .a (us ++ vs), .s (.i .i64 k)] [] [] (.s (.b true)) [] [] := by
  have p1 := hx.f17 hy
  have p2 := hu.f17 hv
  have hx' := lowp_nr hx.lt
  have hy' := lowp_nr hy.lt
  have hu' := lowp_nr hu.lt
  have hv' := lowp_nr hv.lt
  obtain ⟨a0, a1, a2, a3, _, _, _, _, rfl, _⟩ := hx
  obtain ⟨b0, b1, b2, b3, _, _, _, _, rfl, _⟩ := hy
  obtain ⟨c0, c1, c2, c3, _, _, _, _, rfl, _⟩ := hu
  obtain ⟨d0, d1, d2, d3, _, _, _, _, rfl, _⟩ := hv
  generalize nr N = x at *
  generalize nr M = y at *
  generalize nr N' = u at *
  generalize nr M' = v at *
  have f1 := k21 hx'.1 hy'.1 k
  have f2 := k21 hu'.1 hv'.1 k
  have t1 := lowp_turn (kq k) hx' hy'
  have t2 := lowp_turn (kq k) hu' hv'
  have e1 := k24 hx' hy' hu' hv'
  have e2 := k24 hu' hv' hx' hy'
  have e3 := k24 hx' hy' hx' hy'
  have e4 := k24 t1.1 t1.2 t2.1 t2.2
  have e5 := k25 hx' hy' hu' hv'
  rw [apw_comm u v x y] at e2
  rw [apw_self] at e3
  rw [apw_turn (kq k) hx' hy' hu' hv'] at e4
  have o1 := order_apw x y u v
  have o2 : (Ieee.double.order 0 0 == some .eq) = true := by decide +kernel
  have o1' : (Ieee.double.order (apw x y u v) (apw x y u v) != some .eq) = false := by rw [bne, o1]; rfl
  have o2' : (Ieee.double.order 0 0 != some .eq) = false := by rw [bne, o2]; rfl
  clear t1 t2 hx' hy' hu' hv'
  generalize turnN (kq k) x y = z at *
  generalize turnN (kq k) u v = w at *
  generalize apw x y u v = d at *
  refine valid_of_awp Try.func9 rfl (by simp [Try.ntmps9]) ?_
  refine XV_sound (esc := fun _ => false) orders hFG qFG _ _ _ ?_
  simp only [Try.ntmps9, ↓XV, isLoop, xOps, xStep, dOps, dRun, wild, yRun, yStep, yOp, cls, Am.dropL, aWant, xOp, xPure, rd, xCall, calleeAV, Option.bind_some, Option.bind_none, Option.map_some, Option.map_none, St.put, List.getD_cons_succ, List.getD_cons_zero, List.length_cons, List.length_nil, Array.toList, ofV, toV, ofC, List.set_cons_succ, List.set_cons_zero, List.cons_append, List.nil_append, List.append_nil, AV.cells?, newBox, St.setAt, boxCells, List.getElem?_cons_succ, List.getElem?_cons_zero, Nat.zero_add, Nat.add_zero, Option.any_some, Option.any_none, frame0, List.reduceReplicate, bin_i, bin_fl, bin_cadd, bin_csub, bin_cmul, bin_ceql, intBin, shiftBin, isShift, getB, strip, List.map_cons, List.map_nil, List.drop_zero, List.drop_succ_cons, AV.nrmL, AV.nrm, plainL, argCells, St.freezeIn, noRow, List.flatten_cons, List.flatten_nil, List.all_cons, List.all_nil, Option.getD_some, List.getElem?_toArray, Option.bind_fun_some, beq_true, beq_false, partsAV, xStoreOp, isOwn, isBox, xStore, setB, okScope, splice, AV.one, notW, AV.data, Nat.zero_le, decide_true, decide_false, Bool.false_or, Bool.true_or, idx, lenAV, finAV, resList, resOne, loadAV, single, AV.bel, AV.belL, List.take_zero, List.take_nil, List.take_succ_cons, Bool.false_eq_true, Bool.true_and, Bool.and_true, Bool.and_self, Bool.not_true, Bool.not_false, beq_self_eq_true, ↓reduceIte, reduceCtorEq, Nat.reduceLT, Nat.reduceAdd, Nat.reduceSub, Nat.reduceMul, Nat.reduceLeDiff, Nat.reducePow, Nat.reduceEqDiff, Nat.reduceBEq, Int.reduceLT, Int.reduceLE, Int.reduceGT, Int.reduceGE, Int.cast_ofNat_Int, Int.reduceBEq, Int.reduceSub, Int.reduceAdd, Int.reduceMul, Int.reduceToNat, Int.reduceEq, Int.reduceNeg, and_self, and_true, true_and, false_or, or_false, or_true, true_or, Bool.or_self, Bool.or_false, Bool.or_true, ne_eq, not_true_eq_false, not_false_eq_true, hb11, hb12, hb13, hb16, hb17, hb21, hb22, hb23, hb24, hb25, k11, k23, p1, p2, f1, f2, e1, e2, e3, e4, e5, f64, o1, o2, o1', o2', pa24, pa24b, fo480, fo481, sz24, build35, show Try.f9.results.toList = [.tmp 6] from rfl]
  kernel_rfl

theorem run9 (avs : List AV) (h : ShArgs Try.prog 20 Try.f9.params.toList avs) : ValidAt Try.prog 9 avs [] [] (.s (.b true)) [] [] := by
  have e : Try.f9.params.toList = [48, 48, 3] := rfl
  rw [e] at h
  obtain ⟨xs, _, rfl, h1, ys, _, rfl, h2, ks, _, rfl, h3, rfl⟩ := h
  obtain ⟨x, y, N, M, rfl, hN, hM⟩ := sh48 h1
  obtain ⟨u, v, N', M', rfl, hN', hM'⟩ := sh48 h2
  obtain ⟨k, _, _, rfl⟩ := shi64 h3
  rw [arg48, arg48, arg3]
  exact aparts9 hN hM hN' hM' k
end Go.Am
