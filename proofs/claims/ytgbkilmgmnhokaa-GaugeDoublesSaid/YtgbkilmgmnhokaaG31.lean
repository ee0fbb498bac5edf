/-
  THE WALKS: both numbers together: the last region of the document's Add.
-/
import Derived.Test.YtgbkilmgmnhokaaG29
set_option linter.unusedSimpArgs false
set_option linter.unusedVariables false
set_option linter.unusedSectionVars false
namespace Go.Am
open Go Go.Proofs Go.Fl

def tail3 : Option Code → Code
  | some (.seq _ (.seq _ (.seq _ y))) => y
  | _ => .skip
noncomputable def TAIL15 : Code := tail3 Try.f15.body

theorem StepsS.ofX {P : Program} {F : Tab} {esc : Nat → Bool} {base : Nat} {ops : Array Oper} : ∀ {os : List Oper} {st st' : St}, xOps P F esc base ops os st = some st' → StepsS P F esc base ops os st st'
  | [], st, st', h => by
    simp only [xOps, Option.some.injEq] at h; subst h; exact .nil
  | o :: os, st, st', h => by
    simp only [xOps, Option.bind_eq_some_iff] at h
    obtain ⟨st1, h1, h2⟩ := h
    exact .cons (.x h1) (StepsS.ofX h2)

section
variable {F : Tab} (hF : F.valid Try.prog) (hq : Calm F (fun _ => true))
include hF hq

theorem add_tail (a0 a1 a2 a3 b0 b1 b2 b3 : Nat) (u0 u1 u2 u3 u4 u5 u6 u7 u8 u9 ua ub uc ud ue uf : Int) (Y : List AV) (z0 z1 z2 z3 : Int) (ok : Bool)
    (h33 : ∀ S O, F 33 [.l 17 ((carI [u0, u1, u2, u3, u4, u5, u6, u7, u8, u9, ua, ub, uc, ud, ue, uf] 0).map iAV)] S O = some (.t [.a [iAV z0, iAV z1, iAV z2, iAV z3], .s (.b ok)], S, O)) :
    AWP Try.prog 0 TAIL15 (fun e st => (e = .normal ∨ e = .ret) ∧ finAV Try.prog 0 Try.f15 st = some (.t [.a [iAV z0, iAV z1, iAV z2, iAV z3], .s (.b ok)], [], []))
      ⟨[.a [.s (.i .u64 a0), .s (.i .u64 a1), .s (.i .u64 a2), .s (.i .u64 a3)], .a [.s (.i .u64 b0), .s (.i .u64 b1), .s (.i .u64 b2), .s (.i .u64 b3)], .p (.s 2) 0, .p (.s 3) 0, .p (.s 4) 0, .s (.b false), .r 10, .r 12] ++ List.replicate 24 .u, [.dead, .dead, .box 24 [.s (.i .u64 a0), .s (.i .u64 a1), .s (.i .u64 a2), .s (.i .u64 a3)], .box 24 [.s (.i .u64 b0), .s (.i .u64 b1), .s (.i .u64 b2), .s (.i .u64 b3)], .box 24 [iAV 0, iAV 0, iAV 0, iAV 0], .dead, .dead, .dead, .dead, .dead, .row 22 1 16 [iAV u0, iAV u1, iAV u2, iAV u3, iAV u4, iAV u5, iAV u6, iAV u7, iAV u8, iAV u9, iAV ua, iAV ub, iAV uc, iAV ud, iAV ue, iAV uf], .dead, .row 22 1 16 Y] ++ List.replicate 19 .dead, []⟩ := by
  have m3 := mv34 u0 u1 u2 u3 u4 u5 u6 u7 u8 u9 ua ub uc ud ue uf
  generalize hC : (carI [u0, u1, u2, u3, u4, u5, u6, u7, u8, u9, ua, ub, uc, ud, ue, uf] 0).map iAV = C at *
  refine AWP.seq (AWP.regionS hF (fun _ => false) (st' := ⟨[.a [.s (.i .u64 a0), .s (.i .u64 a1), .s (.i .u64 a2), .s (.i .u64 a3)], .a [.s (.i .u64 b0), .s (.i .u64 b1), .s (.i .u64 b2), .s (.i .u64 b3)], .p (.s 2) 0, .p (.s 3) 0, .p (.s 4) 0, .s (.b ok)] ++ List.replicate 22 .u ++ [.l 17 C, .t [.a [iAV z0, iAV z1, iAV z2, iAV z3], .s (.b ok)], .a [iAV z0, iAV z1, iAV z2, iAV z3], .s (.b ok)], [.dead, .dead, .box 24 [.s (.i .u64 a0), .s (.i .u64 a1), .s (.i .u64 a2), .s (.i .u64 a3)], .box 24 [.s (.i .u64 b0), .s (.i .u64 b1), .s (.i .u64 b2), .s (.i .u64 b3)], .box 24 [iAV z0, iAV z1, iAV z2, iAV z3], .dead, .dead, .dead, .dead, .dead, .dead, .dead, .row 22 1 16 Y] ++ List.replicate 19 .dead, []⟩) ?h ?hQ)
  case h =>
    refine .cons (st1 := ⟨[.a [.s (.i .u64 a0), .s (.i .u64 a1), .s (.i .u64 a2), .s (.i .u64 a3)], .a [.s (.i .u64 b0), .s (.i .u64 b1), .s (.i .u64 b2), .s (.i .u64 b3)], .p (.s 2) 0, .p (.s 3) 0, .p (.s 4) 0, .s (.b false), .r 10, .r 12] ++ List.replicate 19 .u ++ [.r 10] ++ List.replicate 4 .u, [.dead, .dead, .box 24 [.s (.i .u64 a0), .s (.i .u64 a1), .s (.i .u64 a2), .s (.i .u64 a3)], .box 24 [.s (.i .u64 b0), .s (.i .u64 b1), .s (.i .u64 b2), .s (.i .u64 b3)], .box 24 [iAV 0, iAV 0, iAV 0, iAV 0], .dead, .dead, .dead, .dead, .dead, .row 22 1 16 [iAV u0, iAV u1, iAV u2, iAV u3, iAV u4, iAV u5, iAV u6, iAV u7, iAV u8, iAV u9, iAV ua, iAV ub, iAV uc, iAV ud, iAV ue, iAV uf], .dead, .row 22 1 16 Y] ++ List.replicate 19 .dead, []⟩) (.x (by kernel_rfl)) ?_
    refine .cons (st1 := ⟨[.a [.s (.i .u64 a0), .s (.i .u64 a1), .s (.i .u64 a2), .s (.i .u64 a3)], .a [.s (.i .u64 b0), .s (.i .u64 b1), .s (.i .u64 b2), .s (.i .u64 b3)], .p (.s 2) 0, .p (.s 3) 0, .p (.s 4) 0, .s (.b false)] ++ List.replicate 22 .u ++ [.r 28] ++ List.replicate 3 .u, [.dead, .dead, .box 24 [.s (.i .u64 a0), .s (.i .u64 a1), .s (.i .u64 a2), .s (.i .u64 a3)], .box 24 [.s (.i .u64 b0), .s (.i .u64 b1), .s (.i .u64 b2), .s (.i .u64 b3)], .box 24 [iAV 0, iAV 0, iAV 0, iAV 0], .dead, .dead, .dead, .dead, .dead, .dead, .dead, .row 22 1 16 Y] ++ List.replicate 15 .dead ++ [.row 22 1 17 C] ++ List.replicate 3 .dead, []⟩) (.mv (mask := List.replicate 6 true) (mo := some 10) (cargs := [.r 0]) (X := some (22, 1, 16, [iAV u0, iAV u1, iAV u2, iAV u3, iAV u4, iAV u5, iAV u6, iAV u7, iAV u8, iAV u9, iAV ua, iAV ub, iAV uc, iAV ud, iAV ue, iAV uf])) hb34 ⟨rfl, rfl, 22, 1, 16, _, rfl, rfl⟩ (fun m h => Nat.zero_le _) (of_decide_eq_true (by kernel_rfl)) rfl (by kernel_rfl) (by kernel_rfl) rfl m3) ?_
    refine .cons (st1 := ⟨[.a [.s (.i .u64 a0), .s (.i .u64 a1), .s (.i .u64 a2), .s (.i .u64 a3)], .a [.s (.i .u64 b0), .s (.i .u64 b1), .s (.i .u64 b2), .s (.i .u64 b3)], .p (.s 2) 0, .p (.s 3) 0, .p (.s 4) 0, .s (.b false)] ++ List.replicate 22 .u ++ [.l 17 C, .t [.a [iAV z0, iAV z1, iAV z2, iAV z3], .s (.b ok)]] ++ List.replicate 2 .u, [.dead, .dead, .box 24 [.s (.i .u64 a0), .s (.i .u64 a1), .s (.i .u64 a2), .s (.i .u64 a3)], .box 24 [.s (.i .u64 b0), .s (.i .u64 b1), .s (.i .u64 b2), .s (.i .u64 b3)], .box 24 [iAV 0, iAV 0, iAV 0, iAV 0], .dead, .dead, .dead, .dead, .dead, .dead, .dead, .row 22 1 16 Y] ++ List.replicate 15 .dead ++ [.dead] ++ List.replicate 3 .dead, []⟩) (.x ?hc) ?_
    case hc =>
      simp only [↓XV, isLoop, xOps, xStep, dOps, dRun, wild, yRun, yStep, yOp, cls, Am.dropL, aWant, xOp, xPure, rd, xCall, calleeAV, Option.bind_some, Option.bind_none, Option.map_some, Option.map_none, St.put, List.getD_cons_succ, List.getD_cons_zero, List.length_cons, List.length_nil, Array.toList, ofV, toV, ofC, List.set_cons_succ, List.set_cons_zero, List.cons_append, List.nil_append, List.append_nil, AV.cells?, newBox, St.setAt, boxCells, List.getElem?_cons_succ, List.getElem?_cons_zero, Nat.zero_add, Nat.add_zero, Option.any_some, Option.any_none, frame0, List.reduceReplicate, bin_i, intBin, shiftBin, isShift, getB, strip, List.map_cons, List.map_nil, List.drop_zero, List.drop_succ_cons, AV.nrmL, AV.nrm, plainL, argCells, St.freezeIn, noRow, List.flatten_cons, List.flatten_nil, List.all_cons, List.all_nil, Option.getD_some, List.getElem?_toArray, Option.bind_fun_some, beq_true, beq_false, partsAV, xStoreOp, isOwn, isBox, xStore, setB, okScope, splice, AV.one, notW, AV.data, Nat.zero_le, decide_true, decide_false, Bool.false_or, Bool.true_or, idx, lenAV, finAV, resList, resOne, loadAV, single, AV.bel, AV.belL, List.take_zero, List.take_nil, List.take_succ_cons, Bool.false_eq_true, Bool.true_and, Bool.and_true, Bool.and_self, Bool.not_true, Bool.not_false, beq_self_eq_true, ↓reduceIte, reduceCtorEq, Nat.reduceLT, Nat.reduceAdd, Nat.reduceSub, Nat.reduceMul, Nat.reduceLeDiff, Nat.reducePow, Nat.reduceEqDiff, Nat.reduceBEq, Int.reduceLT, Int.reduceLE, Int.reduceGT, Int.reduceGE, Int.cast_ofNat_Int, Int.reduceBEq, Int.reduceSub, Int.reduceAdd, Int.reduceMul, Int.reduceToNat, Int.reduceEq, Int.reduceNeg, and_self, and_true, true_and, false_or, or_false, or_true, true_or, Bool.or_self, Bool.or_false, Bool.or_true, ne_eq, not_true_eq_false, not_false_eq_true, St.freezeRow, St.give, AV.subL, AV.sub, Blk.sub, List.mapIdx_cons, List.mapIdx_nil, hb33, h33]
      rfl
    exact StepsS.ofX (by kernel_rfl)
  case hQ =>
    exact AWP.ret ⟨.inr rfl, by kernel_rfl⟩
end
end Go.Am
