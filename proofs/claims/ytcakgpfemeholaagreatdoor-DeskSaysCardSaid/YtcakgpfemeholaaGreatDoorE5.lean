/-
  num.small at five, by the machine and by hand where it ranges over a function.
-/
import Derived.Test.YtcakgpfemeholaaGreatDoorE4
import Derived.Test.YtcakgpfemeholaaGreatDoorNC
set_option linter.unusedSimpArgs false
set_option linter.unusedVariables false
namespace Go.Proofs.YtcakgpfemeholaaGreatDoor
open Go Go.RowKit Go.Bm
open Go.Am (Sc)
set_option maxRecDepth 100000

noncomputable def tens : Nat := 10000000000000000000
noncomputable def sB : Code := bodyOf Tryz.f98
noncomputable def sA0 : Code := sel1 sB
noncomputable def sA1 : Code := sel1 (sel2 sB)
noncomputable def sX : Code := sel1 (sel2 (sel2 sB))
noncomputable def sA2 : Code := sel1 sX
noncomputable def asgOf : Code → Code | .rangeFunc _ _ a _ => a | c => c
noncomputable def rbOf : Code → Code | .rangeFunc _ _ _ b => b | c => c
noncomputable def sRF : Code := blkOf (sel2 sX)
noncomputable def so3 : Array Oper := opsOf (sel1 (asgOf sRF))
noncomputable def so4 : Array Oper := opsOf (sel2 (asgOf sRF))
noncomputable def so5 : Array Oper := opsOf (blkOf (rbOf sRF))
noncomputable def so6 : Array Oper := opsOf (sel1 (sel2 (sel2 (sel2 sB))))
theorem sbody : Tryz.f98.body = some (.seq sA0 (.seq sA1 (.seq (.seq sA2 (.block 0 (.rangeFunc (.tmp 10) #[11, 12] (.seq (.region 3 so3 false) (.region 4 so4 false)) (.block 1 (.region 5 so5 false))))) (.seq (.region 6 so6 true) .ret)))) := by kernel_rfl

noncomputable def iB : Code := bodyOf Tryz.f124
noncomputable def iI0 : Code := sel1 iB
noncomputable def iL : Code := loopOf (blkOf (sel2 iB))
noncomputable def iI1 : Code := sel1 iL
noncomputable def iq3 : Array Oper := opsOf (sel1 (blkOf (sel1 (sel2 iL))))
noncomputable def iIc : Code := sel2 (blkOf (sel1 (sel2 iL)))
noncomputable def iI2 : Code := sel2 (sel2 iL)
theorem ibody : Tryz.f124.body = some (.seq iI0 (.block 0 (.loop (.seq iI1 (.seq (.block 1 (.seq (.region 3 iq3 false) iIc)) iI2))))) := by kernel_rfl

noncomputable def ccS (c : Code) (s : St) : Option (Exit × St) := (cC KT Tryz.prog XD FP 24 c).run 1000 s
noncomputable def ccI (c : Code) (s : St) : Option (Exit × St) := (cC KT Tryz.prog XD FP 19 c).run 1000 s
noncomputable def soS (os : Array Oper) (l : List Oper) (s : St) : Option St := sOps KT Tryz.prog XD FP 24 os l s
noncomputable def soI (os : Array Oper) (l : List Oper) (s : St) : Option St := sOps KT Tryz.prog XD FP 19 os l s
noncomputable def u0 : St := ⟨⟨16777215, [], envOf [q4 5 0 0 0, .s (.i .u64 (.ofNat tens))] 0 .e⟩, .e, 16, []⟩
noncomputable def u1 : St := outS (ccS sA0 u0) u0
noncomputable def u2 : St := outS (ccS sA1 u1) u1
noncomputable def u3 : St := outS (ccS sA2 u2) u2
noncomputable def lbOf (x : AV) : List AV := match x with | .f _ _ cs => cs | _ => []
noncomputable def idOf (x : AV) : Nat := match x with | .p i _ => i | _ => 0
noncomputable def bx : Nat := match lbOf (rd u3.env (.tmp 10)) with | x :: _ => idOf x | [] => 0
noncomputable def v0 : St := ⟨⟨524287, [], envOf [.yl u3.nx, .p bx 0] 0 .e⟩, u3.H, u3.nx + 1, []⟩
noncomputable def v1 : St := outS (ccI iI0 v0) v0
noncomputable def fa1 (s : St) : St := outS (ccI iI1 s) s
noncomputable def fa2 (s : St) : St := outO (soI iq3 (iq3.toList.take 6) (fa1 s)) s
noncomputable def fb0 (s : St) : St := ⟨putE 24 (putE 24 u3.env (some 11) (rd (fa2 s).env (.tmp 12))) (some 12) (rd (fa2 s).env (.tmp 16)), (fa2 s).H, (fa2 s).nx, []⟩
noncomputable def fb1 (s : St) : St := outO (soS so3 so3.toList (fb0 s)) s
noncomputable def fb2 (s : St) : St := outO (soS so4 so4.toList (fb1 s).flush) s
noncomputable def fb3 (s : St) : St := outO (soS so5 so5.toList (fb2 s).flush) s
noncomputable def fa3 (s : St) : St := outO (soI iq3 (iq3.toList.drop 7) ⟨putE 19 (fa2 s).env (opAt (iq3.toList.drop 6)).dst (.s (.b true)), (fb3 s).H, (fb3 s).nx, []⟩) s
noncomputable def fa4 (s : St) : St := outS (ccI iIc (fa3 s).flush) s
noncomputable def fa5 (s : St) : St := outS (ccI iI2 (fa4 s)) s
noncomputable def sv : Nat → St | 0 => v1 | k + 1 => fa5 (sv k)
noncomputable def vE : St := fa1 (sv 4)
noncomputable def u4 : St := { u3 with H := vE.H, nx := vE.nx }
noncomputable def u5 : St := outO (dRun KT Tryz.prog XD FP 24 so6 u4) u4

def isN : Option (Exit × St) → Bool | some (.normal, _) => true | _ => false
theorem isN_ok {q : Option (Exit × St)} {d : St} (h : isN q = true) : q = some (.normal, outS q d) := by
  cases q with
  | none => cases h
  | some x => obtain ⟨e, s⟩ := x; cases e <;> first | rfl | cases h
theorem isS_ok {q : Option St} {d : St} (h : q.isSome = true) : q = some (outO q d) := by
  cases q with
  | none => cases h
  | some x => rfl

noncomputable def dfs (s : St) : Bool := match s.df with | [] => true | _ => false
theorem dfs_ok {s : St} (h : dfs s = true) : s.df = [] := by
  unfold dfs at h; split at h
  · assumption
  · cases h
noncomputable def isYl (i : Nat) (x : AV) : Bool := match x with | .yl j => Nat.beq j i | _ => false
noncomputable def roundOK (s : St) : Bool := isN (ccI iI1 s) && (soI iq3 (iq3.toList.take 6) (fa1 s)).isSome && (soS so3 so3.toList (fb0 s)).isSome && (soS so4 so4.toList (fb1 s).flush).isSome && (soS so5 so5.toList (fb2 s).flush).isSome &&
  (soI iq3 (iq3.toList.drop 7) ⟨putE 19 (fa2 s).env (opAt (iq3.toList.drop 6)).dst (.s (.b true)), (fb3 s).H, (fb3 s).nx, []⟩).isSome && isN (ccI iIc (fa3 s).flush) && isN (ccI iI2 (fa4 s)) && dfs (fa1 s) && dfs (fb1 s) && dfs (fb2 s)
theorem y0 : isN (ccS sA0 u0) = true := by kernel_rfl
theorem y1 : isN (ccS sA1 u1) = true := by kernel_rfl
theorem y2 : isN (ccS sA2 u2) = true := by kernel_rfl
theorem y3 : rd u3.env (.tmp 10) = .f 124 [] [.p bx 0] := by kernel_rfl
theorem y4 : u3.H.at u3.nx = .dead := by kernel_rfl
theorem y5 : isN (ccI iI0 v0) = true := by kernel_rfl
theorem z0 : roundOK (sv 0) = true := by kernel_rfl
theorem z1 : roundOK (sv 1) = true := by kernel_rfl
theorem z2 : roundOK (sv 2) = true := by kernel_rfl
theorem z3 : roundOK (sv 3) = true := by kernel_rfl
theorem zE : ccI iI1 (sv 4) = some (.exit 0, vE) := by kernel_rfl
theorem yD : (dRun KT Tryz.prog XD FP 24 so6 u4).isSome = true := by kernel_rfl
theorem yR : resList KT u5.flush.H u5.flush.env Tryz.f98.results.toList = some [q4 0 0 0 0, .s (.i .u64 (.ofNat 5))] := by kernel_rfl
end Go.Proofs.YtcakgpfemeholaaGreatDoor
