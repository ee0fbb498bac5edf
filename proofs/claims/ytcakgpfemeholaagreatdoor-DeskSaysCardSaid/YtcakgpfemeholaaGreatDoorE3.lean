/-
  num.Parse at one digit, by the machine and by hand where it ranges over the string.
-/
import Derived.Test.YtcakgpfemeholaaGreatDoorE2
set_option linter.unusedSimpArgs false
set_option linter.unusedVariables false
namespace Go.Proofs.YtcakgpfemeholaaGreatDoor
open Go Go.RowKit Go.Bm
open Go.Am (Sc)
set_option maxRecDepth 100000

noncomputable def FP : Tab := yTab KT Tryz.prog XD coV 1000 40
theorem FP_ok : FP.valid Tryz.prog ∧ FP.bodied Tryz.prog := yTab_valid mixed KT_ok XD_ok coV_ok (k := 1000) 40

noncomputable def sel1 : Code → Code | .seq a _ => a | c => c
noncomputable def sel2 : Code → Code | .seq _ b => b | c => c
noncomputable def opsOf : Code → Array Oper | .region _ o _ => o | _ => #[]
noncomputable def blkOf : Code → Code | .block _ c => c | c => c
noncomputable def loopOf : Code → Code | .loop c => c | c => c
noncomputable def bodyOf (fn : Func) : Code := match fn.body with | some c => c | none => .skip
noncomputable def outS (q : Option (Exit × St)) (d : St) : St := match q with | some (_, s) => s | none => d
noncomputable def outO (q : Option St) (d : St) : St := match q with | some s => s | none => d
noncomputable def noOper : Oper := { dst := none, op := .move (.tmp 0), type := 0, pos := "", after := #[], guard := none }
noncomputable def opAt (l : List Oper) : Oper := match l with | o :: _ => o | [] => noOper

noncomputable def pB : Code := bodyOf Tryz.f25
noncomputable def pA0 : Code := sel1 pB
noncomputable def pA1 : Code := sel1 (sel2 pB)
noncomputable def pA2 : Code := sel1 (sel2 (sel2 pB))
noncomputable def pA3 : Code := sel1 (sel2 (sel2 (sel2 pB)))
noncomputable def pR5 : Array Oper := opsOf (sel1 (sel1 (sel2 (sel2 (sel2 (sel2 pB))))))
noncomputable def pL : Code := loopOf (blkOf (sel2 (sel1 (sel2 (sel2 (sel2 (sel2 pB)))))))
noncomputable def pR6 : Array Oper := opsOf (sel1 pL)
noncomputable def pLB : Code := sel2 pL
noncomputable def pT : Code := sel2 (sel2 (sel2 (sel2 (sel2 pB))))
theorem pbody : Tryz.f25.body = some (.seq pA0 (.seq pA1 (.seq pA2 (.seq pA3 (.seq (.seq (.region 5 pR5 false) (.block 0 (.loop (.seq (.region 6 pR6 false) pLB)))) pT))))) := by kernel_rfl

noncomputable def cc (c : Code) (s : St) : Option (Exit × St) := (cC KT Tryz.prog XD FP 54 c).run 1000 s
noncomputable def t0 (d : Nat) : St := ⟨⟨18014398509481983, [], envOf [.s (.str (dig d))] 0 .e⟩, .e, 16, []⟩
noncomputable def t1 (d : Nat) : St := outS (cc pA0 (t0 d)) (t0 d)
noncomputable def t2 (d : Nat) : St := outS (cc pA1 (t1 d)) (t1 d)
noncomputable def t3 (d : Nat) : St := outS (cc pA2 (t2 d)) (t2 d)
noncomputable def t4 (d : Nat) : St := outS (cc pA3 (t3 d)) (t3 d)
noncomputable def t5a (d : Nat) : St := outO (sOps KT Tryz.prog XD FP 54 pR5 (pR5.toList.take 1) (t4 d)) (t4 d)
noncomputable def t5b (d : Nat) : St := { t5a d with env := putE 54 (t5a d).env (opAt (pR5.toList.drop 1)).dst (.p (t5a d).nx 0), nx := (t5a d).nx + 1 }
noncomputable def t5 (d : Nat) : St := (t5b d).flush
noncomputable def t6a (d : Nat) : St := { t5 d with env := putE 54 (t5 d).env (opAt pR6.toList).dst (.t [.s (.b true), .s (.i .i64 (0 : Nat)), .s (.i .i32 ((48 + d : Nat) : Int))]) }
noncomputable def t6b (d : Nat) : St := outO (sOps KT Tryz.prog XD FP 54 pR6 (pR6.toList.drop 1) (t6a d)) (t6a d)
noncomputable def t7 (d : Nat) : St := outS (cc pLB (t6b d).flush) (t6b d).flush
noncomputable def t8a (d : Nat) : St := { t7 d with env := putE 54 (t7 d).env (opAt pR6.toList).dst (.t [.s (.b false)]) }
noncomputable def t8b (d : Nat) : St := outO (sOps KT Tryz.prog XD FP 54 pR6 (pR6.toList.drop 1) (t8a d)) (t8a d)
noncomputable def t9 (d : Nat) : St := outS (cc pLB (t8b d).flush) (t8b d).flush
noncomputable def t10 (d : Nat) : St := outS (cc pT (t9 d)) (t9 d)

def isD (d : Nat) : Prop := d = 0 ∨ d = 1 ∨ d = 4 ∨ d = 9
theorem x1 (d : Nat) (h : isD d) : cc pA0 (t0 d) = some (.normal, t1 d) := by rcases h with rfl | rfl | rfl | rfl <;> kernel_rfl
theorem x2 (d : Nat) (h : isD d) : cc pA1 (t1 d) = some (.normal, t2 d) := by rcases h with rfl | rfl | rfl | rfl <;> kernel_rfl
theorem x3 (d : Nat) (h : isD d) : cc pA2 (t2 d) = some (.normal, t3 d) := by rcases h with rfl | rfl | rfl | rfl <;> kernel_rfl
theorem x4 (d : Nat) (h : isD d) : cc pA3 (t3 d) = some (.normal, t4 d) := by rcases h with rfl | rfl | rfl | rfl <;> kernel_rfl
theorem x5 (d : Nat) (h : isD d) : sOps KT Tryz.prog XD FP 54 pR5 (pR5.toList.take 1) (t4 d) = some (t5a d) := by rcases h with rfl | rfl | rfl | rfl <;> kernel_rfl
theorem x5s : pR5.toList = pR5.toList.take 1 ++ opAt (pR5.toList.drop 1) :: [] := by kernel_rfl
theorem x5o : (opAt (pR5.toList.drop 1)).op = .range 9 (.tmp 27) := by kernel_rfl
theorem x5w (d : Nat) (h : isD d) : aWant pR5 (opAt (pR5.toList.drop 1)) (t5a d).env = some true := by rcases h with rfl | rfl | rfl | rfl <;> kernel_rfl
theorem x5r (d : Nat) (h : isD d) : rd (t5a d).env (.tmp 27) = .s (.str (dig d)) := by rcases h with rfl | rfl | rfl | rfl <;> kernel_rfl
theorem x5d (d : Nat) (h : isD d) : (t5a d).H.at (t5a d).nx = .dead := by rcases h with rfl | rfl | rfl | rfl <;> kernel_rfl
theorem x6 (d : Nat) (h : isD d) : sOps KT Tryz.prog XD FP 54 pR6 (pR6.toList.drop 1) (t6a d) = some (t6b d) := by rcases h with rfl | rfl | rfl | rfl <;> kernel_rfl
theorem x6s : pR6.toList = [] ++ opAt pR6.toList :: pR6.toList.drop 1 := by kernel_rfl
theorem x6o : (opAt pR6.toList).op = .next (.tmp 28) true := by kernel_rfl
theorem x6w (d : Nat) (h : isD d) : aWant pR6 (opAt pR6.toList) (t5 d).env = some true := by rcases h with rfl | rfl | rfl | rfl <;> kernel_rfl
theorem x6r (d : Nat) (h : isD d) : rd (t5 d).env (.tmp 28) = .p (t5a d).nx 0 := by rcases h with rfl | rfl | rfl | rfl <;> kernel_rfl
theorem x6c (d : Nat) (h : isD d) : Utf8.decode (dig d) 0 = (48 + d, 1) := by rcases h with rfl | rfl | rfl | rfl <;> kernel_rfl
theorem x7 (d : Nat) (h : isD d) : cc pLB (t6b d).flush = some (.normal, t7 d) := by rcases h with rfl | rfl | rfl | rfl <;> kernel_rfl
theorem x8w (d : Nat) (h : isD d) : aWant pR6 (opAt pR6.toList) (t7 d).env = some true := by rcases h with rfl | rfl | rfl | rfl <;> kernel_rfl
theorem x8r (d : Nat) (h : isD d) : rd (t7 d).env (.tmp 28) = .p (t5a d).nx 0 := by rcases h with rfl | rfl | rfl | rfl <;> kernel_rfl
theorem x8 (d : Nat) (h : isD d) : sOps KT Tryz.prog XD FP 54 pR6 (pR6.toList.drop 1) (t8a d) = some (t8b d) := by rcases h with rfl | rfl | rfl | rfl <;> kernel_rfl
theorem x9 (d : Nat) (h : isD d) : cc pLB (t8b d).flush = some (.exit 0, t9 d) := by rcases h with rfl | rfl | rfl | rfl <;> kernel_rfl
theorem x10 (d : Nat) (h : isD d) : cc pT (t9 d) = some (.ret, t10 d) := by rcases h with rfl | rfl | rfl | rfl <;> kernel_rfl
theorem x11 (d : Nat) (h : isD d) : resList KT (t10 d).H (t10 d).env Tryz.f25.results.toList = some [q4 d 0 0 0, .s (.i .i64 0)] := by rcases h with rfl | rfl | rfl | rfl <;> kernel_rfl
theorem x12 (d : Nat) (h : isD d) : (t10 d).df = [] := by rcases h with rfl | rfl | rfl | rfl <;> kernel_rfl
end Go.Proofs.YtcakgpfemeholaaGreatDoor
