/-
  The law's function, called with whatever bytes.
-/
import Derived.Test.YtikbjhoocpbpiaaGreatDoorD11
import Derived.Test.YtikbjhoocpbpiaaGreatDoorNC
set_option linter.unusedSimpArgs false
set_option linter.unusedVariables false
namespace Go.Proofs.YtikbjhoocpbpiaaGreatDoor
open Go Go.RowKit Go.Bm
open Go.Am (Sc)
set_option maxRecDepth 100000

noncomputable def FT : Tab := yTab KT Tryz.prog XT exV 1000 40
theorem FT_ok : FT.valid Tryz.prog ∧ FT.bodied Tryz.prog := yTab_valid mixed KT_ok XT_ok exV_ok (k := 1000) 40

/-! The body's parts. -/
noncomputable def cB : Code := match Tryz.f3.body with | some c => c | none => .skip
noncomputable def sel1 : Code → Code | .seq a _ => a | c => c
noncomputable def sel2 : Code → Code | .seq _ b => b | c => c
noncomputable def opsOf : Code → Array Oper | .region _ o _ => o | _ => #[]
noncomputable def R0 : Code := sel1 cB
noncomputable def ops1 : Array Oper := opsOf (sel1 (sel1 (sel2 cB)))
noncomputable def C1 : Code := sel2 (sel1 (sel2 cB))
noncomputable def Rest : Code := sel2 (sel2 cB)
theorem hbody : Tryz.f3.body = some (.seq R0 (.seq (.seq (.region 1 ops1 false) C1) Rest)) := by kernel_rfl

noncomputable def outS (q : Option (Exit × St)) (d : St) : St := match q with | some (_, s) => s | none => d
noncomputable def outO (q : Option St) (d : St) : St := match q with | some s => s | none => d
noncomputable def pAV (off len : Nat) : AV := .sl 0 off 1 len len false
noncomputable def s0 (off len : Nat) : St := ⟨⟨18014398509481983, [], envOf [pAV off len] 0 .e⟩, .e, 1, []⟩
noncomputable def s1 (off len : Nat) : St := outS ((cC KT Tryz.prog XT FT 54 R0).run 1000 (s0 off len)) (s0 off len)
noncomputable def s2 (off len : Nat) : St := outO (sOps KT Tryz.prog XT FT 54 ops1 (ops1.toList.take 4) (s1 off len)) (s1 off len)
noncomputable def s3 (off len : Nat) : St := { s2 off len with env := putE 54 (s2 off len).env (some 9) (.s (.i .i64 len)) }
noncomputable def s4 (off len : Nat) : St := outO (sOps KT Tryz.prog XT FT 54 ops1 (ops1.toList.drop 5) (s3 off len)) (s3 off len)
noncomputable def s5 (off len : Nat) (b : Bool) : St := { (s4 off len).flush with env := ((s4 off len).flush).env.put 11 (.s (.b b)) }
noncomputable def s6 (off len : Nat) (b : Bool) : St := outS ((cC KT Tryz.prog XT FT 54 C1).run 1000 (s5 off len b)) (s5 off len b)
noncomputable def s7 (off len : Nat) : St := outS ((cC KT Tryz.prog XT FT 54 Rest).run 1000 (s6 off len false)) (s6 off len false)

theorem h1 (off len : Nat) : (cC KT Tryz.prog XT FT 54 R0).run 1000 (s0 off len) = some (.normal, s1 off len) := by kernel_rfl
theorem h2 (off len : Nat) : sOps KT Tryz.prog XT FT 54 ops1 (ops1.toList.take 4) (s1 off len) = some (s2 off len) := by kernel_rfl
noncomputable def o4 : Oper := match ops1.toList.drop 4 with | o :: _ => o | [] => { dst := none, op := .move (.tmp 0), type := 0, pos := "", after := #[], guard := none }
theorem hops : ops1.toList = ops1.toList.take 4 ++ o4 :: ops1.toList.drop 5 := by kernel_rfl
theorem ho4 : o4.op = .call { callee := .builtin .len, args := #[.tmp 8], argTypes := #[22] } := by kernel_rfl
theorem hd4 : o4.dst = some 9 := by kernel_rfl
theorem hu22 : KT.und 22 = some (.slice 5) := by kernel_rfl
theorem hw4 (off len : Nat) : aWant ops1 o4 (s2 off len).env = some true := by kernel_rfl
theorem hx4 (off len : Nat) : rd (s2 off len).env (.tmp 8) = pAV off len := by kernel_rfl
theorem h4 (off len : Nat) : sOps KT Tryz.prog XT FT 54 ops1 (ops1.toList.drop 5) (s3 off len) = some (s4 off len) := by kernel_rfl
theorem g11 (off len : Nat) : (s4 off len).flush.env.get 11 = some (.s (.b (Nat.blt 300 len))) := by kernel_rfl
theorem l4 (off len : Nat) : (s4 off len).flush.env.log = [] := by kernel_rfl
theorem h6t (off len : Nat) : (cC KT Tryz.prog XT FT 54 C1).run 1000 (s5 off len true) = some (.ret, s6 off len true) := by kernel_rfl
theorem h6f (off len : Nat) : (cC KT Tryz.prog XT FT 54 C1).run 1000 (s5 off len false) = some (.normal, s6 off len false) := by kernel_rfl
theorem h7 (off len : Nat) : (cC KT Tryz.prog XT FT 54 Rest).run 1000 (s6 off len false) = some (.ret, s7 off len) := by kernel_rfl
theorem t6 (off len : Nat) : (s6 off len true).env.get 2 = some (.s (.b true)) := by kernel_rfl
theorem t7 (off len : Nat) : (s7 off len).env.get 2 = some (.s (.b true)) := by kernel_rfl
theorem f6 (off len : Nat) : (s6 off len true).df = [] := by kernel_rfl
theorem f7 (off len : Nat) : (s7 off len).df = [] := by kernel_rfl
noncomputable def isTrue (q : Option (AV × Heap × Nat)) : Bool := match q with | some (.s (.b b), _, _) => b | _ => false
theorem runNil : isTrue (yTab KT Tryz.prog XT exV 1000 40 3 [.s .sn] .e 0) = true := by kernel_rfl
end Go.Proofs.YtikbjhoocpbpiaaGreatDoor
