/-
  desk.Run over the example's five lines: the states on the way.
-/
import Derived.Test.YtcakgpfemeholaaGreatDoorE6
import Derived.Test.YtcakgpfemeholaaGreatDoorD9
import Derived.Test.YtcakgpfemeholaaGreatDoorNC
set_option linter.unusedSimpArgs false
set_option linter.unusedVariables false
namespace Go.Proofs.YtcakgpfemeholaaGreatDoor
open Go Go.RowKit Go.Bm
open Go.Am (Sc)
set_option maxRecDepth 100000

theorem small_ok : (factV 98 [q4 5 0 0 0, .s (.i .u64 (.ofNat tens))] (.t [q4 0 0 0 0, .s (.i .u64 (.ofNat 5))])).ok Tryz.prog := by
  refine factV_ok (vs := [.agg #[.int .u64 5, .int .u64 0, .int .u64 0, .int .u64 0], .int .u64 tens]) (v := .tuple #[.agg #[.int .u64 0, .int .u64 0, .int .u64 0, .int .u64 0], .int .u64 5]) ⟨_, Tryz.func98, rfl, by show ("jointure/num.small" : String) ≠ "runtime.NumGoroutine"; decide⟩ (fun ρ us h => ?_) (fun ρ => ?_) (fun w => small_calls w)
  · cases h with | cons _ v0 _ _ q0 hu =>
    cases hu with | cons _ v1 _ _ q1 hu =>
    cases hu; cases q1
    cases q0 with | a _ us hu =>
    cases hu with | cons _ y0 _ _ p0 hu =>
    cases hu with | cons _ y1 _ _ p1 hu =>
    cases hu with | cons _ y2 _ _ p2 hu =>
    cases hu with | cons _ y3 _ _ p3 hu =>
    cases hu; cases p0; cases p1; cases p2; cases p3
    rfl
  · exact .t _ _ (.cons _ _ _ _ (.a _ _ (.cons _ _ _ _ (.s (.i .u64 _)) (.cons _ _ _ _ (.s (.i .u64 _)) (.cons _ _ _ _ (.s (.i .u64 _)) (.cons _ _ _ _ (.s (.i .u64 _)) .nil))))) (.cons _ _ _ _ (.s (.i .u64 _)) .nil))

/-- Parse, small, and the like. -/
noncomputable def deskV : Kn := pickV 316912650057129407968247283712 (orV (factV 98 [q4 5 0 0 0, .s (.i .u64 (.ofNat tens))] (.t [q4 0 0 0 0, .s (.i .u64 (.ofNat 5))])) paV) knownV
theorem deskV_ok : deskV.ok Tryz.prog := pickV_ok (orV_ok small_ok paV_ok) knownV_ok

@[reducible] def theText : ByteArray := ⟨#[97, 99, 99, 111, 117, 110, 116, 32, 49, 32, 57, 10, 118, 97, 108, 105, 100, 97, 116, 111, 114, 32, 49, 32, 48, 10, 111, 112, 101, 110, 32, 48, 10, 100, 101, 108, 101, 103, 97, 116, 101, 32, 49, 32, 48, 32, 52, 10, 98, 97, 108, 97, 110, 99, 101, 32, 49, 10]⟩
/-- The tables of the desk's verbs. -/
noncomputable def l0 : List (Nat × Blk) := [
  (0, .row 49 [.s (.str ⟨#[97, 99, 99, 111, 117, 110, 116]⟩), .s (.str ⟨#[97, 110]⟩), .s (.i .u8 (.ofNat 0)), .s (.str ⟨#[101, 118, 101, 110]⟩), .s (.str ⟨#[97, 110, 116, 116]⟩), .s (.i .u8 (.ofNat 1)), .s (.str ⟨#[108, 97, 116, 101]⟩), .s (.str ⟨#[97, 110, 116]⟩), .s (.i .u8 (.ofNat 2)), .s (.str ⟨#[110, 101, 118, 101, 114]⟩), .s (.str ⟨#[97, 110]⟩), .s (.i .u8 (.ofNat 4)), .s (.str ⟨#[118, 97, 108, 105, 100, 97, 116, 111, 114]⟩), .s (.str ⟨#[97, 115]⟩), .s (.i .u8 (.ofNat 0)), .s (.str ⟨#[111, 112, 101, 110]⟩), .s (.str ⟨#[116]⟩), .s (.i .u8 (.ofNat 0))]),
  (1, .row 50 [.s (.str ⟨#[115, 101, 110, 100]⟩), .s (.str ⟨#[97, 97, 110]⟩), .s (.i .u8 (.ofNat 1)), .s (.str ⟨#[100, 101, 108, 101, 103, 97, 116, 101]⟩), .s (.str ⟨#[97, 97, 110]⟩), .s (.i .u8 (.ofNat 3)), .s (.str ⟨#[117, 110, 100, 101, 108, 101, 103, 97, 116, 101]⟩), .s (.str ⟨#[97, 97, 110]⟩), .s (.i .u8 (.ofNat 4)), .s (.str ⟨#[114, 101, 100, 101, 108, 101, 103, 97, 116, 101]⟩), .s (.str ⟨#[97, 97, 97, 110]⟩), .s (.i .u8 (.ofNat 5)), .s (.str ⟨#[119, 105, 116, 104, 100, 114, 97, 119]⟩), .s (.str ⟨#[97, 97]⟩), .s (.i .u8 (.ofNat 6)), .s (.str ⟨#[99, 111, 109, 109, 105, 115, 115, 105, 111, 110]⟩), .s (.str ⟨#[97, 97]⟩), .s (.i .u8 (.ofNat 7)), .s (.str ⟨#[112, 97, 121]⟩), .s (.str ⟨#[97, 97]⟩), .s (.i .u8 (.ofNat 8)), .s (.str ⟨#[99, 108, 97, 119]⟩), .s (.str ⟨#[97, 97]⟩), .s (.i .u8 (.ofNat 10)), .s (.str ⟨#[117, 110, 106, 97, 105, 108]⟩), .s (.str ⟨#[97, 97]⟩), .s (.i .u8 (.ofNat 11)), .s (.str ⟨#[103, 114, 97, 110, 116]⟩), .s (.str ⟨#[97, 97, 110, 116]⟩), .s (.i .u8 (.ofNat 9)), .s (.str ⟨#[97, 100, 118, 97, 110, 99, 101]⟩), .s (.str ⟨#[116]⟩), .s (.i .u8 (.ofNat 32)), .s (.str ⟨#[115, 108, 97, 115, 104]⟩), .s (.str ⟨#[97, 116, 115, 97]⟩), .s (.i .u8 (.ofNat 33)), .s (.str ⟨#[114, 101, 119, 97, 114, 100]⟩), .s (.str ⟨#[97, 110]⟩), .s (.i .u8 (.ofNat 34)), .s (.str ⟨#[103, 97, 116, 104, 101, 114]⟩), .s (.str ⟨#[97]⟩), .s (.i .u8 (.ofNat 35)), .s (.str ⟨#[101, 110, 100]⟩), .s (.str ⟨#[]⟩), .s (.i .u8 (.ofNat 36))]),
  (2, .row 51 [.s (.str ⟨#[102, 101, 101]⟩), .s (.str ⟨#[110]⟩), .s (.i .u8 (.ofNat 0)), .s (.str ⟨#[98, 97, 108, 97, 110, 99, 101]⟩), .s (.str ⟨#[97]⟩), .s (.i .u8 (.ofNat 0)), .s (.str ⟨#[115, 112, 101, 110, 100, 97, 98, 108, 101]⟩), .s (.str ⟨#[97]⟩), .s (.i .u8 (.ofNat 0)), .s (.str ⟨#[100, 117, 101]⟩), .s (.str ⟨#[97]⟩), .s (.i .u8 (.ofNat 0)), .s (.str ⟨#[119, 111, 114, 116, 104]⟩), .s (.str ⟨#[97]⟩), .s (.i .u8 (.ofNat 0)), .s (.str ⟨#[108, 101, 97, 118, 105, 110, 103]⟩), .s (.str ⟨#[97]⟩), .s (.i .u8 (.ofNat 0)), .s (.str ⟨#[115, 104, 97, 114, 101, 115]⟩), .s (.str ⟨#[97, 97]⟩), .s (.i .u8 (.ofNat 0)), .s (.str ⟨#[115, 101, 113]⟩), .s (.str ⟨#[97]⟩), .s (.i .u8 (.ofNat 0)), .s (.str ⟨#[116, 105, 109, 101]⟩), .s (.str ⟨#[]⟩), .s (.i .u8 (.ofNat 0)), .s (.str ⟨#[115, 117, 112, 112, 108, 121]⟩), .s (.str ⟨#[]⟩), .s (.i .u8 (.ofNat 0)), .s (.str ⟨#[106, 117, 100, 103, 101]⟩), .s (.str ⟨#[]⟩), .s (.i .u8 (.ofNat 0))])]
noncomputable def rB : Code := bodyOf Tryz.f7
noncomputable def rA0 : Code := sel1 rB
noncomputable def rA1 : Code := sel1 (sel2 rB)
noncomputable def rA2 : Code := sel1 (sel2 (sel2 rB))
noncomputable def rX : Code := sel1 (sel2 (sel2 (sel2 rB)))
noncomputable def rA3 : Code := sel1 rX
noncomputable def rRF : Code := blkOf (sel2 rX)
noncomputable def ro4 : Array Oper := opsOf (asgOf rRF)
noncomputable def ro5 : Array Oper := opsOf (blkOf (rbOf rRF))
noncomputable def ro6 : Array Oper := opsOf (sel1 (sel2 (sel2 (sel2 (sel2 rB)))))
theorem rbody : Tryz.f7.body = some (.seq rA0 (.seq rA1 (.seq rA2 (.seq (.seq rA3 (.block 0 (.rangeFunc (.tmp 9) #[10] (.region 4 ro4 false) (.block 1 (.region 5 ro5 true))))) (.seq (.region 6 ro6 false) .ret))))) := by kernel_rfl
noncomputable def lL : Code := loopOf (blkOf (bodyOf Tryz.f20))
noncomputable def lA : Code := sel1 lL
noncomputable def lY : Code := blkOf (sel2 lL)
noncomputable def lB : Code := sel1 lY
noncomputable def lC : Code := sel1 (sel2 lY)
noncomputable def lq6 : Array Oper := opsOf (sel1 (sel2 (sel2 lY)))
noncomputable def lD : Code := sel2 (sel2 (sel2 lY))
theorem lbody : Tryz.f20.body = some (.block 0 (.loop (.seq lA (.block 1 (.seq lB (.seq lC (.seq (.region 6 lq6 false) lD))))))) := by kernel_rfl

section
variable (V : Kn)
noncomputable def FD : Tab := yTab KT Tryz.prog XD V 1000 60
noncomputable def ccR (c : Code) (s : St) : Option (Exit × St) := (cC KT Tryz.prog XD (FD V) 19 c).run 1000 s
noncomputable def ccL (c : Code) (s : St) : Option (Exit × St) := (cC KT Tryz.prog XD (FD V) 25 c).run 1000 s
noncomputable def soR (os : Array Oper) (l : List Oper) (s : St) : Option St := sOps KT Tryz.prog XD (FD V) 19 os l s
noncomputable def soL (os : Array Oper) (l : List Oper) (s : St) : Option St := sOps KT Tryz.prog XD (FD V) 25 os l s
noncomputable def ru0 : St := ⟨⟨524287, [], envOf [.s (.str theText)] 0 .e⟩, layB l0 .e, 16, []⟩
noncomputable def ru1 : St := outS (ccR V rA0 ru0) ru0
noncomputable def ru2 : St := outS (ccR V rA1 (ru1 V)) ru0
noncomputable def ru3 : St := outS (ccR V rA2 (ru2 V)) ru0
noncomputable def ru4 : St := outS (ccR V rA3 (ru3 V)) ru0
noncomputable def lbx : Nat := match lbOf (rd (ru4 V).env (.tmp 9)) with | x :: _ => idOf x | [] => 0
noncomputable def lv0 : St := ⟨⟨33554431, [], envOf [.yl (ru4 V).nx, .p (lbx V) 0] 0 .e⟩, (ru4 V).H, (ru4 V).nx + 1, []⟩
noncomputable def ga1 (s : St) : St := outS (ccL V lA s) s
noncomputable def ga2 (s : St) : St := outS (ccL V lB (ga1 V s)) s
noncomputable def ga3 (s : St) : St := outS (ccL V lC (ga2 V s)) s
noncomputable def ga4 (s : St) : St := outO (soL V lq6 (lq6.toList.take 2) (ga3 V s)) s
noncomputable def gb0 (s : St) : St := ⟨putE 19 (ru4 V).env (some 10) (rd (ga4 V s).env (.tmp 22)), (ga4 V s).H, (ga4 V s).nx, []⟩
noncomputable def gb1 (s : St) : St := outO (soR V ro4 ro4.toList (gb0 V s)) s
noncomputable def gb2 (s : St) : St := outO (dRun KT Tryz.prog XD (FD V) 19 ro5 (gb1 V s).flush) s
noncomputable def ga5 (s : St) : St := outO (soL V lq6 (lq6.toList.drop 3) ⟨putE 25 (ga4 V s).env (opAt (lq6.toList.drop 2)).dst (.s (.b true)), (gb2 V s).H, (gb2 V s).nx, []⟩) s
noncomputable def ga6 (s : St) : St := outS (ccL V lD (ga5 V s).flush) s
noncomputable def lv : Nat → St | 0 => lv0 V | k + 1 => ga6 V (lv k)
end
end Go.Proofs.YtcakgpfemeholaaGreatDoor
