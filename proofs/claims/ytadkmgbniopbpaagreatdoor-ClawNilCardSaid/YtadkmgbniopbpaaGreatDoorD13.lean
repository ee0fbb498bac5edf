/-
  ClawNil: of no store nothing is clawed back, and the example of layer 17 comes out. Conditions: those of the given card.
-/
import Derived.Test.YtadkmgbniopbpaaGreatDoorD12
import Derived.Test.YtadkmgbniopbpaaGreatDoorMB
import Derived.Test.YtadkmgbniopbpaaGreatDoorTie
import Derived.Test.YtadkmgbniopbpaaGreatDoorCards
import Derived.ProofKit
import Derived.LaidMore
import Derived.OpenShut
import Derived.Stop.Joined
import Derived.SevenTiedAt
set_option linter.unusedSimpArgs false
set_option linter.unusedVariables false
namespace Go.Proofs.YtadkmgbniopbpaaGreatDoor
open Go Go.ChangeShapes Go.WideShapes Go.ChangeAt Go.RowKit Go.Bm
open Go.Am (Sc Sh ShArgs argAV okT noG)
set_option maxRecDepth 100000

theorem uB : Tryz.prog.underlying 4 = some .bool := by kernel_rfl
theorem u_u64 : Tryz.prog.underlying 22 = some (.int .u64) := by kernel_rfl
theorem sh_u64 {k : Nat} {xs : List Am.AV} (h : Sh Tryz.prog (k + 1) 22 xs) : ∃ a : Int, xs = [.s (.i .u64 a)] := by
  unfold Sh at h
  rw [u_u64] at h
  obtain ⟨n, rfl, _⟩ := h
  exact ⟨n, rfl⟩
theorem arg_u64 (x : Am.AV) : argAV Tryz.prog 22 [x] = x := by unfold argAV; rw [u_u64]; rfl
theorem u_u8 : Tryz.prog.underlying 5 = some (.int .u8) := by kernel_rfl
theorem sh_u8 {k : Nat} {xs : List Am.AV} (h : Sh Tryz.prog (k + 1) 5 xs) : ∃ a : Int, xs = [.s (.i .u8 a)] := by
  unfold Sh at h
  rw [u_u8] at h
  obtain ⟨n, rfl, _⟩ := h
  exact ⟨n, rfl⟩
theorem arg_u8 (x : Am.AV) : argAV Tryz.prog 5 [x] = x := by unfold argAV; rw [u_u8]; rfl

/-- What comes in. -/
theorem args_are {W : World} {vs : List Value} {avs : List Am.AV} (h : ShArgs Tryz.prog 20 [22, 5, 5] avs) (hc : Am.CRs W noG [] avs vs) :
    ∃ y0 y1 y2 : Int, vs = [.int .u64 y0, .int .u8 y1, .int .u8 y2] := by
  obtain ⟨z0, r0, rfl, h0, h⟩ := h
  obtain ⟨z1, r1, rfl, h1, h⟩ := h
  obtain ⟨z2, r2, rfl, h2, h⟩ := h
  obtain rfl := h
  obtain ⟨y0, rfl⟩ := sh_u64 h0
  obtain ⟨y1, rfl⟩ := sh_u8 h1
  obtain ⟨y2, rfl⟩ := sh_u8 h2
  rw [arg_u64, arg_u8, arg_u8] at hc
  cases hc with | cons _ v0 _ _ p0 hc =>
  cases hc with | cons _ v1 _ _ p1 hc =>
  cases hc with | cons _ v2 _ _ p2 hc =>
  cases hc
  cases p0
  cases p1
  cases p2
  exact ⟨y0, y1, y2, rfl⟩

/-- What is worked out of a call alone, it comes to; and nothing that was there is turned. -/
theorem calls_true {P : Program} {K : Tbl} {X : Ext1} {V : Kn} (hmx : P.follows .mixedOrders = true) (hK : K.ok P) (hX : X.valid P) (hV : V.ok P) {k d : Nat} {f : FuncId} {args : List AV} {vs : List Value} {W : World}
    (h : isTrue (yTab K P X V k d f args .e 0) = true) (hc : CRs (fun _ => .no) args vs) : Calls P f vs.toArray W fun e W' => e = .returned (.bool true) ∧ Below W.heap.size W W' := by
  unfold isTrue at h
  split at h
  · rename_i b H' nx' hx
    subst h
    refine ((yTab_valid hmx hK hX hV (k := k) d).1 _ _ _ _ _ _ _ hx W (fun _ => .no) vs (InvH.none W) hc).mono ?_
    rintro e W' ⟨v, ρ', rfl, _, hcr, hfe⟩
    cases hcr
    exact ⟨rfl, ⟨hfe.os, hfe.tape, hfe.output, hfe.size, fun k hk => (hfe.old k hk (fun _ _ h => by cases h)).1⟩⟩
  · cases h

theorem law_comes {W : World} (y0 y1 y2 : Int) : Calls Tryz.prog 3 #[.int .u64 y0, .int .u8 y1, .int .u8 y2] W fun e W' => e = .returned (.bool true) ∧ Below W.heap.size W W' :=
  calls_true mixed KT_ok XT_ok exV_ok (runLaw y0 y1 y2)
    (.cons _ _ _ _ (.s (.i .u64 _)) (.cons _ _ _ _ (.s (.i .u8 _)) (.cons _ _ _ _ (.s (.i .u8 _)) .nil)))

theorem own : ownKnob Tryz.prog.godebug = none := by kernel_rfl
theorem laidOut : laidOutB Tryz.prog = true := by kernel_rfl

theorem door_met (os : Os) (args : Array Value) : laidMetH Tryz.prog Rows.clawNilRow.laid ((World.doorLaid Tryz.prog 400 os).forCall (fun _ _ => 0) ⟨#[], args, []⟩).memory :=
  laidMetH_of_parts (laidMet_of_run' 8 (by kernel_rfl) (by kernel_rfl)) (by kernel_rfl)

theorem lifted (os : Os) (started : os.Started) (H : Type) (enc : TypeId × Value → H) :
    ReturnsInHanded {} Tryz.checked os 3 .any (fun w args => (Rows.clawNilSpec.pre enc Tryz.prog Tryz.f3 [] false w args ∧ laidMetH Tryz.prog Rows.clawNilRow.laid w) ∧ sizedMet enc Tryz.prog Tryz.f3 (OpenSpec.ofChange Rows.clawNilSpec) false w args)
      (Rows.clawNilSpec.post enc Tryz.prog Tryz.f3 false true false false) := by
  refine returnsInHanded_of_change_and (C := Tryz.checked) (X := fun w _ => laidMetH Tryz.prog Rows.clawNilRow.laid w) (fun _ _ _ hh h => h.of_heap hh) own started (by kernel_rfl) Tryz.func3
    (ChangeSpec.witness_shaped (enc := enc) (C := Tryz.checked) (os := os) (X := fun w _ => laidMetH Tryz.prog Rows.clawNilRow.laid w) false (World.doorLaid Tryz.prog 400 os) #[.int .u64 0, .int .u8 0, .int .u8 0] 8 rfl (World.shaped_of_RefB (by kernel_rfl) (by kernel_rfl)) (by kernel_rfl) (by kernel_rfl) (by kernel_rfl) (door_met os _)) ?_
  intro W base args ds gs before hval0 hW _ _ _ _
  have hval : ∀ (j : Nat) t v, Tryz.f3.params[j]? = some t → args[j]? = some v → Value.okWide Tryz.prog W .any base t v := hval0
  have hW' := hW
  obtain ⟨p, q, hA0, hV, rfl, hfz, hnd⟩ := hW
  have hA : DataW.TrodAll enc Tryz.prog W 0 (fun _ => true) true Tryz.f3.params.toList args.toList ds p := hA0
  have hts : ∀ t ∈ Tryz.f3.params.toList, okT Tryz.prog 20 t = true ∧ Tryz.prog.readableRec t = true ∧ t < Tryz.prog.types.size := fun t ht => by
    have : t = 5 ∨ t = 22 := by
      have h : t ∈ [22, 5, 5] := ht
      simp only [List.mem_cons, List.not_mem_nil, or_false] at h
      rcases h with rfl | rfl | rfl <;> simp
    rcases this with rfl | rfl <;> exact ⟨by kernel_rfl, by kernel_rfl, of_decide_eq_true (by kernel_rfl)⟩
  obtain ⟨avs, h1, h2⟩ := Am.args_CR _ _ _ _ (fun t ht => (hts t ht).1) (fun j t v hj hv => hval j t v (by simpa using hj) (by simpa using hv)) hA
  obtain ⟨y0, y1, y2, hargs⟩ := args_are (show ShArgs Tryz.prog 20 [22, 5, 5] avs from h1) h2
  have hds : ∃ d0 d1 d2, ds = [d0, d1, d2] := by
    have hA := hA
    obtain ⟨v0, vs0, d0, ds0, p0, q0, _, rfl, _, _, h0⟩ := trodAll_cons (t := 22) (ts := [5, 5]) hA
    obtain ⟨v1, vs1, d1, ds1, p1, q1, _, rfl, _, _, h1⟩ := trodAll_cons (t := 5) (ts := [5]) h0
    obtain ⟨v2, vs2, d2, ds2, p2, q2, _, rfl, _, _, h2⟩ := trodAll_cons (t := 5) (ts := []) h1
    obtain ⟨_, rfl, _⟩ := trodAll_nil h2
    exact ⟨_, _, _, rfl⟩
  obtain ⟨d0, d1, d2, rfl⟩ := hds
  have hA2 : args = #[.int .u64 y0, .int .u8 y1, .int .u8 y2] := by
    rw [← Array.toArray_toList (xs := args), hargs]
  rw [hA2]
  refine (law_comes y0 y1 y2).mono ?_
  rintro e W' ⟨rfl, hb⟩
  rw [← hA2]
  exact ⟨_, rfl, Am.post_of_below (P := Tryz.prog) (tb := 4) laidOut (fun t ht => (hts t ht).2) rfl rfl uB ⟨rfl, rfl, rfl⟩ hW' hb⟩

theorem clawNil_row : Rows.ClawNilSaid :=
  OpenClaim.holds_of_wide 3 Tryz.f3 rfl rfl rfl rfl rfl rfl rfl ⟨rfl, rfl, rfl, rfl, rfl⟩ rfl rfl rfl rfl rfl (by kernel_rfl) Tryz.func3 (by kernel_rfl)
    (of_decide_eq_true (by kernel_rfl)) (by unfold Func.isWrapper; rw [if_neg (of_decide_eq_false (by kernel_rfl))]; exact ⟨rfl, rfl⟩)
    (fun os started H enc _ => lifted os started H enc)

theorem clawNil_holds : Rows.ClawNilCardSaid :=
  Claim7.holds_tied_plain_at .later [] [.data] true (true, "3a4b4c97404aa0d8c4c2cb0bcee2f43e7b5472f3f8e3100f9158f8f44351f5d6") false
    clawNil_row (fun _ h => by cases h) (by kernel_rfl) (fun _ h => by cases h) clawNil_row_tie rfl ⟨rfl, rfl⟩ (by kernel_rfl) rfl
    (fun f fn hf hfn => by
      obtain rfl : f = 3 := Option.some.inj ((show Tryz.prog.funcNamed "jointure/jointurelaw17.ClawNil" = some 3 by kernel_rfl).symm.trans hf) |>.symm
      obtain rfl : fn = Tryz.f3 := (Option.some.inj (Tryz.func3.symm.trans hfn)).symm
      exact ⟨by kernel_rfl, fun j t ht => by
        rw [Tryz.params3] at ht
        have hm : t ∈ [22, 5, 5] := by simpa using Array.mem_of_getElem? ht
        have hall : ([22, 5, 5].all fun u => !Tryz.prog.wantsStandIn u) = true := by kernel_rfl
        exact (show Tryz.prog.wantsStandIn t = false by simpa using List.all_eq_true.1 hall t hm)⟩)
    (by kernel_rfl)
#print axioms clawNil_holds
end Go.Proofs.YtadkmgbniopbpaaGreatDoor
