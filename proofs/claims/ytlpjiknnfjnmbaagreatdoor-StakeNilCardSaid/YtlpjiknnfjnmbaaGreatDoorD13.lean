/-
  StakeNil: of no store: each deed answers so; and the script that it asks first goes as it should: for all times, owners, validators and amounts.
-/
import Derived.Test.YtlpjiknnfjnmbaaGreatDoorD12
import Derived.Test.YtlpjiknnfjnmbaaGreatDoorMB
import Derived.Test.YtlpjiknnfjnmbaaGreatDoorTie
import Derived.Test.YtlpjiknnfjnmbaaGreatDoorCards
import Derived.ProofKit
import Derived.LaidMore
import Derived.OpenShut
import Derived.Stop.Joined
import Derived.SevenTiedAt
set_option linter.unusedSimpArgs false
set_option linter.unusedVariables false
namespace Go.Proofs.YtlpjiknnfjnmbaaGreatDoor
open Go Go.ChangeShapes Go.WideShapes Go.ChangeAt Go.RowKit Go.Bm
open Go.Am (Sc Sh ShArgs argAV okT noG)
set_option maxRecDepth 100000

theorem u22 : Tryz.prog.underlying 22 = some (.int .u64) := by kernel_rfl
theorem u5 : Tryz.prog.underlying 5 = some (.int .u8) := by kernel_rfl
theorem u4 : Tryz.prog.underlying 4 = some .bool := by kernel_rfl
theorem u24 : Tryz.prog.underlying 24 = some (.array 4 22) := by kernel_rfl

theorem sh22 {k : Nat} {xs : List Am.AV} (h : Sh Tryz.prog (k + 1) 22 xs) : ∃ a : Int, xs = [.s (.i .u64 a)] := by
  unfold Sh at h
  rw [u22] at h
  obtain ⟨n, rfl, _⟩ := h
  exact ⟨n, rfl⟩
theorem sh5 {k : Nat} {xs : List Am.AV} (h : Sh Tryz.prog (k + 1) 5 xs) : ∃ a : Int, xs = [.s (.i .u8 a)] := by
  unfold Sh at h
  rw [u5] at h
  obtain ⟨n, rfl, _⟩ := h
  exact ⟨n, rfl⟩
theorem sh24 {k : Nat} {xs : List Am.AV} (h : Sh Tryz.prog (k + 2) 24 xs) : ∃ a b c d : Int, xs = [.s (.i .u64 a), .s (.i .u64 b), .s (.i .u64 c), .s (.i .u64 d)] := by
  unfold Sh at h
  rw [u24] at h
  obtain ⟨els, rfl, hl, he⟩ := h
  match els, hl with
  | [x0, x1, x2, x3], _ =>
    obtain ⟨a0, rfl⟩ := sh22 (he x0 (by simp))
    obtain ⟨a1, rfl⟩ := sh22 (he x1 (by simp))
    obtain ⟨a2, rfl⟩ := sh22 (he x2 (by simp))
    obtain ⟨a3, rfl⟩ := sh22 (he x3 (by simp))
    exact ⟨a0, a1, a2, a3, rfl⟩
theorem arg22 (x : Am.AV) : argAV Tryz.prog 22 [x] = x := by unfold argAV; rw [u22]; rfl
theorem arg5 (x : Am.AV) : argAV Tryz.prog 5 [x] = x := by unfold argAV; rw [u5]; rfl
theorem arg24 (xs : List Am.AV) : argAV Tryz.prog 24 xs = .a xs := by unfold argAV; rw [u24]

/-- What comes in. -/
theorem args_are {W : World} {vs : List Value} {avs : List Am.AV} (h : ShArgs Tryz.prog 20 [22, 5, 5, 5, 24] avs) (hc : Am.CRs W noG [] avs vs) :
    ∃ t a b c x0 x1 x2 x3 : Int, vs = [.int .u64 t, .int .u8 a, .int .u8 b, .int .u8 c, .agg #[.int .u64 x0, .int .u64 x1, .int .u64 x2, .int .u64 x3]] := by
  obtain ⟨y1, r1, rfl, h1, h⟩ := h
  obtain ⟨y2, r2, rfl, h2, h⟩ := h
  obtain ⟨y3, r3, rfl, h3, h⟩ := h
  obtain ⟨y4, r4, rfl, h4, h⟩ := h
  obtain ⟨y5, r5, rfl, h5, h⟩ := h
  obtain rfl := h
  obtain ⟨t, rfl⟩ := sh22 h1
  obtain ⟨a, rfl⟩ := sh5 h2
  obtain ⟨b, rfl⟩ := sh5 h3
  obtain ⟨c, rfl⟩ := sh5 h4
  obtain ⟨x0, x1, x2, x3, rfl⟩ := sh24 h5
  rw [arg22, arg5, arg5, arg5, arg24] at hc
  cases hc with | cons _ v1 _ _ p1 hc =>
  cases hc with | cons _ v2 _ _ p2 hc =>
  cases hc with | cons _ v3 _ _ p3 hc =>
  cases hc with | cons _ v4 _ _ p4 hc =>
  cases hc with | cons _ v5 _ _ p5 hc =>
  cases hc
  cases p1; cases p2; cases p3; cases p4
  cases p5 with | a _ us hu =>
  cases hu with | cons _ w1 _ _ q1 hu =>
  cases hu with | cons _ w2 _ _ q2 hu =>
  cases hu with | cons _ w3 _ _ q3 hu =>
  cases hu with | cons _ w4 _ _ q4 hu =>
  cases hu
  cases q1; cases q2; cases q3; cases q4
  exact ⟨t, a, b, c, x0, x1, x2, x3, rfl⟩

/-- What is worked out of a call alone, it comes to; and nothing that was there is turned. -/
theorem calls_true {P : Program} {K : Tbl} {X : Ext1} {V : Kn} (hmx : P.follows .mixedOrders = true) (hK : K.ok P) (hX : X.valid P) (hV : V.ok P) {k d : Nat} {f : FuncId} {args : List AV} {vs : List Value} {W : World}
    (h : isTrue (yTab K P X V k d f args .e 0) = true) (hc : CRs (fun _ => .no) args vs) : Calls P f vs.toArray W fun e W' => e = .returned (.bool true) ∧ Below W.heap.size W W' := by
  unfold isTrue at h
  split at h
  · rename_i b H' nx' hx
    subst h
    refine ((yTab_valid hmx hK hX hV (k := k) d).1 _ _ _ _ _ _ _ hx W (fun _ => .no) vs (InvH.none W) hc).mono ?_
    rintro e W' ⟨v, ρ', rfl, _, hcr, hfe⟩
    cases hcr
    exact ⟨rfl, ⟨hfe.os, hfe.tape, hfe.output, hfe.size, fun k hk => (hfe.old k hk (fun _ _ h => by cases h)).1⟩⟩
  · cases h

theorem three {W : World} (t a b c x0 x1 x2 x3 : Int) : Calls Tryz.prog 3 #[.int .u64 t, .int .u8 a, .int .u8 b, .int .u8 c, .agg #[.int .u64 x0, .int .u64 x1, .int .u64 x2, .int .u64 x3]] W fun e W' => e = .returned (.bool true) ∧ Below W.heap.size W W' :=
  calls_true mixed KT_ok XT_ok goesV_ok (run3 t a b c x0 x1 x2 x3)
    (.cons _ _ _ _ (.s (.i .u64 _)) (.cons _ _ _ _ (.s (.i .u8 _)) (.cons _ _ _ _ (.s (.i .u8 _)) (.cons _ _ _ _ (.s (.i .u8 _)) (.cons _ _ _ _
      (.a _ _ (.cons _ _ _ _ (.s (.i .u64 _)) (.cons _ _ _ _ (.s (.i .u64 _)) (.cons _ _ _ _ (.s (.i .u64 _)) (.cons _ _ _ _ (.s (.i .u64 _)) .nil))))) .nil)))))

theorem own : ownKnob Tryz.prog.godebug = none := by kernel_rfl
theorem laidOut : laidOutB Tryz.prog = true := by kernel_rfl

theorem door_met (os : Os) (args : Array Value) : laidMetH Tryz.prog Rows.stakeNilRow.laid ((World.doorLaid Tryz.prog 400 os).forCall (fun _ _ => 0) ⟨#[], args, []⟩).memory :=
  laidMetH_of_parts (laidMet_of_run' 8 (by kernel_rfl) (by kernel_rfl)) (by kernel_rfl)

theorem lifted (os : Os) (started : os.Started) (H : Type) (enc : TypeId × Value → H) :
    ReturnsInHanded {} Tryz.checked os 3 .any (fun w args => (Rows.stakeNilSpec.pre enc Tryz.prog Tryz.f3 [] false w args ∧ laidMetH Tryz.prog Rows.stakeNilRow.laid w) ∧ sizedMet enc Tryz.prog Tryz.f3 (OpenSpec.ofChange Rows.stakeNilSpec) false w args)
      (Rows.stakeNilSpec.post enc Tryz.prog Tryz.f3 false true false false) := by
  refine returnsInHanded_of_change_and (C := Tryz.checked) (X := fun w _ => laidMetH Tryz.prog Rows.stakeNilRow.laid w) (fun _ _ _ hh h => h.of_heap hh) own started (by kernel_rfl) Tryz.func3
    (ChangeSpec.witness_shaped (enc := enc) (C := Tryz.checked) (os := os) (X := fun w _ => laidMetH Tryz.prog Rows.stakeNilRow.laid w) false (World.doorLaid Tryz.prog 400 os) #[.int .u64 0, .int .u8 0, .int .u8 0, .int .u8 0, .agg #[.int .u64 0, .int .u64 0, .int .u64 0, .int .u64 0]] 8 rfl (World.shaped_of_RefB (by kernel_rfl) (by kernel_rfl)) (by kernel_rfl) (by kernel_rfl) (by kernel_rfl) (door_met os _)) ?_
  intro W base args ds gs before hval0 hW _ _ _ _
  have hval : ∀ (j : Nat) t v, Tryz.f3.params[j]? = some t → args[j]? = some v → Value.okWide Tryz.prog W .any base t v := hval0
  have hW' := hW
  obtain ⟨p, q, hA0, hV, rfl, hfz, hnd⟩ := hW
  have hA : DataW.TrodAll enc Tryz.prog W 0 (fun _ => true) true Tryz.f3.params.toList args.toList ds p := hA0
  have hts : ∀ t ∈ Tryz.f3.params.toList, okT Tryz.prog 20 t = true ∧ Tryz.prog.readableRec t = true ∧ t < Tryz.prog.types.size := fun t ht => by
    have : t = 22 ∨ t = 5 ∨ t = 24 := by
      have h : t ∈ [22, 5, 5, 5, 24] := ht
      simpa [or_comm, or_left_comm, or_assoc] using h
    rcases this with rfl | rfl | rfl <;> exact ⟨by kernel_rfl, by kernel_rfl, of_decide_eq_true (by kernel_rfl)⟩
  obtain ⟨avs, h1, h2⟩ := Am.args_CR _ _ _ _ (fun t ht => (hts t ht).1) (fun j t v hj hv => hval j t v (by simpa using hj) (by simpa using hv)) hA
  obtain ⟨t, a, b, c, x0, x1, x2, x3, hargs⟩ := args_are (show ShArgs Tryz.prog 20 [22, 5, 5, 5, 24] avs from h1) h2
  have hds : ∃ d1 d2 d3 d4 d5, ds = [d1, d2, d3, d4, d5] := by
    have hA := hA
    obtain ⟨v0, vs0, d0, ds0, p0, q0, _, rfl, _, _, h0⟩ := trodAll_cons (t := 22) (ts := [5, 5, 5, 24]) hA
    obtain ⟨v1, vs1, d1, ds1, p1, q1, _, rfl, _, _, h1⟩ := trodAll_cons (t := 5) (ts := [5, 5, 24]) h0
    obtain ⟨v2, vs2, d2, ds2, p2, q2, _, rfl, _, _, h2⟩ := trodAll_cons (t := 5) (ts := [5, 24]) h1
    obtain ⟨v3, vs3, d3, ds3, p3, q3, _, rfl, _, _, h3⟩ := trodAll_cons (t := 5) (ts := [24]) h2
    obtain ⟨v4, vs4, d4, ds4, p4, q4, _, rfl, _, _, h4⟩ := trodAll_cons (t := 24) (ts := []) h3
    obtain ⟨_, rfl, _⟩ := trodAll_nil h4
    exact ⟨_, _, _, _, _, rfl⟩
  obtain ⟨d1, d2, d3, d4, d5, rfl⟩ := hds
  have hA2 : args = #[.int .u64 t, .int .u8 a, .int .u8 b, .int .u8 c, .agg #[.int .u64 x0, .int .u64 x1, .int .u64 x2, .int .u64 x3]] := by
    rw [← Array.toArray_toList (xs := args), hargs]
  rw [hA2]
  refine (three t a b c x0 x1 x2 x3).mono ?_
  rintro e W' ⟨rfl, hb⟩
  rw [← hA2]
  exact ⟨_, rfl, Am.post_of_below (P := Tryz.prog) (tb := 4) laidOut (fun t ht => (hts t ht).2) rfl rfl u4 ⟨rfl, rfl, rfl⟩ hW' hb⟩

theorem stakeNil_row : Rows.StakeNilSaid :=
  OpenClaim.holds_of_wide 3 Tryz.f3 rfl rfl rfl rfl rfl rfl rfl ⟨rfl, rfl, rfl, rfl, rfl⟩ rfl rfl rfl rfl rfl (by kernel_rfl) Tryz.func3 (by kernel_rfl)
    (of_decide_eq_true (by kernel_rfl)) (by unfold Func.isWrapper; rw [if_neg (of_decide_eq_false (by kernel_rfl))]; exact ⟨rfl, rfl⟩)
    (fun os started H enc _ => lifted os started H enc)

theorem stakeNil_holds : Rows.StakeNilCardSaid :=
  Claim7.holds_tied_plain_at .later [] [.data] true (true, "ce44970f7c6742833435beb103c0dbdf2d8dbfdc0c43760648afec0811988daf") false
    stakeNil_row (fun _ h => by cases h) (by kernel_rfl) (fun _ h => by cases h) stakeNil_row_tie rfl ⟨rfl, rfl⟩ (by kernel_rfl) rfl
    (fun f fn hf hfn => by
      obtain rfl : f = 3 := Option.some.inj ((show Tryz.prog.funcNamed "jointure/jointurelaw15.StakeNil" = some 3 by kernel_rfl).symm.trans hf) |>.symm
      obtain rfl : fn = Tryz.f3 := (Option.some.inj (Tryz.func3.symm.trans hfn)).symm
      exact ⟨by kernel_rfl, fun j t ht => by
        rw [Tryz.params3] at ht
        have hm : t ∈ [22, 5, 5, 5, 24] := by simpa using Array.mem_of_getElem? ht
        have hall : ([22, 5, 5, 5, 24].all fun u => !Tryz.prog.wantsStandIn u) = true := by kernel_rfl
        exact (show Tryz.prog.wantsStandIn t = false by simpa using List.all_eq_true.1 hall t hm)⟩)
    (by kernel_rfl)
#print axioms stakeNil_holds
end Go.Proofs.YtlpjiknnfjnmbaaGreatDoor
