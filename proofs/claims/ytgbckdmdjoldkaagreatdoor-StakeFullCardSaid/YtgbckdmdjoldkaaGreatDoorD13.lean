/-
  StakeFull: so many entries an owner may have at a validator, and no more, till one is due. Conditions: those of the given card.
-/
import Derived.Test.YtgbckdmdjoldkaaGreatDoorD12
import Derived.Test.YtgbckdmdjoldkaaGreatDoorMB
import Derived.Test.YtgbckdmdjoldkaaGreatDoorTie
import Derived.Test.YtgbckdmdjoldkaaGreatDoorCards
import Derived.ProofKit
import Derived.LaidMore
import Derived.OpenShut
import Derived.Stop.Joined
import Derived.SevenTiedAt
set_option linter.unusedSimpArgs false
set_option linter.unusedVariables false
namespace Go.Proofs.YtgbckdmdjoldkaaGreatDoor
open Go Go.ChangeShapes Go.WideShapes Go.ChangeAt Go.RowKit Go.Bm
open Go.Am (Sc Sh ShArgs argAV okT noG)
set_option maxRecDepth 100000

theorem uB : Tryz.prog.underlying 4 = some .bool := by kernel_rfl
theorem u_u8 : Tryz.prog.underlying 5 = some (.int .u8) := by kernel_rfl
theorem sh_u8 {k : Nat} {xs : List Am.AV} (h : Sh Tryz.prog (k + 1) 5 xs) : ∃ a : Int, xs = [.s (.i .u8 a)] ∧ 0 ≤ a ∧ a < 256 := by
  unfold Sh at h
  rw [u_u8] at h
  obtain ⟨n, rfl, hn⟩ := h
  have hn : (decide ((0 : Int) ≤ n) && decide (n ≤ 255)) = true := hn
  simp only [Bool.and_eq_true, decide_eq_true_eq] at hn
  exact ⟨n, rfl, hn.1, by omega⟩
theorem arg_u8 (x : Am.AV) : argAV Tryz.prog 5 [x] = x := by unfold argAV; rw [u_u8]; rfl

/-- What comes in. -/
theorem args_are {W : World} {vs : List Value} {avs : List Am.AV} (h : ShArgs Tryz.prog 20 [5, 5, 5] avs) (hc : Am.CRs W noG [] avs vs) :
    ∃ y0 y1 y2 : Int, vs = [.int .u8 y0, .int .u8 y1, .int .u8 y2] ∧ (0 ≤ y0 ∧ y0 < 256) ∧ (0 ≤ y1 ∧ y1 < 256) ∧ (0 ≤ y2 ∧ y2 < 256) := by
  obtain ⟨z0, r0, rfl, h0, h⟩ := h
  obtain ⟨z1, r1, rfl, h1, h⟩ := h
  obtain ⟨z2, r2, rfl, h2, h⟩ := h
  obtain rfl := h
  obtain ⟨y0, rfl, g0⟩ := sh_u8 h0
  obtain ⟨y1, rfl, g1⟩ := sh_u8 h1
  obtain ⟨y2, rfl, g2⟩ := sh_u8 h2
  rw [arg_u8, arg_u8, arg_u8] at hc
  cases hc with | cons _ v0 _ _ p0 hc =>
  cases hc with | cons _ v1 _ _ p1 hc =>
  cases hc with | cons _ v2 _ _ p2 hc =>
  cases hc
  cases p0
  cases p1
  cases p2
  exact ⟨y0, y1, y2, rfl, g0, g1, g2⟩

theorem own : ownKnob Tryz.prog.godebug = none := by kernel_rfl
theorem laidOut : laidOutB Tryz.prog = true := by kernel_rfl

theorem door_met (os : Os) (args : Array Value) : laidMetH Tryz.prog Rows.stakeFullRow.laid ((World.doorLaid Tryz.prog 400 os).forCall (fun _ _ => 0) ⟨#[], args, []⟩).memory :=
  laidMetH_of_parts (laidMet_of_run' 8 (by kernel_rfl) (by kernel_rfl)) (by kernel_rfl)

theorem lifted (os : Os) (started : os.Started) (H : Type) (enc : TypeId × Value → H) :
    ReturnsInHanded {} Tryz.checked os 3 .any (fun w args => (Rows.stakeFullSpec.pre enc Tryz.prog Tryz.f3 [] false w args ∧ laidMetH Tryz.prog Rows.stakeFullRow.laid w) ∧ sizedMet enc Tryz.prog Tryz.f3 (OpenSpec.ofChange Rows.stakeFullSpec) false w args)
      (Rows.stakeFullSpec.post enc Tryz.prog Tryz.f3 false true false false) := by
  refine returnsInHanded_of_change_and (C := Tryz.checked) (X := fun w _ => laidMetH Tryz.prog Rows.stakeFullRow.laid w) (fun _ _ _ hh h => h.of_heap hh) own started (by kernel_rfl) Tryz.func3
    (ChangeSpec.witness_shaped (enc := enc) (C := Tryz.checked) (os := os) (X := fun w _ => laidMetH Tryz.prog Rows.stakeFullRow.laid w) false (World.doorLaid Tryz.prog 400 os) #[.int .u8 0, .int .u8 0, .int .u8 0] 8 rfl (World.shaped_of_RefB (by kernel_rfl) (by kernel_rfl)) (by kernel_rfl) (by kernel_rfl) (by kernel_rfl) (door_met os _)) ?_
  intro W base args ds gs before hval0 hW _ _ _ _
  have hval : ∀ (j : Nat) t v, Tryz.f3.params[j]? = some t → args[j]? = some v → Value.okWide Tryz.prog W .any base t v := hval0
  have hW' := hW
  obtain ⟨p, q, hA0, hV, rfl, hfz, hnd⟩ := hW
  have hA : DataW.TrodAll enc Tryz.prog W 0 (fun _ => true) true Tryz.f3.params.toList args.toList ds p := hA0
  have hts : ∀ t ∈ Tryz.f3.params.toList, okT Tryz.prog 20 t = true ∧ Tryz.prog.readableRec t = true ∧ t < Tryz.prog.types.size := fun t ht => by
    have : t = 5 := by
      have h : t ∈ [5, 5, 5] := ht
      simp only [List.mem_cons, List.not_mem_nil, or_false] at h
      rcases h with rfl | rfl | rfl <;> simp
    rcases this with rfl <;> exact ⟨by kernel_rfl, by kernel_rfl, of_decide_eq_true (by kernel_rfl)⟩
  obtain ⟨avs, h1, h2⟩ := Am.args_CR _ _ _ _ (fun t ht => (hts t ht).1) (fun j t v hj hv => hval j t v (by simpa using hj) (by simpa using hv)) hA
  obtain ⟨y0, y1, y2, hargs, g0, g1, g2⟩ := args_are (show ShArgs Tryz.prog 20 [5, 5, 5] avs from h1) h2
  have hds : ∃ d0 d1 d2, ds = [d0, d1, d2] := by
    have hA := hA
    obtain ⟨v0, vs0, d0, ds0, p0, q0, _, rfl, _, _, h0⟩ := trodAll_cons (t := 5) (ts := [5, 5]) hA
    obtain ⟨v1, vs1, d1, ds1, p1, q1, _, rfl, _, _, h1⟩ := trodAll_cons (t := 5) (ts := [5]) h0
    obtain ⟨v2, vs2, d2, ds2, p2, q2, _, rfl, _, _, h2⟩ := trodAll_cons (t := 5) (ts := []) h1
    obtain ⟨_, rfl, _⟩ := trodAll_nil h2
    exact ⟨_, _, _, rfl⟩
  obtain ⟨d0, d1, d2, rfl⟩ := hds
  have hA2 : args = #[.int .u8 y0, .int .u8 y1, .int .u8 y2] := by
    rw [← Array.toArray_toList (xs := args), hargs]
  rw [hA2]
  refine (law_comes g0.1 g0.2 g1.1 g1.2 g2.1 g2.2).mono ?_
  rintro e W' ⟨rfl, hb⟩
  rw [← hA2]
  exact ⟨_, rfl, Am.post_of_below (P := Tryz.prog) (tb := 4) laidOut (fun t ht => (hts t ht).2) rfl rfl uB ⟨rfl, rfl, rfl⟩ hW' hb⟩

theorem stakeFull_row : Rows.StakeFullSaid :=
  OpenClaim.holds_of_wide 3 Tryz.f3 rfl rfl rfl rfl rfl rfl rfl ⟨rfl, rfl, rfl, rfl, rfl⟩ rfl rfl rfl rfl rfl (by kernel_rfl) Tryz.func3 (by kernel_rfl)
    (of_decide_eq_true (by kernel_rfl)) (by unfold Func.isWrapper; rw [if_neg (of_decide_eq_false (by kernel_rfl))]; exact ⟨rfl, rfl⟩)
    (fun os started H enc _ => lifted os started H enc)

theorem stakeFull_holds : Rows.StakeFullCardSaid :=
  Claim7.holds_tied_plain_at .later [] [.data] true (true, "c50b4aa94af7342d0b327ef0ae2265d6478f29ebddef9a645d643cc5e290cc40") false
    stakeFull_row (fun _ h => by cases h) (by kernel_rfl) (fun _ h => by cases h) stakeFull_row_tie rfl ⟨rfl, rfl⟩ (by kernel_rfl) rfl
    (fun f fn hf hfn => by
      obtain rfl : f = 3 := Option.some.inj ((show Tryz.prog.funcNamed "jointure/jointurelaw15.StakeFull" = some 3 by kernel_rfl).symm.trans hf) |>.symm
      obtain rfl : fn = Tryz.f3 := (Option.some.inj (Tryz.func3.symm.trans hfn)).symm
      exact ⟨by kernel_rfl, fun j t ht => by
        rw [Tryz.params3] at ht
        have hm : t ∈ [5, 5, 5] := by simpa using Array.mem_of_getElem? ht
        have hall : ([5, 5, 5].all fun u => !Tryz.prog.wantsStandIn u) = true := by kernel_rfl
        exact (show Tryz.prog.wantsStandIn t = false by simpa using List.all_eq_true.1 hall t hm)⟩)
    (by kernel_rfl)
#print axioms stakeFull_holds
end Go.Proofs.YtgbckdmdjoldkaaGreatDoor
