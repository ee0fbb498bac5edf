/-
  AppNil: of no app each step is refused, it has no time, no copy and no state, whatever the bytes are; and the example of layer 19 comes out. Conditions: those of the given card.
-/
import Derived.Test.YtikbjhoocpbpiaaGreatDoorD12b
import Derived.Test.YtikbjhoocpbpiaaGreatDoorMB
import Derived.Test.YtikbjhoocpbpiaaGreatDoorTie
import Derived.Test.YtikbjhoocpbpiaaGreatDoorCards
import Derived.ProofKit
import Derived.LaidMore
import Derived.OpenShut
import Derived.Stop.Joined
import Derived.SevenTiedAt
set_option linter.unusedSimpArgs false
set_option linter.unusedVariables false
namespace Go.Proofs.YtikbjhoocpbpiaaGreatDoor
open Go Go.ChangeShapes Go.WideShapes Go.ChangeAt Go.RowKit Go.Bm
open Go.Am (Sc Sh ShArgs argAV okT noG)
set_option maxRecDepth 100000

theorem uB : Tryz.prog.underlying 4 = some .bool := by kernel_rfl
theorem u_p : Tryz.prog.underlying 22 = some (.slice 5) := by kernel_rfl

/-- What comes in. -/
theorem p_is {W : World} {b : Nat} {v : Value} (h : Value.okWide Tryz.prog W .any b 22 v) : v = .slice none 0 0 ∨ ∃ k off len cap, v = .slice (some ⟨k, off, none⟩) len cap ∧ len ≤ cap ∧ cap ≤ maxLen := by
  simp only [Value.okWide, u_p, Cell.okWide] at h
  cases v with
  | slice A len cap =>
    cases A with
    | none =>
      simp only [Cell.ok, u_p] at h
      cases len with
      | zero => cases cap with
        | zero => exact .inl rfl
        | succ c => exact absurd h (by simp)
      | succ l => exact absurd h (by simp)
    | some a =>
      simp only [Cell.ok, u_p] at h
      obtain ⟨h1, h2, h3⟩ := h
      obtain ⟨_, hs, _⟩ := h3
      obtain ⟨k, off, s⟩ := a
      simp only at hs; subst hs
      refine .inr ⟨k, off, len, cap, rfl, h1, ?_⟩
      have h2 : (cap : Int) ≤ 9223372036854775807 := h2
      unfold maxLen
      omega
  | _ => simp [Cell.ok, u_p] at h

/-- What is worked out of a call alone, it comes to; and nothing that was there is turned. -/
theorem calls_true {P : Program} {K : Tbl} {X : Ext1} {V : Kn} (hmx : P.follows .mixedOrders = true) (hK : K.ok P) (hX : X.valid P) (hV : V.ok P) {k d : Nat} {f : FuncId} {args : List AV} {vs : List Value} {W : World}
    (h : isTrue (yTab K P X V k d f args .e 0) = true) (hc : CRs (fun _ => .no) args vs) : Calls P f vs.toArray W fun e W' => e = .returned (.bool true) ∧ Below W.heap.size W W' := by
  unfold isTrue at h
  split at h
  · rename_i b H' nx' hx
    subst h
    refine ((yTab_valid hmx hK hX hV (k := k) d).1 _ _ _ _ _ _ _ hx W (fun _ => .no) vs (InvH.none W) hc).mono ?_
    rintro e W' ⟨v, ρ', rfl, _, hcr, hfe⟩
    cases hcr
    exact ⟨rfl, ⟨hfe.os, hfe.tape, hfe.output, hfe.size, fun k hk => (hfe.old k hk (fun _ _ h => by cases h)).1⟩⟩
  · cases h

theorem law_comes {W : World} {v : Value} (h : v = .slice none 0 0 ∨ ∃ k off len cap, v = .slice (some ⟨k, off, none⟩) len cap ∧ len ≤ cap ∧ cap ≤ maxLen) : Calls Tryz.prog 3 #[v] W fun e W' => e = .returned (.bool true) ∧ Below W.heap.size W W' := by
  rcases h with rfl | ⟨k, off, len, cap, rfl, h1, h2⟩
  · exact calls_true mixed KT_ok XT_ok exV_ok runNil (.cons _ _ _ _ (.s .sn) .nil)
  · exact far_comes k off len cap h1 h2

theorem own : ownKnob Tryz.prog.godebug = none := by kernel_rfl
theorem laidOut : laidOutB Tryz.prog = true := by kernel_rfl

theorem door_met (os : Os) (args : Array Value) : laidMetH Tryz.prog Rows.appNilRow.laid ((World.doorLaid Tryz.prog 400 os).forCall (fun _ _ => 0) ⟨#[], args, []⟩).memory :=
  laidMetH_of_parts (laidMet_of_run' 8 (by kernel_rfl) (by kernel_rfl)) (by kernel_rfl)

theorem lifted (os : Os) (started : os.Started) (H : Type) (enc : TypeId × Value → H) :
    ReturnsInHanded {} Tryz.checked os 3 .any (fun w args => (Rows.appNilSpec.pre enc Tryz.prog Tryz.f3 [] false w args ∧ laidMetH Tryz.prog Rows.appNilRow.laid w) ∧ sizedMet enc Tryz.prog Tryz.f3 (OpenSpec.ofChange Rows.appNilSpec) false w args)
      (Rows.appNilSpec.post enc Tryz.prog Tryz.f3 false true false false) := by
  refine returnsInHanded_of_change_and (C := Tryz.checked) (X := fun w _ => laidMetH Tryz.prog Rows.appNilRow.laid w) (fun _ _ _ hh h => h.of_heap hh) own started (by kernel_rfl) Tryz.func3
    (ChangeSpec.witness_shaped (enc := enc) (C := Tryz.checked) (os := os) (X := fun w _ => laidMetH Tryz.prog Rows.appNilRow.laid w) false (World.doorLaid Tryz.prog 400 os) #[.slice none 0 0] 8 rfl (World.shaped_of_RefB (by kernel_rfl) (by kernel_rfl)) (by kernel_rfl) (by kernel_rfl) (by kernel_rfl) (door_met os _)) ?_
  intro W base args ds gs before hval0 hW _ _ _ _
  have hval : ∀ (j : Nat) t v, Tryz.f3.params[j]? = some t → args[j]? = some v → Value.okWide Tryz.prog W .any base t v := hval0
  have hW' := hW
  obtain ⟨p, q, hA0, hV, rfl, hfz, hnd⟩ := hW
  have hA : DataW.TrodAll enc Tryz.prog W 0 (fun _ => true) true Tryz.f3.params.toList args.toList ds p := hA0
  have hts : ∀ t ∈ Tryz.f3.params.toList, Tryz.prog.readableRec t = true ∧ t < Tryz.prog.types.size := fun t ht => by
    have : t = 22 := by
      have h : t ∈ [22] := ht
      simp only [List.mem_cons, List.not_mem_nil, or_false] at h
      rcases h with rfl <;> simp
    rcases this with rfl <;> exact ⟨by kernel_rfl, of_decide_eq_true (by kernel_rfl)⟩
  have hv : ∃ v d0, args.toList = [v] ∧ ds = [d0] := by
    have hA := hA
    obtain ⟨v0, vs0, d0, ds0, p0, q0, e1, rfl, _, _, h0⟩ := trodAll_cons (t := 22) (ts := []) hA
    obtain ⟨e2, rfl, _⟩ := trodAll_nil h0
    exact ⟨v0, d0, by rw [e1, e2], rfl⟩
  obtain ⟨v, d0, hargs, rfl⟩ := hv
  have hA2 : args = #[v] := by
    rw [← Array.toArray_toList (xs := args), hargs]
  have hp := p_is (hval 0 22 v rfl (by rw [hA2]; rfl))
  rw [hA2]
  refine (law_comes hp).mono ?_
  rintro e W' ⟨rfl, hb⟩
  rw [← hA2]
  exact ⟨_, rfl, Am.post_of_below (P := Tryz.prog) (tb := 4) laidOut (fun t ht => hts t ht) rfl rfl uB ⟨rfl, rfl, rfl⟩ hW' hb⟩

theorem appNil_row : Rows.AppNilSaid :=
  OpenClaim.holds_of_wide 3 Tryz.f3 rfl rfl rfl rfl rfl rfl rfl ⟨rfl, rfl, rfl, rfl, rfl⟩ rfl rfl rfl rfl rfl (by kernel_rfl) Tryz.func3 (by kernel_rfl)
    (of_decide_eq_true (by kernel_rfl)) (by unfold Func.isWrapper; rw [if_neg (of_decide_eq_false (by kernel_rfl))]; exact ⟨rfl, rfl⟩)
    (fun os started H enc _ => lifted os started H enc)

theorem appNil_holds : Rows.AppNilCardSaid :=
  Claim7.holds_tied_plain_at .later [] [.data] true (true, "05d745acf38f67019fbefab162b0d4b44333c5c9c7535a5f0a2c3924d474b3f9") false
    appNil_row (fun _ h => by cases h) (by kernel_rfl) (fun _ h => by cases h) appNil_row_tie rfl ⟨rfl, rfl⟩ (by kernel_rfl) rfl
    (fun f fn hf hfn => by
      obtain rfl : f = 3 := Option.some.inj ((show Tryz.prog.funcNamed "jointure/jointurelaw19.AppNil" = some 3 by kernel_rfl).symm.trans hf) |>.symm
      obtain rfl : fn = Tryz.f3 := (Option.some.inj (Tryz.func3.symm.trans hfn)).symm
      exact ⟨by kernel_rfl, fun j t ht => by
        rw [Tryz.params3] at ht
        have hm : t ∈ [22] := by simpa using Array.mem_of_getElem? ht
        have hall : ([22].all fun u => !Tryz.prog.wantsStandIn u) = true := by kernel_rfl
        exact (show Tryz.prog.wantsStandIn t = false by simpa using List.all_eq_true.1 hall t hm)⟩)
    (by kernel_rfl)
#print axioms appNil_holds
end Go.Proofs.YtikbjhoocpbpiaaGreatDoor
