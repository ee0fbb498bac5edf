/-
  DeskSays: an error is said by its number, whatever it is; and the example of layer 22 comes out. Conditions: those of the given card.
-/
import Derived.Test.YtcakgpfemeholaaGreatDoorD13a
import Derived.Test.YtcakgpfemeholaaGreatDoorMB
import Derived.Test.YtcakgpfemeholaaGreatDoorTie
import Derived.Test.YtcakgpfemeholaaGreatDoorCards
import Derived.ProofKit
import Derived.LaidMore
import Derived.OpenShut
import Derived.Stop.Joined
import Derived.SevenTiedAt
import Derived.Lay
set_option linter.unusedSimpArgs false
set_option linter.unusedVariables false
namespace Go.Proofs.YtcakgpfemeholaaGreatDoor
open Go Go.ChangeShapes Go.WideShapes Go.ChangeAt Go.RowKit Go.Bm
open Go.Am (Sc Sh ShArgs argAV okT noG)
set_option maxRecDepth 100000

theorem uBool : Tryz.prog.underlying 4 = some .bool := by kernel_rfl
theorem u_e : Tryz.prog.underlying 3 = some (.int .i64) := by kernel_rfl

/-- What comes in. -/
theorem e_is {W : World} {b : Nat} {v : Value} (h : Value.okWide Tryz.prog W .any b 3 v) : ∃ e : Int, v = .int .i64 e ∧ -9223372036854775808 ≤ e ∧ e ≤ 9223372036854775807 := by
  simp only [Value.okWide, u_e, Cell.okWide] at h
  cases v with
  | int k n =>
    simp only [Cell.ok, u_e] at h
    obtain ⟨rfl, h⟩ := h
    have h : -9223372036854775808 ≤ n ∧ n ≤ 9223372036854775807 := h
    exact ⟨n, rfl, h.1, h.2⟩
  | _ => simp [Cell.ok, u_e] at h

theorem own : ownKnob Tryz.prog.godebug = none := by kernel_rfl
theorem laidOut : laidOutB Tryz.prog = true := by kernel_rfl

theorem door_met (os : Os) (args : Array Value) : laidMetH Tryz.prog Rows.deskSaysRow.laid ((World.laidAll Tryz.prog os Rows.deskSaysRow.laid).forCall (fun _ _ => 0) ⟨#[], args, []⟩).memory := by
  rw [MakeChecks.laidMetH_plain _ _ _ (by kernel_rfl)]
  exact laidMet_laidAll _ (by kernel_rfl) (by kernel_rfl)

/-- The wrap, with the world's shape and what is laid. -/
theorem handed_of {H : Type} {enc : TypeId × Value → H} {os : Os} (started : os.Started)
    (witness : ∃ (w : World) (tape : Tape) (i : Input), w.os = os ∧ (w.forCall tape i).Shaped Tryz.prog ∧ i.vars = [] ∧ Input.okWide Tryz.prog (w.forCall tape i) .any w.heap.size 3 i ∧
      ((Rows.deskSaysSpec.pre enc Tryz.prog Tryz.f3 [] false (w.forCall tape i).memory i.args ∧ laidMetH Tryz.prog Rows.deskSaysRow.laid (w.forCall tape i).memory) ∧ sizedMet enc Tryz.prog Tryz.f3 (OpenSpec.ofChange Rows.deskSaysSpec) false (w.forCall tape i).memory i.args) ∧ ({} : Assume).holds Tryz.prog (lone (Frame.enter Tryz.prog 3 i.args .normal) [] (w.forCall tape i)))
    (contract : ∀ (W : World) (base : Nat) (args : Array Value) (ds gs : List (DataW H)) (before : List MemPlace),
      (∀ (j : Nat) t v, Tryz.f3.params[j]? = some t → args[j]? = some v → Value.okWide Tryz.prog W .any base t v) →
      DataW.Whole enc Tryz.prog Tryz.f3.params.toList Rows.deskSaysSpec.vars false W args.toList ds gs before →
      laidMetH Tryz.prog Rows.deskSaysRow.laid W → W.ShapedOpen Tryz.prog →
      Calls Tryz.prog 3 args W fun e W' => ∃ v, e = .returned v ∧ Rows.deskSaysSpec.post enc Tryz.prog Tryz.f3 false true false false W args v W') :
    ReturnsInHanded {} Tryz.checked os 3 .any (fun w args => (Rows.deskSaysSpec.pre enc Tryz.prog Tryz.f3 [] false w args ∧ laidMetH Tryz.prog Rows.deskSaysRow.laid w) ∧ sizedMet enc Tryz.prog Tryz.f3 (OpenSpec.ofChange Rows.deskSaysSpec) false w args)
      (Rows.deskSaysSpec.post enc Tryz.prog Tryz.f3 false true false false) := by
  refine returnsInHanded_of_calls (C := Tryz.checked) own started (by kernel_rfl) witness ?_
  intro w tape i _ hsh _ hok hpre _
  obtain ⟨_, _, _, fn', hfn', _, _, _, _, hval⟩ := hok
  obtain rfl : fn' = Tryz.f3 := Option.some.inj (hfn'.symm.trans Tryz.func3)
  obtain ⟨⟨⟨ds, gs, before, hw, _⟩, hx⟩, _⟩ := hpre
  have hw' := DataW.Whole.of_heap (w' := w.forCall tape i) (by rfl) hw
  refine (contract (w.forCall tape i) w.heap.size i.args ds gs before hval hw' (hx.of_heap (by rfl)) hsh).mono fun e W' ⟨v, he, hp⟩ => ?_
  subst he
  exact ChangeSpec.post_blind hp

theorem lifted (os : Os) (started : os.Started) (H : Type) (enc : TypeId × Value → H) :
    ReturnsInHanded {} Tryz.checked os 3 .any (fun w args => (Rows.deskSaysSpec.pre enc Tryz.prog Tryz.f3 [] false w args ∧ laidMetH Tryz.prog Rows.deskSaysRow.laid w) ∧ sizedMet enc Tryz.prog Tryz.f3 (OpenSpec.ofChange Rows.deskSaysSpec) false w args)
      (Rows.deskSaysSpec.post enc Tryz.prog Tryz.f3 false true false false) := by
  refine handed_of started
    (ChangeSpec.witness_shaped (enc := enc) (C := Tryz.checked) (os := os) (X := fun w _ => laidMetH Tryz.prog Rows.deskSaysRow.laid w) false (World.laidAll Tryz.prog os Rows.deskSaysRow.laid) #[.int .i64 0] 8 (World.laidAll_os _ _ _) (World.shaped_of_ZipB (by kernel_rfl) (by kernel_rfl)) (by kernel_rfl) (by kernel_rfl) (by kernel_rfl) (door_met os _)) ?_
  intro W base args ds gs before hval0 hW hlaid hsh
  have hval : ∀ (j : Nat) t v, Tryz.f3.params[j]? = some t → args[j]? = some v → Value.okWide Tryz.prog W .any base t v := hval0
  have hW' := hW
  obtain ⟨p, q, hA0, hV, rfl, hfz, hnd⟩ := hW
  have hA : DataW.TrodAll enc Tryz.prog W 0 (fun _ => true) true Tryz.f3.params.toList args.toList ds p := hA0
  have hts : ∀ t ∈ Tryz.f3.params.toList, Tryz.prog.readableRec t = true ∧ t < Tryz.prog.types.size := fun t ht => by
    have : t = 3 := by
      have h : t ∈ [3] := ht
      simp only [List.mem_cons, List.not_mem_nil, or_false] at h
      rcases h with rfl <;> simp
    rcases this with rfl <;> exact ⟨by kernel_rfl, of_decide_eq_true (by kernel_rfl)⟩
  have hv : ∃ v d0, args.toList = [v] ∧ ds = [d0] := by
    have hA := hA
    obtain ⟨v0, vs0, d0, ds0, p0, q0, e1, rfl, _, _, h0⟩ := trodAll_cons (t := 3) (ts := []) hA
    obtain ⟨e2, rfl, _⟩ := trodAll_nil h0
    exact ⟨v0, d0, by rw [e1, e2], rfl⟩
  obtain ⟨v, d0, hargs, rfl⟩ := hv
  have hA2 : args = #[v] := by
    rw [← Array.toArray_toList (xs := args), hargs]
  obtain ⟨e, rfl, he1, he2⟩ := e_is (hval 0 3 v rfl (by rw [hA2]; rfl))
  obtain ⟨hL, hT⟩ := laid_of hsh hlaid
  rw [hA2]
  refine (law_calls e he1 he2 W hL hT).mono ?_
  rintro E W' ⟨rfl, hb⟩
  rw [← hA2]
  exact ⟨_, rfl, Am.post_of_below (P := Tryz.prog) (tb := 4) laidOut (fun t ht => hts t ht) rfl rfl uBool ⟨rfl, rfl, rfl⟩ hW' hb⟩

end Go.Proofs.YtcakgpfemeholaaGreatDoor
