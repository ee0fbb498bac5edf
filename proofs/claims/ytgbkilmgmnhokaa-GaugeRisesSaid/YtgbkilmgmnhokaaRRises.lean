/-
  GaugeRises: a greater number has no lesser float; a small one has just itself: it holds of all numbers. No condition.
-/
import Derived.Test.YtgbkilmgmnhokaaG22
import Derived.Test.YtgbkilmgmnhokaaRows
namespace Go.Proofs.Ytgbkilmgmnhokaa
open Go.ChangeShapes Go.WideShapes Go.ChangeAt Go.RowKit Go.Am

theorem Try.own : ownKnob Try.prog.godebug = none := by kernel_rfl
theorem Try.laidOut : laidOutB Try.prog = true := by kernel_rfl

set_option maxRecDepth 100000 in
theorem gaugeRises_lifted (os : Os) (started : os.Started) (H : Type) (enc : TypeId × Value → H) :
    ReturnsInHanded {} Try.checked os 4 .any (Rows.gaugeRisesSpec.pre6 enc Try.prog Try.f4 Rows.gaugeRisesRow.domain false) (Rows.gaugeRisesSpec.post enc Try.prog Try.f4 false true false false) := by
  refine returnsInHanded_of_change (C := Try.checked) Try.own started (by kernel_rfl) Try.func4
    (ChangeSpec.witness6 (enc := enc) (C := Try.checked) false ⟨#[], #[.agg #[.int .u64 0, .int .u64 0, .int .u64 0, .int .u64 0], .agg #[.int .u64 0, .int .u64 0, .int .u64 0, .int .u64 0], .int .u64 0], []⟩ 8 (by kernel_rfl) (by kernel_rfl) (by kernel_rfl) (by kernel_rfl)) ?_
  intro W base args ds gs before hval hW _ _
  have hlen : ∃ d0 d1 d2, ds = [d0, d1, d2] := by
    obtain ⟨p, q, hA, _⟩ := hW
    obtain ⟨v0, vs0, d0, ds0, p0, q0, _, rfl, _, _, h0⟩ := trodAll_cons (t := 24) (ts := [24, 22]) hA
    obtain ⟨v1, vs1, d1, ds1, p1, q1, _, rfl, _, _, h1⟩ := trodAll_cons (t := 24) (ts := [22]) h0
    obtain ⟨v2, vs2, d2, ds2, p2, q2, _, rfl, _, _, h2⟩ := trodAll_cons (t := 22) (ts := []) h1
    obtain ⟨_, rfl, _⟩ := trodAll_nil h2
    exact ⟨d0, d1, d2, rfl⟩
  obtain ⟨d0, d1, d2, rfl⟩ := hlen
  exact law_post (P := Try.prog) (k := 20) (tb := 4) Try.laidOut (fun t ht => by
    have : t = 22 ∨ t = 24 := by simpa [Try.f4, or_comm, or_left_comm, or_assoc] using ht
    rcases this with rfl | rfl <;> exact ⟨by kernel_rfl, by kernel_rfl, of_decide_eq_true (by kernel_rfl)⟩) rfl rfl Try.underlying4 ⟨rfl, rfl, rfl⟩ run4 hval hW

theorem gaugeRises_holds : Rows.GaugeRisesSaid :=
  OpenClaim.holds_of_wide 4 Try.f4 rfl rfl rfl rfl rfl rfl rfl ⟨rfl, rfl, rfl, rfl, rfl⟩ rfl rfl rfl rfl rfl (by kernel_rfl) Try.func4 (by kernel_rfl)
    (of_decide_eq_true (by kernel_rfl)) (by unfold Func.isWrapper; rw [if_neg (by decide +kernel)]; exact ⟨rfl, rfl⟩)
    (fun os started H enc _ => gaugeRises_lifted os started H enc)
end Go.Proofs.Ytgbkilmgmnhokaa
