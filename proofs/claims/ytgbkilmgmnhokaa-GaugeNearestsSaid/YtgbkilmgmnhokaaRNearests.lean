/-
  GaugeNearests: the first of the points that are nearest: it holds of every list and point. No condition.
-/
import Derived.Test.YtgbkilmgmnhokaaG28
import Derived.Test.YtgbkilmgmnhokaaRows
namespace Go.Proofs.Ytgbkilmgmnhokaa
open Go.ChangeShapes Go.WideShapes Go.ChangeAt Go.RowKit Go.Am

theorem Try.own : ownKnob Try.prog.godebug = none := by kernel_rfl
theorem Try.laidOut : laidOutB Try.prog = true := by kernel_rfl

set_option maxRecDepth 100000 in
theorem gaugeNearests_lifted (os : Os) (started : os.Started) (H : Type) (enc : TypeId × Value → H) :
    ReturnsInHanded {} Try.checked os 10 .any (Rows.gaugeNearestsSpec.pre6 enc Try.prog Try.f10 Rows.gaugeNearestsRow.domain false) (Rows.gaugeNearestsSpec.post enc Try.prog Try.f10 false true false false) := by
  refine returnsInHanded_of_change (C := Try.checked) Try.own started (by kernel_rfl) Try.func10
    (ChangeSpec.witness6 (enc := enc) (C := Try.checked) false ⟨#[], #[.slice none 0 0, .agg #[.int .u64 0, .int .u64 0, .int .u64 0, .int .u64 0, .int .u64 0, .int .u64 0, .int .u64 0, .int .u64 0]], []⟩ 8 (by kernel_rfl) (by kernel_rfl) (by kernel_rfl) (by kernel_rfl)) ?_
  intro W base args ds gs before hval hW _ _
  have hlen : ∃ d0 d1, ds = [d0, d1] := by
    obtain ⟨p, q, hA, _⟩ := hW
    obtain ⟨v0, vs0, d0, ds0, p0, q0, _, rfl, _, _, h0⟩ := trodAll_cons (t := 39) (ts := [48]) hA
    obtain ⟨v1, vs1, d1, ds1, p1, q1, _, rfl, _, _, h1⟩ := trodAll_cons (t := 48) (ts := []) h0
    obtain ⟨_, rfl, _⟩ := trodAll_nil h1
    exact ⟨d0, d1, rfl⟩
  obtain ⟨d0, d1, rfl⟩ := hlen
  exact law_post (P := Try.prog) (k := 20) (tb := 4) Try.laidOut (fun t ht => by
    have : t = 39 ∨ t = 48 := by simpa [Try.f10, or_comm, or_left_comm, or_assoc] using ht
    rcases this with rfl | rfl <;> exact ⟨by kernel_rfl, by kernel_rfl, of_decide_eq_true (by kernel_rfl)⟩) rfl rfl Try.underlying4 ⟨rfl, rfl, rfl⟩ run10 hval hW

theorem gaugeNearests_holds : Rows.GaugeNearestsSaid :=
  OpenClaim.holds_of_wide 10 Try.f10 rfl rfl rfl rfl rfl rfl rfl ⟨rfl, rfl, rfl, rfl, rfl⟩ rfl rfl rfl rfl rfl (by kernel_rfl) Try.func10 (by kernel_rfl)
    (of_decide_eq_true (by kernel_rfl)) (by unfold Func.isWrapper; rw [if_neg (by decide +kernel)]; exact ⟨rfl, rfl⟩)
    (fun os started H enc _ => gaugeNearests_lifted os started H enc)
end Go.Proofs.Ytgbkilmgmnhokaa
