/-
  GaugeDoubles: twice a number, if it can be, has twice the float: it holds of every number. No condition.
-/
import Derived.Test.YtgbkilmgmnhokaaG34
import Derived.Test.YtgbkilmgmnhokaaRows
namespace Go.Proofs.Ytgbkilmgmnhokaa
open Go.ChangeShapes Go.WideShapes Go.ChangeAt Go.RowKit Go.Am

theorem Try.own : ownKnob Try.prog.godebug = none := by kernel_rfl
theorem Try.laidOut : laidOutB Try.prog = true := by kernel_rfl

set_option maxRecDepth 100000 in
theorem gaugeDoubles_lifted (os : Os) (started : os.Started) (H : Type) (enc : TypeId × Value → H) :
    ReturnsInHanded {} Try.checked os 5 .any (Rows.gaugeDoublesSpec.pre6 enc Try.prog Try.f5 Rows.gaugeDoublesRow.domain false) (Rows.gaugeDoublesSpec.post enc Try.prog Try.f5 false true false false) := by
  refine returnsInHanded_of_change (C := Try.checked) Try.own started (by kernel_rfl) Try.func5
    (ChangeSpec.witness6 (enc := enc) (C := Try.checked) false ⟨#[], #[.agg #[.int .u64 0, .int .u64 0, .int .u64 0, .int .u64 0]], []⟩ 8 (by kernel_rfl) (by kernel_rfl) (by kernel_rfl) (by kernel_rfl)) ?_
  intro W base args ds gs before hval hW _ _
  have hlen : ∃ d0, ds = [d0] := by
    obtain ⟨p, q, hA, _⟩ := hW
    obtain ⟨v0, vs0, d0, ds0, p0, q0, _, rfl, _, _, h0⟩ := trodAll_cons (t := 24) (ts := []) hA
    obtain ⟨_, rfl, _⟩ := trodAll_nil h0
    exact ⟨d0, rfl⟩
  obtain ⟨d0, rfl⟩ := hlen
  exact law_post (P := Try.prog) (k := 20) (tb := 4) Try.laidOut (fun t ht => by
    have : t = 24 := by simpa [Try.f5, or_comm, or_left_comm, or_assoc] using ht
    rcases this with rfl <;> exact ⟨by kernel_rfl, by kernel_rfl, of_decide_eq_true (by kernel_rfl)⟩) rfl rfl Try.underlying4 ⟨rfl, rfl, rfl⟩ run5 hval hW

theorem gaugeDoubles_holds : Rows.GaugeDoublesSaid :=
  OpenClaim.holds_of_wide 5 Try.f5 rfl rfl rfl rfl rfl rfl rfl ⟨rfl, rfl, rfl, rfl, rfl⟩ rfl rfl rfl rfl rfl (by kernel_rfl) Try.func5 (by kernel_rfl)
    (of_decide_eq_true (by kernel_rfl)) (by unfold Func.isWrapper; rw [if_neg (by decide +kernel)]; exact ⟨rfl, rfl⟩)
    (fun os started H enc _ => gaugeDoubles_lifted os started H enc)
end Go.Proofs.Ytgbkilmgmnhokaa
