/-
  GaugeSums: points added one by one; of one it is that: it holds of every list. No condition.
-/
import Derived.Test.YtgbkilmgmnhokaaG26
import Derived.Test.YtgbkilmgmnhokaaRows
namespace Go.Proofs.Ytgbkilmgmnhokaa
open Go.ChangeShapes Go.WideShapes Go.ChangeAt Go.RowKit Go.Am

theorem Try.own : ownKnob Try.prog.godebug = none := by kernel_rfl
theorem Try.laidOut : laidOutB Try.prog = true := by kernel_rfl

set_option maxRecDepth 100000 in
theorem gaugeSums_lifted (os : Os) (started : os.Started) (H : Type) (enc : TypeId × Value → H) :
    ReturnsInHanded {} Try.checked os 7 .any (Rows.gaugeSumsSpec.pre6 enc Try.prog Try.f7 Rows.gaugeSumsRow.domain false) (Rows.gaugeSumsSpec.post enc Try.prog Try.f7 false true false false) := by
  refine returnsInHanded_of_change (C := Try.checked) Try.own started (by kernel_rfl) Try.func7
    (ChangeSpec.witness6 (enc := enc) (C := Try.checked) false ⟨#[], #[.slice none 0 0], []⟩ 8 (by kernel_rfl) (by kernel_rfl) (by kernel_rfl) (by kernel_rfl)) ?_
  intro W base args ds gs before hval hW _ _
  have hlen : ∃ d0, ds = [d0] := by
    obtain ⟨p, q, hA, _⟩ := hW
    obtain ⟨v0, vs0, d0, ds0, p0, q0, _, rfl, _, _, h0⟩ := trodAll_cons (t := 39) (ts := []) hA
    obtain ⟨_, rfl, _⟩ := trodAll_nil h0
    exact ⟨d0, rfl⟩
  obtain ⟨d0, rfl⟩ := hlen
  exact law_post (P := Try.prog) (k := 20) (tb := 4) Try.laidOut (fun t ht => by
    have : t = 39 := by simpa [Try.f7, or_comm, or_left_comm, or_assoc] using ht
    rcases this with rfl <;> exact ⟨by kernel_rfl, by kernel_rfl, of_decide_eq_true (by kernel_rfl)⟩) rfl rfl Try.underlying4 ⟨rfl, rfl, rfl⟩ run7 hval hW

theorem gaugeSums_holds : Rows.GaugeSumsSaid :=
  OpenClaim.holds_of_wide 7 Try.f7 rfl rfl rfl rfl rfl rfl rfl ⟨rfl, rfl, rfl, rfl, rfl⟩ rfl rfl rfl rfl rfl (by kernel_rfl) Try.func7 (by kernel_rfl)
    (of_decide_eq_true (by kernel_rfl)) (by unfold Func.isWrapper; rw [if_neg (by decide +kernel)]; exact ⟨rfl, rfl⟩)
    (fun os started H enc _ => gaugeSums_lifted os started H enc)
end Go.Proofs.Ytgbkilmgmnhokaa
