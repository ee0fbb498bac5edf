/-
  num.Parse's own predicate; strings.ContainsFunc at one digit.
-/
import Derived.Test.YtcakgpfemeholaaGreatDoorE1
import Derived.Test.YtcakgpfemeholaaGreatDoorNC
import Derived.WalkKit
set_option linter.unusedSimpArgs false
set_option linter.unusedVariables false
namespace Go.Proofs.YtcakgpfemeholaaGreatDoor
open Go Go.RowKit Go.Bm Go.Shelf Go.Proofs Go.Lib
open Go.Am (Sc)
set_option maxRecDepth 100000

def oddR (r : Nat) : Bool := decide (r < 48) || decide (57 < r)

theorem strange_at (w : World) : PredAt Tryz.prog 55 #[] encR oddR w := by
  intro W x hb
  show Calls Tryz.prog 55 #[.int .i32 (x : Int)] _ _
  go_enter Tryz.func55, Tryz.ntmps55
  go_wp2
  all_goals go_ret
  all_goals (refine ⟨?_, 0, rfl⟩; have h1 : decide ((x : Int) < 48) = decide (x < 48) := (by simp; omega); have h2 : decide ((57 : Int) < x) = decide (57 < x) := (by simp; omega); simp only [oddR])
  · show Ending.returned (.bool (decide ((x : Int) < 48) || decide ((57 : Int) < x))) = _
    rw [h1, h2]
  · show Ending.returned (.bool true) = _
    rw [← h1]; simp [*]


@[reducible] def dig (d : Nat) : ByteArray := ⟨#[UInt8.ofNat (48 + d)]⟩

theorem contains_ok (d : Nat) (hd : idxFunc oddR true (dig d) = -1) : (factV 56 [.s (.str (dig d)), .f 55 [] []] (.s (.b false))).ok Tryz.prog := by
  refine factV_ok (vs := [.string (dig d), .func (.func 55) #[] #[]]) (v := .bool false) ⟨_, Tryz.func56, rfl, by show ("strings.ContainsFunc" : String) ≠ "runtime.NumGoroutine"; decide⟩ (fun ρ us h => ?_) (fun ρ => .s (.b false)) (fun w => ?_)
  · cases h with | cons _ v _ vs h1 h2 =>
    cases h2 with | cons _ v' _ vs' h3 h4 =>
    cases h4; cases h1
    cases h3 with | f _ _ _ vf vc h5 h6 => cases h5; cases h6; rfl
  · have hC := Any.strings_ContainsFunc Tryz.laysGw17 55 #[] (enters_of Tryz.func55 (by kernel_rfl) rfl) oddR (dig d) w (strange_at w)
    change Calls Tryz.prog 56 #[_, .func (.func 55) #[] #[]] w _ at hC
    rw [hd] at hC
    exact hC
theorem i0 : idxFunc oddR true (dig 0) = -1 := by kernel_rfl
theorem i1 : idxFunc oddR true (dig 1) = -1 := by kernel_rfl
theorem i4 : idxFunc oddR true (dig 4) = -1 := by kernel_rfl
theorem i9 : idxFunc oddR true (dig 9) = -1 := by kernel_rfl
noncomputable def coV : Kn := orV (factV 56 [.s (.str (dig 0)), .f 55 [] []] (.s (.b false))) (orV (factV 56 [.s (.str (dig 1)), .f 55 [] []] (.s (.b false))) (orV (factV 56 [.s (.str (dig 4)), .f 55 [] []] (.s (.b false))) (orV (factV 56 [.s (.str (dig 9)), .f 55 [] []] (.s (.b false))) baseV)))
theorem coV_ok : coV.ok Tryz.prog := orV_ok (contains_ok 0 i0) (orV_ok (contains_ok 1 i1) (orV_ok (contains_ok 4 i4) (orV_ok (contains_ok 9 i9) baseV_ok)))

/-! More functions without a body. -/
noncomputable def XD : Ext1 := moreX Tryz.prog 333605073160862675133084389152391168 XT
theorem XD_ok : XD.valid Tryz.prog := moreX_valid XT_ok
end Go.Proofs.YtcakgpfemeholaaGreatDoor
