/-
  From a run in lanes to each of its lanes; each argument is in some lane.
-/
import Derived.Test.YtgbckdmdjoldkaaGreatDoorNC
import Derived.Test.YtgbckdmdjoldkaaGreatDoorE3
set_option linter.unusedSimpArgs false
set_option linter.unusedVariables false
namespace Go.Proofs.YtgbckdmdjoldkaaGreatDoor
open Go Go.RowKit Go.Bm
open Go.Am (Sc)
set_option maxRecDepth 100000

theorem lane_true {V : Kn} (hV : V.ok Tryz.prog) {l1 l2 l3 : List Int} (h : isTrue (yTab KT Tryz.prog XW V 1000 60 3 [.w 13 .u8 l1, .w 14 .u8 l2, .w 15 .u8 l3] .e 16) = true)
    {a b c : Int} (ha : a ∈ l1) (hb : b ∈ l2) (hc : c ∈ l3) {W : World} : Calls Tryz.prog 3 #[.int .u8 a, .int .u8 b, .int .u8 c] W fun e W' => e = .returned (.bool true) ∧ Below W.heap.size W W' := by
  obtain ⟨ja, ha⟩ := List.mem_iff_getElem?.1 ha
  obtain ⟨jb, hb⟩ := List.mem_iff_getElem?.1 hb
  obtain ⟨jc, hc⟩ := List.mem_iff_getElem?.1 hc
  unfold isTrue at h
  split at h
  · rename_i t H' nx' hx
    subst h
    let L : Nat → Nat := fun i => if i = 13 then ja else if i = 14 then jb else jc
    refine ((yTab_valid mixed KT_ok XW_ok hV (k := 1000) 60).1 _ _ _ _ _ _ _ hx W (laneMap L) [.int .u8 a, .int .u8 b, .int .u8 c] (InvH.lanes W L)
      (.cons _ _ _ _ (lane_CR (by omega) (by omega) ha) (.cons _ _ _ _ (lane_CR (by omega) (by omega) hb) (.cons _ _ _ _ (lane_CR (by omega) (by omega) hc) .nil)))).mono ?_
    rintro e W' ⟨v, ρ', rfl, _, hcr, hfe⟩
    cases hcr
    exact ⟨rfl, ⟨hfe.os, hfe.tape, hfe.output, hfe.size, fun k hk => (hfe.old k hk (fun _ _ h => laneMap_at h)).1⟩⟩
  · cases h

theorem mem_any {a : Nat} {l : List Int} (h : (l.any fun y => eqI (Int.ofNat a) y) = true) : (a : Int) ∈ l := by
  obtain ⟨y, hy, e⟩ := List.any_eq_true.1 h
  rw [show (a : Int) = Int.ofNat a from rfl, eqI_eq e]; exact hy

theorem who_any : ((List.range 256).all fun a => [who0, who1, who2, who3, who4, who5].any fun l => l.any fun y => eqI (Int.ofNat a) y) = true := by kernel_rfl
theorem val_any : ((List.range 256).all fun a => [val0, val1, val2].any fun l => l.any fun y => eqI (Int.ofNat a) y) = true := by kernel_rfl
theorem ap_any : ((List.range 256).all fun a => [ap0, ap1].any fun l => l.any fun y => eqI (Int.ofNat a) y) = true := by kernel_rfl

theorem in_any {ls : List (List Int)} (h : ((List.range 256).all fun a => ls.any fun l => l.any fun y => eqI (Int.ofNat a) y) = true) {a : Int} (h0 : 0 ≤ a) (h1 : a < 256) : ∃ l ∈ ls, a ∈ l := by
  obtain ⟨n, rfl⟩ := Int.eq_ofNat_of_zero_le h0
  have := List.all_eq_true.1 h n (List.mem_range.2 (by omega))
  obtain ⟨l, hl, hm⟩ := List.any_eq_true.1 this
  exact ⟨l, hl, mem_any hm⟩
end Go.Proofs.YtgbckdmdjoldkaaGreatDoor
