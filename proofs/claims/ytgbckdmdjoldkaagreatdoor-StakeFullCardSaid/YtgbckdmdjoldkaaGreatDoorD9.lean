/-
  What is known, in one.
-/
import Derived.Test.YtgbckdmdjoldkaaGreatDoorM1
import Derived.Test.YtgbckdmdjoldkaaGreatDoorM2
import Derived.Test.YtgbckdmdjoldkaaGreatDoorM3
import Derived.Test.YtgbckdmdjoldkaaGreatDoorM4
import Derived.Test.YtgbckdmdjoldkaaGreatDoorM5
import Derived.Test.YtgbckdmdjoldkaaGreatDoorM6
import Derived.Test.YtgbckdmdjoldkaaGreatDoorM7
import Derived.Test.YtgbckdmdjoldkaaGreatDoorM8
import Derived.Test.YtgbckdmdjoldkaaGreatDoorM9
set_option linter.unusedSimpArgs false
set_option linter.unusedVariables false
namespace Go.Bm
/-- One for the functions of the mask, ahead of the other. -/
noncomputable def pickV (m : Nat) (V W : Kn) : Kn := fun f args H nx => bif tb m f then orV V W f args H nx else W f args H nx
theorem pickV_ok {P : Program} {m : Nat} {V W : Kn} (h : V.ok P) (h' : W.ok P) : (pickV m V W).ok P := by
  have h0 := orV_ok h h'
  refine ⟨fun f args H nx r H' nx' hv => ?_, fun f args H nx r hv => ?_⟩
  · unfold pickV at hv
    cases hb : tb m f with
    | true => rw [hb] at hv; exact h0.valid _ _ _ _ _ _ _ hv
    | false => rw [hb] at hv; exact h'.valid _ _ _ _ _ _ _ hv
  · unfold pickV at hv
    cases hb : tb m f with
    | true => rw [hb] at hv; exact h0.bodied _ _ _ _ _ hv
    | false => rw [hb] at hv; exact h'.bodied _ _ _ _ _ hv
end Go.Bm
namespace Go.Proofs.YtgbckdmdjoldkaaGreatDoor
open Go Go.RowKit Go.Bm
open Go.Am (Sc)
set_option maxRecDepth 100000
noncomputable def knownV : Kn := pickV 374144466720019265963497355241824690421804837109760 (orV (keepV 107 e1) (orV (keepV 168 e2) (orV (keepV 137 e3) (orV (keepV 82 e4) (orV (keepV 78 e5) (orV (keepV 145 e6) (orV (keepV 83 e7) (orV (keepV 86 e8) (orV (keepV 86 e9) (orV (keepV 86 e10) (orV (keepV 86 e11) (orV (keepV 86 e12) (orV (keepV 86 e13) (orV (keepR 145 e14) (orV (keepR 83 e15) (keepR 141 e16)))))))))))))))) (pickV 79266848140492005727134547968 crV (pickV 187072209578355573530071658587684226515959365500928 inV (fun _ _ _ _ => none)))
theorem noneV_ok : Kn.ok Tryz.prog (fun _ _ _ _ => none) := by
  refine ⟨?_, ?_⟩
  · intro f args H nx r H' nx' h; cases h
  · intro f args H nx r h; cases h
theorem knownV_ok : knownV.ok Tryz.prog := pickV_ok (orV_ok k1 (orV_ok k2 (orV_ok k3 (orV_ok k4 (orV_ok k5 (orV_ok k6 (orV_ok k7 (orV_ok k8 (orV_ok k9 (orV_ok k10 (orV_ok k11 (orV_ok k12 (orV_ok k13 (orV_ok k14 (orV_ok k15 (k16)))))))))))))))) (pickV_ok crV_ok (pickV_ok inV_ok noneV_ok))
end Go.Proofs.YtgbckdmdjoldkaaGreatDoor
