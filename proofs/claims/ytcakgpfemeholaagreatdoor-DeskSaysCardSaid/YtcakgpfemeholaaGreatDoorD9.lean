/-
  What is known, in one.
-/
import Derived.Test.YtcakgpfemeholaaGreatDoorM1
set_option linter.unusedSimpArgs false
set_option linter.unusedVariables false
namespace Go.Bm
/-- One for the functions of the mask, ahead of the other. -/
noncomputable def pickV (m : Nat) (V W : Kn) : Kn := fun f args H nx => bif tb m f then orV V W f args H nx else W f args H nx
theorem pickV_ok {P : Program} {m : Nat} {V W : Kn} (h : V.ok P) (h' : W.ok P) : (pickV m V W).ok P := by
  have h0 := orV_ok h h'
  refine ⟨fun f args H nx r H' nx' hv => ?_, fun f args H nx r hv => ?_⟩
  · unfold pickV at hv
    cases hb : tb m f with
    | true => rw [hb] at hv; exact h0.valid _ _ _ _ _ _ _ hv
    | false => rw [hb] at hv; exact h'.valid _ _ _ _ _ _ _ hv
  · unfold pickV at hv
    cases hb : tb m f with
    | true => rw [hb] at hv; exact h0.bodied _ _ _ _ _ hv
    | false => rw [hb] at hv; exact h'.bodied _ _ _ _ _ hv
end Go.Bm
namespace Go.Proofs.YtcakgpfemeholaaGreatDoor
open Go Go.RowKit Go.Bm
open Go.Am (Sc)
set_option maxRecDepth 100000
noncomputable def knownV : Kn := pickV 8343699359066292151554311563293040421044878581061394111556555502272166459556738754122700816384 (orV (keepV 312 e1) (orV (keepV 267 e2) (orV (keepV 179 e3) (orV (keepV 59 e4) (orV (keepV 141 e5) (orV (keepV 65 e6) (orV (keepR 141 e7) (keepR 65 e8)))))))) (pickV 7410693711188236507108543040556026102609279018600996098525285376506440431173632 crV (pickV 62165404551223330269422781018352605012557018849668464680057997111644937126566671941632 inV (fun _ _ _ _ => none)))
theorem noneV_ok : Kn.ok Tryz.prog (fun _ _ _ _ => none) := by
  refine ⟨?_, ?_⟩
  · intro f args H nx r H' nx' h; cases h
  · intro f args H nx r h; cases h
theorem knownV_ok : knownV.ok Tryz.prog := pickV_ok (orV_ok k1 (orV_ok k2 (orV_ok k3 (orV_ok k4 (orV_ok k5 (orV_ok k6 (orV_ok k7 (k8)))))))) (pickV_ok crV_ok (pickV_ok inV_ok noneV_ok))
end Go.Proofs.YtcakgpfemeholaaGreatDoor
