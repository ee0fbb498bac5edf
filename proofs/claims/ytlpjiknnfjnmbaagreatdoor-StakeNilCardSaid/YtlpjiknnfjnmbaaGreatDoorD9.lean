/-
  What is known, in one.
-/
import Derived.Test.YtlpjiknnfjnmbaaGreatDoorD7
import Derived.Test.YtlpjiknnfjnmbaaGreatDoorD8
set_option linter.unusedSimpArgs false
set_option linter.unusedVariables false
namespace Go.Bm
/-- One for the functions of the mask, ahead of the other. -/
noncomputable def pickV (m : Nat) (V W : Kn) : Kn := fun f args H nx => bif tb m f then orV V W f args H nx else W f args H nx
theorem pickV_ok {P : Program} {m : Nat} {V W : Kn} (h : V.ok P) (h' : W.ok P) : (pickV m V W).ok P := by
  have h0 := orV_ok h h'
  refine ⟨fun f args H nx r H' nx' hv => ?_, fun f args H nx r hv => ?_⟩
  · unfold pickV at hv
    cases hb : tb m f with
    | true => rw [hb] at hv; exact h0.valid _ _ _ _ _ _ _ hv
    | false => rw [hb] at hv; exact h'.valid _ _ _ _ _ _ _ hv
  · unfold pickV at hv
    cases hb : tb m f with
    | true => rw [hb] at hv; exact h0.bodied _ _ _ _ _ hv
    | false => rw [hb] at hv; exact h'.bodied _ _ _ _ _ hv
end Go.Bm
namespace Go.Proofs.YtlpjiknnfjnmbaaGreatDoor
open Go Go.RowKit Go.Bm
open Go.Am (Sc)
set_option maxRecDepth 100000
noncomputable def knownV : Kn := pickV 1472930769245149903128561042910388836587259559936 (orV (keepV 160 l160) (orV (keepV 79 l79) (orV (keepV 53 l53) (orV (keepV 105 l105) (orV (keepV 153 l153) (orV (keepV 45 l45) (orV (keepV 84 l84) (orV (keepV 143 l143) (keepR 143 r143))))))))) (pickV 1267660271634786318530100854784 crV (pickV 1496577676626844588240573268701473812127674924007424 inV (fun _ _ _ _ => none)))
theorem noneV_ok : Kn.ok Tryz.prog (fun _ _ _ _ => none) := by
  refine ⟨?_, ?_⟩
  · intro f args H nx r H' nx' h; cases h
  · intro f args H nx r h; cases h
theorem knownV_ok : knownV.ok Tryz.prog :=
  pickV_ok (orV_ok k160 (orV_ok k79 (orV_ok k53 (orV_ok k105 (orV_ok k153 (orV_ok k45 (orV_ok k84 (orV_ok k143 kr143)))))))) (pickV_ok crV_ok (pickV_ok inV_ok noneV_ok))
end Go.Proofs.YtlpjiknnfjnmbaaGreatDoor
