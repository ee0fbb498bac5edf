/-
  THE ABSTRACT MACHINE: a piece of code worked out up to its first loop; what stands behind a loop is left as it is.
-/
import Derived.Test.YtgbkilmgmnhokaaAm25
set_option linter.unusedSimpArgs false
set_option linter.unusedVariables false
namespace Go.Am
open Go

def isLoop : Code → Bool
  | .loop _ => true
  | .block _ c => isLoop c
  | .seq _ y => isLoop y
  | _ => false

/-- As XW; but what stands behind a loop stays a goal of its own. -/
def XV (P : Program) (F : Tab) (esc : Nat → Bool) (quiet : FuncId → Bool) (base : Nat) : Code → (Exit → St → Prop) → St → Prop
  | .skip, Q, st => Q .normal st
  | .exit id, Q, st => Q (.exit id) st
  | .ret, Q, st => Q .ret st
  | .region _ ops false, Q, st => match xOps P F esc base ops ops.toList st with | some s => Q .normal s | none => False
  | .region _ ops true, Q, st => calm esc quiet ops = true ∧ match dOps P F esc quiet base ops ops.toList (dropL base quiet ops.toList st) with | some s => Q .normal s | none => False
  | .seq x y, Q, st => if isLoop x = true then XV P F esc quiet base x (fun e s => match e with | .normal => AWP P base y Q s | e => Q e s) st else XV P F esc quiet base x (fun e s => match e with | .normal => XV P F esc quiet base y Q s | e => Q e s) st
  | .cond c x y, Q, st => match rd st.env c with | .s (.b t) => if t = true then XV P F esc quiet base x Q st else XV P F esc quiet base y Q st | _ => False
  | .block id c, Q, st => XV P F esc quiet base c (fun e s => match e with | .exit i => if i = id then Q .normal s else Q (.exit i) s | e => Q e s) st
  | .loop c, Q, st => AWP P base (.loop c) Q st
  | _, _, _ => False

section
variable {base : Nat} {P : Program} {F : Tab} {Q : Exit → St → Prop} {st st' : St} {esc : Nat → Bool} {quiet : FuncId → Bool}

theorem XV_sound (hm : P.follows .mixedOrders = true) (hF : F.valid P) (hq : Calm F quiet) : ∀ (c : Code) (Q : Exit → St → Prop) (st : St), XV P F esc quiet base c Q st → AWP P base c Q st := by
  intro c
  induction c with
  | skip => intro Q st h; exact AWP.skip h
  | exit id => intro Q st h; exact AWP.exit_ h
  | ret => intro Q st h; exact AWP.ret h
  | region id ops drawn =>
    intro Q st h
    cases drawn with
    | false =>
      simp only [XV] at h
      split at h
      · rename_i s hs; exact AWP.region hF esc hs h
      · exact h.elim
    | true =>
      simp only [XV] at h
      obtain ⟨hc, h⟩ := h
      split at h
      · rename_i s hs; exact AWP.dend hm hF hq hc hs h
      · exact h.elim
  | seq x y ihx ihy =>
    intro Q st h
    simp only [XV] at h
    split at h
    · refine AWP.seq ((ihx _ st h).mono ?_)
      intro e s hs
      cases e <;> exact hs
    · refine AWP.seq ((ihx _ st h).mono ?_)
      intro e s hs
      cases e <;> first | exact ihy Q s hs | exact hs
  | cond c x y ihx ihy =>
    intro Q st h
    simp only [XV] at h
    split at h
    · rename_i t ht
      refine AWP.cond ht ?_
      split at h
      · rename_i h1; rw [if_pos h1]; exact ihx Q st h
      · rename_i h1; rw [if_neg h1]; exact ihy Q st h
    · exact h.elim
  | block id c ih =>
    intro Q st h
    simp only [XV] at h
    refine AWP.block ((ih _ st h).mono ?_)
    intro e s hs
    cases e <;> exact hs
  | loop c ih => intro Q st h; exact h
  | _ => intro Q st h; simp only [XV] at h
end
end Go.Am
