/-
  THE ABSTRACT MACHINE: rules for walking by hand.
-/
import Derived.Test.YtgbkilmgmnhokaaAm23
set_option linter.unusedSimpArgs false
set_option linter.unusedVariables false
namespace Go.Am
open Go

def wkL : List Bool → List AV → List AV
  | _, [] => []
  | [], _ :: xs => .u :: wkL [] xs
  | b :: bs, x :: xs => (if b then x else .u) :: wkL bs xs

/-- Forget what is in the slots that are not told. -/
def St.only (m : List Bool) (st : St) : St := { st with env := wkL m st.env }

section
variable {base : Nat} {P : Program} {F : Tab} {Q : Exit → St → Prop} {st st' : St} {id : Nat} {ops : Array Oper} {x y z : Code} {t : Bool} {c : Operand} {esc : Nat → Bool} {quiet : FuncId → Bool}
variable {w : World} {G : Ghost} {S : List Blk}

theorem wkL_length : ∀ (m : List Bool) (xs : List AV), (wkL m xs).length = xs.length
  | _, [] => by simp [wkL]
  | [], _ :: xs => by simp [wkL, wkL_length [] xs]
  | b :: bs, _ :: xs => by simp [wkL, wkL_length bs xs]

theorem wkL_CR : ∀ (m : List Bool) {xs : List AV} {vs : List Value}, CRs w G S xs vs → CRs w G S (wkL m xs) vs
  | _, [], _, h => by cases h; simp only [wkL]; exact .nil
  | [], x :: xs, _, h => by
    cases h with | cons _ v _ vs h1 h2 =>
    simp only [wkL]; exact .cons _ _ _ _ (.u v) (wkL_CR [] h2)
  | b :: bs, x :: xs, _, h => by
    cases h with | cons _ v _ vs h1 h2 =>
    simp only [wkL]
    cases b
    · exact .cons _ _ _ _ (.u v) (wkL_CR bs h2)
    · exact .cons _ _ _ _ h1 (wkL_CR bs h2)

theorem wkL_bel {β : Nat} : ∀ (m : List Bool) {xs : List AV}, AV.belL β xs = true → AV.belL β (wkL m xs) = true
  | _, [], h => by simp [wkL, AV.belL]
  | [], x :: xs, h => by
    simp only [AV.belL, Bool.and_eq_true] at h
    simp only [wkL, AV.belL, AV.bel, Bool.true_and]
    exact wkL_bel [] h.2
  | b :: bs, x :: xs, h => by
    simp only [AV.belL, Bool.and_eq_true] at h
    simp only [wkL, AV.belL, Bool.and_eq_true]
    refine ⟨?_, wkL_bel bs h.2⟩
    cases b
    · rfl
    · exact h.1

theorem Rel.only {a : Act} (m : List Bool) (h : Rel base w G st a) : Rel base w G (st.only m) a :=
  ⟨h.defers, by rw [h.size]; exact (wkL_length m st.env).symm, wkL_CR m h.env, h.inv, by have := h.len; simpa [St.only, wkL_length] using this, wkL_bel m h.scopeE, h.scopeS, h.scopeB, h.scopeO⟩

theorem AWP.only {c : Code} (m : List Bool) (h : AWP P base c Q (st.only m)) : AWP P base c Q st := fun w G a hr => h w G a (hr.only m)

/-- A loop, by what is known at its head; of the other slots nothing. -/
theorem AWP.loopK {c : Code} (m : List Bool) (I : Nat → St → Prop) (n₀ : Nat) (h₀ : I n₀ (st.only m)) (round : ∀ n st, I n st → AWP P base c (thenA (fun st' => ∃ k, k < n ∧ I k (st'.only m)) Q) st) : AWP P base (.loop c) Q st :=
  AWP.loop (fun n s => I n (s.only m)) n₀ h₀ fun n s hI => AWP.only m (round n _ hI)

theorem AWP.rseq (hF : F.valid P) (h : xOps P F esc base ops ops.toList st = some st') (hy : AWP P base y Q st') : AWP P base (.seq (.region id ops false) y) Q st :=
  AWP.seq (AWP.region hF esc h hy)
theorem AWP.rend (hF : F.valid P) (h : xOps P F esc base ops ops.toList st = some st') (hq : Q .normal st') : AWP P base (.region id ops false) Q st := AWP.region hF esc h hq
theorem AWP.dseq (hm : P.follows .mixedOrders = true) (hF : F.valid P) (hq : Calm F quiet) (hc : calm esc quiet ops = true) (h : dOps P F esc quiet base ops ops.toList (Am.dropL base quiet ops.toList st) = some st') (hy : AWP P base y Q st') :
    AWP P base (.seq (.region id ops true) y) Q st :=
  AWP.seq (AWP.len fun hl => AWP.dropL ops.toList hl (AWP.draw hm hF hq hc h hy))
theorem AWP.dend (hm : P.follows .mixedOrders = true) (hF : F.valid P) (hq : Calm F quiet) (hc : calm esc quiet ops = true) (h : dOps P F esc quiet base ops ops.toList (Am.dropL base quiet ops.toList st) = some st') (hQ : Q .normal st') :
    AWP P base (.region id ops true) Q st :=
  AWP.len fun hl => AWP.dropL ops.toList hl (AWP.draw hm hF hq hc h hQ)
theorem AWP.condT (hc : rd st.env c = .s (.b true)) (h : AWP P base x Q st) : AWP P base (.cond c x y) Q st := AWP.cond hc h
theorem AWP.condF (hc : rd st.env c = .s (.b false)) (h : AWP P base y Q st) : AWP P base (.cond c x y) Q st := AWP.cond hc h
/-- What the machine works out of it, by a literal's leave. -/
theorem AWP.lit {c : Code} {e : Exit} {k : Nat} (hm : P.follows .mixedOrders = true) (hF : F.valid P) (hq : Calm F quiet) (h : xCode P F esc quiet base k c st = some (e, st')) (hQ : Q e st') : AWP P base c Q st := xCode_sound hm hF hq k c st h hQ
end
end Go.Am
