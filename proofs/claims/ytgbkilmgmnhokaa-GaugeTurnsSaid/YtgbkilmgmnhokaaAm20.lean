/-
  THE ABSTRACT MACHINE AS A PROGRAM: the table of what functions come to.
-/
import Derived.Test.YtgbkilmgmnhokaaAm19
set_option linter.unusedSimpArgs false
set_option linter.unusedVariables false
namespace Go.Am
open Go

/-- A function's body worked out. -/
def xBody (P : Program) (F : Tab) (esc : FuncId → Nat → Bool) (quiet : FuncId → Bool) (k : Nat) (f : FuncId) (args : List AV) (S O : List Blk) : Option (AV × List Blk × List Blk) :=
  match P.funcs[f]? with
  | some fn =>
    match fn.body with
    | some c =>
      if args.length ≤ fn.ntmps then
        match xCode P F (esc f) quiet S.length k c (frame0 args S O fn.ntmps) with
        | some (.normal, st) => finAV P S.length fn st
        | some (.ret, st) => finAV P S.length fn st
        | _ => none
      else none
    | none => none
  | none => none

def aloneOf : Option (AV × List Blk × List Blk) → Option AV
  | some (r, [], []) => if r.still then some r else none
  | _ => none

/-- What functions come to: what we know of them, else what the machine works out; a quiet one alone. -/
def xTab (P : Program) (V : FuncId → List AV → Option AV) (esc : FuncId → Nat → Bool) (quiet : FuncId → Bool) (k : Nat) : Nat → Tab
  | 0 => fun f args S O => (V f args).map (·, S, O)
  | n + 1 => fun f args S O =>
    match V f args with
    | some r => some (r, S, O)
    | none =>
      if quiet f then (if AV.stillL args then (aloneOf (xBody P (xTab P V esc quiet k n) esc quiet k f args [] [])).map (·, S, O) else none)
      else xBody P (xTab P V esc quiet k n) esc quiet k f args S O

section
variable {P : Program} {F : Tab} {V : FuncId → List AV → Option AV} {esc : FuncId → Nat → Bool} {quiet : FuncId → Bool} {k : Nat}

theorem aloneOf_some {q : Option (AV × List Blk × List Blk)} {r : AV} (h : aloneOf q = some r) : q = some (r, [], []) ∧ r.still = true := by
  unfold aloneOf at h
  split at h
  · split at h
    · injection h with h; subst h; exact ⟨rfl, by assumption⟩
    · cases h
  · cases h

theorem xBody_valid (hm : P.follows .mixedOrders = true) (hF : F.valid P) (hq : Calm F quiet) {f : FuncId} {args : List AV} {S O : List Blk} {r : AV} {S' O' : List Blk} (h : xBody P F esc quiet k f args S O = some (r, S', O')) : ValidAt P f args S O r S' O' := by
  unfold xBody at h
  split at h
  rotate_left
  · cases h
  rename_i fn hf
  split at h
  rotate_left
  · cases h
  rename_i c hc
  split at h
  rotate_left
  · cases h
  rename_i hn
  split at h
  · rename_i st hx
    exact valid_of_awp hf hc hn (xCode_sound hm hF hq k c _ hx ⟨.inl rfl, h⟩)
  · rename_i st hx
    exact valid_of_awp hf hc hn (xCode_sound hm hF hq k c _ hx ⟨.inr rfl, h⟩)
  · cases h

/-- What we know is so. -/
def Known (P : Program) (V : FuncId → List AV → Option AV) : Prop := ∀ f args r, V f args = some r → ∀ S O, ValidAt P f args S O r S O

theorem xTab_calm : ∀ n, Calm (xTab P V esc quiet k n) quiet
  | 0 => fun f hf xs S O r h => by
    simp only [xTab, Option.map_eq_some_iff] at h ⊢
    obtain ⟨v, hv, rfl⟩ := h
    exact ⟨v, rfl, fun _ _ => ⟨v, hv, rfl⟩⟩
  | n + 1 => fun f hf xs S O r h => by
    simp only [xTab] at h ⊢
    cases hv : V f xs with
    | some v => rw [hv] at h; injection h with h; exact ⟨v, h.symm, fun _ _ => rfl⟩
    | none =>
      rw [hv] at h
      simp only [hf, if_true] at h ⊢
      split at h
      · rename_i hs
        simp only [Option.map_eq_some_iff] at h
        obtain ⟨v, hv, rfl⟩ := h
        exact ⟨v, rfl, fun _ _ => by rw [if_pos hs, hv]; rfl⟩
      · cases h

theorem xTab_valid (hm : P.follows .mixedOrders = true) (hV : Known P V) : ∀ n, (xTab P V esc quiet k n).valid P
  | 0 => fun f args S O r S' O' h => by
    simp only [xTab, Option.map_eq_some_iff, Prod.mk.injEq] at h
    obtain ⟨v, hv, rfl, rfl, rfl⟩ := h
    exact hV f args v hv S O
  | n + 1 => fun f args S O r S' O' h => by
    simp only [xTab] at h
    cases hv : V f args with
    | some v =>
      rw [hv] at h
      simp only [Option.some.injEq, Prod.mk.injEq] at h
      obtain ⟨rfl, rfl, rfl⟩ := h
      exact hV f args v hv S O
    | none =>
      rw [hv] at h
      simp only at h
      split at h
      · split at h
        · rename_i hs
          simp only [Option.map_eq_some_iff, Prod.mk.injEq] at h
          obtain ⟨v, hv, rfl, rfl, rfl⟩ := h
          obtain ⟨h1, h2⟩ := aloneOf_some hv
          exact (xBody_valid hm (xTab_valid hm hV n) (xTab_calm n) h1).lift hs h2 S O
        · cases h
      · exact xBody_valid hm (xTab_valid hm hV n) (xTab_calm n) h
end
end Go.Am
