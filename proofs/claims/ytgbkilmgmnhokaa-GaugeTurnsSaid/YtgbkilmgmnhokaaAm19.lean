/-
  THE ABSTRACT MACHINE: a call that names no memory of ours may be worked out alone; the machine as a program.
-/
import Derived.Test.YtgbkilmgmnhokaaAm18
import Derived.Scope
set_option linter.unusedSimpArgs false
set_option linter.unusedVariables false
namespace Go.Am
open Go

mutual
/-- Names no box and no row. -/
def AV.still : AV → Bool
  | .u => true
  | .s _ => true
  | .l .. => true
  | .e _ => true
  | .f _ fs cs => AV.stillL fs && AV.stillL cs
  | .a cs => AV.stillL cs
  | .t cs => AV.stillL cs
  | _ => false
def AV.stillL : List AV → Bool
  | [] => true
  | x :: xs => AV.still x && AV.stillL xs
end

section
variable {base : Nat} {w w' : World} {G G' : Ghost} {S S' O O' : List Blk} {P : Program}

theorem still_of_data {cs : List AV} (h : ∀ x ∈ cs, x.data = true) : AV.stillL cs = true := by
  induction cs with
  | nil => rfl
  | cons x cs ih =>
    have h1 := h x (by simp)
    simp only [AV.stillL, ih fun y hy => h y (by simp [hy]), Bool.and_true]
    cases x <;> simp_all [AV.data, AV.still]

mutual
theorem CR.still (hg : ∀ b, G b = none → G' b = none) {x : AV} {v : Value} (hx : x.still = true) (h : CR w G S x v) : CR w G' S' x v :=
  match x, v, h, hx with
  | _, _, .u v, _ => .u v
  | _, _, .s x, _ => .s x
  | _, _, .l n cs A c vs h hc hm hd hs hn, _ =>
    .l n cs A c vs (CRs.still hg (still_of_data hd) h) hc hm hd (fun h0 => let ⟨a, ha, h1, h2, h3, h4⟩ := hs h0; ⟨a, ha, h1, hg _ h2, h3, h4⟩) hn
  | _, _, .e cs a vs h hd hs, _ => .e cs a vs (CRs.still hg (still_of_data hd) h) hd (let ⟨h1, h2, h3, h4⟩ := hs; ⟨h1, hg _ h2, h3, h4⟩)
  | _, _, .p id off b h, hx => by cases hx
  | _, _, .r m e sz n cs vs v hS hh h hd, hx => by cases hx
  | _, _, .f fn fs cs vf vc h1 h2, hx => .f fn fs cs vf vc (CRs.still hg (by simp only [AV.still, Bool.and_eq_true] at hx; exact hx.1) h1) (CRs.still hg (by simp only [AV.still, Bool.and_eq_true] at hx; exact hx.2) h2)
  | _, _, .a cs vs h, hx => .a cs vs (CRs.still hg (by simpa only [AV.still] using hx) h)
  | _, _, .t cs vs h, hx => .t cs vs (CRs.still hg (by simpa only [AV.still] using hx) h)
theorem CRs.still (hg : ∀ b, G b = none → G' b = none) {xs : List AV} {vs : List Value} (hx : AV.stillL xs = true) (h : CRs w G S xs vs) : CRs w G' S' xs vs :=
  match xs, vs, h, hx with
  | _, _, .nil, _ => .nil
  | _, _, .cons x v xs vs h1 h2, hx => .cons x v xs vs (CR.still hg (by simp only [AV.stillL, Bool.and_eq_true] at hx; exact hx.1) h1) (CRs.still hg (by simp only [AV.stillL, Bool.and_eq_true] at hx; exact hx.2) h2)
end

def others (G : Ghost) : Ghost := fun b => match G b with
  | some _ => some (.ext b)
  | none => none

theorem others_idle (G : Ghost) (b : Nat) : idle (others G b) = true := by unfold others; split <;> rfl
theorem others_none {b : Nat} : others G b = none ↔ G b = none := by unfold others; cases G b <;> simp

/-- What holds of a call alone holds of it in every state. -/
theorem ValidAt.lift {f : FuncId} {args : List AV} {r : AV} (h : ValidAt P f args [] [] r [] []) (ha : AV.stillL args = true) (hr : r.still = true) (S O : List Blk) : ValidAt P f args S O r S O := by
  intro w G vargs hI hs hc
  have h1 : InvH w (others G) [] [] := by
    refine ⟨fun b b' o hb hb' => ?_, fun b o hb => ?_, fun b o hb => ?_, fun _ _ _ _ _ h => by simp at h, fun _ _ _ _ _ _ h => by simp at h, fun id T cs h => by cases id <;> simp [getB] at h⟩
    · unfold others at hb hb'
      split at hb
      · split at hb'
        · injection hb with hb; injection hb' with hb'; rw [← hb] at hb'; injection hb' with hb'; exact hb'.symm
        · cases hb'
      · cases hb
    · unfold others at hb
      split at hb
      · rename_i hg; exact hI.rng b _ hg
      · cases hb
    · unfold others at hb
      split at hb
      · injection hb with hb; subst hb; trivial
      · cases hb
  refine (h w (others G) vargs h1 ⟨fun _ _ _ h => by simp at h, fun _ _ _ h => by simp at h⟩ (hc.still (fun b hb => others_none.2 hb) ha)).mono ?_
  rintro e w' ⟨v, G2, rfl, hI2, _, hcr, hev⟩
  have hold : ∀ b, b < w.heap.size → w'.heap[b]? = w.heap[b]? ∧ G2 b = others G b := fun b hb => hev.keep.free b hb (others_idle G b)
  let Gf : Ghost := fun b => if b < w.heap.size then G b else none
  have hGf : ∀ b o, G b = some o → Gf b = some o := fun b o hb => by simp only [Gf]; rw [if_pos (hI.rng b o hb)]; exact hb
  have hGf' : ∀ b o, Gf b = some o → G b = some o := fun b o hb => by
    simp only [Gf] at hb
    split at hb
    · exact hb
    · cases hb
  have hk : Keep w G S w' Gf S (fun _ => True) :=
    ⟨fun b hb _ => ⟨(hold b hb).1, by simp only [Gf]; rw [if_pos hb]⟩, hev.keep.size, fun o _ b hb => hGf b o hb, fun m _ e sz n cs hh => ⟨hh, fun b hb => ⟨hGf b _ hb, (hold b (hI.rng b _ hb)).1⟩⟩⟩
  refine ⟨v, Gf, rfl, ⟨fun b b' o hb hb' => hI.inj b b' o (hGf' _ _ hb) (hGf' _ _ hb'), fun b o hb => Nat.lt_of_lt_of_le (hI.rng b o (hGf' _ _ hb)) hk.size, fun b o hb => hI.live b o (hGf' _ _ hb), hI.orow,
    fun m e sz n cs b hh hb => (hI.row m e sz n cs b hh (hGf' _ _ hb)).keep hk trivial hh, fun id T cs hh => ?_⟩, hs, hcr.still (fun b hb => ?_) hr, ⟨hk.imp fun _ _ => trivial, hev.os, hev.tape, hev.output, rfl, Nat.le_refl _, fun _ _ _ hh => hh⟩⟩
  · obtain ⟨b, vs, p1, p2, p3, p4⟩ := hI.box id T cs hh
    exact ⟨b, vs, hGf b _ p1, by rw [(hold b (hI.rng b _ p1)).1]; exact p2, p3, fun j x v hx hv => (p4 j x v hx hv).keep hk (fun _ _ => trivial) (fun b' h' => ⟨hGf b' _ h', (hold b' (hI.rng b' _ h')).1⟩)⟩
  · simp only [Gf]
    split
    · rename_i hlt
      rw [(hold b hlt).2] at hb
      exact others_none.1 hb
    · rfl
end

/-! ### The machine as a program -/
def dropL (base : Nat) (quiet : FuncId → Bool) : List Oper → St → St
  | [], st => st
  | o :: os, st => dropL base quiet os (match o.dst with
    | some d => if cls quiet o = 2 ∧ d < st.env.length then st.setAt base (base + d) .dead else st
    | none => st)

def xCode (P : Program) (F : Tab) (esc : Nat → Bool) (quiet : FuncId → Bool) (base : Nat) : Nat → Code → St → Option (Exit × St)
  | 0, _, _ => none
  | n + 1, c, st =>
    match c with
    | .skip => some (.normal, st)
    | .exit id => some (.exit id, st)
    | .ret => some (.ret, st)
    | .region _ ops drawn =>
      if drawn then (if calm esc quiet ops then (dOps P F esc quiet base ops ops.toList (dropL base quiet ops.toList st)).map (Exit.normal, ·) else none)
      else (xOps P F esc base ops ops.toList st).map (Exit.normal, ·)
    | .seq x y => match xCode P F esc quiet base n x st with | some (.normal, s) => xCode P F esc quiet base n y s | r => r
    | .cond c x y => match rd st.env c with | .s (.b t) => xCode P F esc quiet base n (if t then x else y) st | _ => none
    | .block id c => match xCode P F esc quiet base n c st with | some (.exit id', s) => if id' = id then some (.normal, s) else some (.exit id', s) | r => r
    | .loop c => match xCode P F esc quiet base n c st with | some (.normal, s) => xCode P F esc quiet base n (.loop c) s | r => r
    | .scope c => match xCode P F esc quiet base n c st with | some (.goto _, _) => none | r => r
    | _ => none

section
variable {base : Nat} {P : Program} {F : Tab} {esc : Nat → Bool} {quiet : FuncId → Bool}

theorem AWP.dropL {Q : Exit → St → Prop} {c : Code} : ∀ (os : List Oper) {st : St}, st.S.length = base + st.env.length → AWP P base c Q (dropL base quiet os st) → AWP P base c Q st
  | [], _, _, h => h
  | o :: os, st, hl, h => by
    simp only [Am.dropL] at h
    cases hd : o.dst with
    | none => rw [hd] at h; exact AWP.dropL os hl h
    | some d =>
      rw [hd] at h
      simp only at h
      split at h
      · rename_i hc
        have hlt : base + d < st.S.length := by rw [hl]; exact Nat.add_lt_add_left hc.2 _
        refine AWP.drop (Nat.le_add_right _ _) hlt (AWP.dropL os ?_ h)
        unfold St.setAt
        split
        · simpa using hl
        · rw [giveTo_len]; simp [St.giveTo, length_subL, hl]
      · exact AWP.dropL os hl h

theorem AWP.len {Q : Exit → St → Prop} {c : Code} {st : St} (h : st.S.length = base + st.env.length → AWP P base c Q st) : AWP P base c Q st := fun w G a hr => h hr.len w G a hr

theorem xCode_sound (hm : P.follows .mixedOrders = true) (hF : F.valid P) (hq : Calm F quiet) {Q : Exit → St → Prop} {e : Exit} {st' : St} : ∀ (n : Nat) (c : Code) (st : St), xCode P F esc quiet base n c st = some (e, st') → Q e st' → AWP P base c Q st := by
  intro n
  induction n using Nat.strongRecOn generalizing Q e st' with
  | _ n ih =>
    intro c st h hQ
    cases n with
    | zero => simp [xCode] at h
    | succ n =>
      cases c with
      | skip => simp only [xCode, Option.some.injEq, Prod.mk.injEq] at h; obtain ⟨rfl, rfl⟩ := h; exact AWP.skip hQ
      | exit id => simp only [xCode, Option.some.injEq, Prod.mk.injEq] at h; obtain ⟨rfl, rfl⟩ := h; exact AWP.exit_ hQ
      | ret => simp only [xCode, Option.some.injEq, Prod.mk.injEq] at h; obtain ⟨rfl, rfl⟩ := h; exact AWP.ret hQ
      | region id ops drawn =>
        simp only [xCode] at h
        cases drawn with
        | false =>
          simp only [Bool.false_eq_true, if_false, Option.map_eq_some_iff, Prod.mk.injEq] at h
          obtain ⟨s, hs, rfl, rfl⟩ := h
          exact AWP.region hF esc hs hQ
        | true =>
          simp only [if_true] at h
          split at h
          · rename_i hc
            simp only [Option.map_eq_some_iff, Prod.mk.injEq] at h
            obtain ⟨s, hs, rfl, rfl⟩ := h
            exact AWP.len fun hl => AWP.dropL ops.toList hl (AWP.draw hm hF hq hc hs hQ)
          · cases h
      | seq x y =>
        simp only [xCode] at h
        refine AWP.seq ?_
        split at h
        · rename_i s hs
          exact ih n (by omega) (Q := thenA (AWP P base y Q) Q) x st hs (ih n (by omega) y s h hQ)
        · rename_i r hr
          refine ih n (by omega) (Q := thenA (AWP P base y Q) Q) x st h ?_
          cases e <;> first | exact hQ | (exact absurd h (fun hh => hr _ hh))
      | cond c x y =>
        simp only [xCode] at h
        split at h
        · rename_i t ht; exact AWP.cond ht (ih n (by omega) _ st h hQ)
        · cases h
      | block id c =>
        simp only [xCode] at h
        refine AWP.block ?_
        split at h
        · rename_i id' s hs
          refine ih n (by omega) (Q := inBlockA id Q) c st hs ?_
          simp only [inBlockA]
          split at h <;> (simp only [Option.some.injEq, Prod.mk.injEq] at h; obtain ⟨rfl, rfl⟩ := h)
          · rename_i hi; rw [if_pos hi]; exact hQ
          · rename_i hi; rw [if_neg hi]; exact hQ
        · rename_i r hr
          refine ih n (by omega) (Q := inBlockA id Q) c st h ?_
          cases e <;> first | exact hQ | (exact absurd h (fun hh => hr _ _ hh))
      | loop c =>
        refine AWP.loop (fun k s => k ≤ n + 1 ∧ xCode P F esc quiet base k (.loop c) s = some (e, st')) (n + 1) ⟨Nat.le_refl _, h⟩ ?_
        rintro k s ⟨hk, hs⟩
        cases k with
        | zero => simp [xCode] at hs
        | succ k =>
          simp only [xCode] at hs
          split at hs
          · rename_i s1 hs1
            exact ih k (by omega) (Q := thenA _ Q) c s hs1 ⟨k, by omega, by omega, hs⟩
          · rename_i r hr
            refine ih k (by omega) (Q := thenA _ Q) c s hs ?_
            cases e <;> first | exact hQ | (exact absurd hs (fun hh => hr _ hh))
      | scope c =>
        simp only [xCode] at h
        split at h
        · cases h
        · rename_i r hr
          refine fun w G a hrel => wp_scope_straight (wp_mono (ih n (by omega) (Q := fun e' s' => e' = e ∧ s' = st') c st h ⟨rfl, rfl⟩ w G a hrel) ?_)
          rintro e' a' w' ⟨s, G', ⟨rfl, rfl⟩, q1, q2⟩
          cases e' <;> first | exact ⟨_, G', hQ, q1, q2⟩ | (exact absurd h (fun hh => hr _ _ hh))
      | _ => simp [xCode] at h
end
end Go.Am
