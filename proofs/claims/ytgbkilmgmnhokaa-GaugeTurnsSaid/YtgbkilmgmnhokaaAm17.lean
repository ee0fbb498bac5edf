/-
  THE ABSTRACT MACHINE: the rule of a region whose order is drawn.
-/
import Derived.Test.YtgbkilmgmnhokaaAm16
set_option linter.unusedSimpArgs false
set_option linter.unusedVariables false
namespace Go.Am
open Go

section
variable {base : Nat} {P : Program} {F : Tab} {ops : Array Oper} {esc : Nat → Bool} {quiet : FuncId → Bool}

theorem fold_mask {ms : List Nat} {k : Nat} : ∀ (l : List Edge) (s : Nat), (l.foldl (fun s e => s ||| 2 ^ e.on ||| ms.getD e.on 0) s).testBit k = true → s.testBit k = true ∨ ∃ e ∈ l, e.on = k ∨ (ms.getD e.on 0).testBit k = true
  | [], s, h => .inl h
  | e :: l, s, h => by
    rcases fold_mask l _ h with h1 | ⟨e', he', h1⟩
    · simp only [Nat.testBit_or, Nat.testBit_two_pow, Bool.or_eq_true, decide_eq_true_eq] at h1
      rcases h1 with (h1 | h1) | h1
      · exact .inl h1
      · exact .inr ⟨e, by simp, .inl h1⟩
      · exact .inr ⟨e, by simp, .inr h1⟩
    · exact .inr ⟨e', by simp [he'], h1⟩

def Masks (ops : Array Oper) (ms : List Nat) : Prop := ∀ (j m : Nat), ms[j]? = some m → ∀ k, m.testBit k = true → Anc ops k j

theorem mask_anc {ms : List Nat} (hm : Masks ops ms) {o : Oper} {j : Nat} (ho : ops[j]? = some o) {k : Nat} (h : (maskOf ms o).testBit k = true) : Anc ops k j := by
  rcases fold_mask _ _ h with h | ⟨e, he, h⟩
  · simp at h
  · simp only [List.mem_filter] at he
    have hmem : e ∈ o.after := by simpa using he.1
    rcases h with rfl | h
    · exact .one j o e ho hmem he.2
    · refine .up k j o e ho hmem he.2 ?_
      rw [List.getD_eq_getElem?_getD] at h
      cases hx : ms[e.on]? with
      | none => rw [hx] at h; simp at h
      | some m => rw [hx] at h; exact hm e.on m hx k h

theorem calmAt_spec {o : Oper} {m : Nat} : ∀ (xs : List Oper) (i : Nat), calmAt esc quiet ops o m i xs = true → ∀ (k : Nat) (x : Oper), xs[k]? = some x → m.testBit (i + k) = true ∨ pairOK esc quiet ops x o = true
  | [], i, _, k, x, hx => by simp at hx
  | y :: ys, i, h, k, x, hx => by
    simp only [calmAt, Bool.and_eq_true, Bool.or_eq_true] at h
    cases k with
    | zero => simp at hx; subst hx; simpa using h.1
    | succ k =>
      have := calmAt_spec ys (i + 1) h.2 k x (by simpa using hx)
      rw [show i + (k + 1) = i + 1 + k by omega]; exact this

structure CalmP (esc : Nat → Bool) (quiet : FuncId → Bool) (ops : Array Oper) : Prop where
  fwd : ∀ (j : Nat) (o : Oper), ops[j]? = some o → ∀ e ∈ o.after, Region.binds .any e = true → e.on < j
  pair : ∀ (i j : Nat) (x y : Oper), i < j → ops[i]? = some x → ops[j]? = some y → Anc ops i j ∨ pairOK esc quiet ops x y = true

theorem calmGo_spec : ∀ (os seen : List Oper) (ms : List Nat), ops.toList = seen ++ os → ms.length = seen.length → Masks ops ms → calmGo esc quiet ops seen os ms = true →
    (∀ (j : Nat) (o : Oper), seen.length ≤ j → ops[j]? = some o → ∀ e ∈ o.after, Region.binds .any e = true → e.on < j) ∧
    (∀ (i j : Nat) (x y : Oper), seen.length ≤ j → i < j → ops[i]? = some x → ops[j]? = some y → Anc ops i j ∨ pairOK esc quiet ops x y = true)
  | [], seen, ms, hl, _, _, _ => by
    have hn : ∀ j o, seen.length ≤ j → ops[j]? = some o → False := fun j o hj ho => by
      rw [← Array.getElem?_toList, hl] at ho
      simp only [List.append_nil] at ho
      have := (List.getElem?_eq_some_iff.1 ho).1
      omega
    exact ⟨fun j o hj ho => (hn j o hj ho).elim, fun i j x y hj _ _ hy => (hn j y hj hy).elim⟩
  | o :: os, seen, ms, hl, hlen, hm, h => by
    simp only [calmGo, Bool.and_eq_true, List.all_eq_true, Bool.or_eq_true, Bool.not_eq_true', decide_eq_true_eq] at h
    obtain ⟨⟨h1, h2⟩, h3⟩ := h
    have ho : ops[seen.length]? = some o := by rw [← Array.getElem?_toList, hl]; simp
    have hm' : Masks ops (ms ++ [maskOf ms o]) := fun j m hj k hk => by
      rw [List.getElem?_append] at hj
      split at hj
      · exact hm j m hj k hk
      · rename_i hge
        rw [List.getElem?_singleton] at hj
        split at hj
        · rename_i h0
          injection hj with hj; subst hj
          have : j = seen.length := by omega
          subst this
          exact mask_anc hm ho hk
        · cases hj
    obtain ⟨r1, r2⟩ := calmGo_spec os (seen ++ [o]) (ms ++ [maskOf ms o]) (by simp [hl]) (by simp [hlen]) hm' h3
    constructor
    · intro j o' hj ho' e he hb
      by_cases hjs : j = seen.length
      · subst hjs
        rw [ho] at ho'; injection ho' with ho'; subst ho'
        rcases h1 e (by simpa using he) with hb' | hlt
        · rw [hb] at hb'; cases hb'
        · exact hlt
      · exact r1 j o' (by simp; omega) ho' e he hb
    · intro i j x y hj hij hx hy
      by_cases hjs : j = seen.length
      · subst hjs
        rw [ho] at hy; injection hy with hy; subst hy
        have hxs : seen[i]? = some x := by
          rw [← Array.getElem?_toList, hl, List.getElem?_append_left hij] at hx; exact hx
        rcases calmAt_spec seen 0 h2 i x hxs with h | h
        · rw [Nat.zero_add] at h
          exact .inl (mask_anc hm ho h)
        · exact .inr h
      · exact r2 i j x y (by simp; omega) hij hx hy

theorem calm_spec (h : calm esc quiet ops = true) : CalmP esc quiet ops := by
  obtain ⟨h1, h2⟩ := calmGo_spec ops.toList [] [] rfl rfl (fun j m hj => by simp at hj) h
  exact ⟨fun j o => h1 j o (Nat.zero_le _), fun i j x y => h2 i j x y (Nat.zero_le _)⟩

def lst (n : Nat) : Nat → Array Bool
  | 0 => Array.replicate n false
  | k + 1 => (lst n k).setIfInBounds k true

theorem lst_size {n : Nat} : ∀ k, (lst n k).size = n
  | 0 => by simp [lst]
  | k + 1 => by simp [lst, lst_size k]

theorem lst_get {n : Nat} : ∀ (k i : Nat), i < n → (lst n k)[i]? = some (decide (i < k))
  | 0, i, h => by simp [lst, h]
  | k + 1, i, h => by
    simp only [lst, Array.getElem?_setIfInBounds]
    split
    · rename_i e
      subst e
      rw [if_pos (by rw [lst_size]; exact h)]; simp
    · rw [lst_get k i h]
      have : i < k ↔ i < k + 1 := by omega
      simp [this]

theorem lst_getD {n k i : Nat} {d : Bool} : (lst n k).getD i d = if i < n then decide (i < k) else d := by
  rw [Array.getD_eq_getD_getElem?]
  split
  · rw [lst_get k i (by assumption)]; rfl
  · rw [Array.getElem?_eq_none (by rw [lst_size]; omega)]; rfl

theorem any_run (hF : F.valid P) (hq : Calm F quiet) (hc : CalmP esc quiet ops) {R : St → Prop} {st' : St} (hR : R st') : ∀ (os : List Oper) (k : Nat) (st : St), ops.toList.drop k = os → Good base st → dOps P F esc quiet base ops os st = some st' →
    AnyA P F esc quiet base ops R os.length (lst ops.size k) st
  | [], k, st, hk, hg, h => by
    simp only [dOps, Option.some.injEq] at h; subst h
    have hle : ops.size ≤ k := by have := congrArg List.length hk; simp at this; omega
    refine ⟨?_, hR⟩
    apply List.eq_nil_iff_forall_not_mem.2
    intro j hj
    obtain ⟨h0, o, ho, _⟩ := mem_ready.1 hj
    have hlt := (Array.getElem?_eq_some_iff.1 ho).1
    rw [lst_getD, if_pos hlt] at h0
    simp at h0; omega
  | o :: os, k, st, hk, hg, h => by
    simp only [dOps, Option.bind_eq_some_iff] at h
    obtain ⟨st1, h1, h2⟩ := h
    have ho : ops[k]? = some o := by
      have : (ops.toList.drop k)[0]? = some o := by rw [hk]; rfl
      rw [List.getElem?_drop] at this
      simpa using this
    have hkn := (Array.getElem?_eq_some_iff.1 ho).1
    have hk' : ops.toList.drop (k + 1) = os := by rw [← List.drop_drop, hk]; rfl
    refine AnyA.first hF hq ho os.length (lst ops.size k) st st1 hg ?_ ?_ ?_ h1 (any_run hF hq hc hR os (k + 1) st1 hk' (hg.step hF h1) h2)
    · intro j oj hj hl e he hb
      have hjn := (Array.getElem?_eq_some_iff.1 hj).1
      rw [lst_getD, if_pos hjn] at hl
      have := hc.fwd j oj hj e he hb
      rw [lst_getD, if_pos (by omega)]
      simp at hl ⊢; omega
    · intro j oj hj hne hun hna
      have hjn := (Array.getElem?_eq_some_iff.1 hj).1
      rw [lst_getD, if_pos hjn] at hun
      simp at hun
      exact (hc.pair k j o oj (by omega) ho hj).resolve_left hna
    · rw [mem_ready]
      refine ⟨by rw [lst_getD, if_pos hkn]; simp, o, ho, fun e he hb => ?_⟩
      have := hc.fwd k o ho e he hb
      rw [lst_getD, if_pos (by omega)]; simpa using this

theorem Rel.drawnF {w : World} {G : Ghost} {st : St} {a : Act} (h : Rel base w G st a) (n : Nat) : Rel base { w with drawn := n } G st a ∧ FEvol base w G st.S st.O { w with drawn := n } G st.S st.O := by
  have hk : ∀ K, Keep w G st.S { w with drawn := n } G st.S K := fun K => ⟨fun _ _ _ => ⟨rfl, rfl⟩, Nat.le_refl _, fun _ _ _ h => h, fun _ _ _ _ _ _ h => ⟨h, fun _ h => ⟨h, rfl⟩⟩⟩
  refine ⟨⟨h.defers, h.size, h.env.keep (hk (fun _ => True)) (fun _ _ => trivial), ?_, h.len, h.scopeE, h.scopeS, h.scopeB, h.scopeO⟩, ⟨hk _, rfl, rfl, rfl, rfl, Nat.le_refl _, fun _ _ _ hh => hh⟩⟩
  refine ⟨h.inv.inj, h.inv.rng, h.inv.live, h.inv.orow, fun m e sz k cs b hm hb => (h.inv.row m e sz k cs b hm hb).keep (hk (fun _ => True)) trivial hm, fun id T cs hh => ?_⟩
  obtain ⟨b, vs, p1, p2, p3, p4⟩ := h.inv.box id T cs hh
  exact ⟨b, vs, p1, p2, p3, fun j x v hx hv => (p4 j x v hx hv).keep (hk (fun _ => True)) (fun _ _ => trivial) (fun b' h' => ⟨h', rfl⟩)⟩

/-- A region whose order is drawn, by its run in the order of the text. -/
theorem AWP.draw {Q : Exit → St → Prop} {st st' : St} {id : Nat} (hm : P.follows .mixedOrders = true) (hF : F.valid P) (hq : Calm F quiet) (hc : calm esc quiet ops = true) (h : dOps P F esc quiet base ops ops.toList st = some st') (hQ : Q .normal st') :
    AWP P base (.region id ops true) Q st := fun w G a hr => by
  obtain ⟨h1, h2⟩ := hr.drawnF (w.drawn + 1)
  refine wp_region_any hm ?_
  have := any_run hF hq (calm_spec hc) (R := fun s => s = st') rfl ops.toList 0 st rfl ⟨_, _, _, hr⟩ h
  rw [Array.length_toList] at this
  exact AnyA.sound hF (fun s w' G' a' hs hr' hev => by subst hs; exact ⟨s, G', hQ, hr', hev⟩) ops.size _ st _ G a this h1 h2

/-- Weaken: what lies at a place is given up. -/
theorem AWP.drop {Q : Exit → St → Prop} {st : St} {c : Code} {m : Nat} (hm : base ≤ m) (hlt : m < st.S.length) (h : AWP P base c Q (st.setAt base m .dead)) : AWP P base c Q st := fun w G a hr => by
  obtain ⟨h1, h2, _⟩ := hr.drop hm hlt
  rw [hr.setAt_eq m .dead] at h
  refine wp_mono (h w _ a h1) ?_
  rintro e a' w' ⟨s, G', q1, q2, q3⟩
  exact ⟨s, G', q1, q2, h2.trans q3⟩
end
end Go.Am
