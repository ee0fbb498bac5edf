/-
  THE ABSTRACT MACHINE: stores, appends, objects.
-/
import Derived.Test.YtgbkilmgmnhokaaAm6
import Derived.Maps.AppendAt
set_option linter.unusedSimpArgs false
set_option linter.unusedVariables false
namespace Go.Am
open Go

/-- A value of one cell. -/
def AV.one : AV → Bool
  | .s _ | .l .. | .e _ | .p .. | .r _ | .f .. => true
  | _ => false

def splice (cs : List AV) (off : Nat) (xs : List AV) : List AV := cs.take off ++ xs ++ cs.drop (off + xs.length)

def notW : AV → Bool
  | .w .. => false
  | _ => true

def setB (st : St) (id : Bid) (b : Blk) : St :=
  match id with
  | .s n => { st with S := st.S.set n b }
  | .o n => { st with O := st.O.set n b }

section
variable {base : Nat} {w w' w'' : World} {G G' G'' : Ghost} {S S' S'' O O' O'' : List Blk} {P : Program}

theorem one_oneCell {x : AV} {v : Value} (h : CR w G S x v) (ho : x.one = true) : v.oneCell' = true := by
  cases h with
  | u v => simp [AV.one] at ho
  | a cs vs h => simp [AV.one] at ho
  | t cs vs h => simp [AV.one] at ho
  | s x => cases x <;> rfl
  | l => rfl
  | e => rfl
  | p => rfl
  | f => rfl
  | r m e sz n cs vs _ h1 h2 h3 h4 =>
    obtain ⟨_, _, h2⟩ := h2
    rcases h2 with ⟨rfl, _⟩ | ⟨b, cap, cur, rfl, _⟩ <;> rfl

theorem data_one {x : AV} (h : x.data = true) : x.one = true := by cases x <;> simp_all [AV.data, AV.one]

theorem keep_set {st : St} (hI : InvH w G st.S st.O) {id : Bid} {T : TypeId} {cs : List AV} (hg : getB st.S st.O id = some (.box T cs)) {b : Nat} (hb : G b = some (.box id)) (vs : Array Value) (cs' : List AV) :
    Keep w G st.S (w.setRow b vs) G (setB st id (.box T cs')).S (fun _ => True) where
  free b' hlt hn := ⟨setRow_other w b b' vs (fun e => by subst e; rw [hb] at hn; cases hn), rfl⟩
  size := by simp [World.setRow]
  own _ _ _ h := h
  row n _ e sz k c h := by
    have hne : id ≠ .s n := fun e' => by subst e'; simp only [getB] at hg; rw [hg] at h; cases h
    refine ⟨?_, fun b' h' => ⟨h', setRow_other w b b' vs (fun e => by
      subst e; rw [hb] at h'; injection h' with h'; injection h' with h'; exact hne h')⟩⟩
    cases id with
    | o k => exact h
    | s k =>
      simp only [setB, List.getElem?_set]
      rw [if_neg (fun e => hne (by rw [e]))]
      exact h

theorem Rel.store {st : St} {a : Act} (h : Rel base w G st a) {id : Bid} {off b : Nat} {T : TypeId} {cs xs : List AV} {us : List Value} (hg : getB st.S st.O id = some (.box T cs)) (hb : G b = some (.box id))
    (hc : CRs w G st.S xs us) (hle : off + xs.length ≤ cs.length) (hone : ∀ x ∈ xs, x.one = true) (hnw : ∀ x ∈ (cs.drop off).take xs.length, notW x = true)
    (hsc : match id with | .o _ => AV.belL 0 xs = true | .s n => if n < base then AV.belL 0 xs = true else AV.belL st.S.length xs = true) (i : Nat) :
    ∃ w', (storeCells ⟨b, off, none⟩ us).run P w = .ok () w' ∧ Rel base w' G (setB st id (.box T (splice cs off xs))) a ∧
      FEvol base w G st.S st.O w' G (setB st id (.box T (splice cs off xs))).S (setB st id (.box T (splice cs off xs))).O := by
  obtain ⟨b', vs, h1, h2, h3, h4⟩ := h.inv.box id T cs hg
  obtain rfl := h.inv.inj _ _ _ h1 hb
  have hul : us.length = xs.length := hc.length.symm
  have hrun := run_storeCells_at (P := P) b' off T us 0 vs w h2 (by omega) (fun v hv => by
    obtain ⟨j, hj, rfl⟩ := List.getElem_of_mem hv
    have hx : xs[j]? = some (xs[j]'(by omega)) := List.getElem?_eq_getElem _
    exact one_oneCell (hc.get' hx (List.getElem?_eq_getElem hj)) (hone _ (List.getElem_mem _)))
  refine ⟨_, hrun, ?_⟩
  simp only [Nat.add_zero]
  generalize hvs' : (vs.toList.take off ++ us ++ vs.toList.drop (off + us.length)).toArray = vs'
  have hk := keep_set h.inv hg hb vs' (splice cs off xs)
  have hlenS : (setB st id (.box T (splice cs off xs))).S.length = st.S.length := by cases id <;> simp [setB]
  have hlenO : (setB st id (.box T (splice cs off xs))).O.length = st.O.length := by cases id <;> simp [setB]
  have hCR : ∀ {x : AV} {v : Value}, CR w G st.S x v → CR (w.setRow b' vs') G (setB st id (.box T (splice cs off xs))).S x v := fun hx => hx.keep hk (fun _ _ => trivial)
  have hget : ∀ id' T' cs', getB (setB st id (.box T (splice cs off xs))).S (setB st id (.box T (splice cs off xs))).O id' = some (.box T' cs') →
      (id' = id ∧ T' = T ∧ cs' = splice cs off xs) ∨ (id' ≠ id ∧ getB st.S st.O id' = some (.box T' cs')) := by
    intro id' T' cs' hh
    cases id with
    | s n =>
      cases id' with
      | s n' =>
        simp only [setB, getB, List.getElem?_set] at hh
        split at hh
        · rename_i e; subst e
          split at hh
          · injection hh with hh; injection hh with e1 e2; exact .inl ⟨rfl, e1.symm, e2.symm⟩
          · cases hh
        · rename_i e; exact .inr ⟨fun e' => e (by injection e' with e'; exact e'.symm), hh⟩
      | o n' => exact .inr ⟨(fun e => by cases e), hh⟩
    | o n =>
      cases id' with
      | o n' =>
        simp only [setB, getB, List.getElem?_set] at hh
        split at hh
        · rename_i e; subst e
          split at hh
          · injection hh with hh; injection hh with e1 e2; exact .inl ⟨rfl, e1.symm, e2.symm⟩
          · cases hh
        · rename_i e; exact .inr ⟨fun e' => e (by injection e' with e'; exact e'.symm), hh⟩
      | s n' => exact .inr ⟨(fun e => by cases e), hh⟩
  have hget' : ∀ id', (∃ T' cs', getB st.S st.O id' = some (.box T' cs')) → ∃ T' cs', getB (setB st id (.box T (splice cs off xs))).S (setB st id (.box T (splice cs off xs))).O id' = some (.box T' cs') := by
    rintro id' ⟨T', cs', hh⟩
    cases id with
    | s n =>
      cases id' with
      | s n' =>
        simp only [setB, getB, List.getElem?_set] at hh ⊢
        split
        · rename_i e; subst e
          exact ⟨T, _, by rw [if_pos (List.getElem?_eq_some_iff.1 hh).1]⟩
        · exact ⟨T', cs', hh⟩
      | o n' => exact ⟨T', cs', hh⟩
    | o n =>
      cases id' with
      | o n' =>
        simp only [setB, getB, List.getElem?_set] at hh ⊢
        split
        · rename_i e; subst e
          exact ⟨T, _, by rw [if_pos (List.getElem?_eq_some_iff.1 hh).1]⟩
        · exact ⟨T', cs', hh⟩
      | s n' => exact ⟨T', cs', hh⟩
  have hrowsB : ∀ (k e sz n : Nat) (c : List AV), (setB st id (.box T (splice cs off xs))).O[k]? ≠ some (.row e sz n c) := by
    intro k e sz n c hh
    cases id with
    | s n' => exact h.inv.orow k _ _ _ _ hh
    | o n' =>
      simp only [setB, List.getElem?_set] at hh
      split at hh
      · split at hh <;> simp at hh
      · exact h.inv.orow k _ _ _ _ hh
  have hrowsS : ∀ (m e sz n : Nat) (c : List AV), (setB st id (.box T (splice cs off xs))).S[m]? = some (.row e sz n c) → st.S[m]? = some (.row e sz n c) := by
    intro m e sz n c hh
    cases id with
    | o n' => exact hh
    | s n' =>
      simp only [setB, List.getElem?_set] at hh
      split at hh
      · split at hh <;> simp at hh
      · exact hh
  have hspl : ∀ β, AV.belL β cs = true → AV.belL β xs = true → AV.belL β (splice cs off xs) = true := by
    intro β hcs hxs
    rw [belL_mem] at hcs hxs ⊢
    intro x hx
    simp only [splice, List.mem_append] at hx
    rcases hx with (hx | hx) | hx
    · exact hcs x (List.mem_of_mem_take hx)
    · exact hxs x hx
    · exact hcs x (List.mem_of_mem_drop hx)
  have hbel : ∀ β, AV.belL 0 xs = true → AV.belL β xs = true := fun β h => belL_mono (Nat.zero_le β) h
  refine ⟨⟨h.defers, by cases id <;> exact h.size, by cases id <;> exact h.env.keep hk (fun _ _ => trivial), ?_, by rw [hlenS]; cases id <;> exact h.len, by rw [hlenS]; cases id <;> exact h.scopeE, ?_, ?_, ?_⟩,
    ⟨hk.imp (fun _ _ => trivial), rfl, rfl, rfl, hlenS, by omega, ?_⟩⟩
  · refine ⟨h.inv.inj, fun b o hb => by have := h.inv.rng b o hb; simpa [World.setRow] using this, fun b o hb => ?_, fun k e sz n c => ?_, fun m e sz n c b hs hb => ?_, fun id' T' cs' hh => ?_⟩
    · have hal := h.inv.live b o hb
      cases o with
      | box id' =>
        rcases hal with hal | ⟨e, sz, n, c, hal⟩
        · exact .inl (hget' id' hal)
        · cases id' with
          | o k => exact absurd hal (h.inv.orow k _ _ _ _)
          | s m => exact .inr ⟨e, sz, n, c, (hk.row m trivial _ _ _ _ hal).1⟩
      | cell id' _ => exact hget' id' hal
      | ext _ => trivial
      | row m =>
        obtain ⟨e, sz, n, c, hs⟩ := hal
        exact ⟨e, sz, n, c, (hk.row m trivial _ _ _ _ hs).1⟩
    · have := hrowsB k e sz n c; exact this
    · have hs' := hrowsS m e sz n c hs
      exact (h.inv.row m e sz n c b hs' hb).keep hk trivial hs'
    · have hcell : ∀ {id'' : Bid} {j : Nat} {x : AV} {v : Value}, cellR w G st.S id'' j x v → cellR (w.setRow b' vs') G (setB st id (.box T (splice cs off xs))).S id'' j x v := fun hx =>
        hx.keep hk (fun _ _ => trivial) (fun b'' hb'' => ⟨hb'', setRow_other w b' b'' vs' (fun e => by subst e; rw [hb] at hb''; cases hb'')⟩)
      rcases hget id' T' cs' hh with ⟨rfl, rfl, rfl⟩ | ⟨hne, hh'⟩
      · refine ⟨b', vs', hb, setRow_heap w b' vs vs' _ _ h2, ?_, fun j x v hx hv => ?_⟩
        · subst hvs'; simp [splice]; omega
        · subst hvs'
          simp only [splice] at hx
          have hv' : (vs.toList.take off ++ us ++ vs.toList.drop (off + us.length))[j]? = some v := by simpa using hv
          rw [List.append_assoc, List.getElem?_append] at hx hv'
          simp only [List.length_take, Array.length_toList, h3] at hx hv'
          split at hx
          · rename_i hj
            rw [if_pos hj, List.getElem?_take] at hv'
            rw [List.getElem?_take] at hx
            have hj' : j < off := by omega
            rw [if_pos hj'] at hx hv'
            exact hcell (h4 j x v hx (by simpa using hv'))
          · rename_i hj
            rw [if_neg hj] at hv'
            have hmin : min off cs.length = off := by omega
            rw [hmin] at hx hv' hj
            rw [List.getElem?_append] at hx hv'
            rw [hul] at hv'
            split at hx
            · rename_i hj2
              rw [if_pos hj2] at hv'
              exact cellR.mk (hCR (hc.get' hx hv'))
            · rename_i hj2
              rw [if_neg hj2] at hv'
              rw [List.getElem?_drop] at hx hv'
              have e : off + xs.length + (j - off - xs.length) = j := by omega
              rw [e] at hx hv'
              exact hcell (h4 j x v hx (by simpa using hv'))
      · obtain ⟨b2, vs2, q1, q2, q3, q4⟩ := h.inv.box id' T' cs' hh'
        exact ⟨b2, vs2, q1, (setRow_other w b' b2 vs' (fun e => by subst e; rw [hb] at q1; injection q1 with q1; injection q1 with q1; exact hne q1.symm)).trans q2, q3, fun j x v hx hv => hcell (q4 j x v hx hv)⟩
  · intro n T' cs' hh
    rw [hlenS]
    rcases hget (.s n) T' cs' hh with ⟨e, rfl, rfl⟩ | ⟨_, hh'⟩
    · subst e
      refine hspl _ (h.scopeS n _ cs hg) ?_
      simp only at hsc
      split at hsc
      · exact hbel _ hsc
      · exact hsc
    · exact h.scopeS n T' cs' hh'
  · intro n T' cs' hn hh
    rcases hget (.s n) T' cs' hh with ⟨e, rfl, rfl⟩ | ⟨_, hh'⟩
    · subst e
      simp only at hsc
      rw [if_pos hn] at hsc
      exact hspl _ (h.scopeB n _ cs hn hg) (hbel _ hsc)
    · exact h.scopeB n T' cs' hn hh'
  · intro n T' cs' hh
    rcases hget (.o n) T' cs' hh with ⟨e, rfl, rfl⟩ | ⟨_, hh'⟩
    · subst e
      exact hspl _ (h.scopeO n _ cs hg) hsc
    · exact h.scopeO n T' cs' hh'
  · intro n β hn hh T' cs' hh'
    rcases hget (.s n) T' cs' hh' with ⟨e, rfl, rfl⟩ | ⟨_, hh''⟩
    · subst e
      simp only at hsc
      rw [if_pos hn] at hsc
      exact hspl _ (hh _ cs hg) (hbel _ hsc)
    · exact hh T' cs' hh''

/-- A new object. -/
theorem Rel.newObj {st : St} {a : Act} (h : Rel base w G st a) {T : TypeId} {cs : List AV} {vs : List Value} (hc : CRs w G st.S cs vs) (hb : AV.belL 0 cs = true) :
    ∃ G', Rel base { w with heap := w.heap.push (.cells vs.toArray T) } G' { st with O := st.O ++ [.box T cs] } a ∧
      FEvol base w G st.S st.O { w with heap := w.heap.push (.cells vs.toArray T) } G' st.S (st.O ++ [.box T cs]) ∧
      CR { w with heap := w.heap.push (.cells vs.toArray T) } G' st.S (.p (.o st.O.length) 0) (.pointer (some ⟨w.heap.size, 0, none⟩)) := by
  have hI := h.inv
  have hk : Keep w G st.S { w with heap := w.heap.push (.cells vs.toArray T) } (upd G w.heap.size (.box (.o st.O.length))) st.S (fun _ => True) :=
    ⟨fun b hb hg => ⟨push_lt w _ hb, by rw [upd_ne _ _ (Nat.ne_of_lt hb)]⟩, by simp, fun o _ b hb => by rw [upd_ne _ _ (Nat.ne_of_lt (hI.rng b _ hb))]; exact hb, fun n _ _ _ _ _ h => ⟨h, fun b hb => ⟨by rw [upd_ne _ _ (Nat.ne_of_lt (hI.rng b _ hb))]; exact hb, push_lt w _ (hI.rng b _ hb)⟩⟩⟩
  have hown : ∀ {b : Nat} {o : Owner}, upd G w.heap.size (.box (.o st.O.length)) b = some o → (b = w.heap.size ∧ o = .box (.o st.O.length)) ∨ (b ≠ w.heap.size ∧ G b = some o) := by
    intro b o hb
    unfold upd at hb
    split at hb
    · rename_i e; injection hb with hb; exact .inl ⟨e, hb.symm⟩
    · rename_i e; exact .inr ⟨e, hb⟩
  have hnew : ∀ b, G b ≠ some (.box (.o st.O.length)) := by
    intro b hb
    rcases hI.live b _ hb with ⟨T, cs, hh⟩ | ⟨e, sz, n, cs, hh⟩ <;> simp [getB] at hh
  have hgetO : ∀ id T' cs', getB st.S (st.O ++ [.box T cs]) id = some (.box T' cs') → (id = .o st.O.length ∧ T' = T ∧ cs' = cs) ∨ getB st.S st.O id = some (.box T' cs') := by
    intro id T' cs' hh
    cases id with
    | s n => exact .inr hh
    | o n =>
      simp only [getB, List.getElem?_append] at hh ⊢
      split at hh
      · exact .inr hh
      · rename_i hn
        have : n - st.O.length = 0 := by
          rcases Nat.eq_zero_or_pos (n - st.O.length) with h | h
          · exact h
          · rw [List.getElem?_eq_none (by simp; omega)] at hh; cases hh
        rw [this] at hh
        simp only [List.getElem?_cons_zero, Option.some.injEq, Blk.box.injEq] at hh
        exact .inl ⟨by congr 1; omega, hh.1.symm, hh.2.symm⟩
  refine ⟨_, ⟨h.defers, h.size, h.env.keep hk (fun _ _ => trivial), ?_, h.len, h.scopeE, h.scopeS, h.scopeB, ?_⟩, ⟨hk.imp (fun _ _ => trivial), rfl, rfl, rfl, rfl, by simp, fun _ _ _ h => h⟩, .p _ _ _ (upd_at _ _ _)⟩
  · refine ⟨fun b b' o hb hb' => ?_, fun b o hb => ?_, fun b o hb => ?_, fun k e sz n c hh => ?_, fun m e sz n c b hs hb => ?_, fun id T' cs' hh => ?_⟩
    · rcases hown hb with ⟨rfl, rfl⟩ | ⟨_, h1⟩
      · rcases hown hb' with ⟨rfl, _⟩ | ⟨_, h2⟩
        · rfl
        · exact absurd h2 (hnew _)
      · rcases hown hb' with ⟨rfl, rfl⟩ | ⟨_, h2⟩
        · exact absurd h1 (hnew _)
        · exact hI.inj _ _ _ h1 h2
    · rcases hown hb with ⟨rfl, _⟩ | ⟨_, h1⟩
      · simp
      · have := hI.rng b o h1; simp; omega
    · have hmono : ∀ id, (∃ T cs, getB st.S st.O id = some (.box T cs)) → ∃ T' cs', getB st.S (st.O ++ [.box T cs]) id = some (.box T' cs') := by
        rintro id ⟨T', cs', hh⟩
        cases id with
        | s n => exact ⟨T', cs', hh⟩
        | o n => exact ⟨T', cs', by simp only [getB] at hh ⊢; rw [List.getElem?_append_left (List.getElem?_eq_some_iff.1 hh).1]; exact hh⟩
      rcases hown hb with ⟨rfl, rfl⟩ | ⟨_, h1⟩
      · exact .inl ⟨T, cs, by simp [getB]⟩
      · have := hI.live b o h1
        cases o with
        | box id =>
          rcases this with this | ⟨e, sz, n, c, this⟩
          · exact .inl (hmono id this)
          · cases id with
            | o k => exact absurd this (hI.orow k _ _ _ _)
            | s m => exact .inr ⟨e, sz, n, c, this⟩
        | cell id _ => exact hmono id this
        | ext _ => trivial
        | row m => exact this
    · simp only [List.getElem?_append] at hh
      split at hh
      · exact hI.orow k _ _ _ _ hh
      · rename_i hn
        rcases Nat.eq_zero_or_pos (k - st.O.length) with h | h
        · rw [h] at hh; simp at hh
        · rw [List.getElem?_eq_none (by simp; omega)] at hh; cases hh
    · rcases hown hb with ⟨_, e'⟩ | ⟨_, h1⟩
      · cases e'
      · exact (hI.row m e sz n c b hs h1).keep hk trivial hs
    · rcases hgetO id T' cs' hh with ⟨rfl, rfl, rfl⟩ | hh'
      · exact ⟨w.heap.size, vs.toArray, upd_at _ _ _, push_new w _, by simp [hc.length], fun j x v hx hv => cellR.mk ((hc.get' hx (by simpa using hv)).keep hk (fun _ _ => trivial))⟩
      · obtain ⟨b, vs', q1, q2, q3, q4⟩ := hI.box id T' cs' hh'
        exact ⟨b, vs', hk.own _ trivial b q1, (push_lt w _ (hI.rng b _ q1)).trans q2, q3, fun j x v hx hv => (q4 j x v hx hv).keep hk (fun _ _ => trivial) (fun b' hb' => ⟨hk.own _ trivial b' hb', push_lt w _ (hI.rng b' _ hb')⟩)⟩
  · intro n T' cs' hh
    rcases hgetO (.o n) T' cs' hh with ⟨_, rfl, rfl⟩ | hh'
    · exact hb
    · exact h.scopeO n T' cs' hh'

/-! ### append -/
theorem Hdr.owns {o : Owner} {e sz n : Nat} {vs : List Value} {v : Value} (h : Hdr w G o e sz n vs v) : w.ownsRow 0 e sz v n vs := by
  obtain ⟨h1, h0, h2⟩ := h
  refine ⟨h1, ?_⟩
  rcases h2 with h2 | ⟨b, cap, cur, hv, hg, hh, hn, hc, hs, ht⟩
  · exact .inl h2
  · exact .inr ⟨b, cap, cur, hv, Nat.zero_le _, hh, hn, hc, hs, ht⟩

theorem Rel.append {st : St} {a : Act} (h : Rel base w G st a) {m : Nat} (hm : base ≤ m) {t ty e sz n k c : Nat} {i : TypeInfo} {z : Value} {cs xs : List AV} {v : Value} {us : List Value} {A : Option Addr}
    (hS : st.S[m]? = some (.row e sz n cs)) (hv : CR w G st.S (.r m) v) (hx : CRs w G st.S xs us) (hd : ∀ x ∈ xs, x.data = true) (hl : us.length = k * sz)
    (hA : k ≠ 0 → ∃ ad, A = some ad ∧ ∀ j y, us[j]? = some y → w.cell? (ad.add j) = some y)
    (ht : P.underlying t = some (.slice e)) (hi : P.info? e = some i) (hz : i.zero = some z) (hsize : i.size = sz) (hzs : z.cells.size = sz) (h63 : n + k ≤ maxLen) (hbytes : (n + k) * i.bytes ≤ 140737488355328) :
    ∃ v' w' G', (Builtin.append_ #[t, t] ty #[v, .slice A k c]).run P w = .ok v' w' ∧ Rel base w' G' (st.giveTo base m (fun _ => .u) .u (.row e sz (n + k) (cs ++ xs))) a ∧
      FEvol base w G st.S st.O w' G' (st.giveTo base m (fun _ => .u) .u (.row e sz (n + k) (cs ++ xs))).S (st.giveTo base m (fun _ => .u) .u (.row e sz (n + k) (cs ++ xs))).O ∧
      CR w' G' (st.giveTo base m (fun _ => .u) .u (.row e sz (n + k) (cs ++ xs))).S (.r m) v' := by
  have hlt : m < st.S.length := (List.getElem?_eq_some_iff.1 hS).1
  have hself : (st.giveTo base m (fun _ => .u) .u (.row e sz (n + k) (cs ++ xs))).S[m]? = some (.row e sz (n + k) (cs ++ xs)) := by simp [St.giveTo, List.getElem?_set, hlt]
  cases hv with | r _ e' sz' n' cs' vs _ hS' hh hc hcd =>
  rw [hS] at hS'; injection hS' with hS'; injection hS' with e1 e2 e3 e4; subst e1 e2 e3 e4
  have hsz : 0 < sz := hh.2.1
  -- the run
  have hrun : ∃ v' w', (Builtin.append_ #[t, t] ty #[v, .slice A k c]).run P w = .ok v' w' ∧ w'.ownsRow 0 e sz v' (n + k) (vs ++ us) ∧ w.grownBy w' v.ownBlock ∧ (v'.ownBlock = v.ownBlock ∨ v'.ownBlock = some w.heap.size) := by
    cases A with
    | some ad =>
      obtain ⟨v', w', q1, q2, q3, _, q5⟩ := run_append_own_at (P := P) w 0 t ty e i z sz i.bytes ht hi hz hsize rfl hzs hsz v n vs hh.owns ad k c us hl (fun j u hu => by
        rcases Nat.eq_zero_or_pos k with rfl | hk
        · have : us = [] := List.eq_nil_of_length_eq_zero (by simpa using hl)
          subst this; simp at hu
        · obtain ⟨ad', h1, h2⟩ := hA (by omega)
          injection h1 with h1; subst h1
          exact h2 j u hu) (fun u hu => by
          obtain ⟨j, hj, rfl⟩ := List.getElem_of_mem hu
          have hj' : j < xs.length := by rw [hx.length]; exact hj
          exact one_oneCell (hx.get' (List.getElem?_eq_getElem hj') (List.getElem?_eq_getElem hj)) (data_one (hd _ (List.getElem_mem _)))) h63 hbytes (Nat.zero_le _)
      exact ⟨v', w', q1, q2, q3, q5⟩
    | none =>
      have hk : k = 0 := by
        rcases Nat.eq_zero_or_pos k with h | h
        · exact h
        · obtain ⟨ad, h1, _⟩ := hA (by omega); cases h1
      subst hk
      have hu : us = [] := List.eq_nil_of_length_eq_zero (by simpa using hl)
      subst hu
      refine ⟨v, w, ?_, by simpa using hh.owns, World.grownBy.refl w _, .inl rfl⟩
      obtain ⟨q1, q0, q2⟩ := hh
      rcases q2 with ⟨rfl, rfl⟩ | ⟨b, cap, cur, rfl, hg, hb, hn, hcap, hcs, htk⟩
      · simp [Builtin.append_, run_underlying ht, sizeOf, typeInfo, hi, Builtin.lenOf, Builtin.firstCells]
      · simp [Builtin.append_, run_underlying ht, sizeOf, typeInfo, hi, Builtin.lenOf, Builtin.firstCells, hn, storeCells]
  obtain ⟨v', w', hrun, hown, hgr, hblk⟩ := hrun
  -- the blocks that are not this row's
  have hvb : ∀ g, v.ownBlock = some g → G g = some (.box (.s m)) := by
    intro g hg
    obtain ⟨q1, q0, q2⟩ := hh
    rcases q2 with ⟨rfl, rfl⟩ | ⟨b, cap, cur, rfl, hgb, _⟩
    · cases hg
    · simp [Value.ownBlock] at hg; subst hg; exact hgb
  have hother : ∀ b, b < w.heap.size → G b ≠ some (.box (.s m)) → w'.heap[b]? = w.heap[b]? := fun b hb hne => hgr.block b hb (fun he => hne (hvb b he.symm))
  -- the new ghost
  let G' : Ghost := fun b => if some b = v'.ownBlock then some (.box (.s m)) else release m G b
  have hG'self : ∀ b, v'.ownBlock = some b → G' b = some (.box (.s m)) := fun b hb => by simp [G', hb]
  have hvin : ∀ b, v'.ownBlock = some b → b < w'.heap.size := by
    intro b hb
    obtain ⟨_, q2⟩ := hown
    rcases q2 with ⟨rfl, _⟩ | ⟨g, cap, cur, rfl, _, hg, _⟩
    · cases hb
    · simp [Value.ownBlock] at hb; subst hb; exact (Array.getElem?_eq_some_iff.1 hg).1
  have hvold : ∀ b, v'.ownBlock = some b → b < w.heap.size → G b = some (.box (.s m)) := by
    intro b hb hlt'
    rcases hblk with e | e
    · exact hvb b (e ▸ hb)
    · rw [e] at hb; injection hb with hb; omega
  have hk : Keep w G st.S w' G' (st.giveTo base m (fun _ => .u) .u (.row e sz (n + k) (cs ++ xs))).S (offM st.S m) := by
    refine ⟨fun b hb hg => ⟨hother b hb (fun he => by rw [he] at hg; cases hg), ?_⟩, hgr.size, fun o ho b hb => ?_, fun r hr _ _ _ _ hs => ?_⟩
    · simp only [G']
      rw [if_neg (fun he => by have := hvold b he.symm hb; rw [this] at hg; cases hg)]
      exact release_idle hg
    · simp only [G']
      rw [if_neg (fun he => by
        have := hvold b he.symm (h.inv.rng b o hb)
        rw [hb] at this; injection this with this; subst this
        simp [offM, Owner.at] at ho)]
      exact release_of hb ho.1
    · have hne : r ≠ m := by simpa [Owner.at] using hr.1
      exact ⟨giveTo_row hne hs, fun b hb => ⟨by
        simp only [G']
        rw [if_neg (fun he => by
          have := hvold b he.symm (h.inv.rng b _ hb)
          rw [hb] at this; injection this with this; injection this with this; injection this with this; exact hne this)]
        exact release_of hb (by simpa [Owner.at] using hne), hother b (h.inv.rng b _ hb) (by rw [hb]; intro he; injection he with he; injection he with he; injection he with he; exact hne he)⟩⟩
  have hdd : ∀ x ∈ cs ++ xs, x.data = true := fun x hx' => by
    rcases List.mem_append.1 hx' with hx' | hx'
    · exact hcd x hx'
    · exact hd x hx'
  have hhdr : Hdr w' G' (.box (.s m)) e sz (n + k) (vs ++ us) v' := by
    obtain ⟨q1, q2⟩ := hown
    refine ⟨q1, hsz, ?_⟩
    rcases q2 with q2 | ⟨g, cap, cur, rfl, _, hg, hn, hcap, hs, htk⟩
    · exact .inl q2
    · exact .inr ⟨g, cap, cur, rfl, hG'self g (by simp [Value.ownBlock]), hg, hn, hcap, hs, htk⟩
  have hcr' : CRs w' G' (st.giveTo base m (fun _ => .u) .u (.row e sz (n + k) (cs ++ xs))).S (cs ++ xs) (vs ++ us) := (hc.append hx).keep hk (has_data hdd _)
  obtain ⟨h1, h2⟩ := h.giveTo hm hlt (fun _ => rfl) rfl hk (fun _ _ _ => .u _) (fun _ _ => .u _)
    (fun b o hb hat => hother b (h.inv.rng b o hb) (by rw [hb]; intro he; injection he with he; subst he; simp [Owner.at] at hat))
    (fun b o hb => by
      simp only [G'] at hb
      split at hb
      · rename_i he
        injection hb with hb; subst hb
        refine .inr ⟨by simp [Owner.at], hvin b he.symm, .inr ⟨_, _, _, _, hself⟩, fun b' hb' => ?_⟩
        simp only [G'] at hb'
        split at hb'
        · rename_i he'; rw [← he] at he'; injection he'
        · obtain ⟨_, q⟩ := release_some hb'; simp [Owner.at] at q
      · exact .inl (release_some hb))
    (fun T' cs' he => by cases he)
    (fun e' sz' n' cs' b he hb => by
      injection he with q1 q2 q3 q4; subst q1 q2 q3 q4
      simp only [G'] at hb
      split at hb
      · rename_i he
        obtain ⟨p1, p0, p2⟩ := hhdr
        have hhdr' : Hdr w' G' (.box (.s m)) e sz (n + k) (vs ++ us) v' := ⟨p1, p0, p2⟩
        rcases p2 with ⟨rfl, _⟩ | ⟨g, cap, cur, rfl, _⟩
        · cases he
        · simp [Value.ownBlock] at he; subst he
          exact ⟨cap, vs ++ us, hhdr', hcr', hdd⟩
      · have := (release_some hb).2; simp [Owner.at] at this)
    ⟨hgr.os, hgr.tape, hgr.output⟩
  exact ⟨v', w', G', hrun, h1, h2, .r m e sz (n + k) (cs ++ xs) (vs ++ us) v' hself hhdr hcr' hdd⟩
end
end Go.Am
