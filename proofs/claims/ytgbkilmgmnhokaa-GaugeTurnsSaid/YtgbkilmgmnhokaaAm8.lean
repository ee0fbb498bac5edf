/-
  THE ABSTRACT MACHINE: a store into a row's element; the operations of a region one by one.
-/
import Derived.Test.YtgbkilmgmnhokaaAm7
set_option linter.unusedSimpArgs false
set_option linter.unusedVariables false
namespace Go.Am
open Go

section
variable {base : Nat} {w w' w'' : World} {G G' G'' : Ghost} {S S' S'' O O' O'' : List Blk} {P : Program}

mutual
theorem sub_refl (m : Nat) : ∀ x : AV, AV.sub m (.p (.s m)) (.r m) x = x
  | .u => rfl
  | .s _ => rfl
  | .l .. => rfl
  | .e _ => rfl
  | .w .. => rfl
  | .p (.s n) _ => by simp only [AV.sub]; split <;> simp_all
  | .p (.o n) _ => rfl
  | .r n => by simp only [AV.sub]; split <;> simp_all
  | .f _ fs cs => by simp only [AV.sub]; rw [subL_refl m fs, subL_refl m cs]
  | .a cs => by simp only [AV.sub]; rw [subL_refl m cs]
  | .t cs => by simp only [AV.sub]; rw [subL_refl m cs]
theorem subL_refl (m : Nat) : ∀ xs : List AV, AV.subL m (.p (.s m)) (.r m) xs = xs
  | [] => rfl
  | x :: xs => by simp only [AV.subL]; rw [sub_refl m x, subL_refl m xs]
end

theorem set_same {S : List Blk} {m n : Nat} {b : Blk} (h : n ≠ m) : (S.set m b)[n]? = S[n]? := by rw [List.getElem?_set, if_neg (by omega)]

theorem Rel.storeRow {st : St} {a : Act} (h : Rel base w G st a) {m off b e sz n : Nat} (hm : base ≤ m) {cs xs : List AV} {us : List Value} (hS : st.S[m]? = some (.row e sz n cs)) (hb : G b = some (.box (.s m)))
    (hc : CRs w G st.S xs us) (hle : off + xs.length ≤ cs.length) (hd : ∀ x ∈ xs, x.data = true) :
    ∃ w', (storeCells ⟨b, off, none⟩ us).run P w = .ok () w' ∧ Rel base w' G { st with S := st.S.set m (.row e sz n (splice cs off xs)) } a ∧
      FEvol base w G st.S st.O w' G (st.S.set m (.row e sz n (splice cs off xs))) st.O := by
  have hlt : m < st.S.length := (List.getElem?_eq_some_iff.1 hS).1
  obtain ⟨cap, vs, hh, hcs, hcd⟩ := h.inv.row m e sz n cs b hS hb
  have hh' := hh
  obtain ⟨q1, q0, q2⟩ := hh
  rcases q2 with ⟨q2, _⟩ | ⟨b', cap', cur, hv, hg, hbk, hn, hcap, hsz, ht⟩
  · cases q2
  injection hv with e1 e2 e3
  injection e1 with e1; injection e1 with e1; subst e1 e3
  have hul : us.length = xs.length := hc.length.symm
  have hcl : vs.length = cs.length := hcs.length.symm
  have hnc : n * sz ≤ cap * sz := Nat.mul_le_mul_right _ hn
  have hrun := run_storeCells_at (P := P) b off e us 0 cur w hbk (by omega) (fun v hv => by
    obtain ⟨j, hj, rfl⟩ := List.getElem_of_mem hv
    have hx : xs[j]? = some (xs[j]'(by omega)) := List.getElem?_eq_getElem _
    exact one_oneCell (hc.get' hx (List.getElem?_eq_getElem hj)) (data_one (hd _ (List.getElem_mem _))))
  refine ⟨_, hrun, ?_⟩
  simp only [Nat.add_zero]
  generalize hcur' : (cur.toList.take off ++ us ++ cur.toList.drop (off + us.length)).toArray = cur'
  have hself : (st.S.set m (.row e sz n (splice cs off xs)))[m]? = some (.row e sz n (splice cs off xs)) := by simp [List.getElem?_set, hlt]
  have hk : Keep w G st.S (w.setRow b cur') G (st.S.set m (.row e sz n (splice cs off xs))) (fun o => o ≠ .row m) :=
    ⟨fun b' hlt' hn' => ⟨setRow_other w b b' _ (fun e => by subst e; rw [hb] at hn'; cases hn'), rfl⟩, by simp [World.setRow], fun _ _ _ h => h, fun r hr _ _ _ _ hs => by
      have hne : r ≠ m := fun e => hr (by rw [e])
      exact ⟨by rw [set_same hne]; exact hs, fun b' hb' => ⟨hb', setRow_other w b b' _ (fun e => by subst e; rw [hb] at hb'; injection hb' with hb'; injection hb' with hb'; injection hb' with hb'; exact hne hb'.symm)⟩⟩⟩
  have hdd : ∀ x ∈ splice cs off xs, x.data = true := by
    intro x hx
    simp only [splice, List.mem_append] at hx
    rcases hx with (hx | hx) | hx
    · exact hcd x (List.mem_of_mem_take hx)
    · exact hd x hx
    · exact hcd x (List.mem_of_mem_drop hx)
  have hvs' : CRs (w.setRow b cur') G (st.S.set m (.row e sz n (splice cs off xs))) (splice cs off xs) (vs.take off ++ us ++ vs.drop (off + us.length)) := by
    have := ((hcs.take off).append hc).append (hcs.drop (off + us.length))
    rw [hul] at this ⊢
    exact this.keep hk (has_data hdd _)
  have hhdr : Hdr (w.setRow b cur') G (.box (.s m)) e sz n (vs.take off ++ us ++ vs.drop (off + us.length)) (.slice (some ⟨b, 0, none⟩) n cap) := by
    refine ⟨by simp; omega, q0, .inr ⟨b, cap, cur', rfl, hb, setRow_heap w b cur cur' _ _ hbk, hn, hcap, ?_, ?_⟩⟩
    · subst hcur'; simp; omega
    · subst hcur'
      rw [← ht]
      simp only [List.take_append, List.length_append, List.length_take, List.take_take, List.drop_take, Array.length_toList]
      congr 1
      · congr 1
        · congr 1; omega
        · rw [List.take_of_length_le (by omega)]
      · congr 1; omega
  have hr : ∀ v, CR w G st.S (.r m) v → CR (w.setRow b cur') G (st.S.set m (.row e sz n (splice cs off xs))) (.r m) v := by
    intro v hv
    cases hv with | r _ e' sz' n' cs' vs2 _ hS' hh2 hc2 hd2 =>
    rw [hS] at hS'; injection hS' with hS'; injection hS' with p1 p2 p3 p4; subst p1 p2 p3 p4
    obtain ⟨r1, r0, r2⟩ := hh2
    rcases r2 with ⟨rfl, rfl⟩ | ⟨b2, cap2, cur2, rfl, hg2, hbk2, hn2, hcap2, hsz2, ht2⟩
    · have hl0 : (splice cs off xs).length = 0 := by
        have : cs.length = 0 := by rw [← hcl, q1]; simp
        simp only [splice, List.length_append, List.length_take, List.length_drop]; omega
      have hnil : splice cs off xs = [] := List.eq_nil_of_length_eq_zero hl0
      exact .r m e sz 0 _ [] _ hself ⟨by simp, r0, .inl ⟨rfl, rfl⟩⟩ (by rw [hnil]; exact .nil) hdd
    · obtain rfl := h.inv.inj _ _ _ hg2 hb
      rw [hbk] at hbk2; injection hbk2 with hbk2; injection hbk2 with hbk2; subst hbk2
      have : cap2 = cap := Nat.eq_of_mul_eq_mul_right q0 (hsz2.symm.trans hsz)
      subst this
      exact .r m e sz n _ _ _ hself hhdr hvs' hdd
  have hCR : ∀ {x : AV} {v : Value}, CR w G st.S x v → CR (w.setRow b cur') G (st.S.set m (.row e sz n (splice cs off xs))) x v := by
    intro x v hx
    have := CR.sub2 (m := m) (pf := .p (.s m)) (rf := .r m) hk (fun id _ e => by cases e) (fun r hr _ e => hr (by injection e)) (fun off v hv => by cases hv with | p _ _ b hb => exact .p _ _ _ hb) hr hx
    rwa [sub_refl] at this
  have hlen : (st.S.set m (.row e sz n (splice cs off xs))).length = st.S.length := by simp
  have hbx : ∀ id T c, getB (st.S.set m (.row e sz n (splice cs off xs))) st.O id = some (.box T c) → getB st.S st.O id = some (.box T c) := by
    intro id T c hh
    cases id with
    | o k => exact hh
    | s k =>
      simp only [getB] at hh ⊢
      by_cases hk : k = m
      · subst hk; rw [hself] at hh; cases hh
      · rw [set_same hk] at hh; exact hh
  have hbx' : ∀ id T c, getB st.S st.O id = some (.box T c) → getB (st.S.set m (.row e sz n (splice cs off xs))) st.O id = some (.box T c) := by
    intro id T c hh
    cases id with
    | o k => exact hh
    | s k =>
      simp only [getB] at hh ⊢
      by_cases hk : k = m
      · subst hk; rw [hS] at hh; cases hh
      · rw [set_same hk]; exact hh
  refine ⟨⟨h.defers, h.size, .of h.env.length (fun j x v hx hv => hCR (h.env.get' hx hv)), ?_, by rw [hlen]; exact h.len, by rw [hlen]; exact h.scopeE, fun k T c hh => by rw [hlen]; exact h.scopeS k T c (hbx (.s k) T c hh), fun k T c hk hh => h.scopeB k T c hk (hbx (.s k) T c hh), h.scopeO⟩,
    ⟨⟨hk.free, hk.size, fun _ _ _ h => h, fun r hrr _ _ _ _ hs => hk.row r (fun e => by have hr' : r < base := hrr; injection e with e; omega) _ _ _ _ hs⟩, rfl, rfl, rfl, hlen, Nat.le_refl _, fun k β hk hh T c hc => hh T c (hbx (.s k) T c hc)⟩⟩
  refine ⟨h.inv.inj, fun b' o hb' => by have := h.inv.rng b' o hb'; simpa [World.setRow] using this, fun b' o hb' => ?_, h.inv.orow, fun m' e' sz' n' c' b' hs hb' => ?_, fun id T c hh => ?_⟩
  · have hal := h.inv.live b' o hb'
    cases o with
    | box id =>
      rcases hal with ⟨T, c, hal⟩ | ⟨e', sz', n', c', hal⟩
      · exact .inl ⟨T, c, hbx' id T c hal⟩
      · refine .inr ?_
        cases id with
        | o k => exact ⟨_, _, _, _, hal⟩
        | s k =>
          simp only [getB] at hal ⊢
          by_cases hk : k = m
          · subst hk; exact ⟨_, _, _, _, hself⟩
          · exact ⟨_, _, _, _, by rw [set_same hk]; exact hal⟩
    | cell id _ => obtain ⟨T, c, hal⟩ := hal; exact ⟨T, c, hbx' id T c hal⟩
    | ext _ => trivial
    | row k =>
      obtain ⟨e', sz', n', c', hal⟩ := hal
      by_cases hk : k = m
      · subst hk; exact ⟨_, _, _, _, hself⟩
      · exact ⟨_, _, _, _, by rw [set_same hk]; exact hal⟩
  · by_cases hne : m' = m
    · subst hne
      rw [hself] at hs; injection hs with hs; injection hs with p1 p2 p3 p4; subst p1 p2 p3 p4
      obtain rfl := h.inv.inj _ _ _ hb' hb
      exact ⟨cap, _, hhdr, hvs', hdd⟩
    · rw [set_same hne] at hs
      exact (h.inv.row m' e' sz' n' c' b' hs hb').keep hk (fun e => by injection e with e; exact hne e) hs
  · have hh0 := hbx id T c hh
    obtain ⟨b2, vs2, p1, p2, p3, p4⟩ := h.inv.box id T c hh0
    have hne : b2 ≠ b := by
      rintro rfl
      rw [hb] at p1; injection p1 with p1; injection p1 with p1; subst p1
      simp only [getB] at hh0; rw [hS] at hh0; cases hh0
    refine ⟨b2, vs2, p1, (setRow_other w b b2 _ hne).trans p2, p3, fun j x v hx hv => ?_⟩
    have h5 := p4 j x v hx hv
    cases x with
    | w e sz n cs => exact h5.keep hk (fun o ho => by cases ho) (fun b' hb' => ⟨hb', setRow_other w b b' _ (fun e => by subst e; rw [hb] at hb'; cases hb')⟩)
    | _ => exact cellR.mk (hCR h5)
end
end Go.Am
