/-
  THE ABSTRACT MACHINE: new boxes and rows at a frame's places; rows and boxes that are frozen; stores.
-/
import Derived.Test.YtgbkilmgmnhokaaAm5
import Derived.Laws.CopyRow
set_option linter.unusedSimpArgs false
set_option linter.unusedVariables false
namespace Go.Am
open Go

section
variable {base : Nat} {w w' w'' : World} {G G' G'' : Ghost} {S S' S'' O O' O'' : List Blk} {P : Program}

mutual
theorem sub_same {m : Nat} {pf : Nat → AV} {rf : AV} : ∀ {x : AV}, (∀ o, x.has o = true → o.at m = false) → AV.sub m pf rf x = x
  | .u, _ => rfl
  | .s _, _ => rfl
  | .l .., _ => rfl
  | .e _, _ => rfl
  | .w .., _ => rfl
  | .p (.s n) _, h => by
    have := h (.box (.s n)) (by simp [AV.has])
    simp only [Owner.at, beq_eq_false_iff_ne] at this
    simp [AV.sub, this]
  | .p (.o n) _, _ => rfl
  | .r n, h => by
    have := h (.row n) (by simp [AV.has])
    simp only [Owner.at, beq_eq_false_iff_ne] at this
    simp [AV.sub, this]
  | .f _ fs cs, h => by simp only [AV.sub]; rw [subL_same (fun o ho => h o (by simp [AV.has, ho])), subL_same (fun o ho => h o (by simp [AV.has, ho]))]
  | .a cs, h => by simp only [AV.sub]; rw [subL_same (fun o ho => h o (by simp [AV.has, ho]))]
  | .t cs, h => by simp only [AV.sub]; rw [subL_same (fun o ho => h o (by simp [AV.has, ho]))]
theorem subL_same {m : Nat} {pf : Nat → AV} {rf : AV} : ∀ {xs : List AV}, (∀ o, AV.hasL o xs = true → o.at m = false) → AV.subL m pf rf xs = xs
  | [], _ => rfl
  | x :: xs, h => by simp only [AV.subL]; rw [sub_same (fun o ho => h o (by simp [AV.hasL, ho])), subL_same (fun o ho => h o (by simp [AV.hasL, ho]))]
end

mutual
theorem has_live (hI : InvH w G S O) {x : AV} {v : Value} (h : CR w G S x v) {o : Owner} (ho : x.has o = true) : aliveO S O o :=
  match x, v, h, ho with
  | _, _, .u v, hn => by simp [AV.has] at hn
  | _, _, .s x, hn => by simp [AV.has] at hn
  | _, _, .l n cs A c vs h1 h2 h3 h4 h5 h6, hn => by simp [AV.has] at hn
  | _, _, .e cs a vs h1 h2 h3, hn => by simp [AV.has] at hn
  | _, _, .p id off b h, hn => by simp [AV.has] at hn; subst hn; exact hI.live b _ h
  | _, _, .r n e sz k cs vs v h1 h2 h3 h4, hn => by simp [AV.has] at hn; subst hn; exact ⟨e, sz, k, cs, h1⟩
  | _, _, .f fn fs cs vf vc h1 h2, hn => by
    simp only [AV.has, Bool.or_eq_true] at hn
    rcases hn with hn | hn
    · exact hasL_live hI h1 hn
    · exact hasL_live hI h2 hn
  | _, _, .a cs vs h, hn => hasL_live hI h (by simpa [AV.has] using hn)
  | _, _, .t cs vs h, hn => hasL_live hI h (by simpa [AV.has] using hn)
theorem hasL_live (hI : InvH w G S O) {xs : List AV} {vs : List Value} (h : CRs w G S xs vs) {o : Owner} (ho : AV.hasL o xs = true) : aliveO S O o :=
  match xs, vs, h, ho with
  | _, _, .nil, hn => by simp [AV.hasL] at hn
  | _, _, .cons x v xs vs h1 h2, hn => by
    simp only [AV.hasL, Bool.or_eq_true] at hn
    rcases hn with hn | hn
    · exact has_live hI h1 hn
    · exact hasL_live hI h2 hn
end

theorem dead_at {m : Nat} (hd : S[m]? = some .dead) {o : Owner} (h : aliveO S O o) : o.at m = false := by
  cases o with
  | box id => cases id with
    | o n => rfl
    | s n =>
      simp only [Owner.at, beq_eq_false_iff_ne]
      rintro rfl
      rcases h with ⟨T, cs, h⟩ | ⟨e, sz, k, cs, h⟩ <;> (simp only [getB] at h; rw [hd] at h; cases h)
  | row n =>
    obtain ⟨e, sz, k, cs, h⟩ := h
    simp only [Owner.at, beq_eq_false_iff_ne]
    rintro rfl
    rw [hd] at h; cases h
  | ext n => rfl
  | cell id off => cases id with
    | o n => rfl
    | s n =>
      obtain ⟨T, cs, h⟩ := h
      simp only [Owner.at, beq_eq_false_iff_ne]
      rintro rfl
      simp only [getB] at h; rw [hd] at h; cases h

theorem sub_dead (hI : InvH w G S O) {m : Nat} (hd : S[m]? = some .dead) {pf : Nat → AV} {rf x : AV} {v : Value} (h : CR w G S x v) : AV.sub m pf rf x = x :=
  sub_same fun _ ho => dead_at hd (has_live hI h ho)
theorem subL_dead (hI : InvH w G S O) {m : Nat} (hd : S[m]? = some .dead) {pf : Nat → AV} {rf : AV} {xs : List AV} {vs : List Value} (h : CRs w G S xs vs) : AV.subL m pf rf xs = xs :=
  subL_same fun _ ho => dead_at hd (hasL_live hI h ho)

theorem Rel.giveTo_dead {st : St} {a : Act} (h : Rel base w G st a) {m : Nat} (hd : st.S[m]? = some .dead) (pf : Nat → AV) (rf : AV) (blk : Blk) : st.giveTo base m pf rf blk = { st with S := st.S.set m blk } := by
  have h1 : AV.subL m pf rf st.env = st.env := subL_dead h.inv hd h.env
  have h2 : (st.S.mapIdx fun n b => if n < base then b else b.sub m pf rf) = st.S := by
    apply List.ext_getElem?
    intro n
    rw [List.getElem?_mapIdx]
    cases hn : st.S[n]? with
    | none => rfl
    | some b =>
      simp only [Option.map_some]
      split
      · rfl
      · cases b with
        | box T cs =>
          obtain ⟨b, vs, _, _, hl, hc⟩ := h.inv.box (.s n) T cs hn
          have : AV.subL m pf rf cs = cs := by
            rw [subL_map]
            conv => rhs; rw [← List.map_id cs]
            apply List.map_congr_left
            intro x hx
            obtain ⟨j, hj, rfl⟩ := List.getElem_of_mem hx
            have hj' : j < vs.size := by omega
            have := hc j cs[j] vs[j] (by simp [hj]) (by simp [hj'])
            generalize cs[j] = x at this ⊢
            cases x with
            | w e sz n cs => rfl
            | _ => exact sub_dead h.inv hd this
          simp only [Blk.sub, this]
        | _ => rfl
  unfold St.giveTo
  rw [h1, h2]

/-- A new block; who owns it. -/
def upd (G : Ghost) (b : Nat) (o : Owner) : Ghost := fun b' => if b' = b then some o else G b'

theorem upd_at (G : Ghost) (b : Nat) (o : Owner) : upd G b o b = some o := by simp [upd]
theorem upd_ne (G : Ghost) {b b' : Nat} (o : Owner) (h : b' ≠ b) : upd G b o b' = G b' := by simp [upd, h]

theorem push_lt (w : World) (o : Obj) {b : Nat} (h : b < w.heap.size) : ({ w with heap := w.heap.push o } : World).heap[b]? = w.heap[b]? := by
  simp [Array.getElem?_push, Nat.ne_of_lt h]
theorem push_new (w : World) (o : Obj) : ({ w with heap := w.heap.push o } : World).heap[w.heap.size]? = some o := by simp

theorem keep_push {st : St} (hI : InvH w G st.S st.O) (o : Obj) (m : Nat) (ow : Owner) (pf : Nat → AV) (rf : AV) (blk : Blk) :
    Keep w G st.S { w with heap := w.heap.push o } (upd (release m G) w.heap.size ow) (st.giveTo base m pf rf blk).S (offM st.S m) where
  free b hb hg := ⟨push_lt w o hb, by rw [upd_ne _ _ (Nat.ne_of_lt hb)]; exact release_idle hg⟩
  size := by simp
  own ow' ho b hb := by rw [upd_ne _ _ (Nat.ne_of_lt (hI.rng b _ hb))]; exact release_of hb ho.1
  row n hn _ _ _ _ hs := by
    have hne : n ≠ m := by simpa [Owner.at] using hn.1
    exact ⟨giveTo_row hne hs, fun b hb => ⟨by rw [upd_ne _ _ (Nat.ne_of_lt (hI.rng b _ hb))]; exact release_of hb (by simpa [Owner.at] using hne), push_lt w o (hI.rng b _ hb)⟩⟩

theorem upd_owner {b b' : Nat} {o o' : Owner} {m : Nat} (h : upd (release m G) b o b' = some o') : (b' = b ∧ o' = o) ∨ (b' ≠ b ∧ G b' = some o' ∧ o'.at m = false) := by
  unfold upd at h
  split at h
  · rename_i e; injection h with h; exact .inl ⟨e, h.symm⟩
  · rename_i e; exact .inr ⟨e, release_some h⟩

/-- A box at a place of the frame. -/
theorem Rel.boxAt {st : St} {a : Act} (h : Rel base w G st a) {m : Nat} (hm : base ≤ m) (hlt : m < st.S.length) {T : TypeId} {cs : List AV} {vs : List Value} (hc : CRs w G st.S cs vs) (hb : AV.belL st.S.length cs = true) :
    ∃ G', Rel base { w with heap := w.heap.push (.cells vs.toArray T) } G' (st.giveTo base m (fun _ => .u) .u (.box T (AV.subL m (fun _ => .u) .u cs))) a ∧
      FEvol base w G st.S st.O { w with heap := w.heap.push (.cells vs.toArray T) } G' (st.giveTo base m (fun _ => .u) .u (.box T (AV.subL m (fun _ => .u) .u cs))).S (st.giveTo base m (fun _ => .u) .u (.box T (AV.subL m (fun _ => .u) .u cs))).O ∧
      CR { w with heap := w.heap.push (.cells vs.toArray T) } G' (st.giveTo base m (fun _ => .u) .u (.box T (AV.subL m (fun _ => .u) .u cs))).S (.p (.s m) 0) (.pointer (some ⟨w.heap.size, 0, none⟩)) := by
  have hk := keep_push (base := base) h.inv (.cells vs.toArray T) m (.box (.s m)) (fun _ => .u) .u (.box T (AV.subL m (fun _ => .u) .u cs))
  have hself : (st.giveTo base m (fun _ => .u) .u (.box T (AV.subL m (fun _ => .u) .u cs))).S[m]? = some (.box T (AV.subL m (fun _ => .u) .u cs)) := by simp [St.giveTo, List.getElem?_set, hlt]
  obtain ⟨h1, h2⟩ := h.giveTo hm hlt (fun _ => rfl) rfl hk (fun _ _ _ => .u _) (fun _ _ => .u _) (fun b o hb _ => push_lt w _ (h.inv.rng b o hb))
    (fun b o hb => by
      rcases upd_owner hb with ⟨rfl, rfl⟩ | ⟨_, h1, h2⟩
      · refine .inr ⟨by simp [Owner.at], by simp, .inl ⟨_, _, hself⟩, fun b' hb' => ?_⟩
        rcases upd_owner hb' with ⟨h, _⟩ | ⟨_, _, h⟩
        · exact h
        · simp [Owner.at] at h
      · exact .inl ⟨h1, h2⟩)
    (fun T' cs' he => by
      injection he with e1 e2; subst e1 e2
      refine ⟨subL_bel (fun _ => rfl) rfl hb, w.heap.size, vs.toArray, upd_at _ _ _, push_new w _, by simp [length_subL, hc.length], fun j x v hx hv => ?_⟩
      rw [subL_map, List.getElem?_map] at hx
      simp only [Option.map_eq_some_iff] at hx
      obtain ⟨x0, hx0, rfl⟩ := hx
      exact cellR.mk ((hc.get' hx0 (by simpa using hv)).subR hk (fun _ _ _ => .u _) (fun _ _ => .u _)))
    (fun _ _ _ _ _ h => by cases h) ⟨rfl, rfl, rfl⟩
  exact ⟨_, h1, h2, .p _ _ _ (upd_at _ _ _)⟩

/-- A row at a place of the frame. -/
theorem Rel.rowAt {st : St} {a : Act} (h : Rel base w G st a) {m : Nat} (hm : base ≤ m) (hlt : m < st.S.length) {e sz n cap : Nat} {cs : List AV} {vs : List Value} {cur : Array Value}
    (hc : CRs w G st.S cs vs) (hd : ∀ x ∈ cs, x.data = true) (hsz : 0 < sz) (hl : vs.length = n * sz) (hn : n ≤ cap) (hcap : cap ≤ maxLen) (hcs : cur.size = cap * sz) (ht : cur.toList.take (n * sz) = vs) :
    ∃ G', Rel base { w with heap := w.heap.push (.cells cur e) } G' (st.giveTo base m (fun _ => .u) .u (.row e sz n cs)) a ∧
      FEvol base w G st.S st.O { w with heap := w.heap.push (.cells cur e) } G' (st.giveTo base m (fun _ => .u) .u (.row e sz n cs)).S (st.giveTo base m (fun _ => .u) .u (.row e sz n cs)).O ∧
      CR { w with heap := w.heap.push (.cells cur e) } G' (st.giveTo base m (fun _ => .u) .u (.row e sz n cs)).S (.r m) (.slice (some ⟨w.heap.size, 0, none⟩) n cap) := by
  have hk := keep_push (base := base) h.inv (.cells cur e) m (.box (.s m)) (fun _ => .u) .u (.row e sz n cs)
  have hself : (st.giveTo base m (fun _ => .u) .u (.row e sz n cs)).S[m]? = some (.row e sz n cs) := by simp [St.giveTo, List.getElem?_set, hlt]
  obtain ⟨h1, h2⟩ := h.giveTo hm hlt (fun _ => rfl) rfl hk (fun _ _ _ => .u _) (fun _ _ => .u _) (fun b o hb _ => push_lt w _ (h.inv.rng b o hb))
    (fun b o hb => by
      rcases upd_owner hb with ⟨rfl, rfl⟩ | ⟨_, h1, h2⟩
      · refine .inr ⟨by simp [Owner.at], by simp, .inr ⟨_, _, _, _, hself⟩, fun b' hb' => ?_⟩
        rcases upd_owner hb' with ⟨h, _⟩ | ⟨_, _, h⟩
        · exact h
        · simp [Owner.at] at h
      · exact .inl ⟨h1, h2⟩)
    (fun T' cs' he => by cases he)
    (fun e' sz' n' cs' b he hb => by
      injection he with q1 q2 q3 q4; subst q1 q2 q3 q4
      rcases upd_owner hb with ⟨rfl, _⟩ | ⟨_, _, h⟩
      · exact ⟨cap, vs, ⟨hl, hsz, .inr ⟨w.heap.size, cap, cur, rfl, upd_at _ _ _, push_new w _, hn, hcap, hcs, ht⟩⟩, hc.keep hk (has_data hd _), hd⟩
      · simp [Owner.at] at h) ⟨rfl, rfl, rfl⟩
  refine ⟨_, h1, h2, .r m e sz n cs vs _ hself ⟨hl, hsz, .inr ⟨w.heap.size, cap, cur, rfl, upd_at _ _ _, push_new w _, hn, hcap, hcs, ht⟩⟩ (hc.keep hk (has_data hd _)) hd⟩

/-- A nil row at a place of the frame. -/
theorem Rel.nilAt {st : St} {a : Act} (h : Rel base w G st a) {m : Nat} (hm : base ≤ m) (hlt : m < st.S.length) {e sz : Nat} (hsz : 0 < sz) :
    ∃ G', Rel base w G' (st.giveTo base m (fun _ => .u) .u (.row e sz 0 [])) a ∧
      FEvol base w G st.S st.O w G' (st.giveTo base m (fun _ => .u) .u (.row e sz 0 [])).S (st.giveTo base m (fun _ => .u) .u (.row e sz 0 [])).O ∧
      CR w G' (st.giveTo base m (fun _ => .u) .u (.row e sz 0 [])).S (.r m) (.slice none 0 0) := by
  have hself : (st.giveTo base m (fun _ => .u) .u (.row e sz 0 [])).S[m]? = some (.row e sz 0 []) := by simp [St.giveTo, List.getElem?_set, hlt]
  have hk : Keep w G st.S w (release m G) (st.giveTo base m (fun _ => .u) .u (.row e sz 0 [])).S (offM st.S m) :=
    ⟨fun b _ hg => ⟨rfl, release_idle hg⟩, Nat.le_refl _, fun o ho b hb => release_of hb ho.1, fun n hn _ _ _ _ hs => by
      have hne : n ≠ m := by simpa [Owner.at] using hn.1
      exact ⟨giveTo_row hne hs, fun _ hb => ⟨release_of hb (by simpa [Owner.at] using hne), rfl⟩⟩⟩
  obtain ⟨h1, h2⟩ := h.giveTo hm hlt (fun _ => rfl) rfl hk (fun _ _ _ => .u _) (fun _ _ => .u _) (fun _ _ _ _ => rfl) (fun b o hb => .inl (release_some hb)) (fun T' cs' he => by cases he) (fun _ _ _ _ b _ hb => by have := (release_some hb).2; simp [Owner.at] at this) ⟨rfl, rfl, rfl⟩
  exact ⟨_, h1, h2, .r m e sz 0 [] [] _ hself ⟨by simp, hsz, .inl ⟨rfl, rfl⟩⟩ .nil (fun _ h => by cases h)⟩

/-- A row becomes a list: nobody writes it any more. -/
def St.freezeRow (base m : Nat) (st : St) : Option St :=
  match st.S[m]? with
  | some (.row _ _ n cs) => some (st.give base m (fun off => .e (cs.drop off)) (.l n cs))
  | _ => none

theorem Rel.freezeRow {st st' : St} {a : Act} (h : Rel base w G st a) {m : Nat} (hm : base ≤ m) (hf : st.freezeRow base m = some st') :
    ∃ G', Rel base w G' st' a ∧ FEvol base w G st.S st.O w G' st'.S st'.O := by
  unfold St.freezeRow at hf
  split at hf
  rotate_left
  · cases hf
  rename_i e sz n cs hS
  injection hf with hf; subst hf
  have hlt : m < st.S.length := (List.getElem?_eq_some_iff.1 hS).1
  have hkd : Keep w G st.S w (release m G) (st.give base m (fun off => .e (cs.drop off)) (.l n cs)).S (fun _ => False) := ⟨fun b _ hg => ⟨rfl, release_idle hg⟩, Nat.le_refl _, fun _ h => h.elim, fun _ h => h.elim⟩
  obtain ⟨h1, h2, _⟩ := h.give hm hlt (pf := fun off => .e (cs.drop off)) (rf := .l n cs) (fun _ => rfl) rfl (fun off v hv => by
    cases hv with | p _ _ b hb =>
    obtain ⟨cap, vs, q1, q2, q3⟩ := h.inv.row m e sz n cs b hS hb
    refine .e _ _ (vs.drop off) ((q2.drop off).keep hkd (has_data (data_drop q3 off) _)) (data_drop q3 off) ⟨h.inv.rng b _ hb, release_at hb (by simp [Owner.at]), rfl, fun j y hy => ?_⟩
    rw [List.getElem?_drop] at hy
    rw [add_eq rfl]
    exact q1.stable (off + j) y hy) (fun v hv => by
    cases hv with | r _ e' sz' n' cs' vs v hS' hh hc hd =>
    rw [hS] at hS'; injection hS' with hS'; injection hS' with e1 e2 e3 e4; subst e1 e2 e3 e4
    have hc' := hc.keep hkd (has_data hd _)
    have hh' := hh
    obtain ⟨q1, q0, q2⟩ := hh
    rcases q2 with ⟨rfl, rfl⟩ | ⟨b, cap, cur, rfl, hg, hb, hn, hcap, hcs, ht⟩
    · have : vs = [] := List.eq_nil_of_length_eq_zero (by simpa using q1)
      subst this
      cases hc'
      exact .l 0 [] none 0 [] .nil (Nat.le_refl _) (Nat.zero_le _) (fun _ h => by cases h) (fun h => absurd rfl h) (fun _ => rfl)
    · refine .l n cs _ cap vs hc' hn hcap hd (fun _ => ⟨⟨b, 0, none⟩, rfl, ⟨h.inv.rng b _ hg, release_at hg (by simp [Owner.at]), rfl, fun j y hy => ?_⟩⟩) (fun h0 => ?_)
      · rw [add_eq rfl]; simpa using hh'.stable j y hy
      · subst h0
        have : vs = [] := List.eq_nil_of_length_eq_zero (by simpa using q1)
        subst this
        cases hc'; rfl)
  exact ⟨_, h1, h2⟩

/-- A box becomes memory that nobody writes any more. -/
def St.freezeBox (base m : Nat) (st : St) : Option St :=
  match st.S[m]? with
  | some (.box _ cs) => if cs.all AV.data then some (st.give base m (fun off => .e (cs.drop off)) .u) else none
  | _ => none

theorem strip_data {cs : List AV} (hd : ∀ x ∈ cs, x.data = true) : cs.map strip = cs := by
  conv => rhs; rw [← List.map_id cs]
  apply List.map_congr_left
  intro x hx
  have := hd x hx
  cases x <;> simp_all [AV.data, strip]

theorem Rel.freezeBox {st st' : St} {a : Act} (h : Rel base w G st a) {m : Nat} (hm : base ≤ m) (hf : st.freezeBox base m = some st') :
    ∃ G', Rel base w G' st' a ∧ FEvol base w G st.S st.O w G' st'.S st'.O := by
  unfold St.freezeBox at hf
  split at hf
  rotate_left
  · cases hf
  rename_i T cs hS
  split at hf
  rotate_left
  · cases hf
  rename_i hd
  injection hf with hf; subst hf
  have hd' : ∀ x ∈ cs, x.data = true := by simpa using hd
  have hlt : m < st.S.length := (List.getElem?_eq_some_iff.1 hS).1
  have hkd : Keep w G st.S w (release m G) (st.give base m (fun off => .e (cs.drop off)) .u).S (fun _ => False) := ⟨fun b _ hg => ⟨rfl, release_idle hg⟩, Nat.le_refl _, fun _ h => h.elim, fun _ h => h.elim⟩
  obtain ⟨h1, h2, _⟩ := h.give hm hlt (pf := fun off => .e (cs.drop off)) (rf := .u) (fun _ => rfl) rfl (fun off v hv => by
    cases hv with | p _ _ b hb =>
    obtain ⟨vs, q1, q2, q3, q4⟩ := h.inv.cells (id := .s m) hS hb
    rw [strip_data hd'] at q3
    refine .e _ _ (vs.toList.drop off) ((q3.drop off).keep hkd (has_data (data_drop hd' off) _)) (data_drop hd' off) ⟨h.inv.rng b _ hb, release_at hb (by simp [Owner.at]), rfl, fun j y hy => ?_⟩
    rw [List.getElem?_drop] at hy
    rw [add_eq rfl]
    exact q4 _ y (by simpa using hy)) (fun _ _ => .u _)
  exact ⟨_, h1, h2⟩
end
end Go.Am
