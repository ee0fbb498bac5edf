/-
  THE ABSTRACT MACHINE: a frame's relation to the model's; what a frame may change; wiping, freezing, new boxes.
-/
import Derived.Test.YtgbkilmgmnhokaaAm4
set_option linter.unusedSimpArgs false
set_option linter.unusedVariables false
namespace Go.Am
open Go

def outO (base : Nat) : Owner → Prop
  | .box (.s n) => n < base
  | .box (.o _) => True
  | .row m => m < base
  | .cell .. => False
  | .ext _ => True

mutual
def AV.bel (β : Nat) : AV → Bool
  | .p (.s n) _ => decide (n < β)
  | .r m => decide (m < β)
  | .f _ fs cs => AV.belL β fs && AV.belL β cs
  | .a cs => AV.belL β cs
  | .t cs => AV.belL β cs
  | _ => true
def AV.belL (β : Nat) : List AV → Bool
  | [] => true
  | x :: xs => AV.bel β x && AV.belL β xs
end

theorem belL_mem {β : Nat} : ∀ {xs : List AV}, AV.belL β xs = true ↔ ∀ x ∈ xs, x.bel β = true
  | [] => by simp [AV.belL]
  | x :: xs => by simp [AV.belL, belL_mem (xs := xs)]

mutual
theorem bel_has {β : Nat} : ∀ {x : AV}, x.bel β = true → ∀ o, x.has o = true → outO β o
  | .u, _, _, h => by simp [AV.has] at h
  | .s _, _, _, h => by simp [AV.has] at h
  | .l .., _, _, h => by simp [AV.has] at h
  | .e _, _, _, h => by simp [AV.has] at h
  | .w .., _, _, h => by simp [AV.has] at h
  | .p (.s n) _, hb, o, h => by simp [AV.has] at h; subst h; simpa [AV.bel, outO] using hb
  | .p (.o n) _, _, o, h => by simp [AV.has] at h; subst h; trivial
  | .r m, hb, o, h => by simp [AV.has] at h; subst h; simpa [AV.bel, outO] using hb
  | .f _ fs cs, hb, o, h => by
    simp only [AV.bel, Bool.and_eq_true] at hb
    simp only [AV.has, Bool.or_eq_true] at h
    rcases h with h | h
    · exact belL_has hb.1 o h
    · exact belL_has hb.2 o h
  | .a cs, hb, o, h => belL_has (xs := cs) (by simpa [AV.bel] using hb) o (by simpa [AV.has] using h)
  | .t cs, hb, o, h => belL_has (xs := cs) (by simpa [AV.bel] using hb) o (by simpa [AV.has] using h)
theorem belL_has {β : Nat} : ∀ {xs : List AV}, AV.belL β xs = true → ∀ o, AV.hasL o xs = true → outO β o
  | [], _, _, h => by simp [AV.hasL] at h
  | x :: xs, hb, o, h => by
    simp only [AV.belL, Bool.and_eq_true] at hb
    simp only [AV.hasL, Bool.or_eq_true] at h
    rcases h with h | h
    · exact bel_has hb.1 o h
    · exact belL_has hb.2 o h
end

mutual
theorem bel_mono {β γ : Nat} (hle : β ≤ γ) : ∀ {x : AV}, x.bel β = true → x.bel γ = true
  | .u, _ => rfl
  | .s _, _ => rfl
  | .l .., _ => rfl
  | .e _, _ => rfl
  | .w .., _ => rfl
  | .p (.s n) _, h => by simp only [AV.bel, decide_eq_true_eq] at h ⊢; omega
  | .p (.o n) _, _ => rfl
  | .r m, h => by simp only [AV.bel, decide_eq_true_eq] at h ⊢; omega
  | .f _ fs cs, h => by simp only [AV.bel, Bool.and_eq_true] at h ⊢; exact ⟨belL_mono hle h.1, belL_mono hle h.2⟩
  | .a cs, h => by simp only [AV.bel] at h ⊢; exact belL_mono hle h
  | .t cs, h => by simp only [AV.bel] at h ⊢; exact belL_mono hle h
theorem belL_mono {β γ : Nat} (hle : β ≤ γ) : ∀ {xs : List AV}, AV.belL β xs = true → AV.belL γ xs = true
  | [], _ => rfl
  | x :: xs, h => by
    simp only [AV.belL, Bool.and_eq_true] at h ⊢
    exact ⟨bel_mono hle h.1, belL_mono hle h.2⟩
end

structure Rel (base : Nat) (w : World) (G : Ghost) (st : St) (a : Act) : Prop where
  defers : a.defers = []
  size : a.tmps.size = st.env.length
  env : CRs w G st.S st.env a.tmps.toList
  inv : InvH w G st.S st.O
  len : st.S.length = base + st.env.length
  scopeE : AV.belL st.S.length st.env = true
  scopeS : ∀ (n : Nat) (T : TypeId) (cs : List AV), st.S[n]? = some (.box T cs) → AV.belL st.S.length cs = true
  scopeB : ∀ (n : Nat) (T : TypeId) (cs : List AV), n < base → st.S[n]? = some (.box T cs) → AV.belL base cs = true
  scopeO : ∀ (n : Nat) (T : TypeId) (cs : List AV), st.O[n]? = some (.box T cs) → AV.belL 0 cs = true

/-- What a frame leaves outside itself. -/
structure FEvol (base : Nat) (w : World) (G : Ghost) (S O : List Blk) (w' : World) (G' : Ghost) (S' O' : List Blk) : Prop where
  keep : Keep w G S w' G' S' (outO base)
  os : w'.os = w.os
  tape : w'.tape = w.tape
  output : w'.output = w.output
  lenS : S'.length = S.length
  lenO : O.length ≤ O'.length
  shr : ∀ (n β : Nat), n < base → (∀ (T : TypeId) (cs : List AV), S[n]? = some (.box T cs) → AV.belL β cs = true) → ∀ (T : TypeId) (cs : List AV), S'[n]? = some (.box T cs) → AV.belL β cs = true

section
variable {base : Nat} {w w' w'' : World} {G G' G'' : Ghost} {S S' S'' O O' O'' : List Blk}

theorem Keep.refl (K : Owner → Prop) : Keep w G S w G S K := ⟨fun _ _ _ => ⟨rfl, rfl⟩, Nat.le_refl _, fun _ _ _ h => h, fun _ _ _ _ _ _ h => ⟨h, fun _ h => ⟨h, rfl⟩⟩⟩

theorem Keep.trans {K : Owner → Prop} (h : Keep w G S w' G' S' K) (k : Keep w' G' S' w'' G'' S'' K) : Keep w G S w'' G'' S'' K where
  free b hb hg := by
    obtain ⟨h1, h2⟩ := h.free b hb hg
    obtain ⟨k1, k2⟩ := k.free b (Nat.lt_of_lt_of_le hb h.size) (by rw [h2]; exact hg)
    exact ⟨k1.trans h1, k2.trans h2⟩
  size := Nat.le_trans h.size k.size
  own o ho b hb := k.own o ho b (h.own o ho b hb)
  row m hm e sz n cs hs := by
    obtain ⟨h1, h2⟩ := h.row m hm _ _ _ _ hs
    obtain ⟨k1, k2⟩ := k.row m hm _ _ _ _ h1
    exact ⟨k1, fun b hb => ⟨(k2 b (h2 b hb).1).1, (k2 b (h2 b hb).1).2.trans (h2 b hb).2⟩⟩

theorem Keep.imp {K K' : Owner → Prop} (h : Keep w G S w' G' S' K) (hk : ∀ o, K' o → K o) : Keep w G S w' G' S' K' :=
  ⟨h.free, h.size, fun o ho => h.own o (hk o ho), fun m hm => h.row m (hk _ hm)⟩

theorem FEvol.refl : FEvol base w G S O w G S O := ⟨.refl _, rfl, rfl, rfl, rfl, Nat.le_refl _, fun _ _ _ h => h⟩
theorem FEvol.trans (h : FEvol base w G S O w' G' S' O') (k : FEvol base w' G' S' O' w'' G'' S'' O'') : FEvol base w G S O w'' G'' S'' O'' :=
  ⟨h.keep.trans k.keep, k.os.trans h.os, k.tape.trans h.tape, k.output.trans h.output, k.lenS.trans h.lenS, Nat.le_trans h.lenO k.lenO, fun n β hn hh => k.shr n β hn (h.shr n β hn hh)⟩

/-! ### Slots -/
def St.put (st : St) (d : Option Tmp) (v : AV) : St :=
  match d with
  | some d => { st with env := st.env.set d v }
  | none => st

theorem Rel.put {st : St} {a : Act} (h : Rel base w G st a) (d : Option Tmp) {x : AV} {v : Value} (hx : CR w G st.S x v) (hb : x.bel st.S.length = true) : Rel base w G (st.put d x) (a.put d v) := by
  cases d with
  | none => exact h
  | some d =>
    refine ⟨h.defers, by simp [St.put, Act.put, h.size], ?_, h.inv, by simp [St.put, h.len], ?_, h.scopeS, h.scopeB, h.scopeO⟩
    · have := h.env.set d hx
      simpa [St.put, Act.put, Array.toList_setIfInBounds] using this
    · have h1 := h.scopeE
      rw [belL_mem] at h1 ⊢
      intro y hy
      simp only [St.put] at hy
      rcases List.mem_or_eq_of_mem_set hy with hy | rfl
      · exact h1 y hy
      · exact hb

/-! ### Draws -/
theorem cell?_drawn (w : World) (n : Nat) (a : Addr) : ({ w with drawn := n } : World).cell? a = w.cell? a := rfl

theorem Keep.drawn (w : World) (n : Nat) (G : Ghost) (S : List Blk) (K : Owner → Prop) : Keep w G S { w with drawn := n } G S K :=
  ⟨fun _ _ _ => ⟨rfl, rfl⟩, Nat.le_refl _, fun _ _ _ h => h, fun _ _ _ _ _ _ h => ⟨h, fun _ h => ⟨h, rfl⟩⟩⟩

theorem cellR.keep {K : Owner → Prop} (k : Keep w G S w' G' S' K) {id : Bid} {off : Nat} {x : AV} {v : Value} (h : cellR w G S id off x v) (hk : ∀ o, x.has o = true → K o)
    (hc : ∀ b, G b = some (.cell id off) → G' b = some (.cell id off) ∧ w'.heap[b]? = w.heap[b]?) : cellR w' G' S' id off x v := by
  cases x <;> try exact CR.keep k h hk
  obtain ⟨vs, ⟨h1, h0, h2⟩, h3, h4⟩ := h
  refine ⟨vs, ⟨h1, h0, ?_⟩, CRs.keep k h3 (has_data h4 K), h4⟩
  rcases h2 with h2 | ⟨b, cap, cur, hv, hg, hh, hrest⟩
  · exact .inl h2
  · obtain ⟨q1, q2⟩ := hc b hg
    exact .inr ⟨b, cap, cur, hv, q1, q2.trans hh, hrest⟩

theorem cellR.mk {id : Bid} {off : Nat} {x : AV} {v : Value} (h : CR w G S x v) : cellR w G S id off x v := by
  cases x <;> first | exact h | cases h

theorem RowR.keep {K : Owner → Prop} (k : Keep w G S w' G' S' K) {m e sz n b : Nat} {cs : List AV} (h : RowR w G S m e sz n cs b) (hk : K (.row m)) (hs : S[m]? = some (.row e sz n cs)) : RowR w' G' S' m e sz n cs b := by
  obtain ⟨cap, vs, h1, h2, h3⟩ := h
  exact ⟨cap, vs, h1.keep (k.row m hk _ _ _ _ hs).2, CRs.keep k h2 (has_data h3 _), h3⟩

/-- Only the count of draws has moved. -/
theorem InvH.drawn (h : InvH w G S O) (n : Nat) : InvH { w with drawn := n } G S O := by
  refine ⟨h.inj, h.rng, h.live, h.orow, fun m e sz k cs b hs hb => (h.row m e sz k cs b hs hb).keep (.drawn w n G S (fun _ => True)) trivial hs, fun id T cs hb => ?_⟩
  obtain ⟨b, vs, h1, h2, h3, h4⟩ := h.box id T cs hb
  exact ⟨b, vs, h1, h2, h3, fun j x v hx hv => (h4 j x v hx hv).keep (.drawn w n G S (fun _ => True)) (fun _ _ => trivial) (fun b hb => ⟨hb, rfl⟩)⟩

theorem Rel.drawn {st : St} {a : Act} (h : Rel base w G st a) (n : Nat) : Rel base { w with drawn := n } G st a :=
  ⟨h.defers, h.size, h.env.keep (.drawn w n G st.S (fun _ => True)) (fun _ _ => trivial), h.inv.drawn n, h.len, h.scopeE, h.scopeS, h.scopeB, h.scopeO⟩

/-! ### Giving up a place of the frame -/
def Owner.at (m : Nat) : Owner → Bool
  | .box (.s n) => n == m
  | .row n => n == m
  | .cell (.s n) _ => n == m
  | _ => false

def release (m : Nat) (G : Ghost) : Ghost := fun b => match G b with
  | some o => if o.at m then none else some o
  | none => none

mutual
/-- Whatever names place m is something else. -/
def AV.sub (m : Nat) (pf : Nat → AV) (rf : AV) : AV → AV
  | .p (.s n) off => if n = m then pf off else .p (.s n) off
  | .r n => if n = m then rf else .r n
  | .f fn fs cs => .f fn (AV.subL m pf rf fs) (AV.subL m pf rf cs)
  | .a cs => .a (AV.subL m pf rf cs)
  | .t cs => .t (AV.subL m pf rf cs)
  | x => x
def AV.subL (m : Nat) (pf : Nat → AV) (rf : AV) : List AV → List AV
  | [] => []
  | x :: xs => AV.sub m pf rf x :: AV.subL m pf rf xs
end

theorem subL_map (m : Nat) (pf : Nat → AV) (rf : AV) : ∀ xs : List AV, AV.subL m pf rf xs = xs.map (AV.sub m pf rf)
  | [] => rfl
  | x :: xs => by simp [AV.subL, subL_map m pf rf xs]
theorem length_subL (m : Nat) (pf : Nat → AV) (rf : AV) (xs : List AV) : (AV.subL m pf rf xs).length = xs.length := by rw [subL_map]; simp

mutual
theorem sub_bel {m β : Nat} {pf : Nat → AV} {rf : AV} (hp : ∀ off, (pf off).bel 0 = true) (hr : rf.bel 0 = true) : ∀ {x : AV}, x.bel β = true → (AV.sub m pf rf x).bel β = true
  | .u, h => h
  | .s _, h => h
  | .l .., h => h
  | .e _, h => h
  | .w .., h => h
  | .p (.s n) _, h => by simp only [AV.sub]; split <;> first | exact bel_mono (Nat.zero_le _) (hp _) | exact h
  | .p (.o n) _, h => h
  | .r n, h => by simp only [AV.sub]; split <;> first | exact bel_mono (Nat.zero_le _) hr | exact h
  | .f _ fs cs, h => by simp only [AV.sub, AV.bel, Bool.and_eq_true] at h ⊢; exact ⟨subL_bel hp hr h.1, subL_bel hp hr h.2⟩
  | .a cs, h => by simp only [AV.sub, AV.bel] at h ⊢; exact subL_bel hp hr h
  | .t cs, h => by simp only [AV.sub, AV.bel] at h ⊢; exact subL_bel hp hr h
theorem subL_bel {m β : Nat} {pf : Nat → AV} {rf : AV} (hp : ∀ off, (pf off).bel 0 = true) (hr : rf.bel 0 = true) : ∀ {xs : List AV}, AV.belL β xs = true → AV.belL β (AV.subL m pf rf xs) = true
  | [], h => h
  | x :: xs, h => by
    simp only [AV.belL, AV.subL, Bool.and_eq_true] at h ⊢
    exact ⟨sub_bel hp hr h.1, subL_bel hp hr h.2⟩
end

mutual
theorem sub_id {m β : Nat} {pf : Nat → AV} {rf : AV} (hm : β ≤ m) : ∀ {x : AV}, x.bel β = true → AV.sub m pf rf x = x
  | .u, _ => rfl
  | .s _, _ => rfl
  | .l .., _ => rfl
  | .e _, _ => rfl
  | .w .., _ => rfl
  | .p (.s n) _, h => by simp only [AV.bel, decide_eq_true_eq] at h; simp only [AV.sub]; rw [if_neg (by omega)]
  | .p (.o n) _, _ => rfl
  | .r n, h => by simp only [AV.bel, decide_eq_true_eq] at h; simp only [AV.sub]; rw [if_neg (by omega)]
  | .f _ fs cs, h => by simp only [AV.bel, Bool.and_eq_true] at h; simp only [AV.sub]; rw [subL_id hm h.1, subL_id hm h.2]
  | .a cs, h => by simp only [AV.bel] at h; simp only [AV.sub]; rw [subL_id hm h]
  | .t cs, h => by simp only [AV.bel] at h; simp only [AV.sub]; rw [subL_id hm h]
theorem subL_id {m β : Nat} {pf : Nat → AV} {rf : AV} (hm : β ≤ m) : ∀ {xs : List AV}, AV.belL β xs = true → AV.subL m pf rf xs = xs
  | [], _ => rfl
  | x :: xs, h => by
    simp only [AV.belL, Bool.and_eq_true] at h
    simp only [AV.subL]
    rw [sub_id hm h.1, subL_id hm h.2]
end

mutual
theorem CR.sub2 {m : Nat} {pf : Nat → AV} {rf : AV} {K : Owner → Prop} (k : Keep w G S w' G' S' K) (hb : ∀ id, id ≠ .s m → K (.box id)) (hk : ∀ n, n ≠ m → (∃ e sz k cs, S[n]? = some (.row e sz k cs)) → K (.row n))
    (hp : ∀ off v, CR w G S (.p (.s m) off) v → CR w' G' S' (pf off) v) (hr : ∀ v, CR w G S (.r m) v → CR w' G' S' rf v) {x : AV} {v : Value} (h : CR w G S x v) : CR w' G' S' (AV.sub m pf rf x) v :=
  match x, v, h with
  | _, _, .u v => .u v
  | _, _, .s x => .s x
  | _, _, .l n cs A c vs h1 h2 h3 h4 h5 h6 => CR.keep (x := .l n cs) k (.l n cs A c vs h1 h2 h3 h4 h5 h6) (fun o ho => by simp [AV.has] at ho)
  | _, _, .e cs a vs h1 h2 h3 => CR.keep (x := .e cs) k (.e cs a vs h1 h2 h3) (fun o ho => by simp [AV.has] at ho)
  | _, _, .p (.s n) off b h => by
    simp only [AV.sub]
    split
    · rename_i e; subst e; exact hp off _ (.p _ _ _ h)
    · rename_i e; exact .p _ _ _ (k.own _ (hb _ (fun h => e (by injection h))) _ h)
  | _, _, .p (.o n) off b h => .p _ _ _ (k.own _ (hb _ (fun h => by cases h)) _ h)
  | _, _, .r n e sz c cs vs v h1 h2 h3 h4 => by
    simp only [AV.sub]
    split
    · rename_i e; subst e; exact hr _ (.r _ _ _ _ _ _ _ h1 h2 h3 h4)
    · rename_i e; exact CR.keep k (.r _ _ _ _ _ _ _ h1 h2 h3 h4) (fun o ho => by simp [AV.has] at ho; subst ho; exact hk n e ⟨_, _, _, _, h1⟩)
  | _, _, .f fn fs cs vf vc h1 h2 => .f _ _ _ _ _ (CRs.sub2 k hb hk hp hr h1) (CRs.sub2 k hb hk hp hr h2)
  | _, _, .a cs vs h => .a _ _ (CRs.sub2 k hb hk hp hr h)
  | _, _, .t cs vs h => .t _ _ (CRs.sub2 k hb hk hp hr h)
theorem CRs.sub2 {m : Nat} {pf : Nat → AV} {rf : AV} {K : Owner → Prop} (k : Keep w G S w' G' S' K) (hb : ∀ id, id ≠ .s m → K (.box id)) (hk : ∀ n, n ≠ m → (∃ e sz k cs, S[n]? = some (.row e sz k cs)) → K (.row n))
    (hp : ∀ off v, CR w G S (.p (.s m) off) v → CR w' G' S' (pf off) v) (hr : ∀ v, CR w G S (.r m) v → CR w' G' S' rf v) {xs : List AV} {vs : List Value} (h : CRs w G S xs vs) : CRs w' G' S' (AV.subL m pf rf xs) vs :=
  match xs, vs, h with
  | _, _, .nil => .nil
  | _, _, .cons x v xs vs h1 h2 => .cons _ _ _ _ (CR.sub2 k hb hk hp hr h1) (CRs.sub2 k hb hk hp hr h2)
end


theorem CR.subR {m : Nat} {pf : Nat → AV} {rf : AV} (k : Keep w G S w' G' S' (fun o => o.at m = false ∧ ∀ n, o = .row n → ∃ e sz k cs, S[n]? = some (.row e sz k cs)))
    (hp : ∀ off v, CR w G S (.p (.s m) off) v → CR w' G' S' (pf off) v) (hr : ∀ v, CR w G S (.r m) v → CR w' G' S' rf v) {x : AV} {v : Value} (h : CR w G S x v) : CR w' G' S' (AV.sub m pf rf x) v := by
  have k' : Keep w G S w' G' S' (fun o => (∃ id, o = .box id ∧ id ≠ .s m) ∨ ∃ n, o = .row n ∧ n ≠ m ∧ (∃ e sz k cs, S[n]? = some (.row e sz k cs))) :=
    k.imp fun o ho => by
      rcases ho with ⟨id, rfl, hid⟩ | ⟨n, rfl, hn, hh⟩
      · refine ⟨?_, fun n h => by cases h⟩
        cases id with
        | o n => rfl
        | s n => simp only [Owner.at, beq_eq_false_iff_ne]; intro e; exact hid (by rw [e])
      · exact ⟨by simpa [Owner.at] using hn, fun n' h => by injection h with h; subst h; exact hh⟩
  exact CR.sub2 k' (fun id hid => .inl ⟨id, rfl, hid⟩) (fun n hn hh => .inr ⟨n, rfl, hn, hh⟩) hp hr h

def Blk.sub (m : Nat) (pf : Nat → AV) (rf : AV) : Blk → Blk
  | .box T cs => .box T (AV.subL m pf rf cs)
  | b => b

/-- Place m is given up: whatever names it is something else. -/
def St.give (base m : Nat) (pf : Nat → AV) (rf : AV) (st : St) : St :=
  { st with env := AV.subL m pf rf st.env, S := (st.S.mapIdx fun n b => if n < base then b else b.sub m pf rf).set m .dead }

mutual
theorem has_row {x : AV} {v : Value} (h : CR w G S x v) {n : Nat} (hn : x.has (.row n) = true) : ∃ e sz k cs, S[n]? = some (.row e sz k cs) :=
  match x, v, h, hn with
  | _, _, .u v, hn => by simp [AV.has] at hn
  | _, _, .s x, hn => by simp [AV.has] at hn
  | _, _, .l n cs A c vs h1 h2 h3 h4 h5 h6, hn => by simp [AV.has] at hn
  | _, _, .e cs a vs h1 h2 h3, hn => by simp [AV.has] at hn
  | _, _, .p id off b h, hn => by simp [AV.has] at hn
  | _, _, .r n e sz k cs vs v h1 h2 h3 h4, hn => by simp [AV.has] at hn; subst hn; exact ⟨e, sz, k, cs, h1⟩
  | _, _, .f fn fs cs vf vc h1 h2, hn => by
    simp only [AV.has, Bool.or_eq_true] at hn
    rcases hn with hn | hn
    · exact hasL_row h1 hn
    · exact hasL_row h2 hn
  | _, _, .a cs vs h, hn => hasL_row h (by simpa [AV.has] using hn)
  | _, _, .t cs vs h, hn => hasL_row h (by simpa [AV.has] using hn)
theorem hasL_row {xs : List AV} {vs : List Value} (h : CRs w G S xs vs) {n : Nat} (hn : AV.hasL (.row n) xs = true) : ∃ e sz k cs, S[n]? = some (.row e sz k cs) :=
  match xs, vs, h, hn with
  | _, _, .nil, hn => by simp [AV.hasL] at hn
  | _, _, .cons x v xs vs h1 h2, hn => by
    simp only [AV.hasL, Bool.or_eq_true] at hn
    rcases hn with hn | hn
    · exact has_row h1 hn
    · exact hasL_row h2 hn
end

theorem release_some {m : Nat} {b : Nat} {o : Owner} (h : release m G b = some o) : G b = some o ∧ o.at m = false := by
  unfold release at h
  split at h
  · rename_i o' ho
    split at h <;> simp at h
    subst h
    rename_i hh
    exact ⟨ho, by simpa using hh⟩
  · cases h
theorem release_of {m : Nat} {b : Nat} {o : Owner} (h : G b = some o) (ho : o.at m = false) : release m G b = some o := by
  unfold release; rw [h]; simp [ho]
theorem release_none {m : Nat} {b : Nat} (h : G b = none) : release m G b = none := by unfold release; rw [h]
theorem release_idle {m : Nat} {b : Nat} (h : idle (G b) = true) : release m G b = G b := by
  unfold release
  cases hg : G b with
  | none => rfl
  | some o => rw [hg] at h; cases o <;> first | rfl | cases h
theorem release_at {m : Nat} {b : Nat} {o : Owner} (h : G b = some o) (ho : o.at m = true) : release m G b = none := by
  unfold release; rw [h]; simp [ho]

theorem give_get {st : St} {m n : Nat} {pf : Nat → AV} {rf : AV} (h : n ≠ m) : (st.give base m pf rf).S[n]? = (st.S[n]?).map fun b => if n < base then b else b.sub m pf rf := by
  simp only [St.give, List.getElem?_set]
  rw [if_neg (by omega)]
  simp [List.getElem?_mapIdx]

theorem at_box {id : Bid} {m : Nat} (h : id ≠ .s m) : (Owner.box id).at m = false := by
  cases id with
  | o n => rfl
  | s n => simp only [Owner.at, beq_eq_false_iff_ne]; intro e; exact h (by rw [e])

/-- Place m is another block now (or none); whatever named it is something else. -/
def St.giveTo (base m : Nat) (pf : Nat → AV) (rf : AV) (blk : Blk) (st : St) : St :=
  { st with env := AV.subL m pf rf st.env, S := (st.S.mapIdx fun n b => if n < base then b else b.sub m pf rf).set m blk }

theorem giveTo_get {st : St} {m n : Nat} {pf : Nat → AV} {rf : AV} {blk : Blk} (h : n ≠ m) : (st.giveTo base m pf rf blk).S[n]? = (st.S[n]?).map fun b => if n < base then b else b.sub m pf rf := by
  simp only [St.giveTo, List.getElem?_set]
  rw [if_neg (by omega)]
  simp [List.getElem?_mapIdx]

theorem giveTo_len {st : St} {m : Nat} {pf : Nat → AV} {rf : AV} {blk : Blk} : (st.giveTo base m pf rf blk).S.length = st.S.length := by simp [St.giveTo]

theorem giveTo_row {st : St} {m n : Nat} {pf : Nat → AV} {rf : AV} {blk : Blk} {e sz k : Nat} {cs : List AV} (hn : n ≠ m) (hs : st.S[n]? = some (.row e sz k cs)) : (st.giveTo base m pf rf blk).S[n]? = some (.row e sz k cs) := by
  rw [giveTo_get hn, hs]; simp only [Option.map_some]; split <;> rfl

/-- What the values other than those that name m lean on. -/
def offM (S : List Blk) (m : Nat) (o : Owner) : Prop := o.at m = false ∧ ∀ n, o = .row n → ∃ e sz k cs, S[n]? = some (.row e sz k cs)

theorem Rel.giveTo {st : St} {a : Act} (h : Rel base w G st a) {m : Nat} (hm : base ≤ m) (hlt : m < st.S.length) {pf : Nat → AV} {rf : AV} {blk : Blk} (hpb : ∀ off, (pf off).bel 0 = true) (hrb : rf.bel 0 = true)
    (hk : Keep w G st.S w' G' (st.giveTo base m pf rf blk).S (offM st.S m))
    (hp : ∀ off v, CR w G st.S (.p (.s m) off) v → CR w' G' (st.giveTo base m pf rf blk).S (pf off) v) (hr : ∀ v, CR w G st.S (.r m) v → CR w' G' (st.giveTo base m pf rf blk).S rf v)
    (hheap : ∀ b o, G b = some o → o.at m = false → w'.heap[b]? = w.heap[b]?)
    (hG : ∀ b o, G' b = some o → (G b = some o ∧ o.at m = false) ∨ (o.at m = true ∧ b < w'.heap.size ∧ aliveO (st.giveTo base m pf rf blk).S st.O o ∧ ∀ b' , G' b' = some o → b' = b))
    (hbox : ∀ T cs, blk = .box T cs → AV.belL st.S.length cs = true ∧ ∃ b vs, G' b = some (.box (.s m)) ∧ w'.heap[b]? = some (.cells vs T (0, 0)) ∧ vs.size = cs.length ∧
      ∀ (j : Nat) (x : AV) (v : Value), cs[j]? = some x → vs[j]? = some v → cellR w' G' (st.giveTo base m pf rf blk).S (.s m) j x v)
    (hrow : ∀ e sz n cs b, blk = .row e sz n cs → G' b = some (.box (.s m)) → RowR w' G' (st.giveTo base m pf rf blk).S m e sz n cs b)
    (hos : w'.os = w.os ∧ w'.tape = w.tape ∧ w'.output = w.output) :
    Rel base w' G' (st.giveTo base m pf rf blk) a ∧ FEvol base w G st.S st.O w' G' (st.giveTo base m pf rf blk).S (st.giveTo base m pf rf blk).O := by
  have hlen : (st.giveTo base m pf rf blk).S.length = st.S.length := giveTo_len
  have hm' : (st.giveTo base m pf rf blk).S[m]? = some blk := by simp [St.giveTo, List.getElem?_set, hlt]
  have hCR : ∀ {x : AV} {v : Value}, CR w G st.S x v → CR w' G' (st.giveTo base m pf rf blk).S (AV.sub m pf rf x) v := fun hc => hc.subR hk hp hr
  have hgetB : ∀ id T cs, getB (st.giveTo base m pf rf blk).S st.O id = some (.box T cs) → (id = .s m ∧ blk = .box T cs) ∨ (∃ cs0, getB st.S st.O id = some (.box T cs0) ∧ cs = AV.subL m pf rf cs0 ∧ id ≠ .s m) := by
    intro id T cs hg
    cases id with
    | o n => exact .inr ⟨cs, hg, (subL_id (Nat.zero_le m) (h.scopeO n T cs hg)).symm, by simp⟩
    | s n =>
      simp only [getB] at hg ⊢
      by_cases hn : n = m
      · subst hn
        rw [hm'] at hg
        injection hg with hg
        exact .inl ⟨rfl, hg⟩
      · rw [giveTo_get hn] at hg
        simp only [Option.map_eq_some_iff] at hg
        obtain ⟨b0, hb0, hb1⟩ := hg
        by_cases hnb : n < base
        · rw [if_pos hnb] at hb1
          subst hb1
          exact .inr ⟨cs, hb0, (subL_id hm (h.scopeB n T cs hnb hb0)).symm, by simp [hn]⟩
        · rw [if_neg hnb] at hb1
          cases b0 <;> simp only [Blk.sub, reduceCtorEq, Blk.box.injEq] at hb1
          obtain ⟨rfl, rfl⟩ := hb1
          exact .inr ⟨_, hb0, rfl, by simp [hn]⟩
  have hkb : ∀ (id : Bid) (b : Nat), id ≠ .s m → G b = some (.box id) → G' b = some (.box id) := fun id b hid hb => hk.own _ ⟨at_box hid, fun n h => by cases h⟩ b hb
  refine ⟨⟨h.defers, by simp [St.giveTo, length_subL, h.size], ?_, ?_, by rw [hlen, h.len]; simp [St.giveTo, length_subL], ?_, ?_, ?_, h.scopeO⟩, ⟨?_, hos.1, hos.2.1, hos.2.2, hlen, Nat.le_refl _, ?_⟩⟩
  · refine .of (by simp [St.giveTo, length_subL, h.size]) fun j x v hx hv => ?_
    have hx' : (AV.subL m pf rf st.env)[j]? = some x := hx
    rw [subL_map, List.getElem?_map] at hx'
    simp only [Option.map_eq_some_iff] at hx'
    obtain ⟨x0, h0, rfl⟩ := hx'
    exact hCR (h.env.get' h0 hv)
  · refine ⟨fun b b' o hb hb' => ?_, fun b o hb => ?_, fun b o hb => ?_, h.inv.orow, fun m' e sz n cs b hs hb => ?_, fun id T cs hg => ?_⟩
    · rcases hG b o hb with ⟨h1, _⟩ | ⟨h1, _, _, h2⟩
      · rcases hG b' o hb' with ⟨h3, _⟩ | ⟨h3, _, _, h4⟩
        · exact h.inv.inj b b' o h1 h3
        · exact (h4 b hb)
      · exact (h2 b' hb').symm
    · rcases hG b o hb with ⟨h1, _⟩ | ⟨_, h1, _⟩
      · exact Nat.lt_of_lt_of_le (h.inv.rng b o h1) hk.size
      · exact h1
    · rcases hG b o hb with ⟨h1, h2⟩ | ⟨_, _, h1, _⟩
      · have hal := h.inv.live b o h1
        have hbx : ∀ id : Bid, id ≠ .s m → (∃ T cs, getB st.S st.O id = some (.box T cs)) → ∃ T cs, getB (st.giveTo base m pf rf blk).S (st.giveTo base m pf rf blk).O id = some (.box T cs) := by
          rintro id hid ⟨T, cs, hg⟩
          cases id with
          | o n => exact ⟨T, cs, hg⟩
          | s n =>
            have hn : n ≠ m := fun e => hid (by rw [e])
            refine ⟨T, if n < base then cs else AV.subL m pf rf cs, ?_⟩
            simp only [getB] at hg ⊢
            rw [giveTo_get hn, hg]
            simp only [Option.map_some]
            split <;> rfl
        cases o with
        | box id =>
          have hid : id ≠ .s m := fun e => by subst e; simp [Owner.at] at h2
          rcases hal with hal | ⟨e, sz, k, cs, hal⟩
          · exact .inl (hbx id hid hal)
          · refine .inr ⟨e, sz, k, cs, ?_⟩
            cases id with
            | o n => exact hal
            | s n => exact giveTo_row (fun e => hid (by rw [e])) hal
        | cell id off => exact hbx id (fun e => by subst e; simp [Owner.at] at h2) hal
        | row n =>
          obtain ⟨e, sz, k, cs, hs⟩ := hal
          exact ⟨e, sz, k, cs, giveTo_row (by simpa [Owner.at] using h2) hs⟩
        | ext n => trivial
      · exact h1
    · by_cases hne : m' = m
      · subst hne
        rw [hm'] at hs
        injection hs with hs
        exact hrow e sz n cs b hs hb
      · rw [giveTo_get hne] at hs
        simp only [Option.map_eq_some_iff] at hs
        obtain ⟨b0, hb0, hb1⟩ := hs
        have hb0' : b0 = .row e sz n cs := by
          split at hb1
          · exact hb1
          · cases b0 <;> simp only [Blk.sub, reduceCtorEq] at hb1
            exact hb1
        subst hb0'
        rcases hG b _ hb with ⟨h1, _⟩ | ⟨h1, _⟩
        · exact (h.inv.row m' e sz n cs b hb0 h1).keep hk ⟨by simpa [Owner.at] using hne, fun n' h' => by injection h' with h'; subst h'; exact ⟨_, _, _, _, hb0⟩⟩ hb0
        · simp [Owner.at] at h1; exact absurd h1 hne
    · rcases hgetB id T cs hg with ⟨rfl, hb⟩ | ⟨cs0, h0, rfl, hid⟩
      · exact (hbox T cs hb).2
      · obtain ⟨b, vs, h1, h2, h3, h4⟩ := h.inv.box id T cs0 h0
        have hatc : ∀ off, (Owner.cell id off).at m = false := fun off => by
          cases id with
          | o n => rfl
          | s n => simp only [Owner.at, beq_eq_false_iff_ne]; intro e; exact hid (by rw [e])
        refine ⟨b, vs, hkb id b hid h1, (hheap b _ h1 (at_box hid)).trans h2, by rw [length_subL]; exact h3, fun j x v hx hv => ?_⟩
        rw [subL_map, List.getElem?_map] at hx
        simp only [Option.map_eq_some_iff] at hx
        obtain ⟨x0, hx0, rfl⟩ := hx
        have h5 := h4 j x0 v hx0 hv
        cases x0 with
        | w e sz n cs =>
          obtain ⟨us, hh, hcs, hd⟩ := h5
          refine ⟨us, ⟨hh.1, hh.2.1, ?_⟩, CRs.keep hk hcs (has_data hd _), hd⟩
          rcases hh.2.2 with hh | ⟨b, cap, cur, hv, hg, hb, hrest⟩
          · exact .inl hh
          · exact .inr ⟨b, cap, cur, hv, hk.own _ ⟨hatc j, fun n h => by cases h⟩ b hg, (hheap b _ hg (hatc j)).trans hb, hrest⟩
        | _ => exact cellR.mk (hCR h5)
  · rw [hlen]; exact subL_bel hpb hrb h.scopeE
  · intro n T cs hg
    rw [hlen]
    rcases hgetB (.s n) T cs hg with ⟨_, hb⟩ | ⟨cs0, h0, rfl, _⟩
    · exact (hbox T cs hb).1
    · exact subL_bel hpb hrb (h.scopeS n T cs0 h0)
  · intro n T cs hn hg
    rcases hgetB (.s n) T cs hg with ⟨e, hb⟩ | ⟨cs0, h0, rfl, _⟩
    · injection e with e; omega
    · exact subL_bel hpb hrb (h.scopeB n T cs0 hn h0)
  · refine ⟨hk.free, hk.size, fun o ho b hb => ?_, fun n hn e sz k cs hs => ?_⟩
    · cases o with
      | box id => exact hkb id b (fun e => by subst e; simp only [outO] at ho; omega) hb
      | row n =>
        simp only [outO] at ho
        refine hk.own _ ⟨by simp only [Owner.at, beq_eq_false_iff_ne]; omega, fun n' h' => ?_⟩ b hb
        injection h' with h'; subst h'
        exact h.inv.live b _ hb
      | cell _ _ => exact ho.elim
      | ext n => exact hk.own _ ⟨rfl, fun n' h' => by cases h'⟩ b hb
    · simp only [outO] at hn
      exact ⟨giveTo_row (by omega) hs, fun b hb => ⟨hkb (.s n) b (fun e => by injection e with e; omega) hb, hheap b _ hb (by simp only [Owner.at, beq_eq_false_iff_ne]; omega)⟩⟩
  · intro n β hn hh T cs hg
    rw [giveTo_get (by omega)] at hg
    rw [show (fun b : Blk => if n < base then b else b.sub m pf rf) = id from funext fun b => by rw [if_pos hn]; rfl] at hg
    exact hh T cs (by rw [Option.map_id] at hg; exact hg)

theorem Rel.give {st : St} {a : Act} (h : Rel base w G st a) {m : Nat} (hm : base ≤ m) (hlt : m < st.S.length) {pf : Nat → AV} {rf : AV} (hpb : ∀ off, (pf off).bel 0 = true) (hrb : rf.bel 0 = true)
    (hp : ∀ off v, CR w G st.S (.p (.s m) off) v → CR w (release m G) (st.give base m pf rf).S (pf off) v) (hr : ∀ v, CR w G st.S (.r m) v → CR w (release m G) (st.give base m pf rf).S rf v) :
    Rel base w (release m G) (st.give base m pf rf) a ∧ FEvol base w G st.S st.O w (release m G) (st.give base m pf rf).S (st.give base m pf rf).O ∧ (st.give base m pf rf).S[m]? = some .dead := by
  have hk : Keep w G st.S w (release m G) (st.giveTo base m pf rf .dead).S (offM st.S m) :=
    ⟨fun b _ hg => ⟨rfl, release_idle hg⟩, Nat.le_refl _, fun o ho b hb => release_of hb ho.1, fun n hn _ _ _ _ hs => by
      have hne : n ≠ m := by simpa [Owner.at] using hn.1
      exact ⟨giveTo_row hne hs, fun _ hb => ⟨release_of hb (by simpa [Owner.at] using hne), rfl⟩⟩⟩
  obtain ⟨h1, h2⟩ := h.giveTo (blk := .dead) hm hlt hpb hrb hk hp hr (fun _ _ _ _ => rfl) (fun b o hb => .inl (release_some hb)) (fun T cs h => by cases h) (fun _ _ _ _ _ h => by cases h) ⟨rfl, rfl, rfl⟩
  exact ⟨h1, h2, by simp [St.give, List.getElem?_set, hlt]⟩

/-- Place m is given up; what named it is unknown. -/
def St.drop (base m : Nat) (st : St) : St := st.give base m (fun _ => .u) .u

theorem Rel.drop {st : St} {a : Act} (h : Rel base w G st a) {m : Nat} (hm : base ≤ m) (hlt : m < st.S.length) :
    Rel base w (release m G) (st.drop base m) a ∧ FEvol base w G st.S st.O w (release m G) (st.drop base m).S (st.drop base m).O ∧ (st.drop base m).S[m]? = some .dead :=
  h.give hm hlt (fun _ => rfl) rfl (fun _ _ _ => .u _) (fun _ _ => .u _)
end
end Go.Am
