/-
  THE ABSTRACT MACHINE: the operations that change the state, and that they are sound.
-/
import Derived.Test.YtgbkilmgmnhokaaAm8
import Derived.Laws.Tables
import Derived.Great.BuildSlice
import Derived.Laws.MakeOwn
set_option linter.unusedSimpArgs false
set_option linter.unusedVariables false
namespace Go.Am
open Go

def AV.cells? : AV → Option (List AV)
  | .a cs => some cs
  | .s x => some [.s x]
  | .l n cs => some [.l n cs]
  | .e cs => some [.e cs]
  | .p id off => some [.p id off]
  | .r m => some [.r m]
  | .f fn fs cs => some [.f fn fs cs]
  | _ => none

def fillAV (place : Nat → Option (Nat × Nat)) : List AV → List (Nat × AV) → Option (List AV)
  | cells, [] => some cells
  | cells, (i, v) :: rest =>
    match place i, v.cells? with
    | some (off, size), some vs => if vs.length = size ∧ off + size ≤ cells.length then fillAV place (splice cells off vs) rest else none
    | _, _ => none

def buildAV (P : Program) (t : TypeId) (parts : List (Nat × AV)) : Option AV :=
  match P.info? t, P.underlying t with
  | some it, some (.array _ e) =>
    match it.zero, P.info? e with
    | some z, some ie => (fillAV (fun i => some (i * ie.size, ie.size)) (z.cells.toList.map ofC) parts).map .a
    | _, _ => none
  | some it, some (.struct fields) =>
    match it.zero, fields.toList.mapM (fun f => (P.info? f.type).map fun i => (f.offset, i.size)) with
    | some z, some places => (fillAV (places.toArray[·]?) (z.cells.toList.map ofC) parts).map .a
    | _, _ => none
  | _, _ => none

def St.freezeIn (base : Nat) : List AV → St → St
  | [], st => st
  | .r m :: xs, st => St.freezeIn base xs (if base ≤ m then (st.freezeRow base m).getD st else st)
  | _ :: xs, st => St.freezeIn base xs st

def St.setAt (base m : Nat) (blk : Blk) (st : St) : St :=
  match st.S[m]? with
  | some .dead => { st with S := st.S.set m blk }
  | _ => st.giveTo base m (fun _ => .u) .u blk

def boxCells (st : St) (m : Nat) (cs : List AV) : List AV :=
  match st.S[m]? with
  | some .dead => cs
  | _ => AV.subL m (fun _ => .u) .u cs

/-- A new box: at the frame's place, or an object. -/
def newBox (esc : Nat → Bool) (base : Nat) (d : Option Nat) (T : TypeId) (cs : List AV) (st : St) : Option (AV × St) :=
  match d with
  | some d =>
    if esc d then
      if AV.belL 0 cs then some (.p (.o st.O.length) 0, { st with O := st.O ++ [.box T cs] }) else none
    else if d < st.env.length then some (.p (.s (base + d)) 0, st.setAt base (base + d) (.box T (boxCells st (base + d) cs)))
    else none
  | none => none

def zeroO (P : Program) (T : TypeId) : Option (List Value) := ((P.info? T).bind (·.zero)).map (·.cells.toList)

/-- A bound of a slice expression. -/
def bnd (env : List AV) (x : Option Operand) (dflt top : Nat) : Option Nat :=
  match x with
  | none => some dflt
  | some y => match rd env y with
    | .s (.i _ i) => if 0 ≤ i ∧ i ≤ top then some i.toNat else none
    | _ => none

/-- A part of a list of n elements. -/
def cutAV (env : List AV) (sz n : Nat) (cs : List AV) (lo hi mx : Option Operand) : Option AV :=
  match bnd env mx n n with
  | some m => match bnd env hi n m with
    | some h => match bnd env lo 0 h with
      | some l => some (.l (h - l) ((cs.drop (l * sz)).take ((h - l) * sz)))
      | none => none
    | none => none
  | none => none

def sliceAV (P : Program) (T : TypeId) (x : AV) (lo hi mx : Option Operand) (env : List AV) : Option AV :=
  match x with
  | .l n cs => match sliceO P T with
    | some e => match szO P e with | some sz => cutAV env sz n cs lo hi mx | none => none
    | none => none
  | .e cs => match arrO P T with
    | some (n, e) => match szO P e with | some sz => if n * sz ≤ cs.length ∧ 0 < sz ∧ n ≤ maxLen then cutAV env sz n cs lo hi mx else none | none => none
    | none => none
  | .s .sn => match sliceO P T with
    | some e => match szO P e, cutAV env 1 0 [] lo hi mx with | some _, some _ => some (.s .sn) | _, _ => none
    | none => none
  | _ => none

/-- May these cells be stored there: into older boxes and objects nothing that names a place. -/
def okScope (base : Nat) (id : Bid) (xs : List AV) : Bool :=
  match id with
  | .o _ => AV.belL 0 xs
  | .s n => decide (base ≤ n) || AV.belL 0 xs

def xStore (base : Nat) (id : Bid) (off : Nat) (xs : List AV) (st : St) : Option St :=
  match getB st.S st.O id with
  | some (.box T cs) =>
    if off + xs.length ≤ cs.length ∧ xs.all AV.one ∧ ((cs.drop off).take xs.length).all notW ∧ okScope base id xs = true then some (setB st id (.box T (splice cs off xs))) else none
  | some (.row e sz n cs) =>
    match id with
    | .s m => if base ≤ m ∧ off + xs.length ≤ cs.length ∧ xs.all AV.data then some { st with S := st.S.set m (.row e sz n (splice cs off xs)) } else none
    | .o _ => none
  | _ => none

def isOwn (base : Nat) : Bid → Bool
  | .s n => decide (base ≤ n)
  | .o _ => false

def isBox (st : St) (id : Bid) : Bool :=
  match getB st.S st.O id with
  | some (.box ..) => true
  | _ => false

section
variable {base : Nat} {w w' w'' : World} {G G' G'' : Ghost} {S S' S'' O O' O'' : List Blk} {P : Program}

mutual
theorem CR_bel (hI : InvH w G S O) {x : AV} {v : Value} (h : CR w G S x v) : x.bel S.length = true :=
  match x, v, h with
  | _, _, .u v => rfl
  | _, _, .s x => rfl
  | _, _, .l n cs A c vs h1 h2 h3 h4 h5 h6 => rfl
  | _, _, .e cs a vs h1 h2 h3 => rfl
  | _, _, .p (.o n) off b h => rfl
  | _, _, .p (.s n) off b h => by
    simp only [AV.bel, decide_eq_true_eq]
    rcases hI.live b _ h with ⟨T, cs, h⟩ | ⟨e, sz, k, cs, h⟩ <;> exact (List.getElem?_eq_some_iff.1 h).1
  | _, _, .r n e sz k cs vs v h1 h2 h3 h4 => by
    simp only [AV.bel, decide_eq_true_eq]
    exact (List.getElem?_eq_some_iff.1 h1).1
  | _, _, .f fn fs cs vf vc h1 h2 => by simp only [AV.bel, Bool.and_eq_true]; exact ⟨CRs_bel hI h1, CRs_bel hI h2⟩
  | _, _, .a cs vs h => by simp only [AV.bel]; exact CRs_bel hI h
  | _, _, .t cs vs h => by simp only [AV.bel]; exact CRs_bel hI h
theorem CRs_bel (hI : InvH w G S O) {xs : List AV} {vs : List Value} (h : CRs w G S xs vs) : AV.belL S.length xs = true :=
  match xs, vs, h with
  | _, _, .nil => rfl
  | _, _, .cons x v xs vs h1 h2 => by simp only [AV.belL, Bool.and_eq_true]; exact ⟨CR_bel hI h1, CRs_bel hI h2⟩
end

theorem cells?_CR {x : AV} {v : Value} {cs : List AV} (h : x.cells? = some cs) (hc : CR w G S x v) : CRs w G S cs v.cells.toList := by
  cases hc with
  | u v => simp [AV.cells?] at h
  | t cs vs h' => simp [AV.cells?] at h
  | a cs vs h' => simp [AV.cells?] at h; subst h; simpa [Value.cells] using h'
  | s x => simp [AV.cells?] at h; subst h; cases x <;> exact .cons _ _ _ _ (.s _) .nil
  | l n cs A c vs h1 h2 h3 h4 h5 h6 => simp [AV.cells?] at h; subst h; exact .cons _ _ _ _ (.l n cs A c vs h1 h2 h3 h4 h5 h6) .nil
  | e cs a vs h1 h2 h3 => simp [AV.cells?] at h; subst h; exact .cons _ _ _ _ (.e cs a vs h1 h2 h3) .nil
  | p id off b h1 => simp [AV.cells?] at h; subst h; exact .cons _ _ _ _ (.p id off b h1) .nil
  | r m e sz n cs vs v h1 h2 h3 h4 =>
    simp [AV.cells?] at h; subst h
    have hc : v.cells = #[v] := by
      obtain ⟨_, _, h2⟩ := h2
      rcases h2 with ⟨rfl, _⟩ | ⟨b, cap, cur, rfl, _⟩ <;> rfl
    rw [hc]
    exact .cons _ _ _ _ (.r m e sz n cs vs v h1 h2 h3 h4) .nil
  | f fn fs cs vf vc h1 h2 => simp [AV.cells?] at h; subst h; exact .cons _ _ _ _ (.f fn fs cs vf vc h1 h2) .nil

theorem foldl_set (off : Nat) : ∀ (l : List Value) (k : Nat) (cells : Array Value), off + k + l.length ≤ cells.size →
    ((l.zipIdx k).foldl (fun cs (c, j) => cs.setIfInBounds (off + j) c) cells).toList = cells.toList.take (off + k) ++ l ++ cells.toList.drop (off + k + l.length)
  | [], k, cells, _ => by simp
  | x :: l, k, cells, h => by
    simp only [List.zipIdx_cons, List.foldl_cons]
    rw [foldl_set off l (k + 1) _ (by simp at h ⊢; omega)]
    simp only [Array.toList_setIfInBounds, List.length_cons]
    have hk : off + k < cells.toList.length := by simp at h ⊢; omega
    apply List.ext_getElem?
    intro i
    simp only [List.getElem?_append, List.getElem?_take, List.length_append, List.length_take, List.length_set, List.length_cons, List.getElem?_drop, List.getElem?_set, List.getElem?_cons, Array.length_toList]
    simp only [Array.length_toList] at hk
    simp only [List.length_cons] at h
    by_cases h1 : i < off + k
    · simp only [show i < min (off + (k + 1)) cells.size + l.length by omega, show i < min (off + (k + 1)) cells.size by omega, show i < off + (k + 1) by omega, show ¬ (off + k = i) by omega, show i < min (off + k) cells.size + (l.length + 1) by omega, show i < min (off + k) cells.size by omega, h1, if_true, if_false]
    · by_cases h2 : i = off + k
      · subst h2
        simp only [show off + k < min (off + (k + 1)) cells.size + l.length by omega, show off + k < min (off + (k + 1)) cells.size by omega, show off + k < off + (k + 1) by omega, show off + k < min (off + k) cells.size + (l.length + 1) by omega, show ¬ (off + k < min (off + k) cells.size) by omega, hk, if_true, if_false]
        simp [show off + k - min (off + k) cells.size = 0 by omega]
      · by_cases h3 : i < off + (k + 1) + l.length
        · simp only [show i < min (off + (k + 1)) cells.size + l.length by omega, show ¬ (i < min (off + (k + 1)) cells.size) by omega, show i < min (off + k) cells.size + (l.length + 1) by omega, show ¬ (i < min (off + k) cells.size) by omega, show ¬ (i - min (off + k) cells.size = 0) by omega, if_true, if_false]
          congr 1; omega
        · simp only [show ¬ (i < min (off + (k + 1)) cells.size + l.length) by omega, show ¬ (i < min (off + k) cells.size + (l.length + 1)) by omega, if_false, show ¬ (off + k = off + (k + 1) + l.length + (i - (min (off + (k + 1)) cells.size + l.length))) by omega]
          congr 1; omega

theorem fill_sound (place : Nat → Option (Nat × Nat)) : ∀ (parts : List (Nat × AV)) (vparts : List (Nat × Value)) (cells : List AV) (vcells : Array Value) (cells' : List AV),
    CRs w G S cells vcells.toList → parts.length = vparts.length → (∀ (j : Nat) (p : Nat × AV) (q : Nat × Value), parts[j]? = some p → vparts[j]? = some q → p.1 = q.1 ∧ CR w G S p.2 q.2) → fillAV place cells parts = some cells' →
    ∃ vcells', Instr.fill place vcells vparts = some vcells' ∧ CRs w G S cells' vcells'.toList
  | [], vparts, cells, vcells, cells', hc, hl, hp, h => by
    cases vparts <;> simp at hl
    simp [fillAV] at h; subst h
    exact ⟨vcells, rfl, hc⟩
  | (i, x) :: parts, vparts, cells, vcells, cells', hc, hl, hp, h => by
    cases vparts with
    | nil => simp at hl
    | cons q vparts =>
      obtain ⟨i', v⟩ := q
      obtain ⟨hi, hx⟩ := hp 0 _ _ rfl rfl
      simp only at hi hx; subst hi
      simp only [fillAV] at h
      split at h
      · rename_i off size vs hpl hvs
        split at h
        · rename_i hsz
          have hcv := cells?_CR hvs hx
          have hvl : v.cells.size = vs.length := by simpa using hcv.length.symm
          have hcl : vcells.size = cells.length := by simpa using hc.length.symm
          have hfold : (v.cells.zipIdx.foldl (fun cs (c, j) => cs.setIfInBounds (off + j) c) vcells).toList = vcells.toList.take off ++ v.cells.toList ++ vcells.toList.drop (off + v.cells.toList.length) := by
            have := foldl_set off v.cells.toList 0 vcells (by simp; omega)
            rw [← Array.foldl_toList, Array.toList_zipIdx]
            simpa using this
          obtain ⟨vcells', h1, h2⟩ := fill_sound place parts vparts (splice cells off vs) (v.cells.zipIdx.foldl (fun cs (c, j) => cs.setIfInBounds (off + j) c) vcells) cells' (by
            rw [hfold]
            have := ((hc.take off).append hcv).append (hc.drop (off + vs.length))
            simpa [splice, hvl] using this) (by simpa using hl) (fun j p q hpp hq => hp (j + 1) p q (by simpa using hpp) (by simpa using hq)) h
          refine ⟨vcells', ?_, h2⟩
          simp only [Instr.fill, hpl]
          rw [if_neg (by simp; omega)]
          exact h1
        · cases h
      · cases h

theorem buildAV_sound {t : TypeId} {parts : List (Nat × AV)} {vparts : List (Nat × Value)} {r : AV} (h : buildAV P t parts = some r) (hl : parts.length = vparts.length)
    (hp : ∀ (j : Nat) (p : Nat × AV) (q : Nat × Value), parts[j]? = some p → vparts[j]? = some q → p.1 = q.1 ∧ CR w G S p.2 q.2) : ∃ v, (Instr.build t vparts.toArray).run P w = .ok v w ∧ CR w G S r v := by
  unfold buildAV at h
  split at h
  · rename_i it n e hi hu
    split at h
    · rename_i z ie hz hie
      simp only [Option.map_eq_some_iff] at h
      obtain ⟨cs, hcs, rfl⟩ := h
      obtain ⟨vc, h1, h2⟩ := fill_sound _ parts vparts _ z.cells cs (CRs_ofC _) hl hp hcs
      have hb : P.built t vparts.toArray.toList = some vc := by
        unfold Program.built; simp only [hi, hu, hz, hie]; exact h1
      exact ⟨.agg vc, run_build w t _ vc hb, by simpa using CR.a _ _ h2⟩
    · cases h
  · rename_i it fields hi hu
    split at h
    · rename_i z places hz hpl
      simp only [Option.map_eq_some_iff] at h
      obtain ⟨cs, hcs, rfl⟩ := h
      obtain ⟨vc, h1, h2⟩ := fill_sound _ parts vparts _ z.cells cs (CRs_ofC _) hl hp hcs
      have hb : P.built t vparts.toArray.toList = some vc := by
        unfold Program.built; simp only [hi, hu, hz, hpl]; exact h1
      exact ⟨.agg vc, run_build w t _ vc hb, by simpa using CR.a _ _ h2⟩
    · cases h
  · cases h

theorem Rel.freezeIn : ∀ (xs : List AV) {w : World} {G : Ghost} {st : St} {a : Act}, Rel base w G st a → ∃ G', Rel base w G' (st.freezeIn base xs) a ∧ FEvol base w G st.S st.O w G' (st.freezeIn base xs).S (st.freezeIn base xs).O
  | [], w, G, st, a, h => ⟨G, h, .refl⟩
  | x :: xs, w, G, st, a, h => by
    cases x with
    | r m =>
      simp only [St.freezeIn]
      by_cases hm : base ≤ m
      · rw [if_pos hm]
        cases hf : st.freezeRow base m with
        | none => exact Rel.freezeIn xs h
        | some st1 =>
          obtain ⟨G1, h1, h2⟩ := h.freezeRow hm hf
          obtain ⟨G2, h3, h4⟩ := Rel.freezeIn xs h1
          exact ⟨G2, h3, h2.trans h4⟩
      · rw [if_neg hm]; exact Rel.freezeIn xs h
    | _ => exact Rel.freezeIn xs h

theorem Rel.setAt_eq {st : St} {a : Act} (h : Rel base w G st a) (m : Nat) (blk : Blk) : st.setAt base m blk = st.giveTo base m (fun _ => .u) .u blk := by
  unfold St.setAt
  split
  · rename_i hd; exact (h.giveTo_dead hd _ _ _).symm
  · rfl

theorem Rel.boxCells_eq {st : St} {a : Act} (h : Rel base w G st a) (m : Nat) {cs : List AV} {vs : List Value} (hc : CRs w G st.S cs vs) : boxCells st m cs = AV.subL m (fun _ => .u) .u cs := by
  unfold boxCells
  split
  · rename_i hd; exact (subL_dead h.inv hd hc).symm
  · rfl

theorem newBox_sound {esc : Nat → Bool} {d : Option Nat} {T : TypeId} {cs : List AV} {vs : List Value} {st st' : St} {r : AV} {a : Act} (h : Rel base w G st a) (hn : newBox esc base d T cs st = some (r, st')) (hc : CRs w G st.S cs vs) :
    ∃ G', Rel base { w with heap := w.heap.push (.cells vs.toArray T) } G' st' a ∧ FEvol base w G st.S st.O { w with heap := w.heap.push (.cells vs.toArray T) } G' st'.S st'.O ∧
      CR { w with heap := w.heap.push (.cells vs.toArray T) } G' st'.S r (.pointer (some ⟨w.heap.size, 0, none⟩)) := by
  unfold newBox at hn
  split at hn
  rotate_left
  · cases hn
  rename_i d
  split at hn
  · split at hn
    · rename_i hb
      simp only [Option.some.injEq, Prod.mk.injEq] at hn
      obtain ⟨rfl, rfl⟩ := hn
      exact h.newObj hc hb
    · cases hn
  · split at hn
    · rename_i hlt
      simp only [Option.some.injEq, Prod.mk.injEq] at hn
      obtain ⟨rfl, rfl⟩ := hn
      have hlt2 : d < st.env.length := by assumption
      have hlt' : base + d < st.S.length := by have := h.len; omega
      rw [h.setAt_eq, h.boxCells_eq _ hc]
      exact h.boxAt (by omega) hlt' hc (CRs_bel h.inv hc)
    · cases hn

theorem bnd_sound {env : List AV} {a : Act} (hc : CRs w G S env a.tmps.toList) {x : Option Operand} {dflt top j : Nat} (h : bnd env x dflt top = some j) :
    (x = none ∧ j = dflt) ∨ ∃ y k i, x = some y ∧ a.eval y = .int k i ∧ 0 ≤ i ∧ i ≤ top ∧ j = i.toNat := by
  unfold bnd at h
  split at h
  · injection h with h; exact .inl ⟨rfl, h.symm⟩
  · rename_i y
    have hy := rd_sound (w := w) (G := G) (S := S) hc y
    split at h
    · rename_i k i hh
      rw [hh] at hy
      split at h <;> simp at h
      rename_i hb
      generalize hv : a.eval y = v at hy
      cases hy
      exact .inr ⟨y, k, i, rfl, hv, hb.1, hb.2, h.symm⟩
    · cases h

theorem cut_bounds {env : List AV} {a : Act} (hc : CRs w G S env a.tmps.toList) {sz n cap : Nat} {cs : List AV} {lo hi mx : Option Operand} {r : AV} (h : cutAV env sz n cs lo hi mx = some r) (hn : n ≤ cap) (isS : Bool) :
    ∃ l hh m, (Instr.sliceBounds isS n cap (lo.map a.eval) (hi.map a.eval) (mx.map a.eval)).run P w = .ok (l, hh, m) w ∧ l ≤ hh ∧ hh ≤ n ∧ hh ≤ m ∧ m ≤ cap ∧ r = .l (hh - l) ((cs.drop (l * sz)).take ((hh - l) * sz)) ∨ (mx.isSome = true ∧ hi = none) := by
  by_cases hbad : mx.isSome = true ∧ hi = none
  · exact ⟨0, 0, 0, .inr hbad⟩
  unfold cutAV at h
  split at h
  rotate_left
  · cases h
  rename_i m hm
  split at h
  rotate_left
  · cases h
  rename_i hh hhh
  split at h
  rotate_left
  · cases h
  rename_i l hl
  injection h with h
  have e1 := bnd_sound hc hm
  have e2 := bnd_sound hc hhh
  have e3 := bnd_sound hc hl
  have sb : ∀ (k : IntKind) (i : Int) (y : Nat) (c : BoundsCode), 0 ≤ i → i ≤ y → (Instr.sliceBound (.int k i) y c).run P w = .ok i.toNat w := by
    intro k i y c h0 h1
    simp [Instr.sliceBound, asIntOf, h0, h1]
  rcases e1 with ⟨rfl, rfl⟩ | ⟨ym, km, im, rfl, hvm, hm0, hm1, rfl⟩
  · rcases e2 with ⟨rfl, rfl⟩ | ⟨yh, kh, ih, rfl, hvh, hh0, hh1, rfl⟩
    · rcases e3 with ⟨rfl, rfl⟩ | ⟨yl, kl, il, rfl, hvl, hl0, hl1, rfl⟩
      · exact ⟨0, _, cap, .inl ⟨by simp [Instr.sliceBounds], by omega, by omega, by omega, by omega, h.symm⟩⟩
      · exact ⟨il.toNat, _, cap, .inl ⟨by simp [Instr.sliceBounds, hvl, sb kl il _ _ hl0 hl1], by omega, by omega, by omega, by omega, h.symm⟩⟩
    · rcases e3 with ⟨rfl, rfl⟩ | ⟨yl, kl, il, rfl, hvl, hl0, hl1, rfl⟩
      · exact ⟨0, ih.toNat, cap, .inl ⟨by simp [Instr.sliceBounds, hvh, sb kh ih cap _ hh0 (by omega)], by omega, by omega, by omega, by omega, h.symm⟩⟩
      · exact ⟨il.toNat, ih.toNat, cap, .inl ⟨by simp [Instr.sliceBounds, hvh, hvl, sb kh ih cap _ hh0 (by omega), sb kl il _ _ hl0 hl1], by omega, by omega, by omega, by omega, h.symm⟩⟩
  · rcases e2 with ⟨rfl, rfl⟩ | ⟨yh, kh, ih, rfl, hvh, hh0, hh1, rfl⟩
    · exact absurd ⟨rfl, rfl⟩ hbad
    · rcases e3 with ⟨rfl, rfl⟩ | ⟨yl, kl, il, rfl, hvl, hl0, hl1, rfl⟩
      · exact ⟨0, ih.toNat, im.toNat, .inl ⟨by simp [Instr.sliceBounds, hvm, hvh, sb km im cap _ hm0 (by omega), sb kh ih _ _ hh0 hh1], by omega, by omega, by omega, by omega, h.symm⟩⟩
      · exact ⟨il.toNat, ih.toNat, im.toNat, .inl ⟨by simp [Instr.sliceBounds, hvm, hvh, hvl, sb km im cap _ hm0 (by omega), sb kh ih _ _ hh0 hh1, sb kl il _ _ hl0 hl1], by omega, by omega, by omega, by omega, h.symm⟩⟩
end
end Go.Am
