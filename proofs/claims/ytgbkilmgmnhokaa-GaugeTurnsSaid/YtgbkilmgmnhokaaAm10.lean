/-
  THE ABSTRACT MACHINE: one operation that is no call of a function.
-/
import Derived.Test.YtgbkilmgmnhokaaAm9
set_option linter.unusedSimpArgs false
set_option linter.unusedVariables false
namespace Go.Am
open Go

def partsAV (env : List AV) (parts : Array (Nat × Operand)) : List (Nat × AV) := parts.toList.map fun q => (q.1, rd env q.2)

def partCells (env : List AV) (parts : Array (Nat × Operand)) : List AV := (parts.toList.map fun q => ((rd env q.2).cells?).getD []).flatten

def zeroCellsAV (z : List Value) (n : Nat) : List AV := (List.range n).map fun j => ofC (z.toArray[j % z.toArray.size]!)

def rowHere (base : Nat) (d : Option Nat) (e sz n : Nat) (cs : List AV) (st : St) : Option (AV × St) :=
  match d with
  | some d => if d < st.env.length then some (.r (base + d), st.setAt base (base + d) (.row e sz n cs)) else none
  | none => none

def xBuildSlice (P : Program) (base : Nat) (d : Option Nat) (t : TypeId) (len : Nat) (parts : Array (Nat × Operand)) (st : St) : Option (AV × St) :=
  match sliceO P t with
  | some e =>
    match P.info? e, zeroO P e with
    | some ie, some z =>
      if 0 < len * ie.size ∧ len * ie.size ≤ 2 ^ 24 ∧ len ≤ maxLen then
        match fillAV (fun i => some (i * ie.size, ie.size)) (zeroCellsAV z (len * ie.size)) (partsAV (st.freezeIn base (partCells st.env parts)).env parts) with
        | some cells => if cells.all AV.data ∧ cells.length = len * ie.size then rowHere base d e ie.size len cells (st.freezeIn base (partCells st.env parts)) else none
        | none => none
      else none
    | _, _ => none
  | none => none

def xMakeSlice (P : Program) (base : Nat) (d : Option Nat) (t : TypeId) (l c : AV) (st : St) : Option (AV × St) :=
  match sliceO P t, l, c with
  | some e, .s (.i _ il), .s (.i _ ic) =>
    match P.info? e, zeroO P e with
    | some ie, some z =>
      if 0 ≤ il ∧ il ≤ ic ∧ (ie.bytes : Int) * ic ≤ 281474976710656 ∧ ic ≤ 9223372036854775807 ∧ 0 < ie.size ∧ (zeroCellsAV z (il.toNat * ie.size)).all AV.data then
        rowHere base d e ie.size il.toNat (zeroCellsAV z (il.toNat * ie.size)) st
      else none
    | _, _ => none
  | _, _, _ => none

def xStoreOp (P : Program) (base : Nat) (T : TypeId) (x y : Operand) (st : St) : Option (AV × St) :=
  match rd st.env x, (rd st.env y).cells?, szO P T with
  | .p id off, some cs, some sz =>
    if cs.length = sz then
      if isOwn base id && isBox st id then (xStore base id off cs st).map (AV.u, ·)
      else
        match rd (st.freezeIn base cs).env x, (rd (st.freezeIn base cs).env y).cells? with
        | .p id off, some cs1 => if cs1.length = sz then (xStore base id off cs1 (st.freezeIn base cs)).map (AV.u, ·) else none
        | _, _ => none
    else none
  | _, _, _ => none

def xSlice (P : Program) (base : Nat) (T : TypeId) (x : Operand) (lo hi mx : Option Operand) (st : St) : Option (AV × St) :=
  if mx.isSome && hi.isNone then none else
  match rd st.env x with
  | .r m =>
    if base ≤ m then
      match st.freezeRow base m with
      | some st1 => (sliceAV P T (rd st1.env x) lo hi mx st1.env).map (·, st1)
      | none => none
    else none
  | .p (.s m) _ =>
    if base ≤ m then
      match st.freezeBox base m with
      | some st1 => (sliceAV P T (rd st1.env x) lo hi mx st1.env).map (·, st1)
      | none => none
    else none
  | v => (sliceAV P T v lo hi mx st.env).map (·, st)

/-- What is appended: how many, and these. -/
def srcAV (st : St) (m : Nat) (x : AV) : Option (Nat × List AV) :=
  match x with
  | .l k xs => some (k, xs)
  | .r m2 => if m2 = m then none else match st.S[m2]? with | some (.row _ _ k xs) => some (k, xs) | _ => none
  | .s .sn => some (0, [])
  | _ => none

def dstAV (base : Nat) (d : Option Nat) (e sz : Nat) (s : AV) (st : St) : Option (Nat × St) :=
  match s with
  | .r m => if base ≤ m then some (m, st) else none
  | .s .sn => match d with
    | some d => if d < st.env.length ∧ 0 < sz then some (base + d, st.setAt base (base + d) (.row e sz 0 [])) else none
    | none => none
  | _ => none

def xAppend (P : Program) (base : Nat) (d : Option Nat) (t t' : TypeId) (s x : Operand) (st : St) : Option (AV × St) :=
  if t = t' then
    match sliceO P t with
    | some e =>
      match P.info? e, zeroO P e with
      | some ie, some z =>
        match dstAV base d e ie.size (rd st.env s) st with
        | some (m, st1) =>
          match st1.S[m]?, srcAV st1 m (rd st1.env x) with
          | some (.row e' sz n cs), some (k, xs) =>
            if e' = e ∧ sz = ie.size ∧ z.length = ie.size ∧ xs.length = k * ie.size ∧ n + k ≤ maxLen ∧ (n + k) * ie.bytes ≤ 140737488355328 then
              some (.r m, st1.giveTo base m (fun _ => .u) .u (.row e ie.size (n + k) (cs ++ xs)))
            else none
          | _, _ => none
        | none => none
      | _, _ => none
    | none => none
  else none

/-- One operation that is no call of a function. -/
def xOp (P : Program) (esc : Nat → Bool) (base : Nat) (o : Oper) (st : St) : Option (AV × St) :=
  match o.op with
  | .alloc T => match zeroO P T with | some z => newBox esc base o.dst T (z.map ofC) st | none => none
  | .box T x =>
    match (rd st.env x).cells? with
    | some cs =>
      if o.dst.any esc then
        match (rd (st.freezeIn base cs).env x).cells? with
        | some cs1 => newBox esc base o.dst T cs1 (st.freezeIn base cs)
        | none => none
      else newBox esc base o.dst T cs st
    | none => none
  | .build t parts => (buildAV P t (partsAV st.env parts)).map (·, st)
  | .buildSlice t len parts => xBuildSlice P base o.dst t len parts st
  | .makeSlice t l c => xMakeSlice P base o.dst t (rd st.env l) (rd st.env c) st
  | .store T x y => xStoreOp P base T x y st
  | .slice T x lo hi mx => match rd st.env x with
    | .s (.str _) => (xPure P st o).map (·, st)
    | _ => xSlice P base T x lo hi mx st
  | .call { callee := .builtin .append, args, argTypes } =>
    match args.toList, argTypes.toList with
    | [s, x], [t, t'] => xAppend P base o.dst t t' s x st
    | _, _ => none
  | _ => (xPure P st o).map (·, st)

section
variable {base : Nat} {w w' w'' : World} {G G' G'' : Ghost} {S S' S'' O O' O'' : List Blk} {P : Program}

/-- What an operation comes to. -/
def OpTo (P : Program) (base : Nat) (w : World) (G : Ghost) (st : St) (a : Act) (s : Sem Next) (r : AV) (st' : St) : Prop :=
  ∃ nv val w' G', s.run P w = .ok nv w' ∧ (nv = .value val ∨ nv = .skip ∧ val = undef) ∧ Rel base w' G' st' a ∧ FEvol base w G st.S st.O w' G' st'.S st'.O ∧ CR w' G' st'.S r val

theorem parts_rel {env : List AV} {a : Act} (hc : CRs w G S env a.tmps.toList) (parts : Array (Nat × Operand)) :
    (partsAV env parts).length = (parts.toList.map fun q => (q.1, a.eval q.2)).length ∧
    ∀ (j : Nat) (p : Nat × AV) (q : Nat × Value), (partsAV env parts)[j]? = some p → (parts.toList.map fun q => (q.1, a.eval q.2))[j]? = some q → p.1 = q.1 ∧ CR w G S p.2 q.2 := by
  refine ⟨by simp [partsAV], fun j p q hp hq => ?_⟩
  simp only [partsAV, List.getElem?_map, Option.map_eq_some_iff] at hp hq
  obtain ⟨x, hx, rfl⟩ := hp
  obtain ⟨y, hy, rfl⟩ := hq
  rw [hx] at hy; injection hy with hy; subst hy
  exact ⟨rfl, rd_sound hc _⟩

theorem zeroO_run {T : TypeId} {z : List Value} (h : zeroO P T = some z) : ∃ i v, P.info? T = some i ∧ i.zero = some v ∧ v.cells.toList = z := by
  unfold zeroO at h
  simp only [Option.map_eq_some_iff, Option.bind_eq_some_iff] at h
  obtain ⟨v, ⟨i, hi, hz⟩, hv⟩ := h
  exact ⟨i, v, hi, hz, hv⟩

theorem rowHere_sound {d : Option Nat} {e sz n cap : Nat} {cs : List AV} {vs : List Value} {cur : Array Value} {st st' : St} {r : AV} {a : Act} (h : Rel base w G st a) (hn : rowHere base d e sz n cs st = some (r, st'))
    (hc : CRs w G st.S cs vs) (hd : ∀ x ∈ cs, x.data = true) (hsz : 0 < sz) (hl : vs.length = n * sz) (hnc : n ≤ cap) (hcap : cap ≤ maxLen) (hcs : cur.size = cap * sz) (ht : cur.toList.take (n * sz) = vs) :
    ∃ G', Rel base { w with heap := w.heap.push (.cells cur e) } G' st' a ∧ FEvol base w G st.S st.O { w with heap := w.heap.push (.cells cur e) } G' st'.S st'.O ∧
      CR { w with heap := w.heap.push (.cells cur e) } G' st'.S r (.slice (some ⟨w.heap.size, 0, none⟩) n cap) := by
  unfold rowHere at hn
  split at hn
  rotate_left
  · cases hn
  rename_i d
  split at hn
  rotate_left
  · cases hn
  rename_i hlt
  simp only [Option.some.injEq, Prod.mk.injEq] at hn
  obtain ⟨rfl, rfl⟩ := hn
  have hlt' : base + d < st.S.length := by have := h.len; omega
  rw [h.setAt_eq]
  exact h.rowAt (by omega) hlt' hc hd hsz hl hnc hcap hcs ht

theorem zeroCells_CR (v : Value) (n : Nat) : CRs w G S (zeroCellsAV v.cells.toList n) ((Array.range n).map (v.cells[· % v.cells.size]!)).toList := by
  refine .of (by simp [zeroCellsAV]) fun j x u hx hu => ?_
  simp only [zeroCellsAV, Array.toArray_toList, List.getElem?_map, Option.map_eq_some_iff] at hx
  obtain ⟨i, hi, rfl⟩ := hx
  simp only [Array.toList_map, Array.toList_range, List.getElem?_map, Option.map_eq_some_iff] at hu
  obtain ⟨i', hi', rfl⟩ := hu
  rw [hi] at hi'; injection hi' with hi'; subst hi'
  exact CR_ofC _

theorem sliceAV_sound {st : St} {a : Act} (h : Rel base w G st a) {T : TypeId} {x r : AV} {v : Value} {lo hi mx : Option Operand} (hbad : ¬ (mx.isSome = true ∧ hi = none)) (hs : sliceAV P T x lo hi mx st.env = some r) (hx : CR w G st.S x v) :
    ∃ q, (Instr.sliceAt T v (lo.map a.eval) (hi.map a.eval) (mx.map a.eval)).run P w = .ok q w ∧ CR w G st.S r q := by
  unfold sliceAV at hs
  split at hs
  · rename_i n cs
    split at hs
    rotate_left
    · cases hs
    rename_i e he
    split at hs
    rotate_left
    · cases hs
    rename_i sz hsz
    cases hx with | l n cs A c vs h1 h2 h3 h4 h5 h6 =>
    obtain ⟨l, hh, m, hb⟩ := cut_bounds (P := P) h.env hs h2 true
    rcases hb with ⟨hb, q1, q2, q3, q4, rfl⟩ | hb
    rotate_left
    · exact absurd hb hbad
    have hu := sliceO_run he
    refine ⟨.slice (if m = l then A else A.map (·.add (l * sz))) (hh - l) (m - l), by simp [Instr.sliceAt, Instr.slice, run_underlying hu, hb, run_szO hsz], ?_⟩
    refine .l _ _ _ _ ((vs.drop (l * sz)).take ((hh - l) * sz)) ((h1.drop _).take _) (by omega) (by omega) (data_take (data_drop h4 _) _) (fun h0 => ?_) (fun h0 => by rw [h0]; simp)
    obtain ⟨ad, rfl, hst⟩ := h5 (by omega)
    rw [if_neg (by omega)]
    refine ⟨_, rfl, ?_⟩
    obtain ⟨s1, s2, s3, s4⟩ := hst.drop (l * sz)
    exact ⟨s1, s2, s3, fun j y hy => s4 j y (by rw [List.getElem?_take] at hy; split at hy <;> simp_all)⟩
  · rename_i cs
    split at hs
    rotate_left
    · cases hs
    rename_i n e he
    split at hs
    rotate_left
    · cases hs
    rename_i sz hsz
    split at hs
    rotate_left
    · cases hs
    rename_i hlen
    cases hx with | e cs ad vs h1 h4 hst =>
    obtain ⟨l, hh, m, hb⟩ := cut_bounds (P := P) h.env hs (Nat.le_refl _) false
    rcases hb with ⟨hb, q1, q2, q3, q4, rfl⟩ | hb
    rotate_left
    · exact absurd hb hbad
    have hu := arrO_run he
    refine ⟨.slice (some (if m = l then ad else ad.add (l * sz))) (hh - l) (m - l), by simp [Instr.sliceAt, run_underlying hu, sureAddr_run, hb, run_szO hsz], ?_⟩
    refine .l _ _ _ _ ((vs.drop (l * sz)).take ((hh - l) * sz)) ((h1.drop _).take _) (by omega) (by omega) (data_take (data_drop h4 _) _) (fun h0 => ?_) (fun h0 => by rw [h0]; simp)
    rw [if_neg (by omega)]
    refine ⟨_, rfl, ?_⟩
    obtain ⟨s1, s2, s3, s4⟩ := hst.drop (l * sz)
    exact ⟨s1, s2, s3, fun j y hy => s4 j y (by rw [List.getElem?_take] at hy; split at hy <;> simp_all)⟩
  · split at hs
    rotate_left
    · cases hs
    rename_i e he
    split at hs
    rotate_left
    · cases hs
    rename_i sz cut hsz hcut
    injection hs with hs; subst hs
    cases hx
    obtain ⟨l, hh, m, hb⟩ := cut_bounds (P := P) h.env hcut (Nat.le_refl 0) true
    rcases hb with ⟨hb, q1, q2, q3, q4, rfl⟩ | hb
    rotate_left
    · exact absurd hb hbad
    have hu := sliceO_run he
    have e1 : l = 0 := by omega
    have e2 : hh = 0 := by omega
    have e3 : m = 0 := by omega
    subst e1 e2 e3
    exact ⟨.slice none 0 0, by simp [Instr.sliceAt, Instr.slice, run_underlying hu, hb, run_szO hsz, Sc.val], .s .sn⟩
  · cases hs

theorem xStore_sound {st st' : St} {a : Act} (h : Rel base w G st a) {id : Bid} {off : Nat} {xs : List AV} {us : List Value} {ad : Addr} (hx : CR w G st.S (.p id off) (.pointer (some ad))) (hc : CRs w G st.S xs us)
    (hs : xStore base id off xs st = some st') : ∃ w', (storeCells ad us).run P w = .ok () w' ∧ Rel base w' G st' a ∧ FEvol base w G st.S st.O w' G st'.S st'.O := by
  cases hx with | p _ _ b hb =>
  unfold xStore at hs
  split at hs
  · rename_i T cs hg
    split at hs <;> simp at hs
    subst hs
    rename_i hcond
    obtain ⟨c1, c2, c3, c4⟩ := hcond
    refine h.store hg hb hc c1 (by simpa using c2) (by simpa using c3) ?_ 0
    cases id with
    | o n => exact c4
    | s n =>
      simp only [okScope, Bool.or_eq_true, decide_eq_true_eq] at c4
      simp only
      split
      · rcases c4 with c4 | c4
        · omega
        · exact c4
      · exact CRs_bel h.inv hc
  · rename_i e sz n cs hg
    split at hs
    · rename_i m
      split at hs <;> simp at hs
      subst hs
      rename_i hcond
      obtain ⟨c1, c2, c3⟩ := hcond
      exact h.storeRow c1 hg hb hc c2 (by simpa using c3)
    · cases hs
  · cases hs

theorem storeVar_run {T : TypeId} {sz : Nat} {v : Value} {ad : Addr} {w' : World} (hsz : szO P T = some sz) (hv : v.cells.toList.length = sz) (hr : (storeCells ad v.cells.toList).run P w = .ok () w') :
    (Instr.storeAt T (.pointer (some ad)) v).run P w = .ok () w' := by
  have : v.cells.size = sz := by simpa using hv
  simp [Instr.storeAt, sureAddr_run, storeVar, run_szO hsz, this, hr]
end
end Go.Am
