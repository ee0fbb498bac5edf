/-
  THE ABSTRACT MACHINE: the memory that stands behind a state; operations that change nothing are sound.
-/
import Derived.Test.YtgbkilmgmnhokaaAm3
set_option linter.unusedSimpArgs false
set_option linter.unusedVariables false
namespace Go.Am
open Go

/-- A cell of a box: a value; or a row that the cell owns. -/
def cellR (w : World) (G : Ghost) (S : List Blk) (id : Bid) (off : Nat) : AV → Value → Prop
  | .w e sz n cs, v => ∃ vs, Hdr w G (.cell id off) e sz n vs v ∧ CRs w G S cs vs ∧ ∀ x ∈ cs, x.data = true
  | x, v => CR w G S x v

def aliveO (S O : List Blk) : Owner → Prop
  | .box id => (∃ T cs, getB S O id = some (.box T cs)) ∨ ∃ e sz n cs, getB S O id = some (.row e sz n cs)
  | .row m => ∃ e sz n cs, S[m]? = some (.row e sz n cs)
  | .cell id _ => ∃ T cs, getB S O id = some (.box T cs)
  | .ext _ => True

/-- What lies in a row's block. -/
def RowR (w : World) (G : Ghost) (S : List Blk) (m e sz n : Nat) (cs : List AV) (b : Nat) : Prop :=
  ∃ cap vs, Hdr w G (.box (.s m)) e sz n vs (.slice (some ⟨b, 0, none⟩) n cap) ∧ CRs w G S cs vs ∧ ∀ x ∈ cs, x.data = true

structure InvH (w : World) (G : Ghost) (S O : List Blk) : Prop where
  inj : ∀ b b' o, G b = some o → G b' = some o → b = b'
  rng : ∀ b o, G b = some o → b < w.heap.size
  live : ∀ b o, G b = some o → aliveO S O o
  orow : ∀ (k e sz n : Nat) (cs : List AV), O[k]? ≠ some (.row e sz n cs)
  row : ∀ (m e sz n : Nat) (cs : List AV) (b : Nat), S[m]? = some (.row e sz n cs) → G b = some (.box (.s m)) → RowR w G S m e sz n cs b
  box : ∀ id T cs, getB S O id = some (.box T cs) → ∃ b vs, G b = some (.box id) ∧ w.heap[b]? = some (.cells vs T (0, 0)) ∧ vs.size = cs.length ∧
    ∀ (j : Nat) (x : AV) (v : Value), cs[j]? = some x → vs[j]? = some v → cellR w G S id j x v

section
variable {P : Program} {w : World} {G : Ghost} {S O : List Blk}

theorem cellR.strip {id : Bid} {off : Nat} {x : AV} {v : Value} (h : cellR w G S id off x v) : CR w G S (strip x) v := by
  cases x <;> first | exact .u v | exact h

theorem InvH.cells (hI : InvH w G S O) {id : Bid} {T : TypeId} {cs : List AV} (h : getB S O id = some (.box T cs)) {b : Nat} (hb : G b = some (.box id)) :
    ∃ vs : Array Value, w.heap[b]? = some (.cells vs T (0, 0)) ∧ vs.size = cs.length ∧ CRs w G S (cs.map strip) vs.toList ∧ ∀ j y, vs[j]? = some y → w.cell? ⟨b, j, none⟩ = some y := by
  obtain ⟨b', vs, h1, h2, h3, h4⟩ := hI.box id T cs h
  obtain rfl := hI.inj _ _ _ h1 hb
  refine ⟨vs, h2, h3, .of (by simp [h3]) fun j x v hx hv => ?_, fun j y hy => by simp [World.cell?, h2, hy]⟩
  rw [List.getElem?_map] at hx
  simp only [Option.map_eq_some_iff] at hx
  obtain ⟨x', hx', rfl⟩ := hx
  exact (h4 j x' v hx' (by simpa using hv)).strip

theorem sureAddr_run (a : Addr) : (Instr.sureAddr (.pointer (some a))).run P w = .ok a w := rfl

theorem Hdr.stable {o : Owner} {e sz n : Nat} {vs : List Value} {b cap : Nat} (h : Hdr w G o e sz n vs (.slice (some ⟨b, 0, none⟩) n cap)) (j : Nat) (y : Value) (hy : vs[j]? = some y) : w.cell? ⟨b, j, none⟩ = some y := by
  obtain ⟨h1, h0, h2⟩ := h
  rcases h2 with ⟨h2, _⟩ | ⟨b', cap', cur, hv, hg, hh, hn, hm, hs, ht⟩
  · cases h2
  · injection hv with e1 e2 e3
    injection e1 with e1; injection e1 with e1; subst e1
    rw [← ht, List.getElem?_take] at hy
    split at hy
    · simp only [World.cell?, hh]
      simpa using hy
    · cases hy

theorem load_sound (hI : InvH w G S O) {T : TypeId} {x r : AV} {v : Value}
    (h : (match x with
      | .p id off => match getB S O id with | some (.box _ cs) => partAV P T ((cs.map strip).drop off) 0 | some (.row _ _ _ cs) => partAV P T (cs.drop off) 0 | _ => none
      | .e cs => partAV P T cs 0
      | _ => none) = some r) (hx : CR w G S x v) : ∃ q, (Instr.loadAt T v).run P w = .ok q w ∧ CR w G S r q := by
  cases x with
  | p id off =>
    simp only at h
    split at h
    · rename_i T' cs hg
      cases hx with | p id off b hb =>
      obtain ⟨vs, h1, h2, h3, h4⟩ := hI.cells hg hb
      obtain ⟨q, hq, hcr⟩ := run_loadVar_AV (P := P) (a := ⟨b, off, none⟩) h (h3.drop off) (fun j y hy => by
        rw [List.getElem?_drop] at hy
        have := h4 (off + j) y (by simpa using hy)
        rw [add_eq rfl]; exact this)
      exact ⟨q, by simp [Instr.loadAt, sureAddr_run, hq], hcr⟩
    · rename_i e' sz n cs hg
      cases hx with | p id off b hb =>
      cases id with
      | o k => 
        obtain hal := hI.live b _ hb
        simp only [aliveO] at hal
        exact absurd hg (hI.orow k _ _ _ _)
      | s m =>
        obtain ⟨cap, vs, q1, q2, q3⟩ := hI.row m _ _ _ _ b hg hb
        obtain ⟨q, hq, hcr⟩ := run_loadVar_AV (P := P) (a := ⟨b, off, none⟩) h (q2.drop off) (fun j y hy => by
          rw [List.getElem?_drop] at hy
          rw [add_eq rfl]; exact q1.stable (off + j) y hy)
        exact ⟨q, by simp [Instr.loadAt, sureAddr_run, hq], hcr⟩
    · cases h
  | e cs =>
    simp only at h
    cases hx with | e cs a vs h1 hd hs =>
    obtain ⟨q, hq, hcr⟩ := run_loadVar_AV (P := P) (a := a) h h1 (fun j y hy => hs.2.2.2 j y hy)
    exact ⟨q, by simp [Instr.loadAt, sureAddr_run, hq], hcr⟩
  | _ => cases h

theorem Stable.drop {a : Addr} {vs : List Value} (h : Stable w G a vs) (n : Nat) : Stable w G (a.add n) (vs.drop n) := by
  obtain ⟨h1, h2, h3, h4⟩ := h
  refine ⟨by rw [add_block]; exact h1, by rw [add_block]; exact h2, add_spot h3 n, fun j y hy => ?_⟩
  rw [List.getElem?_drop] at hy
  have := h4 _ y hy
  rw [add_eq h3] at this
  rw [add_eq (add_spot h3 n), add_block, add_off, Nat.add_assoc]; exact this

theorem data_drop {cs : List AV} (hd : ∀ x ∈ cs, x.data = true) (n : Nat) : ∀ x ∈ cs.drop n, x.data = true := fun x hx => hd x (List.mem_of_mem_drop hx)
theorem data_take {cs : List AV} (hd : ∀ x ∈ cs, x.data = true) (n : Nat) : ∀ x ∈ cs.take n, x.data = true := fun x hx => hd x (List.mem_of_mem_take hx)

theorem e_drop {cs : List AV} {a : Addr} (hx : CR w G S (.e cs) (.pointer (some a))) (n : Nat) : CR w G S (.e (cs.drop n)) (.pointer (some (a.add n))) := by
  cases hx with | e cs a vs h1 hd hs => exact .e _ _ _ (h1.drop n) (data_drop hd n) (hs.drop n)

theorem fieldPlace_run {P : Program} {w : World} {fd : Field} {n : Nat} (h : szO P fd.type = some (n + 1)) (a : Addr) : (fieldPlace a fd).run P w = .ok (a.add fd.offset) w := by
  simp [fieldPlace, run_szO h]

theorem fieldO_run {T : TypeId} {f : Nat} {fd : Field} (h : fieldO P T f = some fd) : ∃ fs, P.underlying T = some (.struct fs) ∧ fs[f]? = some fd := by
  unfold fieldO at h
  split at h
  · rename_i fs hu; exact ⟨fs, hu, h⟩
  · cases h

theorem arrO_run {T : TypeId} {n : Nat} {e : TypeId} (h : arrO P T = some (n, e)) : P.underlying T = some (.array n e) := by
  unfold arrO at h
  split at h
  · rename_i n e hu; simp at h; obtain ⟨rfl, rfl⟩ := h; exact hu
  · cases h
theorem sliceO_run {T : TypeId} {e : TypeId} (h : sliceO P T = some e) : P.underlying T = some (.slice e) := by
  unfold sliceO at h
  split at h
  · rename_i e hu; simp at h; subst h; exact hu
  · cases h

theorem indexAt_arr {T e : TypeId} {n sz : Nat} (hu : P.underlying T = some (.array n e)) (hs : szO P e = some sz) {k : IntKind} {i : Int} (h0 : 0 ≤ i) (h1 : i < n) (a : Addr) :
    (Instr.indexAt T (.pointer (some a)) (.int k i)).run P w = .ok (.pointer (some (a.add (i.toNat * sz)))) w := by
  simp [Instr.indexAt, asIntOf, run_underlying hu, sureAddr_run, run_szO hs, h0, h1]
theorem indexAt_slice {T e : TypeId} {n c sz : Nat} (hu : P.underlying T = some (.slice e)) (hs : szO P e = some sz) {k : IntKind} {i : Int} (h0 : 0 ≤ i) (h1 : i < n) (a : Addr) :
    (Instr.indexAt T (.slice (some a) n c) (.int k i)).run P w = .ok (.pointer (some (a.add (i.toNat * sz)))) w := by
  simp [Instr.indexAt, asIntOf, run_underlying hu, run_szO hs, h0, h1]

theorem xPure_sound {st : St} (hI : InvH w G st.S st.O) {a : Act} (hc : CRs w G st.S st.env a.tmps.toList) {o : Oper} {r : AV} (h : xPure P st o = some r) :
    ∃ v, (execOp a.eval o).run P w = .ok (.value v) w ∧ CR w G st.S r v := by
  obtain ⟨dst, op, ty, pos, after, guard⟩ := o
  have hrd := fun x => rd_sound (w := w) (G := G) (S := st.S) hc x
  cases op <;> simp only [xPure, reduceCtorEq] at h
  case move x => injection h with h; subst h; exact ⟨_, rfl, hrd x⟩
  case assign x => injection h with h; subst h; exact ⟨_, rfl, hrd x⟩
  case pick c x y =>
    have hcc := hrd c
    split at h <;> simp at h
    rename_i t ht
    rw [ht] at hcc
    generalize hv : a.eval c = v at hcc
    cases hcc
    subst h
    refine ⟨if t then a.eval x else a.eval y, by simp [execOp, hv, Sc.val, asBool], ?_⟩
    cases t
    · exact hrd y
    · exact hrd x
  case nilCheck x =>
    have hx := hrd x
    generalize hv : a.eval x = v at hx
    split at h <;> simp at h <;> rename_i hh <;> rw [hh] at hx <;> subst h
    · refine ⟨v, ?_, hx⟩
      cases hx; simp [execOp, hv]
    · refine ⟨v, ?_, hx⟩
      cases hx; simp [execOp, hv]
    · refine ⟨v, ?_, hx⟩
      cases hx; simp [execOp, hv]
  case load T x =>
    obtain ⟨q, h1, h2⟩ := load_sound (P := P) hI (T := T) h (hrd x)
    exact ⟨q, by simp [execOp, h1], h2⟩
  case fieldAddr T x f =>
    split at h; rotate_left
    · cases h
    rename_i fd hf
    obtain ⟨fs, hu, hfs⟩ := fieldO_run hf
    split at h; rotate_left
    · cases h
    rename_i n hn
    have hx := hrd x
    generalize hv : a.eval x = v at hx
    split at h
    · rename_i id off hh
      rw [hh] at hx; injection h with h; subst h
      cases hx with | p id off b hb =>
      refine ⟨.pointer (some ⟨b, off + fd.offset, none⟩), ?_, .p _ _ _ hb⟩
      have e : (⟨b, off, none⟩ : Addr).add fd.offset = ⟨b, off + fd.offset, none⟩ := add_eq rfl _
      simp [execOp, hv, Instr.fieldAt, run_underlying hu, hfs, sureAddr_run, fieldPlace_run hn, e]
    rotate_left
    · cases h
    · rename_i cs hh
      rw [hh] at hx; injection h with h; subst h
      have hx' := hx
      cases hx with | e cs a' vs h1 hd hs =>
      refine ⟨.pointer (some (a'.add fd.offset)), ?_, e_drop hx' _⟩
      simp [execOp, hv, Instr.fieldAt, run_underlying hu, hfs, sureAddr_run, fieldPlace_run hn]
  case field T x f =>
    split at h; rotate_left
    · cases h
    rename_i fd cs hf hh
    obtain ⟨fs, hu, hfs⟩ := fieldO_run hf
    have hx := hrd x
    generalize hv : a.eval x = v at hx
    rw [hh] at hx
    cases hx with | a cs vs hcs =>
    obtain ⟨q, h1, h2⟩ := partAV_sound (P := P) h hcs
    exact ⟨q, by simp [execOp, hv, Instr.field, run_underlying hu, hfs, asAgg, h1], h2⟩
  case indexAddr T x i =>
    have hx := hrd x
    have hi := hrd i
    generalize hv : a.eval x = v at hx
    generalize hw : a.eval i = u at hi
    split at h
    · rename_i id off hh
      rw [hh] at hx
      split at h; rotate_left
      · cases h
      rename_i n e ha
      split at h; rotate_left
      · cases h
      rename_i sz j hs hj
      obtain ⟨k, ii, rfl, h0, h1, rfl⟩ := idx_sound hj hi
      injection h with h; subst h
      cases hx with | p id off b hb =>
      refine ⟨.pointer (some ⟨b, off + ii.toNat * sz, none⟩), ?_, .p _ _ _ hb⟩
      have e : (⟨b, off, none⟩ : Addr).add (ii.toNat * sz) = ⟨b, off + ii.toNat * sz, none⟩ := add_eq rfl _
      simp [execOp, hv, hw, indexAt_arr (arrO_run ha) hs h0 h1, e]
    · rename_i cs hh
      rw [hh] at hx
      split at h; rotate_left
      · cases h
      rename_i n e ha
      split at h; rotate_left
      · cases h
      rename_i sz j hs hj
      obtain ⟨k, ii, rfl, h0, h1, rfl⟩ := idx_sound hj hi
      injection h with h; subst h
      have hx' := hx
      cases hx with | e cs a' vs q1 hd hs' =>
      refine ⟨.pointer (some (a'.add (ii.toNat * sz))), ?_, e_drop hx' _⟩
      simp [execOp, hv, hw, indexAt_arr (arrO_run ha) hs h0 h1]
    · rename_i n cs hh
      rw [hh] at hx
      split at h; rotate_left
      · cases h
      rename_i e ha
      split at h; rotate_left
      · cases h
      rename_i sz j hs hj
      obtain ⟨k, ii, rfl, h0, h1, rfl⟩ := idx_sound hj hi
      injection h with h; subst h
      cases hx with | l n cs A c vs q1 q2 q3 hd q4 q5 =>
      obtain ⟨a', rfl, hst⟩ := q4 (by omega)
      refine ⟨.pointer (some (a'.add (ii.toNat * sz))), ?_, e_drop (.e _ _ _ q1 hd hst) _⟩
      simp [execOp, hv, hw, indexAt_slice (sliceO_run ha) hs h0 h1]
    · rename_i m hh
      rw [hh] at hx
      split at h
      rotate_left
      · cases h
      rename_i e' sz' n cs e hS ha
      split at h
      rotate_left
      · cases h
      rename_i sz j hs hj
      obtain ⟨k, ii, rfl, h0, h1, rfl⟩ := idx_sound hj hi
      injection h with h; subst h
      cases hx with | r m e2 sz2 n2 cs2 vs v hS2 hhd =>
      rw [hS] at hS2; injection hS2 with hS2; injection hS2 with q1 q2 q3 q4; subst q1 q2 q3 q4
      obtain ⟨_, _, hhd⟩ := hhd
      rcases hhd with ⟨_, rfl⟩ | ⟨b, cap, cur, rfl, hb, _⟩
      · omega
      · refine ⟨.pointer (some ⟨b, ii.toNat * sz, none⟩), ?_, .p _ _ _ hb⟩
        have e : (⟨b, 0, none⟩ : Addr).add (ii.toNat * sz) = ⟨b, ii.toNat * sz, none⟩ := by rw [add_eq rfl]; simp
        simp [execOp, hv, hw, indexAt_slice (sliceO_run ha) hs h0 h1, e]
    · cases h
  case index T x i =>
    have hx := hrd x
    have hi := hrd i
    generalize hv : a.eval x = v at hx
    generalize hw : a.eval i = u at hi
    split at h
    · rename_i cs hh
      rw [hh] at hx
      split at h; rotate_left
      · cases h
      rename_i n e ha
      split at h; rotate_left
      · cases h
      rename_i sz j hs hj
      obtain ⟨k, ii, rfl, h0, h1, rfl⟩ := idx_sound hj hi
      cases hx with | a cs vs hcs =>
      obtain ⟨q, h2, h3⟩ := partAV_sound (P := P) h hcs
      exact ⟨q, by simp [execOp, hv, hw, Instr.index, asIntOf, run_underlying (arrO_run ha), h0, h1, run_szO hs, h2], h3⟩
    · rename_i s hh
      rw [hh] at hx
      split at h; rotate_left
      · cases h
      rename_i v' hv'
      cases hx
      rw [toV_CR hv' hi] at hw
      obtain ⟨q, h2, h3⟩ := scVal_sound (P := P) (w := w) (G := G) (S := st.S) h
      exact ⟨q, by simp [execOp, hv, hw, Sc.val, h2], h3⟩
    · cases h
  case extract x k =>
    have hx := hrd x
    generalize hv : a.eval x = v at hx
    split at h; rotate_left
    · cases h
    rename_i vs hh
    rw [hh] at hx
    cases hx with | t cs us hcs =>
    obtain ⟨q, h1, h2⟩ := hcs.get h
    exact ⟨q, by simp [execOp, hv, Instr.extract, h1], h2⟩
  case binOp op T x y ty' =>
    obtain ⟨q, h1, h2⟩ := binAV_sound (P := P) h (hrd x) (hrd y)
    refine ⟨q, ?_, h2⟩
    simp only [execOp]
    rw [Sem.run_bind, h1]; rfl
  case unOp op T x =>
    have hx := hrd x
    generalize hv : a.eval x = v at hx
    split at h
    · rename_i t hh
      rw [hh] at hx
      split at h <;> simp at h
      subst h
      cases hx
      exact ⟨.bool !t, by simp [execOp, hv, Op.unary, Sc.val], .s (.b !t)⟩
    · split at h; rotate_left
      · cases h
      rename_i v' hv'
      rw [toV_CR hv' hx] at hv
      obtain ⟨q, h2, h3⟩ := scVal_sound (P := P) (w := w) (G := G) (S := st.S) h
      exact ⟨q, by simp [execOp, hv, h2], h3⟩
  case convert T T' x =>
    have hx := hrd x
    generalize hv : a.eval x = v at hx
    split at h
    · rename_i k n hh
      rw [hh] at hx
      cases hx
      split at h
      · rename_i k1 k2 hu hu'
        simp at h; subst h
        refine ⟨.int k2 (k2.wrap n), ?_, .s (.i k2 (k2.wrap n))⟩
        simp [execOp, hv, convert, run_underlying hu, run_underlying hu', Conv.intToInt, Sc.val]
      · obtain ⟨q, h2, h3⟩ := scVal_sound (P := P) (w := w) (G := G) (S := st.S) h
        exact ⟨q, by simp [execOp, hv, h2, Sc.val], h3⟩
    · split at h; rotate_left
      · cases h
      rename_i v' hv'
      rw [toV_CR hv' hx] at hv
      obtain ⟨q, h2, h3⟩ := scVal_sound (P := P) (w := w) (G := G) (S := st.S) h
      exact ⟨q, by simp [execOp, hv, h2], h3⟩
  case makeFunc fn fs cs =>
    cases fn <;> simp only [reduceCtorEq] at h
    rename_i f
    injection h with h; subst h
    refine ⟨.func (.func f) (fs.map a.eval) (cs.map a.eval), by simp [execOp, Instr.makeFunc], ?_⟩
    have h1 := rds_sound (w := w) (G := G) (S := st.S) hc fs.toList
    have h2 := rds_sound (w := w) (G := G) (S := st.S) hc cs.toList
    have := CR.f f _ _ _ _ h1 h2
    simp only [← Array.toList_map, Array.toArray_toList] at this ⊢
    exact this
  case slice T x lo hi mx =>
    cases mx <;> simp only [reduceCtorEq] at h
    have hx := hrd x
    generalize hv : a.eval x = v at hx
    split at h
    rotate_left
    · cases h
    rename_i s hh
    rw [hh] at hx
    cases hx
    have ho : ∀ y : Option Operand, y.map (fun y => toV (rd st.env y)) ≠ some none → (y.map (fun y => toV (rd st.env y))).bind id = y.map a.eval := by
      intro y hy
      cases y with
      | none => rfl
      | some y =>
        simp only [Option.map_some] at hy ⊢
        cases ht : toV (rd st.env y) with
        | none => rw [ht] at hy; exact absurd rfl hy
        | some u => simp [toV_CR ht (hrd y)]
    split at h
    · cases h
    · cases h
    · rename_i n1 n2
      rw [ho lo (fun e => n1 e), ho hi (fun e => n2 e)] at h
      obtain ⟨q, h2, h3⟩ := scVal_sound (P := P) (w := w) (G := G) (S := st.S) h
      exact ⟨q, by simp [execOp, hv, Sc.val, h2], h3⟩
  case call c =>
    obtain ⟨callee, args, tys⟩ := c
    cases callee <;> simp only [reduceCtorEq] at h
    rename_i b
    obtain ⟨args⟩ := args
    obtain ⟨tys⟩ := tys
    split at h <;> try (exact absurd h (by simp))
    · rename_i x T e1 e2
      simp only at e1 e2; subst e1 e2
      obtain ⟨q, h1, h2⟩ := lenAV_sound (P := P) h (hrd x) #[T] rfl ty
      exact ⟨q, by simp [execOp, resolve, invoke, builtin, h1], h2⟩
    · rename_i x e1
      simp only at e1; subst e1
      have hx := hrd x
      generalize hv : a.eval x = v at hx
      split at h
      rotate_left
      · cases h
      rename_i k re im hh
      rw [hh] at hx; injection h with h; subst h
      cases hx
      exact ⟨.float k re, by
        have e : (Builtin.real_ tys.toArray ty #[.complex k re im]).run P w = .ok (.float k re) w := rfl
        simp [execOp, resolve, invoke, builtin, hv, Sc.val, e], .s (.fl k re)⟩
    · rename_i x e1
      simp only at e1; subst e1
      have hx := hrd x
      generalize hv : a.eval x = v at hx
      split at h
      rotate_left
      · cases h
      rename_i k re im hh
      rw [hh] at hx; injection h with h; subst h
      cases hx
      exact ⟨.float k im, by
        have e : (Builtin.imag_ tys.toArray ty #[.complex k re im]).run P w = .ok (.float k im) w := rfl
        simp [execOp, resolve, invoke, builtin, hv, Sc.val, e], .s (.fl k im)⟩
    · rename_i x y e1
      simp only at e1; subst e1
      have hx := hrd x
      have hy := hrd y
      generalize hv : a.eval x = v at hx
      generalize hu : a.eval y = u at hy
      split at h
      rotate_left
      · cases h
      rename_i k re k' im hh hh'
      rw [hh] at hx; rw [hh'] at hy
      split at h
      rotate_left
      · cases h
      rename_i hk; subst hk
      injection h with h; subst h
      cases hx; cases hy
      exact ⟨.complex k re im, by
        have e : (Builtin.complex_ tys.toArray ty #[.float k re, .float k im]).run P w = .ok (.complex k re im) w := by
          show (if k = k then _ else _ : Sem Value).run P w = _
          rw [if_pos rfl]; rfl
        simp [execOp, resolve, invoke, builtin, hv, hu, Sc.val, e], .s (.cx k re im)⟩
end
end Go.Am
