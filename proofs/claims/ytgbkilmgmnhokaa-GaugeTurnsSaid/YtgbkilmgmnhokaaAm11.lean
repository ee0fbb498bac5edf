/-
  THE ABSTRACT MACHINE: one operation that is no call of a function is sound.
-/
import Derived.Test.YtgbkilmgmnhokaaAm10
set_option linter.unusedSimpArgs false
set_option linter.unusedVariables false
namespace Go.Am
open Go

section
variable {base : Nat} {w w' w'' : World} {G G' G'' : Ghost} {S S' S'' O O' O'' : List Blk} {P : Program}

theorem OpTo.value {st st' : St} {a : Act} {s : Sem Next} {r : AV} {v : Value} {w' : World} {G' : Ghost} (hr : s.run P w = .ok (.value v) w') (h1 : Rel base w' G' st' a) (h2 : FEvol base w G st.S st.O w' G' st'.S st'.O) (h3 : CR w' G' st'.S r v) :
    OpTo P base w G st a s r st' := ⟨_, v, w', G', hr, .inl rfl, h1, h2, h3⟩

theorem xPure_to {st st' : St} {a : Act} (h : Rel base w G st a) {o : Oper} {r : AV} (hx : (xPure P st o).map (·, st) = some (r, st')) : OpTo P base w G st a (execOp a.eval o) r st' := by
  simp only [Option.map_eq_some_iff, Prod.mk.injEq] at hx
  obtain ⟨r', hx, rfl, rfl⟩ := hx
  obtain ⟨v, h1, h2⟩ := xPure_sound h.inv h.env hx
  exact .value h1 h .refl h2

theorem map_operand (l : Option Operand) (f : Operand → Value) : l.map f = l.map f := rfl

theorem xSlice_to {st st' : St} {a : Act} (h : Rel base w G st a) {T : TypeId} {x : Operand} {lo hi mx : Option Operand} {r : AV} (hx : xSlice P base T x lo hi mx st = some (r, st')) :
    ∃ q w' G', (Instr.sliceAt T (a.eval x) (lo.map a.eval) (hi.map a.eval) (mx.map a.eval)).run P w = .ok q w' ∧ Rel base w' G' st' a ∧ FEvol base w G st.S st.O w' G' st'.S st'.O ∧ CR w' G' st'.S r q := by
  unfold xSlice at hx
  split at hx
  · cases hx
  rename_i hbad
  have hbad' : ¬ (mx.isSome = true ∧ hi = none) := by
    rintro ⟨e1, e2⟩; subst e2; simp [e1] at hbad
  split at hx
  · split at hx
    · rename_i hm
      split at hx
      · rename_i st1 hf
        simp only [Option.map_eq_some_iff, Prod.mk.injEq] at hx
        obtain ⟨r', hs, rfl, rfl⟩ := hx
        obtain ⟨G1, h1, h2⟩ := h.freezeRow hm hf
        obtain ⟨q, q1, q2⟩ := sliceAV_sound (P := P) h1 hbad' hs (rd_sound h1.env x)
        exact ⟨q, w, G1, q1, h1, h2, q2⟩
      · cases hx
    · cases hx
  · split at hx
    · rename_i hm
      split at hx
      · rename_i st1 hf
        simp only [Option.map_eq_some_iff, Prod.mk.injEq] at hx
        obtain ⟨r', hs, rfl, rfl⟩ := hx
        obtain ⟨G1, h1, h2⟩ := h.freezeBox hm hf
        obtain ⟨q, q1, q2⟩ := sliceAV_sound (P := P) h1 hbad' hs (rd_sound h1.env x)
        exact ⟨q, w, G1, q1, h1, h2, q2⟩
      · cases hx
    · cases hx
  · simp only [Option.map_eq_some_iff, Prod.mk.injEq] at hx
    obtain ⟨r', hs, rfl, rfl⟩ := hx
    obtain ⟨q, q1, q2⟩ := sliceAV_sound (P := P) h hbad' hs (rd_sound h.env x)
    exact ⟨q, w, G, q1, h, .refl, q2⟩

theorem newVar_run (T : TypeId) (v : Value) : (newVar T v).run P w = .ok ⟨w.heap.size, 0, none⟩ { w with heap := w.heap.push (.cells v.cells T) } := by
  simp [newVar, newRow]

theorem xStoreOp_to {st st' : St} {a : Act} (h : Rel base w G st a) {T : TypeId} {x y : Operand} {r : AV} (hx : xStoreOp P base T x y st = some (r, st')) :
    ∃ w' G', (Instr.storeAt T (a.eval x) (a.eval y)).run P w = .ok () w' ∧ Rel base w' G' st' a ∧ FEvol base w G st.S st.O w' G' st'.S st'.O ∧ r = .u := by
  unfold xStoreOp at hx
  split at hx
  rotate_left
  · cases hx
  rename_i id off cs sz hid hcs hsz
  split at hx
  rotate_left
  · cases hx
  rename_i hlen
  have hax := rd_sound h.env x
  have hay := rd_sound h.env y
  split at hx
  · simp only [Option.map_eq_some_iff, Prod.mk.injEq] at hx
    obtain ⟨st1, hs, rfl, rfl⟩ := hx
    rw [hid] at hax
    have hcells := cells?_CR hcs hay
    have hax' := hax
    generalize a.eval x = v at hax hax' ⊢
    cases hax with | p _ _ b hb =>
    obtain ⟨w', h1, h2, h3⟩ := xStore_sound (P := P) h hax' hcells hs
    exact ⟨w', G, storeVar_run hsz (by rw [← hcells.length]; exact hlen) h1, h2, h3, rfl⟩
  · obtain ⟨G1, g1, g2⟩ := Rel.freezeIn cs h
    split at hx
    · rename_i id1 off1 cs1 hid1 hcs1
      split at hx
      · rename_i hlen1
        simp only [Option.map_eq_some_iff, Prod.mk.injEq] at hx
        obtain ⟨st1, hs, rfl, rfl⟩ := hx
        have hax1 := rd_sound g1.env x
        have hay1 := rd_sound g1.env y
        rw [hid1] at hax1
        have hcells := cells?_CR hcs1 hay1
        have hax' := hax1
        generalize hv : a.eval x = v at hax1 hax'
        cases hax1 with | p _ _ b hb =>
        obtain ⟨w', h1, h2, h3⟩ := xStore_sound (P := P) g1 hax' hcells hs
        exact ⟨w', G1, storeVar_run hsz (by rw [← hcells.length]; exact hlen1) h1, h2, g2.trans h3, rfl⟩
      · cases hx
    · cases hx

theorem xBuildSlice_to {st st' : St} {a : Act} (h : Rel base w G st a) {d : Option Nat} {t : TypeId} {len : Nat} {parts : Array (Nat × Operand)} {r : AV} (hx : xBuildSlice P base d t len parts st = some (r, st')) :
    ∃ q w' G', (Instr.buildSlice t len (parts.map fun (i, x) => (i, a.eval x))).run P w = .ok q w' ∧ Rel base w' G' st' a ∧ FEvol base w G st.S st.O w' G' st'.S st'.O ∧ CR w' G' st'.S r q := by
  unfold xBuildSlice at hx
  split at hx
  rotate_left
  · cases hx
  rename_i e he
  split at hx
  rotate_left
  · cases hx
  rename_i ie z hie hz
  obtain ⟨ie', zv, hie', hzv, rfl⟩ := zeroO_run hz
  rw [hie] at hie'; injection hie' with hie'; subst hie'
  split at hx
  rotate_left
  · cases hx
  rename_i hb
  obtain ⟨b1, b2, b3⟩ := hb
  split at hx
  rotate_left
  · cases hx
  rename_i cells hfill
  split at hx
  rotate_left
  · cases hx
  rename_i hd
  obtain ⟨hd1, hd2⟩ := hd
  obtain ⟨G1, g1, g2⟩ := Rel.freezeIn (partCells st.env parts) h
  obtain ⟨pl, pr⟩ := parts_rel g1.env parts
  obtain ⟨vc, f1, f2⟩ := fill_sound (w := w) (G := G1) _ _ _ _ ((Array.range (len * ie.size)).map (zv.cells[· % zv.cells.size]!)) cells (zeroCells_CR zv _) pl pr hfill
  have hsz : 0 < ie.size := by
    rcases Nat.eq_zero_or_pos ie.size with h0 | h0
    · rw [h0] at b1; simp at b1
    · exact h0
  have hvl : vc.size = len * ie.size := by have := f2.length; simp at this; omega
  obtain ⟨G2, k1, k2, k3⟩ := rowHere_sound (cur := vc) g1 hx f2 (by simpa using hd1) hsz (by simpa using hvl) (Nat.le_refl _) b3 hvl (List.take_of_length_le (by rw [Array.length_toList, hvl]; exact Nat.le_refl _))
  have hparts : (parts.map fun (i, x) => (i, a.eval x)).toList = parts.toList.map fun q => (q.1, a.eval q.2) := by simp
  refine ⟨_, _, G2, run_buildSlice w t e len _ vc ie zv (sliceO_run he) hie hzv (by omega) (by omega) (by rw [hparts]; exact f1), k1, g2.trans k2, k3⟩

theorem xMakeSlice_to {st st' : St} {a : Act} (h : Rel base w G st a) {d : Option Nat} {t : TypeId} {l c : AV} {vl vc : Value} {r : AV} (hx : xMakeSlice P base d t l c st = some (r, st')) (hl : CR w G st.S l vl) (hc : CR w G st.S c vc) :
    ∃ q w' G', (Instr.makeSlice t vl vc).run P w = .ok q w' ∧ Rel base w' G' st' a ∧ FEvol base w G st.S st.O w' G' st'.S st'.O ∧ CR w' G' st'.S r q := by
  unfold xMakeSlice at hx
  split at hx
  rotate_left
  · cases hx
  rename_i e kl il kc ic he
  split at hx
  rotate_left
  · cases hx
  rename_i ie z hie hz
  obtain ⟨ie', zv, hie', hzv, rfl⟩ := zeroO_run hz
  rw [hie] at hie'; injection hie' with hie'; subst hie'
  split at hx
  rotate_left
  · cases hx
  rename_i hb
  obtain ⟨b1, b2, b3, b4, b5, b6⟩ := hb
  cases hl; cases hc
  have hcr := zeroCells_CR (w := w) (G := G) (S := st.S) zv (il.toNat * ie.size)
  have hd : ∀ x ∈ zeroCellsAV zv.cells.toList (il.toNat * ie.size), x.data = true := by
    intro x hx'
    exact List.all_eq_true.1 b6 x hx'
  have hll : ((Array.range (il.toNat * ie.size)).map (zv.cells[· % zv.cells.size]!)).toList.length = il.toNat * ie.size := by simp
  obtain ⟨G2, k1, k2, k3⟩ := rowHere_sound (cap := ic.toNat) (cur := madeCells zv.cells (ic.toNat * ie.size)) h hx hcr hd b5 hll (by omega) (by simp only [maxLen]; omega) (size_madeCells _ _) (by
    have hle : il.toNat * ie.size ≤ ic.toNat * ie.size := Nat.mul_le_mul_right _ (by omega)
    simp only [madeCells]
    apply List.ext_getElem?
    intro j
    simp only [Array.toList_map, Array.toList_range, List.getElem?_take, List.getElem?_map, List.getElem?_range]
    by_cases hj : j < il.toNat * ie.size
    · rw [if_pos hj, List.getElem?_range (by omega), List.getElem?_range hj]
    · rw [if_neg hj, List.getElem?_eq_none (by simp; omega)]; rfl)
  exact ⟨_, _, G2, run_make w t e ie zv (sliceO_run he) hie hzv kl kc il ic b1 b2 b3 b4, k1, k2, k3⟩

theorem xAppend_to {st st' : St} {a : Act} (h : Rel base w G st a) {d : Option Nat} {t t' ty : TypeId} {s x : Operand} {r : AV} (hx : xAppend P base d t t' s x st = some (r, st')) :
    ∃ q w' G', (Builtin.append_ #[t, t'] ty #[a.eval s, a.eval x]).run P w = .ok q w' ∧ Rel base w' G' st' a ∧ FEvol base w G st.S st.O w' G' st'.S st'.O ∧ CR w' G' st'.S r q := by
  unfold xAppend at hx
  split at hx
  rotate_left
  · cases hx
  rename_i htt; subst htt
  split at hx
  rotate_left
  · cases hx
  rename_i e he
  split at hx
  rotate_left
  · cases hx
  rename_i ie z hie hz
  obtain ⟨ie', zv, hie', hzv, rfl⟩ := zeroO_run hz
  rw [hie] at hie'; injection hie' with hie'; subst hie'
  split at hx
  rotate_left
  · cases hx
  rename_i m st1 hdst
  split at hx
  rotate_left
  · cases hx
  rename_i e' sz n cs k xs hS hsrc
  split at hx
  rotate_left
  · cases hx
  rename_i hb
  obtain ⟨rfl, rfl, b3, b4, b5, b6⟩ := hb
  simp only [Option.some.injEq, Prod.mk.injEq] at hx
  obtain ⟨rfl, rfl⟩ := hx
  -- where it is appended to
  have hst1 : ∃ G1, Rel base w G1 st1 a ∧ FEvol base w G st.S st.O w G1 st1.S st1.O ∧ base ≤ m ∧ CR w G1 st1.S (.r m) (a.eval s) := by
    have hs := rd_sound h.env s
    unfold dstAV at hdst
    split at hdst
    · rename_i m' hm'
      split at hdst <;> simp at hdst
      obtain ⟨rfl, rfl⟩ := hdst
      rw [hm'] at hs
      exact ⟨G, h, .refl, by assumption, hs⟩
    · rename_i hnil
      rw [hnil] at hs
      split at hdst
      rotate_left
      · cases hdst
      rename_i d
      split at hdst
      rotate_left
      · cases hdst
      rename_i hd
      simp only [Option.some.injEq, Prod.mk.injEq] at hdst
      obtain ⟨rfl, rfl⟩ := hdst
      have hlt' : base + d < st.S.length := by have := h.len; omega
      obtain ⟨G1, g1, g2, g3⟩ := h.nilAt (m := base + d) (by omega) hlt' (e := e') hd.2
      rw [h.setAt_eq]
      refine ⟨G1, g1, g2, by omega, ?_⟩
      generalize a.eval s = v at hs
      cases hs
      exact g3
    · cases hdst
  obtain ⟨G1, g1, g2, hm, hr⟩ := hst1
  have hsx := rd_sound g1.env x
  have hfin : ∀ (us : List Value) (A : Option Addr) (c : Nat), a.eval x = .slice A k c → CRs w G1 st1.S xs us → (∀ x ∈ xs, x.data = true) → (k ≠ 0 → ∃ ad, A = some ad ∧ ∀ j y, us[j]? = some y → w.cell? (ad.add j) = some y) →
      ∃ q w' G', (Builtin.append_ #[t, t] ty #[a.eval s, a.eval x]).run P w = .ok q w' ∧ Rel base w' G' (st1.giveTo base m (fun _ => .u) .u (.row e' ie.size (n + k) (cs ++ xs))) a ∧
        FEvol base w G st.S st.O w' G' (st1.giveTo base m (fun _ => .u) .u (.row e' ie.size (n + k) (cs ++ xs))).S (st1.giveTo base m (fun _ => .u) .u (.row e' ie.size (n + k) (cs ++ xs))).O ∧
        CR w' G' (st1.giveTo base m (fun _ => .u) .u (.row e' ie.size (n + k) (cs ++ xs))).S (.r m) q := by
    intro us A c hv hc hd hA
    obtain ⟨v', w', G', r1, r2, r3, r4⟩ := g1.append (P := P) (ty := ty) (c := c) (A := A) hm hS hr hc hd (by rw [← hc.length]; exact b4) hA (sliceO_run he) hie hzv rfl (by simpa using b3) b5 b6
    rw [hv]
    exact ⟨v', w', G', r1, r2, g2.trans r3, r4⟩
  unfold srcAV at hsrc
  split at hsrc
  · rename_i k' xs' hh
    simp only [Option.some.injEq, Prod.mk.injEq] at hsrc
    obtain ⟨rfl, rfl⟩ := hsrc
    rw [hh] at hsx
    generalize hv : a.eval x = v at hsx hfin ⊢
    cases hsx with | l _ _ A c vs h1 h2 h3 h4 h5 h6 =>
    exact hfin vs A c rfl h1 h4 (fun h0 => by obtain ⟨ad, q1, q2⟩ := h5 h0; exact ⟨ad, q1, q2.2.2.2⟩)
  · rename_i m2 hh
    split at hsrc
    · cases hsrc
    rename_i hne
    split at hsrc
    · rename_i e2 sz2 k' xs' hS2
      simp only [Option.some.injEq, Prod.mk.injEq] at hsrc
      obtain ⟨rfl, rfl⟩ := hsrc
      rw [hh] at hsx
      generalize hv : a.eval x = v at hsx hfin ⊢
      cases hsx with | r _ e3 sz3 n3 cs3 vs v h1 h2 h3 h4 =>
      rw [hS2] at h1; injection h1 with h1; injection h1 with p1 p2 p3 p4; subst p1 p2 p3 p4
      have hh2 := h2
      obtain ⟨q1, q0, q2⟩ := h2
      rcases q2 with ⟨rfl, rfl⟩ | ⟨b, cap, cur, rfl, hg, hbk, hn, hcap, hcs, htk⟩
      · exact hfin vs none 0 rfl h3 h4 (fun h0 => absurd rfl h0)
      · exact hfin vs _ cap rfl h3 h4 (fun _ => ⟨⟨b, 0, none⟩, rfl, fun j y hy => by rw [add_eq rfl]; simpa using hh2.stable j y hy⟩)
    · cases hsrc
  · rename_i hh
    simp only [Option.some.injEq, Prod.mk.injEq] at hsrc
    obtain ⟨rfl, rfl⟩ := hsrc
    rw [hh] at hsx
    generalize hv : a.eval x = v at hsx hfin ⊢
    cases hsx
    exact hfin [] none 0 rfl .nil (fun _ h => by cases h) (fun h0 => absurd rfl h0)
  · cases hsrc

theorem xOp_sound {esc : Nat → Bool} {st st' : St} {a : Act} (h : Rel base w G st a) {o : Oper} {r : AV} (hx : xOp P esc base o st = some (r, st')) : OpTo P base w G st a (execOp a.eval o) r st' := by
  obtain ⟨dst, op, ty, pos, after, guard⟩ := o
  cases op <;> simp only [xOp] at hx <;> try exact xPure_to h hx
  case alloc T =>
    split at hx
    rotate_left
    · cases hx
    rename_i z hz
    obtain ⟨i, v, hi, hzv, rfl⟩ := zeroO_run hz
    obtain ⟨G', h1, h2, h3⟩ := newBox_sound h hx (CRs_ofC _)
    refine .value ?_ h1 h2 h3
    simp [execOp, Instr.alloc, zeroValue, typeInfo, hi, hzv, newVar_run]
  case box T x =>
    split at hx
    rotate_left
    · cases hx
    rename_i cs hcs
    split at hx
    · split at hx
      rotate_left
      · cases hx
      rename_i cs1 hcs1
      obtain ⟨G1, g1, g2⟩ := Rel.freezeIn cs h
      have hc := cells?_CR hcs1 (rd_sound g1.env x)
      obtain ⟨G', h1, h2, h3⟩ := newBox_sound g1 hx hc
      refine .value ?_ h1 (g2.trans h2) h3
      simp [execOp, Instr.box, newVar_run]
    · have hc := cells?_CR hcs (rd_sound h.env x)
      obtain ⟨G', h1, h2, h3⟩ := newBox_sound h hx hc
      refine .value ?_ h1 h2 h3
      simp [execOp, Instr.box, newVar_run]
  case build t parts =>
    simp only [Option.map_eq_some_iff, Prod.mk.injEq] at hx
    obtain ⟨r', hb, rfl, rfl⟩ := hx
    obtain ⟨pl, pr⟩ := parts_rel h.env parts
    obtain ⟨v, h1, h2⟩ := buildAV_sound (P := P) hb pl pr
    refine .value ?_ h .refl h2
    have hparts : (parts.toList.map fun q => (q.1, a.eval q.2)).toArray = parts.map fun (i, x) => (i, a.eval x) := by
      simp [← Array.toList_map]
    rw [hparts] at h1
    simp [execOp, h1]
  case buildSlice t len parts =>
    obtain ⟨q, w', G', h1, h2, h3, h4⟩ := xBuildSlice_to h hx
    exact .value (by simp [execOp, h1]) h2 h3 h4
  case makeSlice t l c =>
    obtain ⟨q, w', G', h1, h2, h3, h4⟩ := xMakeSlice_to h hx (rd_sound h.env l) (rd_sound h.env c)
    exact .value (by simp [execOp, h1]) h2 h3 h4
  case store T x y =>
    obtain ⟨w', G', h1, h2, h3, rfl⟩ := xStoreOp_to h hx
    exact ⟨.skip, undef, w', G', by simp [execOp, h1], .inr ⟨rfl, rfl⟩, h2, h3, .u _⟩
  case slice T x lo hi mx =>
    split at hx
    · exact xPure_to h hx
    · obtain ⟨q, w', G', h1, h2, h3, h4⟩ := xSlice_to h hx
      exact .value (by simp [execOp, h1]) h2 h3 h4
  case call c =>
    obtain ⟨callee, args, tys⟩ := c
    cases callee with
    | value f => exact xPure_to h hx
    | invoke r m => exact xPure_to h hx
    | builtin b =>
      cases b <;> try exact xPure_to h hx
      obtain ⟨args⟩ := args
      obtain ⟨tys⟩ := tys
      simp only at hx
      split at hx
      · rename_i s x t t' 
        obtain ⟨q, w', G', h1, h2, h3, h4⟩ := xAppend_to (ty := ty) h hx
        exact .value (by simp [execOp, resolve, invoke, builtin, h1]) h2 h3 h4
      · cases hx
end
end Go.Am
