/-
  THE ABSTRACT MACHINE: a function's contract out of its body.
-/
import Derived.Test.YtgbkilmgmnhokaaAm12
set_option linter.unusedSimpArgs false
set_option linter.unusedVariables false
namespace Go.Am
open Go

def loadAV (P : Program) (st : St) (T : TypeId) (x : AV) : Option AV :=
  match x with
  | .p id off => match getB st.S st.O id with | some (.box _ cs) => partAV P T ((cs.map strip).drop off) 0 | some (.row _ _ _ cs) => partAV P T (cs.drop off) 0 | _ => none
  | .e cs => partAV P T cs 0
  | _ => none

def resOne (P : Program) (st : St) : ResultVar → Option AV
  | .tmp t => some (st.env.getD t .u)
  | .cell t T => loadAV P st T (st.env.getD t .u)

def resList (P : Program) (st : St) : List ResultVar → Option (List AV)
  | [] => some []
  | v :: vs => match resOne P st v, resList P st vs with | some x, some xs => some (x :: xs) | _, _ => none

def single : List AV → AV
  | [x] => x
  | xs => .t xs

/-- What a frame leaves. -/
def finAV (P : Program) (base : Nat) (fn : Func) (st : St) : Option (AV × List Blk × List Blk) :=
  match resList P st fn.results.toList with
  | some xs =>
    match resList P (st.freezeIn base (argCells xs)) fn.results.toList with
    | some ys => if (single ys).nrm.bel base then some ((single ys).nrm, (st.freezeIn base (argCells xs)).S.take base, (st.freezeIn base (argCells xs)).O) else none
    | none => none
  | none => none

/-- A frame as it begins. -/
def frame0 (args : List AV) (S O : List Blk) (n : Nat) : St := ⟨args ++ List.replicate (n - args.length) .u, S ++ List.replicate n .dead, O⟩

def outB (base : Nat) : Owner → Bool
  | .box (.s n) => decide (n < base)
  | .box (.o _) => true
  | .row m => decide (m < base)
  | .cell (.s n) _ => decide (n < base)
  | .cell (.o _) _ => true
  | .ext _ => true

def cutG (base : Nat) (G : Ghost) : Ghost := fun b => match G b with
  | some o => if outB base o then some o else none
  | none => none

section
variable {base : Nat} {w w' w'' : World} {G G' G'' : Ghost} {S S' S'' O O' O'' : List Blk} {P : Program}

theorem cutG_some {b : Nat} {o : Owner} (h : cutG base G b = some o) : G b = some o ∧ outB base o = true := by
  unfold cutG at h
  split at h
  · split at h <;> simp at h
    subst h
    exact ⟨by assumption, by assumption⟩
  · cases h
theorem cutG_of {b : Nat} {o : Owner} (h : G b = some o) (ho : outB base o = true) : cutG base G b = some o := by unfold cutG; rw [h]; simp [ho]
theorem cutG_none {b : Nat} (h : G b = none) : cutG base G b = none := by unfold cutG; rw [h]

theorem cutG_idle {b : Nat} (h : idle (G b) = true) : cutG base G b = G b := by
  unfold cutG
  cases hg : G b with
  | none => rfl
  | some o => rw [hg] at h; cases o <;> first | rfl | cases h

theorem resOne_sound {st : St} {a : Act} (h : Rel base w G st a) {v : ResultVar} {x : AV} (hx : resOne P st v = some x) :
    ∃ u, (match v with | .tmp t => pure (a.tmps.getD t undef) | .cell t T => do loadVar T (← asAddr (a.tmps.getD t undef)) : Sem Value).run P w = .ok u w ∧ CR w G st.S x u := by
  cases v with
  | tmp t =>
    simp only [resOne, Option.some.injEq] at hx; subst hx
    exact ⟨_, rfl, rd_sound h.env (.tmp t)⟩
  | cell t T =>
    simp only [resOne, loadAV] at hx
    obtain ⟨q, h1, h2⟩ := load_sound (P := P) h.inv (T := T) hx (rd_sound h.env (.tmp t))
    refine ⟨q, ?_, h2⟩
    have hv : (a.eval (.tmp t)) = a.tmps.getD t undef := rfl
    rw [hv] at h1
    unfold Instr.loadAt Instr.sureAddr at h1
    split at h1
    · rename_i ad hp
      show Sem.run P (asAddr (a.tmps.getD t undef) >>= fun y => loadVar T y) w = _
      rw [hp]
      exact h1
    · simp at h1

theorem resList_sound {st : St} {a : Act} (h : Rel base w G st a) : ∀ (l : List ResultVar) {xs : List AV}, resList P st l = some xs →
    ∃ us, (l.mapM fun | ResultVar.tmp t => pure (a.tmps.getD t undef) | ResultVar.cell t T => do loadVar T (← asAddr (a.tmps.getD t undef)) : Sem (List Value)).run P w = .ok us w ∧ CRs w G st.S xs us
  | [], xs, hx => by simp only [resList, Option.some.injEq] at hx; subst hx; exact ⟨[], rfl, .nil⟩
  | v :: l, xs, hx => by
    simp only [resList] at hx
    split at hx
    · rename_i x ys hx1 hx2
      injection hx with hx; subst hx
      obtain ⟨u, q1, q2⟩ := resOne_sound (P := P) h hx1
      obtain ⟨us, q3, q4⟩ := resList_sound h l hx2
      refine ⟨u :: us, ?_, .cons _ _ _ _ q2 q4⟩
      simp only [List.mapM_cons, Sem.run_bind, q1, Result.andThen_ok, q3, Sem.run_pure]
    · cases hx

theorem results_sound {st : St} {a : Act} (h : Rel base w G st a) {fn : Func} {xs : List AV} (hx : resList P st fn.results.toList = some xs) : ∃ u, (results fn a.tmps).run P w = .ok u w ∧ CR w G st.S (single xs) u := by
  obtain ⟨us, h1, h2⟩ := resList_sound (P := P) h _ hx
  have hm : (fn.results.mapM (m := Sem) fun | ResultVar.tmp t => pure (a.tmps.getD t undef) | ResultVar.cell t T => do loadVar T (← asAddr (a.tmps.getD t undef))).run P w = .ok us.toArray w := by
    rw [Array.mapM_eq_mapM_toList]
    simp only [Sem.run_map]
    rw [h1]; rfl
  have hr : (results fn a.tmps).run P w = .ok (if hsz : us.toArray.size = 1 then us.toArray[0] else .tuple us.toArray) w := by
    have this : (results fn a.tmps).run P w = ((fn.results.mapM (m := Sem) fun | ResultVar.tmp t => pure (a.tmps.getD t undef) | ResultVar.cell t T => do loadVar T (← asAddr (a.tmps.getD t undef))).run P w).andThen (fun vs w' => (pure (if hsz : vs.size = 1 then vs[0] else .tuple vs) : Sem Value).run P w') := by
      unfold results; simp only [Sem.run_bind]; rfl
    rw [this, hm]; rfl
  refine ⟨_, hr, ?_⟩
  cases h2 with
  | nil => exact .t _ _ .nil
  | cons x v xs' us' h3 h4 =>
    cases h4 with
    | nil => exact h3
    | cons x' v' xs'' us'' h5 h6 => exact .t _ _ (.cons _ _ _ _ h3 (.cons _ _ _ _ h5 h6))

theorem dead_get {S : List Blk} {n k : Nat} {b : Blk} (h : (S ++ List.replicate n Blk.dead)[k]? = some b) (hb : b ≠ .dead) : S[k]? = some b := by
  rw [List.getElem?_append] at h
  split at h
  · exact h
  · rw [List.getElem?_replicate] at h
    split at h <;> simp at h
    exact absurd h.symm hb

theorem get_dead {S : List Blk} {n k : Nat} {b : Blk} (h : S[k]? = some b) : (S ++ List.replicate n Blk.dead)[k]? = some b := by
  rw [List.getElem?_append_left (List.getElem?_eq_some_iff.1 h).1]; exact h

theorem frame0_rel {args : List AV} {vargs : List Value} {n : Nat} (hI : InvH w G S O) (hs : Scoped S O) (hc : CRs w G S args vargs) (hn : args.length ≤ n) :
    Rel S.length w G (frame0 args S O n) { tmps := vargs.toArray ++ Array.replicate (n - vargs.toArray.size) undef, defers := [] } ∧ Keep w G S w G (S ++ List.replicate n .dead) (fun _ => True) := by
  have hk : Keep w G S w G (S ++ List.replicate n .dead) (fun _ => True) := ⟨fun _ _ _ => ⟨rfl, rfl⟩, Nat.le_refl _, fun _ _ _ h => h, fun m _ e sz k cs h => ⟨get_dead h, fun _ h => ⟨h, rfl⟩⟩⟩
  have hl : vargs.length = args.length := hc.length.symm
  have hgb : ∀ id T cs, getB (S ++ List.replicate n .dead) O id = some (.box T cs) → getB S O id = some (.box T cs) := by
    intro id T cs h
    cases id with
    | o k => exact h
    | s k => exact dead_get h (by simp)
  have hgb' : ∀ id b, getB S O id = some b → getB (S ++ List.replicate n .dead) O id = some b := by
    intro id b h
    cases id with
    | o k => exact h
    | s k => exact get_dead h
  refine ⟨⟨rfl, by simp [frame0, hl], ?_, ?_, by simp [frame0]; omega, ?_, ?_, ?_, hs.2⟩, hk⟩
  · have := (hc.keep hk (fun _ _ => trivial)).append (CRs.replicate_u (w := w) (G := G) (S := S ++ List.replicate n .dead) (n - args.length) (List.replicate (n - vargs.length) undef) (by simp [hl]))
    simpa [frame0] using this
  · refine ⟨hI.inj, hI.rng, fun b o hb => ?_, hI.orow, fun m e sz k cs b hm hb => ?_, fun id T cs h => ?_⟩
    · have := hI.live b o hb
      cases o with
      | box id =>
        rcases this with ⟨T, cs, h⟩ | ⟨e, sz, k, cs, h⟩
        · exact .inl ⟨T, cs, hgb' id _ h⟩
        · exact .inr ⟨e, sz, k, cs, hgb' id _ h⟩
      | cell id _ => obtain ⟨T, cs, h⟩ := this; exact ⟨T, cs, hgb' id _ h⟩
      | ext _ => trivial
      | row m => obtain ⟨e, sz, k, cs, h⟩ := this; exact ⟨e, sz, k, cs, get_dead h⟩
    · have hm' := dead_get hm (by simp)
      exact (hI.row m e sz k cs b hm' hb).keep hk trivial hm'
    · obtain ⟨b, vs, h1, h2, h3, h4⟩ := hI.box id T cs (hgb id T cs h)
      exact ⟨b, vs, h1, h2, h3, fun j x v hx hv => (h4 j x v hx hv).keep hk (fun _ _ => trivial) (fun b' h' => ⟨h', rfl⟩)⟩
  · have h1 := CRs_bel hI hc
    rw [belL_mem] at h1 ⊢
    intro x hx
    simp only [frame0, List.mem_append] at hx
    rcases hx with hx | hx
    · exact bel_mono (by simp [frame0]) (h1 x hx)
    · rw [List.mem_replicate] at hx; rw [hx.2]; rfl
  · intro k T cs h
    exact belL_mono (by simp [frame0]) (hs.1 k T cs (dead_get h (by simp)))
  · intro k T cs hk' h
    exact hs.1 k T cs (dead_get h (by simp))

theorem take_get {S : List Blk} {n k : Nat} {b : Blk} (h : (S.take n)[k]? = some b) : k < n ∧ S[k]? = some b := by
  rw [List.getElem?_take] at h
  split at h
  · exact ⟨by assumption, h⟩
  · cases h

/-- A function's contract out of its body. -/
theorem valid_of_awp {f : FuncId} {fn : Func} {c : Code} {args : List AV} {r : AV} (hf : P.funcs[f]? = some fn) (hb : fn.body = some c) (hn : args.length ≤ fn.ntmps)
    (h : AWP P S.length c (fun e st => (e = .normal ∨ e = .ret) ∧ finAV P S.length fn st = some (r, S', O')) (frame0 args S O fn.ntmps)) : ValidAt P f args S O r S' O' := by
  intro w G vargs hI hs hc
  obtain ⟨hrel, hk0⟩ := frame0_rel hI hs hc hn
  refine calls_of_wp hf hb (wp_mono (h w G _ hrel) ?_)
  rintro e a' w' ⟨st, G1, ⟨he, hfin⟩, hr, hev⟩
  unfold finAV at hfin
  split at hfin
  rotate_left
  · cases hfin
  rename_i xs hxs
  split at hfin
  rotate_left
  · cases hfin
  rename_i ys hys
  split at hfin
  rotate_left
  · cases hfin
  rename_i hbel
  simp only [Option.some.injEq, Prod.mk.injEq] at hfin
  obtain ⟨rfl, rfl, rfl⟩ := hfin
  obtain ⟨G2, g1, g2⟩ := Rel.freezeIn (argCells xs) hr
  obtain ⟨u, u1, u2⟩ := results_sound (P := P) g1 hys
  generalize hst2 : st.freezeIn S.length (argCells xs) = st2 at *
  have hev2 := hev.trans g2
  have hlen2 : st2.S.length = S.length + fn.ntmps := by rw [hev2.lenS]; simp [frame0]
  -- what is cut off
  have hkc : Keep w' G2 st2.S w' (cutG S.length G2) (st2.S.take S.length) (outO S.length) := by
    refine ⟨fun b _ hg => ⟨rfl, cutG_idle hg⟩, Nat.le_refl _, fun o ho b hb => cutG_of hb ?_, fun m hm e sz k cs hS => ⟨?_, fun b hb => ⟨cutG_of hb (by simpa [outB, outO] using hm), rfl⟩⟩⟩
    · cases o with
      | box id => cases id with
        | o n => rfl
        | s n => simpa [outB, outO] using ho
      | row m => simpa [outB, outO] using ho
      | cell _ _ => exact ho.elim
      | ext _ => rfl
    · rw [List.getElem?_take, if_pos (show m < S.length from hm)]; exact hS
  have hgb : ∀ id T cs, getB (st2.S.take S.length) st2.O id = some (.box T cs) → getB st2.S st2.O id = some (.box T cs) ∧ outO S.length (.box id) ∧ AV.belL S.length cs = true := by
    intro id T cs hh
    cases id with
    | o k => exact ⟨hh, trivial, belL_mono (Nat.zero_le _) (g1.scopeO k T cs hh)⟩
    | s k => obtain ⟨q1, q2⟩ := take_get hh; exact ⟨q2, q1, g1.scopeB k T cs q1 q2⟩
  have hInv : InvH w' (cutG S.length G2) (st2.S.take S.length) st2.O := by
    refine ⟨fun b b' o hb hb' => g1.inv.inj b b' o (cutG_some hb).1 (cutG_some hb').1, fun b o hb => g1.inv.rng b o (cutG_some hb).1, fun b o hb => ?_, g1.inv.orow, fun m e sz k cs b hm hb => ?_, fun id T cs hh => ?_⟩
    · obtain ⟨q1, q2⟩ := cutG_some hb
      have hal := g1.inv.live b o q1
      have htk : ∀ id b, (∀ n, id = .s n → n < S.length) → getB st2.S st2.O id = some b → getB (st2.S.take S.length) st2.O id = some b := by
        intro id b hid hh
        cases id with
        | o k => exact hh
        | s k => simp only [getB] at hh ⊢; rw [List.getElem?_take, if_pos (hid k rfl)]; exact hh
      cases o with
      | box id =>
        have hid : ∀ n, id = .s n → n < S.length := fun n e => by subst e; simpa [outB, outO] using q2
        rcases hal with ⟨T, cs, hh⟩ | ⟨e, sz, k, cs, hh⟩
        · exact .inl ⟨T, cs, htk id _ hid hh⟩
        · exact .inr ⟨e, sz, k, cs, htk id _ hid hh⟩
      | cell id _ =>
        have hid : ∀ n, id = .s n → n < S.length := fun n e => by subst e; simpa [outB, outO] using q2
        obtain ⟨T, cs, hh⟩ := hal
        exact ⟨T, cs, htk id _ hid hh⟩
      | ext _ => trivial
      | row m =>
        obtain ⟨e, sz, k, cs, hh⟩ := hal
        exact ⟨e, sz, k, cs, by rw [List.getElem?_take, if_pos (by simpa [outB, outO] using q2)]; exact hh⟩
    · obtain ⟨q1, q2⟩ := take_get hm
      exact (g1.inv.row m e sz k cs b q2 (cutG_some hb).1).keep hkc q1 q2
    · obtain ⟨q1, q2, q3⟩ := hgb id T cs hh
      obtain ⟨b, vs, p1, p2, p3, p4⟩ := g1.inv.box id T cs q1
      refine ⟨b, vs, hkc.own _ q2 b p1, p2, p3, fun j x v hx hv => ?_⟩
      refine (p4 j x v hx hv).keep hkc (fun o ho => bel_has (belL_mem.1 q3 x (List.mem_of_getElem? hx)) o ho) (fun b' hb' => ⟨cutG_of hb' ?_, rfl⟩)
      cases id with
      | o k => rfl
      | s k => simpa [outB, outO] using q2
  have hcr : CR w' (cutG S.length G2) (st2.S.take S.length) (single ys).nrm u := (u2.nrm).keep hkc (fun o ho => bel_has hbel o ho)
  have hsc : Scoped (st2.S.take S.length) st2.O := by
    refine ⟨fun n T cs hh => ?_, g1.scopeO⟩
    obtain ⟨q1, q2⟩ := take_get hh
    have : (st2.S.take S.length).length = S.length := by simp [hlen2]
    rw [this]
    exact g1.scopeB n T cs q1 q2
  have hevf : FEvol S.length w G S O w' (cutG S.length G2) (st2.S.take S.length) st2.O := by
    refine ⟨((hk0.imp (fun _ _ => trivial)).trans hev2.keep).trans hkc, hev2.os, hev2.tape, hev2.output, by simp [hlen2], hev2.lenO, fun n β hlt hh T cs hc' => ?_⟩
    obtain ⟨q1, q2⟩ := take_get hc'
    exact hev2.shr n β hlt (fun T cs h' => hh T cs (dead_get h' (by simp))) T cs q2
  have hpost : ∃ v, (results fn a'.tmps).run P w' = .ok v w' ∧ ∃ v' G', Ending.returned v = .returned v' ∧ InvH w' G' (st2.S.take S.length) st2.O ∧ Scoped (st2.S.take S.length) st2.O ∧ CR w' G' (st2.S.take S.length) (single ys).nrm v' ∧ FEvol S.length w G S O w' G' (st2.S.take S.length) st2.O :=
    ⟨u, u1, u, _, rfl, hInv, hsc, hcr, hevf⟩
  rcases he with rfl | rfl
  · exact ⟨g1.defers, hpost⟩
  · exact ⟨g1.defers, hpost⟩
end
end Go.Am
