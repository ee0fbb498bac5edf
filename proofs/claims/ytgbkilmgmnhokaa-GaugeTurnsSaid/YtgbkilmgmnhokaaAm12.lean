/-
  THE ABSTRACT MACHINE: calls by what the callees come to; a region in the order of its text; the code's rules.
-/
import Derived.Test.YtgbkilmgmnhokaaAm11
set_option linter.unusedSimpArgs false
set_option linter.unusedVariables false
namespace Go.Am
open Go

def Scoped (S O : List Blk) : Prop :=
  (∀ (n : Nat) (T : TypeId) (cs : List AV), S[n]? = some (.box T cs) → AV.belL S.length cs = true) ∧ ∀ (n : Nat) (T : TypeId) (cs : List AV), O[n]? = some (.box T cs) → AV.belL 0 cs = true

/-- Called so, a function comes to that. -/
def ValidAt (P : Program) (f : FuncId) (args : List AV) (S O : List Blk) (r : AV) (S' O' : List Blk) : Prop :=
  ∀ (w : World) (G : Ghost) (vargs : List Value), InvH w G S O → Scoped S O → CRs w G S args vargs →
    Calls P f vargs.toArray w fun e w' => ∃ v G', e = .returned v ∧ InvH w' G' S' O' ∧ Scoped S' O' ∧ CR w' G' S' r v ∧ FEvol S.length w G S O w' G' S' O'

/-- What the functions that are called come to. -/
abbrev Tab := FuncId → List AV → List Blk → List Blk → Option (AV × List Blk × List Blk)

def Tab.valid (P : Program) (F : Tab) : Prop := ∀ f args S O r S' O', F f args S O = some (r, S', O') → ValidAt P f args S O r S' O'

mutual
def AV.nrm : AV → AV
  | .s .sn => .l 0 []
  | .a cs => .a (AV.nrmL cs)
  | .t cs => .t (AV.nrmL cs)
  | x => x
def AV.nrmL : List AV → List AV
  | [] => []
  | x :: xs => AV.nrm x :: AV.nrmL xs
end

def argCells (xs : List AV) : List AV := (xs.map fun x => x.cells?.getD []).flatten

/-- The function that a callee's value is, what stands ahead of its arguments, and behind. -/
def calleeAV (env : List AV) : Operand → Option (FuncId × List AV × List AV)
  | .func f => some (f, [], [])
  | .tmp t => match env.getD t .u with | .f f fs cs => some (f, fs, cs) | _ => none
  | _ => none

def hasBody (P : Program) (f : FuncId) : Bool :=
  match P.funcs[f]? with
  | some fn => fn.body.isSome && fn.name != "runtime.NumGoroutine"
  | none => false

def extVal (P : Program) (f : FuncId) (vs : List Value) : Option Value :=
  match evalPure P (callFunc f vs.toArray) with
  | some (.value v) => some v
  | _ => none

def toVs : List AV → Option (List Value)
  | [] => some []
  | x :: xs => match toV x, toVs xs with | some v, some vs => some (v :: vs) | _, _ => none

/-- A call of a function. -/
def xCall (P : Program) (F : Tab) (base : Nat) (callee : Operand) (args : Array Operand) (st : St) : Option (AV × St) :=
  let st1 := st.freezeIn base (argCells (args.toList.map (rd st.env)))
  match calleeAV st1.env callee with
  | some (f, fs, cs) =>
    let xs := AV.nrmL (fs ++ args.toList.map (rd st1.env) ++ cs)
    if hasBody P f then
      match F f xs st1.S st1.O with
      | some (r, S', O') => some (r, { st1 with S := S', O := O' })
      | none => none
    else match toVs xs with
      | some vs => match extVal P f vs with | some v => some (ofV v, st1) | none => none
      | none => none
  | none => none

def aWant (ops : Array Oper) (o : Oper) (env : List AV) : Option Bool :=
  match o.guard with
  | none => some true
  | some (j, want) =>
    match (ops[j]?).bind (·.dst) with
    | some d => match env[d]? with | some (.s (.b x)) => some (x == want) | some (.t []) => some false | _ => none
    | none => none

/-- One operation. -/
def xStep (P : Program) (F : Tab) (esc : Nat → Bool) (base : Nat) (ops : Array Oper) (o : Oper) (st : St) : Option St :=
  match aWant ops o st.env with
  | none => none
  | some false => some (st.put o.dst (.t []))
  | some true =>
    match o.op with
    | .call { callee := .value f, args, .. } => (xCall P F base f args st).map fun q => q.2.put o.dst q.1
    | _ => (xOp P esc base o st).map fun q => q.2.put o.dst q.1

def xOps (P : Program) (F : Tab) (esc : Nat → Bool) (base : Nat) (ops : Array Oper) : List Oper → St → Option St
  | [], st => some st
  | o :: os, st => (xStep P F esc base ops o st).bind (xOps P F esc base ops os)

section
variable {base : Nat} {w w' w'' : World} {G G' G'' : Ghost} {S S' S'' O O' O'' : List Blk} {P : Program}

mutual
theorem CR.nrm {x : AV} {v : Value} (h : CR w G S x v) : CR w G S x.nrm v :=
  match x, v, h with
  | _, _, .u v => .u v
  | _, _, .s .sn => .l 0 [] none 0 [] .nil (Nat.le_refl _) (Nat.zero_le _) (fun _ h => by cases h) (fun h => absurd rfl h) (fun _ => rfl)
  | _, _, .s (.b x) => .s (.b x)
  | _, _, .s (.i k n) => .s (.i k n)
  | _, _, .s (.fl k n) => .s (.fl k n)
  | _, _, .s (.cx k a b) => .s (.cx k a b)
  | _, _, .s (.str x) => .s (.str x)
  | _, _, .s .pn => .s .pn
  | _, _, .s .fz => .s .fz
  | _, _, .l n cs A c vs h1 h2 h3 h4 h5 h6 => .l n cs A c vs h1 h2 h3 h4 h5 h6
  | _, _, .e cs a vs h1 h2 h3 => .e cs a vs h1 h2 h3
  | _, _, .p id off b h => .p id off b h
  | _, _, .r n e sz k cs vs v h1 h2 h3 h4 => .r n e sz k cs vs v h1 h2 h3 h4
  | _, _, .f fn fs cs vf vc h1 h2 => .f fn fs cs vf vc h1 h2
  | _, _, .a cs vs h => .a _ _ (CRs.nrm h)
  | _, _, .t cs vs h => .t _ _ (CRs.nrm h)
theorem CRs.nrm {xs : List AV} {vs : List Value} (h : CRs w G S xs vs) : CRs w G S (AV.nrmL xs) vs :=
  match xs, vs, h with
  | _, _, .nil => .nil
  | _, _, .cons x v xs vs h1 h2 => .cons _ _ _ _ (CR.nrm h1) (CRs.nrm h2)
end

theorem toVs_CR : ∀ {xs : List AV} {vs us : List Value}, toVs xs = some vs → CRs w G S xs us → us = vs
  | [], vs, us, h, hc => by cases hc; simp [toVs] at h; exact h.symm
  | x :: xs, vs, us, h, hc => by
    cases hc with
    | cons _ v _ us' h1 h2 =>
      simp only [toVs] at h
      split at h
      · rename_i v' vs' e1 e2
        injection h with h; subst h
        rw [toV_CR e1 h1, toVs_CR e2 h2]
      · cases h

theorem calleeAV_sound {env : List AV} {a : Act} (hc : CRs w G S env a.tmps.toList) {x : Operand} {f : FuncId} {fs cs : List AV} (h : calleeAV env x = some (f, fs, cs)) :
    ∃ vf vc, a.eval x = .func (.func f) vf.toArray vc.toArray ∧ CRs w G S fs vf ∧ CRs w G S cs vc := by
  unfold calleeAV at h
  split at h
  · simp only [Option.some.injEq, Prod.mk.injEq] at h
    obtain ⟨rfl, rfl, rfl⟩ := h
    exact ⟨[], [], rfl, .nil, .nil⟩
  · rename_i t
    have ht := rd_sound (w := w) (G := G) (S := S) hc (.tmp t)
    simp only [rd] at ht
    split at h
    · rename_i f' fs' cs' hh
      simp only [Option.some.injEq, Prod.mk.injEq] at h
      obtain ⟨rfl, rfl, rfl⟩ := h
      rw [hh] at ht
      generalize a.eval (.tmp t) = v at ht
      cases ht with | f _ _ _ vf vc h1 h2 => exact ⟨vf, vc, rfl, h1, h2⟩
    · cases h
  · cases h

theorem Rel.scp {st : St} {a : Act} (h : Rel base w G st a) : Scoped st.S st.O := ⟨h.scopeS, h.scopeO⟩

/-- Behind a call. -/
theorem Rel.after {st : St} {a : Act} (h : Rel base w G st a) (hI : InvH w' G' S' O') (hs : Scoped S' O') (hev : FEvol st.S.length w G st.S st.O w' G' S' O') : Rel base w' G' { st with S := S', O := O' } a := by
  refine ⟨h.defers, h.size, h.env.keep hev.keep (fun o ho => belL_has h.scopeE o ho), hI, ?_, ?_, hs.1, ?_, hs.2⟩
  · rw [hev.lenS]; exact h.len
  · rw [hev.lenS]; exact h.scopeE
  · intro n T cs hn hh
    have hl := h.len
    exact hev.shr n base (by omega) (fun T cs hh => h.scopeB n T cs hn hh) T cs hh

theorem FEvol.wider {st : St} {a : Act} (h : Rel base w G st a) (hev : FEvol st.S.length w G st.S st.O w' G' S' O') : FEvol base w G st.S st.O w' G' S' O' := by
  have hl := h.len
  refine ⟨hev.keep.imp (fun o ho => ?_), hev.os, hev.tape, hev.output, hev.lenS, hev.lenO, fun n β hn => hev.shr n β (by omega)⟩
  cases o with
  | box id => cases id with
    | o n => trivial
    | s n => simp only [outO] at ho ⊢; omega
  | row m => simp only [outO] at ho ⊢; omega
  | cell _ _ => exact ho
  | ext _ => trivial

theorem evalPure_bind {α β : Type} {s : Sem α} {f : α → Sem β} {x : α} (h : evalPure P s = some x) : evalPure P (s >>= f) = evalPure P (f x) := by
  show evalPure P (s.bind f) = _
  induction s with
  | pure a => simp only [evalPure, Option.some.injEq] at h; subst h; rfl
  | program k ih => simp only [evalPure] at h; simp only [Sem.bind, evalPure]; exact ih P h
  | mark m k ih => simp only [evalPure] at h; simp only [Sem.bind, evalPure]; exact ih h
  | _ => simp [evalPure] at h

theorem callFunc_body {f : FuncId} {vs : Array Value} (h : hasBody P f = true) (w : World) : (callFunc f vs).run P w = .ok (.enter f vs) w := by
  unfold hasBody at h
  split at h
  · rename_i fn hf
    simp only [Bool.and_eq_true, bne_iff_ne, ne_eq] at h
    obtain ⟨h1, h2⟩ := h
    have h3 : fn.body.isNone = false := by cases hb : fn.body <;> simp_all
    simp [callFunc, hf, h2]
    intro hn; rw [hn] at h1; cases h1
  · cases h

theorem xStep_sound {F : Tab} (hF : F.valid P) {esc : Nat → Bool} {ops : Array Oper} {o : Oper} {st st' : St} {a : Act} (h : Rel base w G st a) (hx : xStep P F esc base ops o st = some st')
    {K : Act → World → Prop} {Q : Exit → Act → World → Prop} (hK : ∀ w' G' a', Rel base w' G' st' a' → FEvol base w G st.S st.O w' G' st'.S st'.O → K a' w') :
    if Region.wanted o (yielded ops a.tmps) then o.wp P a w K Q ∨ (o.asks P a w ∧ LetsOut Q) else K (a.put o.dst undef) w := by
  unfold xStep at hx
  have hwant : ∀ b, aWant ops o st.env = some b → Region.wanted o (yielded ops a.tmps) = b := by
    intro b hb
    unfold aWant at hb
    unfold Region.wanted
    split at hb
    · rename_i hg; rw [hg]; simpa using hb
    · rename_i j want hg
      rw [hg]
      split at hb
      · rename_i d hd
        split at hb
        · rename_i x hx'
          injection hb with hb
          obtain ⟨v, hv, hcr⟩ := h.env.get hx'
          cases hcr
          have hv' : a.tmps[d]? = some (.bool x) := by simpa [Sc.val] using hv
          simp only [yielded, hd, Option.bind_some, hv']
          rw [← hb]
          cases x <;> cases want <;> rfl
        · rename_i hx'
          injection hb with hb
          obtain ⟨v, hv, hcr⟩ := h.env.get hx'
          cases hcr with | t _ vs hvs =>
          cases hvs
          have hv' : a.tmps[d]? = some (.tuple #[]) := by simpa using hv
          simp only [yielded, hd, Option.bind_some, hv']
          rw [← hb]
          cases want <;> rfl
        · cases hb
      · cases hb
  split at hx
  · cases hx
  · rename_i hw
    rw [hwant _ hw]
    injection hx with hx; subst hx
    simp only [Bool.false_eq_true, if_false]
    exact hK w G _ (h.put o.dst (.t [] [] .nil) rfl) (by cases hd : o.dst <;> exact .refl)
  · rename_i hw
    rw [hwant _ hw]
    simp only [if_true]
    refine .inl ?_
    split at hx
    · -- a call
      rename_i callee args tys hop
      simp only [Option.map_eq_some_iff] at hx
      obtain ⟨⟨r, st2⟩, hcall, rfl⟩ := hx
      obtain ⟨G1, g1, g2⟩ := Rel.freezeIn (argCells (args.toList.map (rd st.env))) h
      unfold xCall at hcall
      simp only at hcall
      split at hcall
      rotate_left
      · cases hcall
      rename_i f fs cs hcal
      obtain ⟨vf, vc, hv, hfs, hcs⟩ := calleeAV_sound g1.env hcal
      have hargs : CRs w G1 (st.freezeIn base (argCells (args.toList.map (rd st.env)))).S (AV.nrmL (fs ++ args.toList.map (rd (st.freezeIn base (argCells (args.toList.map (rd st.env)))).env) ++ cs)) (vf ++ args.toList.map a.eval ++ vc) :=
        CRs.nrm ((hfs.append (rds_sound g1.env _)).append hcs)
      have hexec : ∀ n w1, (callFunc f (vf ++ args.toList.map a.eval ++ vc).toArray).run P w = .ok n w1 → (execOp a.eval o).run P w = .ok n w1 := by
        intro n w1 hn
        obtain ⟨dst, op, ty, pos, after, guard⟩ := o
        simp only at hop; subst hop
        have e : vf.toArray ++ args.map a.eval ++ vc.toArray = (vf ++ args.toList.map a.eval ++ vc).toArray := by
          simp [← Array.toList_map]
        simp only [execOp, resolve, hv, Deferred.ofValue, Sem.run_bind, Sem.run_pure, Result.andThen_ok, invoke]
        rw [e]
        exact hn
      split at hcall
      · rename_i hb
        split at hcall
        rotate_left
        · cases hcall
        rename_i r' S' O' hF'
        simp only [Option.some.injEq, Prod.mk.injEq] at hcall
        obtain ⟨rfl, rfl⟩ := hcall
        have hval := hF _ _ _ _ _ _ _ hF' w G1 _ g1.inv g1.scp hargs
        unfold Oper.wp
        rw [hexec _ _ (callFunc_body hb w)]
        simp only [Oper.upon]
        refine hval.mono ?_
        rintro e w' ⟨v, G', rfl, hI, hs, hcr, hev⟩
        have hrel := g1.after hI hs hev
        refine hK w' G' _ (hrel.put o.dst hcr (CR_bel hI hcr)) ?_
        have := g2.trans (hev.wider g1)
        cases hd : o.dst <;> simpa [St.put, hd] using this
      · split at hcall
        rotate_left
        · cases hcall
        rename_i vs hvs
        split at hcall
        rotate_left
        · cases hcall
        rename_i v hext
        simp only [Option.some.injEq, Prod.mk.injEq] at hcall
        obtain ⟨rfl, rfl⟩ := hcall
        have hus := toVs_CR hvs hargs
        unfold extVal at hext
        split at hext
        · rename_i v' hev
          injection hext with hext; subst hext
          rw [← hus] at hev
          unfold Oper.wp
          rw [hexec _ _ (evalPure_run hev w)]
          simp only [Oper.upon]
          refine hK w G1 _ (g1.put o.dst (CR_ofV _) (CR_bel g1.inv (CR_ofV v'))) ?_
          cases hd : o.dst <;> simpa [St.put, hd] using g2
        · cases hext
    · simp only [Option.map_eq_some_iff] at hx
      obtain ⟨⟨r, st2⟩, hop, rfl⟩ := hx
      obtain ⟨nv, val, w', G', hr, hnv, h1, h2, h3⟩ := xOp_sound h hop
      unfold Oper.wp
      rw [hr]
      have hfin : K (a.put o.dst val) w' := by
        refine hK w' G' _ (h1.put o.dst h3 (CR_bel h1.inv h3)) ?_
        cases hd : o.dst <;> simpa [St.put, hd] using h2
      rcases hnv with rfl | ⟨rfl, rfl⟩
      · exact hfin
      · exact hfin

theorem xOps_sound {F : Tab} (hF : F.valid P) {esc : Nat → Bool} {ops : Array Oper} {Q : Exit → Act → World → Prop} : ∀ (os : List Oper) (k : Nat), (∀ j, os[j]? = ops[k + j]?) → ∀ {w : World} {G : Ghost} {st st' : St} {a : Act}, Rel base w G st a → xOps P F esc base ops os st = some st' →
    (∀ w' G' a', Rel base w' G' st' a' → FEvol base w G st.S st.O w' G' st'.S st'.O → Q .normal a' w') → wpOps P ops Q ((List.range os.length).map (k + ·)) a w
  | [], k, _, w, G, st, st', a, h, hx, hQ => by
    simp only [xOps, Option.some.injEq] at hx; subst hx
    exact hQ w G a h .refl
  | o :: os, k, hos, w, G, st, st', a, h, hx, hQ => by
    simp only [xOps, Option.bind_eq_some_iff] at hx
    obtain ⟨st1, h1, h2⟩ := hx
    have ho : ops[k]? = some o := by have := hos 0; simpa using this.symm
    rw [List.length_cons, List.range_succ_eq_map, List.map_cons, List.map_map]
    simp only [wpOps, Nat.add_zero, ho]
    have hcongr : (List.range os.length).map ((k + ·) ∘ Nat.succ) = (List.range os.length).map (k + 1 + ·) := by
      apply List.map_congr_left; intro x _; simp only [Function.comp]; omega
    rw [hcongr]
    exact xStep_sound hF h h1 (fun w' G' a' hr hev => xOps_sound hF os (k + 1) (fun j => by have := hos (j + 1); simp only [List.getElem?_cons_succ] at this; rw [this]; congr 1; omega) hr h2 (fun w'' G'' a'' hr' hev' => hQ w'' G'' a'' hr' (hev.trans hev')))
end

/-! ### The rules of the code -/
/-- From that state on, the code ends so. -/
def AWP (P : Program) (base : Nat) (c : Code) (Q : Exit → St → Prop) (st : St) : Prop :=
  ∀ (w : World) (G : Ghost) (a : Act), Rel base w G st a → c.wp P (fun e a' w' => ∃ st' G', Q e st' ∧ Rel base w' G' st' a' ∧ FEvol base w G st.S st.O w' G' st'.S st'.O) a w

def thenA (K : St → Prop) (Q : Exit → St → Prop) : Exit → St → Prop
  | .normal, st => K st
  | e, st => Q e st

def inBlockA (id : Nat) (Q : Exit → St → Prop) : Exit → St → Prop
  | .exit id', st => if id' = id then Q .normal st else Q (.exit id') st
  | e, st => Q e st

section
variable {base : Nat} {P : Program} {Q : Exit → St → Prop} {st : St}

theorem AWP.mono {c : Code} {Q' : Exit → St → Prop} (h : AWP P base c Q st) (hq : ∀ e st, Q e st → Q' e st) : AWP P base c Q' st :=
  fun w G a hr => wp_mono (h w G a hr) fun _ _ _ ⟨st', G', h1, h2, h3⟩ => ⟨st', G', hq _ _ h1, h2, h3⟩

theorem AWP.skip (h : Q .normal st) : AWP P base .skip Q st := fun w G a hr => wp_skip ⟨st, G, h, hr, .refl⟩
theorem AWP.exit_ {id : Nat} (h : Q (.exit id) st) : AWP P base (.exit id) Q st := fun w G a hr => wp_exit ⟨st, G, h, hr, .refl⟩
theorem AWP.ret (h : Q .ret st) : AWP P base .ret Q st := fun w G a hr => wp_ret ⟨st, G, h, hr, .refl⟩

theorem AWP.seq {x y : Code} (h : AWP P base x (thenA (AWP P base y Q) Q) st) : AWP P base (.seq x y) Q st := fun w G a hr => by
  refine wp_seq (wp_mono (h w G a hr) ?_)
  rintro e a' w' ⟨st', G', h1, h2, h3⟩
  cases e <;> first
    | exact ⟨st', G', h1, h2, h3⟩
    | exact wp_mono (h1 w' G' a' h2) fun _ _ _ ⟨st'', G'', q1, q2, q3⟩ => ⟨st'', G'', q1, q2, h3.trans q3⟩

theorem AWP.cond {c : Operand} {x y : Code} {t : Bool} (hc : rd st.env c = .s (.b t)) (h : AWP P base (if t then x else y) Q st) : AWP P base (.cond c x y) Q st := fun w G a hr => by
  have hv := rd_sound hr.env c
  rw [hc] at hv
  generalize he : a.eval c = v at hv
  cases hv
  exact wp_cond he (h w G a hr)

theorem AWP.block {id : Nat} {c : Code} (h : AWP P base c (inBlockA id Q) st) : AWP P base (.block id c) Q st := fun w G a hr => by
  refine wp_block (wp_mono (h w G a hr) ?_)
  rintro e a' w' ⟨st', G', h1, h2, h3⟩
  cases e <;> try exact ⟨st', G', h1, h2, h3⟩
  rename_i id'
  simp only [inBlockA] at h1
  simp only [Exit.inBlock]
  split
  · rename_i e; rw [if_pos e] at h1; exact ⟨st', G', h1, h2, h3⟩
  · rename_i e; rw [if_neg e] at h1; exact ⟨st', G', h1, h2, h3⟩

theorem AWP.region {F : Tab} (hF : F.valid P) (esc : Nat → Bool) {id : Nat} {ops : Array Oper} {st' : St} (h : xOps P F esc base ops ops.toList st = some st') (hq : Q .normal st') : AWP P base (.region id ops false) Q st := fun w G a hr => by
  have := xOps_sound (P := P) hF (ops := ops) (Q := fun e a' w' => ∃ st' G', Q e st' ∧ Rel base w' G' st' a' ∧ FEvol base w G st.S st.O w' G' st'.S st'.O) ops.toList 0 (fun j => by simp) hr h (fun w' G' a' h1 h2 => ⟨st', G', hq, h1, h2⟩)
  refine wp_region ?_
  simpa using this

/-- A loop, by a measure that each round lowers. -/
theorem wp_loopN {P : Program} {Q : Exit → Act → World → Prop} {c : Code} {a : Act} {w : World} (J : Nat → Act → World → Prop) (n₀ : Nat) (h₀ : J n₀ a w)
    (round : ∀ n a w, J n a w → c.wp P (Exit.then (fun a' w' => ∃ m, m < n ∧ J m a' w') Q) a w) : (Code.loop c).wp P Q a w := by
  intro b k cs
  have key : ∀ n a w, J n a w → ∃ e a' w', Q e a' w' ∧ Arrives P (lone (b.at a (.code c :: .inLoop c :: k)) cs w) b k cs e a' w' := by
    intro n
    induction n using Nat.strongRecOn with
    | _ n ih =>
      intro a w hI
      obtain ⟨e, a₁, w₁, hq, harr⟩ := round n a w hI b (.inLoop c :: k) cs
      cases e with
      | normal =>
        obtain ⟨m, hlt, hI₁⟩ := hq
        obtain ⟨e₂, a₂, w₂, hq₂, harr₂⟩ := ih m hlt a₁ w₁ hI₁
        exact ⟨e₂, a₂, w₂, hq₂, .of_steps (Steps.trans harr (.one step_inLoop)) harr₂⟩
      | exit id => exact ⟨_, a₁, w₁, hq, .pass (x := .inLoop c) rfl (fun _ _ => .inl (by simp)) harr⟩
      | goto l => exact ⟨_, a₁, w₁, hq, .pass (x := .inLoop c) rfl (fun _ _ => .inl (by simp)) harr⟩
      | ret => exact ⟨_, a₁, w₁, hq, .pass (x := .inLoop c) rfl (fun _ _ => .inl (by simp)) harr⟩
      | panic ch => exact ⟨_, a₁, w₁, hq, .pass (x := .inLoop c) rfl (fun _ _ => .inl (by simp)) harr⟩
      | outgrown => exact ⟨_, a₁, w₁, hq, .pass (x := .inLoop c) rfl (fun _ _ => .inl (by simp)) harr⟩
  obtain ⟨e, a', w', hq, harr⟩ := key n₀ a w h₀
  exact ⟨e, a', w', hq, .of_steps (.one step_loop) harr⟩

theorem AWP.loop {c : Code} (I : Nat → St → Prop) (n₀ : Nat) (h₀ : I n₀ st) (round : ∀ n st, I n st → AWP P base c (thenA (fun st' => ∃ m, m < n ∧ I m st') Q) st) : AWP P base (.loop c) Q st := fun w G a hr => by
  refine wp_loopN (fun n a' w' => ∃ st' G', I n st' ∧ Rel base w' G' st' a' ∧ FEvol base w G st.S st.O w' G' st'.S st'.O) n₀ ⟨st, G, h₀, hr, .refl⟩ ?_
  rintro n a1 w1 ⟨st1, G1, hI, hr1, hev1⟩
  refine wp_mono (round n st1 hI w1 G1 a1 hr1) ?_
  rintro e a' w' ⟨st', G', h1, h2, h3⟩
  cases e <;> try exact ⟨st', G', h1, h2, hev1.trans h3⟩
  obtain ⟨m, hm, hI'⟩ := h1
  exact ⟨m, hm, st', G', hI', h2, hev1.trans h3⟩
end
end Go.Am
