import Derived.Test.YtgbckdmdjoldkaaGreatDoorNB
import Derived.Lib.BytesEntry
import Derived.Lib.Bytealg
import Derived.Lib.Overlaps
import Derived.Laws.Externs
import Derived.Laws.RangeString
import Derived.Lib.OthersKept
import Derived.ProofKit
import Derived.RangeFuncRecord
import Derived.RangeFuncLeaves
import Derived.OrdersIn
import Derived.TacticsInMore
set_option linter.unusedSimpArgs false
set_option linter.unusedVariables false
/-
  THE SECOND MACHINE, STAGED: what does not hang on the state is worked out first (and by the kernel only once): each operation, region, piece of code is a box with a function of the state in it.
-/
namespace Go.Bm
open Go
open Go.Am (Sc)

structure RF where
  run : Env → AV
structure LF where
  run : Env → Heap → Option AV
structure SF where
  run : St → Option St
structure DF where
  run : DS → Option DS
structure CF where
  run : Nat → St → Option (Exit × St)

noncomputable def cR (x : Operand) : RF :=
  match x with
  | .tmp t => ⟨fun env => Option.rec (motive := fun _ => AV) .u (fun v => v) (env.get t)⟩
  | .const v => ⟨fun _ => ofV v⟩
  | .global g => ⟨fun env => rd env (.global g)⟩
  | .func f => ⟨fun _ => .f f [] []⟩

theorem cR_eq (x : Operand) (env : Env) : (cR x).run env = rd env x := by cases x <;> rfl

noncomputable def binR (op : BinOp) (P : Program) (K : Tbl) (T : TypeId) (x y : Operand) (H : Heap) (a b : AV) : Option AV := binAV K P H op T x y a b

noncomputable def loadR (ag : Option Bool) (sz : Option Nat) (H : Heap) (x : AV) : Option AV :=
  match x with
  | .p id off => match H.at id with
    | .row _ cs => match ag with
      | some true => match sz with
        | some n => if 0 + n ≤ (cs.drop off).length then some (.a (((cs.drop off).drop 0).take n)) else none
        | none => none
      | some false => (cs.drop off)[0]?
      | none => none
    | .dead => none
  | _ => none

noncomputable def cL (K : Tbl) (P : Program) (o : Op) : LF :=
  match o with
  | .move x => match cR x with | ⟨r⟩ => ⟨fun env _ => some (r env)⟩
  | .assign x => match cR x with | ⟨r⟩ => ⟨fun env _ => some (r env)⟩
  | .binOp op T x y _ => match cR x, cR y with | ⟨r⟩, ⟨s⟩ => ⟨fun env H => binR op P K T x y H (r env) (s env)⟩
  | .load T x => match cR x with | ⟨r⟩ => ⟨fun env H => loadR (aggK K T) (K.size T) H (r env)⟩
  | .fieldAddr T x f => ⟨fun env H => oFieldAddr K P env H T x f⟩
  | .field T x f => ⟨fun env H => oField K P env H T x f⟩
  | .indexAddr T x i => ⟨fun env H => oIndexAddr K P env H T x i⟩
  | .index T x i => ⟨fun env H => oIndex K P env H T x i⟩
  | .extract x k => ⟨fun env H => oExtract K P env H x k⟩
  | .unOp op _ x => ⟨fun env H => oUnOp K P env H op x⟩
  | .convert T T' x => ⟨fun env H => oConvert K P env H T T' x⟩
  | .slice T x lo hi mx => ⟨fun env H => oSlice K P env H T x lo hi mx⟩
  | .pick c a b => ⟨fun env H => oPick K P env H c a b⟩
  | .nilCheck x => ⟨fun env H => oNilCheck K P env H x⟩
  | o => ⟨fun env H => opL K P env H o⟩

theorem cL_eq (K : Tbl) (P : Program) (o : Op) (env : Env) (H : Heap) : (cL K P o).run env H = opL K P env H o := by
  cases o <;> try rfl
  case move x => show some ((cR x).run env) = _; rw [cR_eq]; rfl
  case assign x => show some ((cR x).run env) = _; rw [cR_eq]; rfl
  case binOp op T x y T' => show binR op P K T x y H ((cR x).run env) ((cR y).run env) = _; rw [cR_eq, cR_eq]; rfl
  case load T x =>
    show loadR (aggK K T) (K.size T) H ((cR x).run env) = loadAV K H T (rd env x)
    rw [cR_eq]
    unfold loadR loadAV partK
    generalize rd env x = v
    cases v <;> rfl

/-- One operation that bears no guard and changes nothing but its slot. -/
noncomputable def cS (K : Tbl) (P : Program) (X : Ext1) (F : Tab) (n : Nat) (ops : Array Oper) (o : Oper) : SF :=
  match o.guard, kind o.op, o.dst with
  | none, 0, some d => match Nat.blt d n, cL K P o.op with
    | true, ⟨f⟩ => ⟨fun st => match st with
      | ⟨env, H, nx, df⟩ => match f env H with
        | some r => some ⟨env.put d r, H, nx, df⟩
        | none => none⟩
    | false, _ => ⟨fun st => sStep K P X F n ops o st⟩
  | none, 2, _ => ⟨fun st => match st with
      | ⟨env, H, nx, df⟩ => match opH K X F env H nx o.op with
        | some (r, H', nx') => some ⟨putE n env o.dst r, H', nx', df⟩
        | none => none⟩
  | _, _, _ => ⟨fun st => sStep K P X F n ops o st⟩

theorem cS_eq {K : Tbl} {P : Program} {X : Ext1} {F : Tab} {n : Nat} {ops : Array Oper} {o : Oper} {st : St} : (cS K P X F n ops o).run st = sStep K P X F n ops o st := by
  obtain ⟨env, H, nx, df⟩ := st
  unfold cS
  split
  · rename_i d hg hk hd
    split
    · rename_i f hb hf
      have hw : aWant ops o env = some true := by unfold aWant; rw [hg]
      have hf' : ∀ env H, f env H = opL K P env H o.op := fun env H => by rw [← cL_eq, hf]
      simp only [sStep, hw, hk, hd, putE, hb, cond_true, hf']
      cases opL K P env H o.op <;> rfl
    · rfl
  · rename_i d hg hk
    have hw : aWant ops o env = some true := by unfold aWant; rw [hg]
    simp only [sStep, hw, hk]
    cases opH K X F env H nx o.op <;> rfl
  · rfl

noncomputable def cSs (K : Tbl) (P : Program) (X : Ext1) (F : Tab) (n : Nat) (ops : Array Oper) : List Oper → SF
  | [] => ⟨fun st => some st⟩
  | o :: os => match cS K P X F n ops o, cSs K P X F n ops os with
    | ⟨f⟩, ⟨g⟩ => ⟨fun st => match f st with
      | some st' => g st'
      | none => none⟩

theorem cSs_eq {K : Tbl} {P : Program} {X : Ext1} {F : Tab} {n : Nat} {ops : Array Oper} : ∀ {os : List Oper} {st : St}, (cSs K P X F n ops os).run st = sOps K P X F n ops os st
  | [], st => rfl
  | o :: os, st => by
    show (match (cS K P X F n ops o).run st with | some st' => (cSs K P X F n ops os).run st' | none => none) = _
    rw [cS_eq]
    simp only [sOps]
    cases sStep K P X F n ops o st with
    | none => rfl
    | some st' => exact cSs_eq

/-- One operation of a drawn region. -/
noncomputable def cD (K : Tbl) (P : Program) (X : Ext1) (F : Tab) (n : Nat) (ops : Array Oper) (ms : List Nat) (nx0 : Nat) (q : Nat × Oper) : DF :=
  match q.2.guard, kind q.2.op, q.2.dst with
  | none, 0, some d => match Nat.blt d n, cL K P q.2.op with
    | true, ⟨f⟩ => ⟨fun s => match s with
      | ⟨env, H, nx, pend⟩ => match f env H with
        | some r => some ⟨env.put d r, H, nx, ⟨q.1, q.2, env, r⟩ :: pend⟩
        | none => none⟩
    | false, _ => ⟨fun s => dStep K P X F n ops ms nx0 q s⟩
  | _, _, _ => ⟨fun s => dStep K P X F n ops ms nx0 q s⟩

theorem cD_eq {K : Tbl} {P : Program} {X : Ext1} {F : Tab} {n : Nat} {ops : Array Oper} {ms : List Nat} {nx0 : Nat} {q : Nat × Oper} {s : DS} : (cD K P X F n ops ms nx0 q).run s = dStep K P X F n ops ms nx0 q s := by
  obtain ⟨env, H, nx, pend⟩ := s
  unfold cD
  split
  · rename_i d hg hk hd
    split
    · rename_i f hb hf
      have hw : aWant ops q.2 env = some true := by unfold aWant; rw [hg]
      have hf' : ∀ env H, f env H = opL K P env H q.2.op := fun env H => by rw [← cL_eq, hf]
      simp only [dStep, hw, hk, hd, putE, hb, cond_true, hf']
      cases opL K P env H q.2.op <;> rfl
    · rfl
  · rfl

/-- The code, but for what jumps: 'Nat' is how often loops may go round. -/
noncomputable def cReg (K : Tbl) (P : Program) (X : Ext1) (F : Tab) (n : Nat) (ops : Array Oper) (drawn : Bool) : SF :=
  bif drawn then ⟨fun st => dRun K P X F n ops st⟩ else cSs K P X F n ops ops.toList

noncomputable def loopC (f : Nat → St → Option (Exit × St)) : Nat → St → Option (Exit × St)
  | 0, _ => none
  | k + 1, st => match f k st with
    | some (.normal, s) => loopC f k s
    | r => r

noncomputable def cC (K : Tbl) (P : Program) (X : Ext1) (F : Tab) (n : Nat) : Code → CF
  | .skip => ⟨fun _ st => some (.normal, st)⟩
  | .label _ => ⟨fun _ st => some (.normal, st)⟩
  | .exit id => ⟨fun _ st => some (.exit id, st)⟩
  | .goto l => ⟨fun _ st => some (.goto l, st)⟩
  | .ret => ⟨fun _ st => some (.ret, st)⟩
  | .region _ ops drawn => match cReg K P X F n ops drawn with
    | ⟨f⟩ => ⟨fun _ st => match f st with
      | some s => some (.normal, s.flush)
      | none => none⟩
  | .seq x y => match cC K P X F n x, cC K P X F n y with
    | ⟨f⟩, ⟨g⟩ => ⟨fun k st => match f k st with
      | some (.normal, s) => g k s
      | r => r⟩
  | .cond c x y => match cR c, cC K P X F n x, cC K P X F n y with
    | ⟨r⟩, ⟨f⟩, ⟨g⟩ => ⟨fun k st => match r st.env with
      | .s (.b t) => bif t then f k st else g k st
      | _ => none⟩
  | .block id c => match cC K P X F n c with
    | ⟨f⟩ => ⟨fun k st => match f k st with
      | some (.exit id', s) => bif Nat.beq id' id then some (.normal, s) else some (.exit id', s)
      | r => r⟩
  | .loop c => match cC K P X F n c with
    | ⟨f⟩ => ⟨fun k st => loopC f k st⟩
  | .scope c => ⟨fun k st => xC K P X F n k none (.scope c) st⟩
  | _ => ⟨fun _ _ => none⟩

section
variable {K : Tbl} {P : Program} {X : Ext1} {F : Tab} {n : Nat}

theorem cReg_eq {ops : Array Oper} {drawn : Bool} {st : St} : (cReg K P X F n ops drawn).run st = bif drawn then dRun K P X F n ops st else sOps K P X F n ops ops.toList st := by
  cases drawn
  · exact cSs_eq
  · rfl

theorem cC_sound (hmx : P.follows .mixedOrders = true) (hK : K.ok P) (hX : X.valid P) (hF : F.valid P) (hBd : F.bodied P) (hn : n ≤ 1073741824) : ∀ (c : Code) (k : Nat) (st : St) (e : Exit) (st' : St), (cC K P X F n c).run k st = some (e, st') →
    ∀ (w : World) (ρ : Map) (a : Act), Rel n w ρ st a → c.wp P (Ends n w ρ st.H st.nx e st') a w := by
  intro c
  induction c with
  | skip => intro k st e st' h w ρ a hr; simp only [cC, Option.some.injEq, Prod.mk.injEq] at h; obtain ⟨rfl, rfl⟩ := h; exact wp_skip ⟨rfl, ρ, hr, .refl⟩
  | label l => intro k st e st' h w ρ a hr; simp only [cC, Option.some.injEq, Prod.mk.injEq] at h; obtain ⟨rfl, rfl⟩ := h; exact wp_label ⟨rfl, ρ, hr, .refl⟩
  | exit id => intro k st e st' h w ρ a hr; simp only [cC, Option.some.injEq, Prod.mk.injEq] at h; obtain ⟨rfl, rfl⟩ := h; exact wp_exit ⟨rfl, ρ, hr, .refl⟩
  | «goto» l => intro k st e st' h w ρ a hr; simp only [cC, Option.some.injEq, Prod.mk.injEq] at h; obtain ⟨rfl, rfl⟩ := h; exact wp_goto ⟨rfl, ρ, hr, .refl⟩
  | ret => intro k st e st' h w ρ a hr; simp only [cC, Option.some.injEq, Prod.mk.injEq] at h; obtain ⟨rfl, rfl⟩ := h; exact wp_ret ⟨rfl, ρ, hr, .refl⟩
  | region id ops drawn =>
    intro k st e st' h w ρ a hr
    have h : (match (cReg K P X F n ops drawn).run st with | some s => some (Exit.normal, s.flush) | none => none) = some (e, st') := h
    rw [cReg_eq] at h
    cases drawn with
    | true =>
      simp only [cond_true] at h
      split at h
      · rename_i s hs
        simp only [Option.some.injEq, Prod.mk.injEq] at h; obtain ⟨rfl, rfl⟩ := h
        exact dRun_sound hmx hK hX hF hBd hn hr hs fun w' ρ' a' h1 h2 => ⟨rfl, ρ', h1.flush, h2⟩
      · cases h
    | false =>
      simp only [cond_false] at h
      split at h
      · rename_i s hs
        simp only [Option.some.injEq, Prod.mk.injEq] at h; obtain ⟨rfl, rfl⟩ := h
        refine wp_region ?_
        have := sOps_sound (P := P) hK hX hF hBd hn (ops := ops) (Q := Ends n w ρ st.H st.nx .normal s.flush) ops.toList 0 (fun j => by simp) hr hs (fun w' ρ' a' h1 h2 => ⟨rfl, ρ', h1.flush, h2⟩)
        simpa using this
      · cases h
  | seq x y ihx ihy =>
    intro k st e st' h w ρ a hr
    have h : (match (cC K P X F n x).run k st with | some (.normal, s) => (cC K P X F n y).run k s | r => r) = some (e, st') := h
    refine wp_seq ?_
    split at h
    · rename_i s hs
      refine wp_mono (ihx k st _ _ hs w ρ a hr) ?_
      rintro e1 a1 w1 ⟨rfl, ρ1, h1, h2⟩
      exact wp_mono (ihy k s _ _ h w1 ρ1 a1 h1) fun _ _ _ hh => hh.after h2
    · rename_i r hne
      refine wp_mono (ihx k st _ _ h w ρ a hr) ?_
      rintro e1 a1 w1 ⟨rfl, hh⟩
      cases e1 <;> first | exact ⟨rfl, hh⟩ | exact absurd h (fun h => hne _ h)
  | cond c x y ihx ihy =>
    intro k st e st' h w ρ a hr
    have h : (match (cR c).run st.env with | .s (.b t) => bif t then (cC K P X F n x).run k st else (cC K P X F n y).run k st | _ => none) = some (e, st') := h
    rw [cR_eq] at h
    split at h
    · rename_i t ht
      have hv := rd_CR hr.inv.glob hr.env c
      rw [ht] at hv
      generalize he : a.eval c = v at hv
      cases hv
      refine wp_cond he ?_
      cases t with
      | true => simp only [cond_true] at h; exact ihx k st _ _ h w ρ a hr
      | false => simp only [cond_false] at h; exact ihy k st _ _ h w ρ a hr
    · cases h
  | block id c ih =>
    intro k st e st' h w ρ a hr
    have h : (match (cC K P X F n c).run k st with | some (.exit id', s) => bif Nat.beq id' id then some (.normal, s) else some (.exit id', s) | r => r) = some (e, st') := h
    refine wp_block ?_
    split at h
    · rename_i id' s hs
      refine wp_mono (ih k st _ _ hs w ρ a hr) ?_
      rintro e1 a1 w1 ⟨rfl, hh⟩
      simp only [Exit.inBlock]
      cases hb : Nat.beq id' id with
      | true =>
        rw [hb] at h
        simp only [cond_true, Option.some.injEq, Prod.mk.injEq] at h; obtain ⟨rfl, rfl⟩ := h
        rw [if_pos (Nat.eq_of_beq_eq_true hb)]; exact ⟨rfl, hh⟩
      | false =>
        rw [hb] at h
        simp only [cond_false, Option.some.injEq, Prod.mk.injEq] at h; obtain ⟨rfl, rfl⟩ := h
        rw [if_neg (fun e => by subst e; rw [Nat.beq_refl] at hb; cases hb)]; exact ⟨rfl, hh⟩
    · rename_i r hne
      refine wp_mono (ih k st _ _ h w ρ a hr) ?_
      rintro e1 a1 w1 ⟨rfl, hh⟩
      cases e1 <;> first | exact ⟨rfl, hh⟩ | exact absurd h (fun h => hne _ _ h)
  | loop c ih =>
    intro k st e st' h w ρ a hr
    have h : loopC (cC K P X F n c).run k st = some (e, st') := h
    refine Am.wp_loopN (fun m a' w' => ∃ s ρ', loopC (cC K P X F n c).run m s = some (e, st') ∧ Rel n w' ρ' s a' ∧ FE w ρ st.H st.nx w' ρ' s.H s.nx) k ⟨st, ρ, h, hr, .refl⟩ ?_
    rintro m a1 w1 ⟨s, ρ1, hs, hr1, hf1⟩
    cases m with
    | zero => simp [loopC] at hs
    | succ m =>
      simp only [loopC] at hs
      split at hs
      · rename_i s1 hs1
        refine wp_mono (ih m s _ _ hs1 w1 ρ1 a1 hr1) ?_
        rintro e1 a2 w2 ⟨rfl, ρ2, h1, h2⟩
        exact ⟨m, by omega, s1, ρ2, hs, h1, hf1.trans h2⟩
      · rename_i r hne
        refine wp_mono (ih m s _ _ hs w1 ρ1 a1 hr1) ?_
        rintro e1 a2 w2 ⟨rfl, ρ2, h1, h2⟩
        cases e1 <;> first | exact ⟨rfl, ρ2, h1, hf1.trans h2⟩ | exact absurd hs (fun h => hne _ h)
  | scope c ih =>
    intro k st e st' h w ρ a hr
    exact xC_sound hmx hK hX hF hBd hn k (.scope c) st e st' h w ρ a hr
  | _ => intro k st e st' h; simp [cC] at h

/-! ### Functions -/
noncomputable def envF (m : Nat) (args : List AV) : Env := Tr.rec (motive := fun _ => Env) ⟨m, [], .e⟩ (fun a b c _ _ => ⟨m, [], .n a b c⟩) (envOf args 0 .e)

theorem envF_eq (m : Nat) (args : List AV) : envF m args = ⟨m, [], envOf args 0 .e⟩ := by
  unfold envF; cases envOf args 0 .e <;> rfl

structure FF where
  run : List AV → Heap → Nat → Option St

noncomputable def cF (K : Tbl) (P : Program) (X : Ext1) (F : Tab) (k : Nat) (fn : Func) (c : Code) : FF :=
  match cC K P X F fn.ntmps c, Nat.ble fn.ntmps 1073741824 with
  | ⟨g⟩, true => ⟨fun args H nx => bif Nat.ble args.length fn.ntmps then
      match g k ⟨envF (globs fn c) args, H, nx, []⟩ with
      | some (.normal, st) => some st
      | some (.ret, st) => some st
      | _ => none
      else none⟩
  | _, false => ⟨fun _ _ _ => none⟩

noncomputable def yBody (K : Tbl) (P : Program) (X : Ext1) (F : Tab) (k : Nat) (f : FuncId) (args : List AV) (H : Heap) (nx : Nat) : Option (AV × Heap × Nat) :=
  match K.fn f with
  | some fn => match fn.body with
    | some c => match cF K P X F k fn c with
      | ⟨g⟩ => match g args H nx with
        | some ⟨env, H1, nx1, df⟩ => match xDef K P X F k df H1 nx1 with
          | some (H', nx') => match resList K H' env fn.results.toList with
            | some xs => some (single xs, H', nx')
            | none => none
          | none => none
        | none => none
    | none => none
  | none => none

theorem yBody_valid (hmx : P.follows .mixedOrders = true) (hK : K.ok P) (hX : X.valid P) (hF : F.valid P) (hBd : F.bodied P) {k : Nat} {f : FuncId} {args : List AV} {H : Heap} {nx : Nat} {r : AV} {H' : Heap} {nx' : Nat} (h : yBody K P X F k f args H nx = some (r, H', nx')) : ValidAt P f args H nx r H' nx' ∧ Bodied P f := by
  unfold yBody at h
  split at h
  rotate_left
  · cases h
  rename_i fn hfn
  split at h
  rotate_left
  · cases h
  rename_i c hc
  obtain ⟨hf, hname⟩ := hK.fn _ _ hfn
  split at h
  rename_i g hg
  split at h
  rotate_left
  · cases h
  rename_i env H1 nx1 df hst
  split at h
  rotate_left
  · cases h
  rename_i H2 nx2 hdef
  split at h
  rotate_left
  · cases h
  rename_i xs hxs
  simp only [Option.some.injEq, Prod.mk.injEq] at h
  obtain ⟨rfl, rfl, rfl⟩ := h
  have hg' : (cF K P X F k fn c).run args H nx = some ⟨env, H1, nx1, df⟩ := by rw [hg]; exact hst
  unfold cF at hg'
  split at hg'
  rotate_left
  · cases hg'
  rename_i g' hcc hn
  have hn := Nat.le_of_ble_eq_true hn
  simp only at hg'
  cases hal : Nat.ble args.length fn.ntmps with
  | false => rw [hal] at hg'; cases hg'
  | true =>
    rw [hal] at hg'
    simp only [cond_true] at hg'
    have hal := Nat.le_of_ble_eq_true hal
    have hrun : ∃ e, (e = .normal ∨ e = .ret) ∧ (cC K P X F fn.ntmps c).run k ⟨⟨globs fn c, [], envOf args 0 .e⟩, H, nx, []⟩ = some (e, ⟨env, H1, nx1, df⟩) := by
      rw [hcc, ← envF_eq]
      split at hg'
      · rename_i s hs; injection hg' with hg'; subst hg'; exact ⟨.normal, .inl rfl, hs⟩
      · rename_i s hs; injection hg' with hg'; subst hg'; exact ⟨.ret, .inr rfl, hs⟩
      · cases hg'
    obtain ⟨e0, he0, hrun⟩ := hrun
    refine ⟨fun w ρ vargs hI hcr => ?_, ⟨fn, hf, by rw [hc]; rfl, hname⟩⟩
    refine calls_of_wp_defers hf hc (wp_mono (cC_sound hmx hK hX hF hBd hn c k _ _ _ hrun w ρ _ (frame_rel hI hcr hal hn)) ?_)
    rintro e a' w' ⟨rfl, ρ', hr, hfe⟩
    have := xDef_sound (Rr := fun e w' => ∃ v ρ', e = .returned v ∧ InvH w' ρ' H2 nx2 ∧ CR ρ' (single xs) v ∧ FE w ρ H nx w' ρ' H2 nx2) hmx hK hX hF hBd df a'.defers H1 nx1 w' ρ' hdef hr.inv hr.df hr.env hxs (fun w2 ρ2 u g1 g2 g3 g4 => ⟨u, ρ2, rfl, g1, g4, hfe.trans g2⟩)
    rcases he0 with rfl | rfl
    · exact this
    · exact this

noncomputable def yTab (K : Tbl) (P : Program) (X : Ext1) (V : Kn) (k : Nat) : Nat → Tab
  | 0 => fun f args H nx => V f args H nx
  | d + 1 => fun f args H nx =>
    match V f args H nx with
    | some r => some r
    | none => yBody K P X (yTab K P X V k d) k f args H nx

theorem yTab_valid {V : Kn} (hmx : P.follows .mixedOrders = true) (hK : K.ok P) (hX : X.valid P) (hV : V.ok P) {k : Nat} : ∀ d, (yTab K P X V k d).valid P ∧ (yTab K P X V k d).bodied P
  | 0 => ⟨fun f args H nx r H' nx' h => hV.valid f args H nx r H' nx' h, fun f args H nx r h => hV.bodied f args H nx r h⟩
  | d + 1 => by
    obtain ⟨h1, h2⟩ := yTab_valid hmx hK hX hV (k := k) d
    refine ⟨fun f args H nx r H' nx' h => ?_, fun f args H nx r h => ?_⟩
    · simp only [yTab] at h
      split at h
      · rename_i q hq; injection h with h; subst h; exact hV.valid _ _ _ _ _ _ _ hq
      · exact (yBody_valid hmx hK hX h1 h2 h).1
    · simp only [yTab] at h
      split at h
      · rename_i q hq; exact hV.bodied _ _ _ _ _ hq
      · obtain ⟨r, H', nx'⟩ := r
        exact (yBody_valid hmx hK hX h1 h2 h).2
end
end Go.Bm
/-
  THE SECOND MACHINE: a call on a part of the memory (the rest lies elsewhere): slices.Insert, whose way hangs on a capacity that nobody knows.
-/
namespace Go.Bm
open Go
open Go.Am (Sc)

/-- Of the names only these are ours. -/
def only (ρ : Map) (S : Nat → Prop) [DecidablePred S] : Map := fun i => if S i then ρ i else match ρ i with
  | .at b s => .far b s
  | l => l

section
variable {w : World} {ρ : Map} {H : Heap} {nx : Nat} {S : Nat → Prop} [DecidablePred S]

theorem only_is {i b s : Nat} (h : (ρ i).is b s) : (only ρ S i).is b s := by
  unfold only
  split
  · exact h
  · rcases h with h | h
    · rw [h]; exact .inr rfl
    · rw [h]; exact .inr rfl

theorem only_dead {i : Nat} (h : ρ i = .dead) : only ρ S i = .dead := by
  unfold only
  split
  · exact h
  · rw [h]

mutual
theorem CR.only {x : AV} {v : Value} (h : CR ρ x v) : CR (only ρ S) x v :=
  match x, v, h with
  | _, _, .u v => .u v
  | _, _, .s x => .s x
  | _, _, .g n x h => .g n x h
  | _, _, .yl id l h => .yl id l (by unfold only; split <;> simp [h])
  | _, _, .w i kk l L x h1 h2 h3 h4 => .w i kk l L x h1 h2 (by unfold only; split <;> simp [h3]) h4
  | _, _, .p id off b sz h => .p id off b sz (only_is h)
  | _, _, .pd id off v h h' => .pd id off v (only_dead h) h'
  | _, _, .sl id off sz n c ex b bs cap h h1 h2 h3 h4 h5 h6 => .sl id off sz n c ex b bs cap (only_is h) h1 h2 h3 h4 h5 h6
  | _, _, .sld id off sz n c ex v h h' => .sld id off sz n c ex v (only_dead h) h'
  | _, _, .z ex a cap h h' => .z ex a cap h h'
  | _, _, .f fn fs cs vf vc h1 h2 => .f fn fs cs vf vc (CRs.only h1) (CRs.only h2)
  | _, _, .a cs vs h => .a cs vs (CRs.only h)
  | _, _, .t cs vs h => .t cs vs (CRs.only h)
theorem CRs.only {xs : List AV} {vs : List Value} (h : CRs ρ xs vs) : CRs (only ρ S) xs vs :=
  match xs, vs, h with
  | _, _, .nil => .nil
  | _, _, .cons x v xs vs h1 h2 => .cons x v xs vs (CR.only h1) (CRs.only h2)
end

/-- A part of the memory. -/
theorem InvH.only (hI : InvH w ρ H nx) {Hs : Heap} (h1 : ∀ i, S i → Hs.at i = H.at i) (h2 : ∀ i, ¬ S i → Hs.at i = .dead) : InvH w (Bm.only ρ S) Hs nx := by
  have hat : ∀ {i b s}, Bm.only ρ S i = .at b s → S i ∧ ρ i = .at b s := fun {i b s} h => by
    unfold Bm.only at h
    split at h
    · exact ⟨by assumption, h⟩
    · split at h
      · cases h
      · rename_i hne; exact absurd h (hne _ _)
  refine ⟨⟨fun g hg => (by
      rcases hI.glob.1 g hg with ⟨s, h⟩ | h
      · exact .inl ⟨s, only_is h⟩
      · exact .inr (only_dead h)), fun g h1 h2 => (hI.glob.2 g h1 h2).imp fun s h => by unfold Bm.only; split <;> simp [h]⟩, fun i j b s s' hi hj => hI.inj i j b s s' (hat hi).2 (hat hj).2, fun i b s hi => ?_, fun i hi => ?_, fun i b s hi => ?_⟩
  · obtain ⟨hs, hi⟩ := hat hi
    obtain ⟨q1, T, cs, vs, q2, q3, q4, q5, q6⟩ := hI.row i b s hi
    exact ⟨q1, T, cs, vs, by rw [h1 i hs]; exact q2, q3, q4, q5, q6.only⟩
  · unfold Bm.only at hi
    split at hi
    · rename_i hs; exact ⟨(hI.dead i hi).1, by rw [h1 i hs]; exact (hI.dead i hi).2⟩
    · rename_i hs
      split at hi
      · cases hi
      · exact ⟨(hI.dead i hi).1, h2 i hs⟩
  · unfold Bm.only at hi
    split at hi
    · rename_i hs; exact ⟨(hI.far i b s hi).1, by rw [h1 i hs]; exact (hI.far i b s hi).2⟩
    · rename_i hs
      split at hi
      · rename_i b' s' hb
        exact ⟨(hI.row i b' s' hb).1, h2 i hs⟩
      · exact ⟨(hI.far i b s hi).1, h2 i hs⟩

/-- More is told of a block: nothing of the cells behind. -/
theorem InvH.longer (hI : InvH w ρ H nx) {id b s k : Nat} {T : TypeId} {cs : List AV} (hid : id < 1073741824) (hb : ρ id = .at b s) (hH : H.at id = .row T cs) (hk : cs.length + k ≤ s) : InvH w ρ (H.put id (.row T (cs ++ List.replicate k .u))) nx := by
  obtain ⟨vs, h1, h2, h3, h4, h5⟩ := hI.cells hH hb
  have hne : ∀ i b s, ρ i = .at b s → i ≠ id → (H.put id (.row T (cs ++ List.replicate k .u))).at i = H.at i := fun i b s _ e => by rw [Heap.at_put hid, if_neg e]
  refine ⟨hI.glob, hI.inj, fun i b' s' hi => ?_, fun i hi => ?_, fun i b' s' hi => ?_⟩
  · by_cases e : i = id
    · subst e
      rw [hb] at hi; injection hi with e1 e2; subst e1 e2
      refine ⟨(hI.row _ _ _ hb).1, T, cs ++ List.replicate k .u, vs, by rw [Heap.at_put hid, if_pos rfl], h1, h2, by simp; omega, ?_⟩
      have hl : (cs ++ List.replicate k AV.u).length = cs.length + k := by simp
      rw [hl, List.take_add]
      refine h4.append (.of (by simp; omega) fun j x v hx hv => ?_)
      rw [List.getElem?_replicate] at hx
      split at hx <;> simp at hx
      subst hx; exact .u v
    · obtain ⟨q1, q2⟩ := hI.row i b' s' hi
      rw [hne i b' s' hi e]; exact ⟨q1, q2⟩
  · have e : i ≠ id := fun e => by subst e; rw [hb] at hi; cases hi
    rw [Heap.at_put hid, if_neg e]; exact hI.dead i hi
  · have e : i ≠ id := fun e => by subst e; rw [hb] at hi; cases hi
    rw [Heap.at_put hid, if_neg e]; exact hI.far i b' s' hi

mutual
/-- Names only what is older. -/
def AV.old (k : Nat) : AV → Bool
  | .p id _ => Nat.blt id k
  | .sl id _ _ _ _ _ => Nat.blt id k
  | .f _ fs cs => AV.oldL k fs && AV.oldL k cs
  | .a cs => AV.oldL k cs
  | .t cs => AV.oldL k cs
  | .yl _ => false
  | _ => true
def AV.oldL (k : Nat) : List AV → Bool
  | [] => true
  | x :: xs => AV.old k x && AV.oldL k xs
end

mutual
theorem CR.back {ρ ρ' : Map} {k : Nat} (hk : ∀ i b s, i < k → (ρ i).is b s → (ρ' i).is b s ∨ ρ' i = .dead) (hd : ∀ i, i < k → ρ i = .dead → ρ' i = .dead) (hfr : ∀ i L, 13 ≤ i → i < 16 → ρ i = .far i L → ρ' i = .far i L) {x : AV} {v : Value} (hx : x.old k = true) (h : CR ρ x v) : CR ρ' x v :=
  match x, v, h, hx with
  | _, _, .u v, _ => .u v
  | _, _, .s x, _ => .s x
  | _, _, .g n x h, _ => .g n x h
  | _, _, .yl id l h, hx => by cases hx
  | _, _, .w i kk l L x h1 h2 h3 h4, _ => .w i kk l L x h1 h2 (hfr i L h1 h2 h3) h4
  | _, _, .p id off b sz h, hx => (hk id b sz (of_blt hx) h).elim (fun h' => .p id off b sz h') (fun h' => .pd id off _ h' rfl)
  | _, _, .pd id off v h h', hx => .pd id off v (hd id (of_blt hx) h) h'
  | _, _, .sl id off sz n c ex b bs cap h h1 h2 h3 h4 h5 h6, hx => (hk id b bs (of_blt hx) h).elim (fun h' => .sl id off sz n c ex b bs cap h' h1 h2 h3 h4 h5 h6) (fun h' => .sld id off sz n c ex _ h' rfl)
  | _, _, .sld id off sz n c ex v h h', hx => .sld id off sz n c ex v (hd id (of_blt hx) h) h'
  | _, _, .z ex a cap h h', _ => .z ex a cap h h'
  | _, _, .f fn fs cs vf vc h1 h2, hx => .f fn fs cs vf vc (CRs.back hk hd hfr (by simp only [AV.old, Bool.and_eq_true] at hx; exact hx.1) h1) (CRs.back hk hd hfr (by simp only [AV.old, Bool.and_eq_true] at hx; exact hx.2) h2)
  | _, _, .a cs vs h, hx => .a cs vs (CRs.back hk hd hfr (by simpa only [AV.old] using hx) h)
  | _, _, .t cs vs h, hx => .t cs vs (CRs.back hk hd hfr (by simpa only [AV.old] using hx) h)
theorem CRs.back {ρ ρ' : Map} {k : Nat} (hk : ∀ i b s, i < k → (ρ i).is b s → (ρ' i).is b s ∨ ρ' i = .dead) (hd : ∀ i, i < k → ρ i = .dead → ρ' i = .dead) (hfr : ∀ i L, 13 ≤ i → i < 16 → ρ i = .far i L → ρ' i = .far i L) {xs : List AV} {vs : List Value} (hx : AV.oldL k xs = true) (h : CRs ρ xs vs) : CRs ρ' xs vs :=
  match xs, vs, h, hx with
  | _, _, .nil, _ => .nil
  | _, _, .cons x v xs vs h1 h2, hx => .cons x v xs vs (CR.back hk hd hfr (by simp only [AV.oldL, Bool.and_eq_true] at hx; exact hx.1) h1) (CRs.back hk hd hfr (by simp only [AV.oldL, Bool.and_eq_true] at hx; exact hx.2) h2)
end
end
end Go.Bm
/-
  THE SECOND MACHINE: slices.Insert, by two runs on a part of the memory: one with just the capacity that is known, one with room.
-/
namespace Go.Bm
open Go
open Go.Am (Sc)

section
variable {w w' : World} {ρ ρ1 : Map} {H H1 Hs : Heap} {nx n1 : Nat}

/-- What a call on two blocks left: the first one's successor gets the next name; both are given up. -/
theorem rejoin (hI : InvH w ρ H nx) {id id2 i1 sz N c1 : Nat} {ex : Bool} {T : TypeId} {cs : List AV} {v : Value} (hnx : nx < 1073741823) (hb : ∃ b s, ρ id = .at b s) (hb2 : ∃ b s, ρ id2 = .at b s)
    (hI1 : InvH w' ρ1 H1 n1) (hcr : CR ρ1 (.sl i1 0 sz N c1 ex) v) (hH : H1.at i1 = .row T cs) (hl : (cs.take (N * sz)).length = N * sz) (hold : AV.oldL nx (cs.take (N * sz)) = true)
    (hfe : FE w (only ρ (fun i => i = id ∨ i = id2)) Hs nx w' ρ1 H1 n1) {nx' : Nat} (hnx' : nx < nx') :
    ∃ ρ', InvH w' ρ' (((H.put nx (.row T (cs.take (N * sz)))).put id .dead).put id2 .dead) nx' ∧ CR ρ' (.sl nx 0 sz N N false) v ∧ FE w ρ H nx w' ρ' (((H.put nx (.row T (cs.take (N * sz)))).put id .dead).put id2 .dead) nx' := by
  obtain ⟨bi, si, hbi⟩ := hb
  obtain ⟨bi2, si2, hbi2⟩ := hb2
  have hid : id < nx := (hI.row _ _ _ hbi).1
  have hid2 : id2 < nx := (hI.row _ _ _ hbi2).1
  obtain ⟨b1, s1, cap1, hb1, rfl, p1, p2, p3, p4, p5, p6⟩ := sl_inv hI1 hH hcr
  obtain ⟨vs1, g1, g2, g3, g4, g5⟩ := hI1.cells hH hb1
  let ρ' : Map := fun j => if j = nx then .at b1 s1 else if j = id ∨ j = id2 then .dead else if j < nx then ρ j else .no
  have hnew : ρ' nx = .at b1 s1 := by simp [ρ']
  have hS : ∀ j, (j = id ∨ j = id2) → ρ' j = .dead := fun j hj => by
    have : j ≠ nx := by rcases hj with rfl | rfl <;> omega
    simp only [ρ']; rw [if_neg this, if_pos hj]
  have holdj : ∀ j, j < nx → ¬ (j = id ∨ j = id2) → ρ' j = ρ j := fun j hj hn => by
    simp only [ρ']; rw [if_neg (by omega), if_neg hn, if_pos hj]
  have hbig : ∀ j, nx < j → ρ' j = .no := fun j hj => by
    simp only [ρ']; rw [if_neg (by omega), if_neg (by omega), if_neg (by omega)]
  -- what the part's map has become
  have h1far : ∀ j b s, ¬ (j = id ∨ j = id2) → (ρ j).is b s → ρ1 j = .far b s := fun j b s hn hj => by
    refine hfe.ext.far j b s ?_
    unfold only
    rw [if_neg hn]
    rcases hj with hj | hj <;> rw [hj]
  have h1dead : ∀ j, ¬ (j = id ∨ j = id2) → ρ j = .dead → ρ1 j = .dead := fun j hn hj => hfe.ext.dead j (only_dead hj)
  have h1no : ∀ j, j < nx → ¬ (j = id ∨ j = id2) → ρ j = .no → ρ1 j = .no := fun j hlt hn hj => by
    refine (hfe.no j hlt ?_).1
    unfold only
    rw [if_neg hn, hj]
  have honly : ∀ i b s, only ρ (fun i => i = id ∨ i = id2) i = .at b s → ρ i = .at b s := fun i b s h => by
    unfold only at h
    split at h
    · exact h
    · split at h
      · cases h
      · rename_i hne; exact absurd h (hne _ _)
  have hkeep : ∀ b, b < w.heap.size → (∀ i s, ρ i = .at b s → ¬ (i = id ∨ i = id2)) → w'.heap[b]? = w.heap[b]? ∧ ∀ i s, ρ1 i ≠ .at b s := fun b hb hn => by
    refine hfe.old b hb fun i s h => ?_
    have h' := honly i b s h
    unfold only at h
    rw [if_neg (hn i s h')] at h
    split at h
    · cases h
    · rename_i hne; exact hne _ _ h
  have hothers : ∀ j b s, ¬ (j = id ∨ j = id2) → ρ j = .at b s → w'.heap[b]? = w.heap[b]? ∧ ∀ i s, ρ1 i ≠ .at b s := fun j b s hn hj =>
    hkeep b (hI.lt hj) fun i s' hi hs => hn (by rw [hI.inj j i b s s' hj hi]; exact hs)
  have hext : Ext ρ ρ' := by
    refine ⟨fun i b s hi => ?_, fun i hi => ?_, fun i b s hi => ?_⟩
    · by_cases hs : i = id ∨ i = id2
      · exact .inr (hS i hs)
      · rw [holdj i (hI.row i b s hi).1 hs]; exact .inl hi
    · have hs : ¬ (i = id ∨ i = id2) := by rintro (rfl | rfl) <;> simp_all
      rw [holdj i (hI.dead i hi).1 hs]; exact hi
    · have hs : ¬ (i = id ∨ i = id2) := by rintro (rfl | rfl) <;> simp_all
      rw [holdj i (hI.far i b s hi).1 hs]; exact hi
  have hat : ∀ j, (((H.put nx (.row T (cs.take (N * sz)))).put id .dead).put id2 .dead).at j = if j = id2 then .dead else if j = id then .dead else if j = nx then .row T (cs.take (N * sz)) else H.at j := fun j => by
    rw [Heap.at_put (by omega), Heap.at_put (by omega), Heap.at_put (by omega)]
  have hcase : ∀ j b s, ρ' j = .at b s → (j = nx ∧ b = b1 ∧ s = s1) ∨ (j < nx ∧ ¬ (j = id ∨ j = id2) ∧ ρ j = .at b s) := fun j b s hj => by
    by_cases e1 : j = nx
    · subst e1; rw [hnew] at hj; injection hj with q1 q2; exact .inl ⟨rfl, q1.symm, q2.symm⟩
    · by_cases e2 : j = id ∨ j = id2
      · rw [hS j e2] at hj; cases hj
      · by_cases e3 : j < nx
        · rw [holdj j e3 e2] at hj; exact .inr ⟨e3, e2, hj⟩
        · rw [hbig j (by omega)] at hj; cases hj
  refine ⟨ρ', ⟨hI.glob.ext hext, fun i j b s s' hi hj => ?_, fun j b s hj => ?_, fun j hj => ?_, fun j b s hj => ?_⟩, ?_, ⟨hext, fun i hi hn => ?_, Nat.le_of_lt hnx', fun b hb hn => ?_, hfe.size, hfe.os, hfe.tape, hfe.output⟩⟩
  · rcases hcase i b s hi with ⟨rfl, rfl, rfl⟩ | ⟨q1, q2, q3⟩
    · rcases hcase j _ s' hj with ⟨rfl, _, _⟩ | ⟨r1, r2, r3⟩
      · rfl
      · exact absurd hb1 ((hothers j _ _ r2 r3).2 _ _)
    · rcases hcase j b s' hj with ⟨rfl, rfl, rfl⟩ | ⟨r1, r2, r3⟩
      · exact absurd hb1 ((hothers i _ _ q2 q3).2 _ _)
      · exact hI.inj i j b s s' q3 r3
  · rcases hcase j b s hj with ⟨rfl, rfl, rfl⟩ | ⟨q1, q2, q3⟩
    · refine ⟨hnx', T, cs.take (N * sz), vs1, by rw [hat, if_neg (by omega), if_neg (by omega), if_pos rfl], g1, g2, ?_, ?_⟩
      · simp only [List.length_take]; omega
      · have hle : N * sz ≤ cs.length := by simp only [List.length_take] at hl; omega
        rw [hl]
        have h4 := g4.take (N * sz)
        rw [List.take_take, Nat.min_eq_left hle] at h4
        refine h4.back (k := j) (fun i b s hi hs => ?_) (fun i hi hs => ?_) (fun i L g1 g2 hs => ?_) hold
        · by_cases e : i = id ∨ i = id2
          · exact .inr (hS i e)
          · left
            rw [holdj i hi e]
            cases hρ : ρ i with
            | no => rw [h1no i hi e hρ] at hs; rcases hs with hs | hs <;> cases hs
            | dead => rw [h1dead i e hρ] at hs; rcases hs with hs | hs <;> cases hs
            | far b' s' =>
              rw [h1far i b' s' e (by rw [hρ]; exact .inr rfl)] at hs
              rcases hs with hs | hs
              · cases hs
              · injection hs with e1 e2; subst e1 e2; exact .inr rfl
            | «at» b' s' =>
              rw [h1far i b' s' e (by rw [hρ]; exact .inl rfl)] at hs
              rcases hs with hs | hs
              · cases hs
              · injection hs with e1 e2; subst e1 e2; exact .inl rfl
        · by_cases e : i = id ∨ i = id2
          · exact hS i e
          · rw [holdj i hi e]
            cases hρ : ρ i with
            | no => rw [h1no i hi e hρ] at hs; cases hs
            | dead => rfl
            | far b' s' => rw [h1far i b' s' e (by rw [hρ]; exact .inr rfl)] at hs; cases hs
            | «at» b' s' => rw [h1far i b' s' e (by rw [hρ]; exact .inl rfl)] at hs; cases hs
        · obtain ⟨s, hρ⟩ := hI.glob.2 i g1 g2
          have hne : ¬ (i = id ∨ i = id2) := by rintro (rfl | rfl) <;> simp_all
          have hq := h1far i i s hne (by rw [hρ]; exact .inr rfl)
          rw [hq] at hs
          injection hs with _ e
          subst e
          exact hext.far i i _ hρ
    · obtain ⟨r1, T', cs', vs', r2, r3, r4, r5, r6⟩ := hI.row j b s q3
      exact ⟨by omega, T', cs', vs', by rw [hat, if_neg (fun e => q2 (.inr e)), if_neg (fun e => q2 (.inl e)), if_neg (by omega)]; exact r2, by rw [(hothers j b s q2 q3).1]; exact r3, r4, r5, r6.ext hext⟩
  · rw [hat]
    by_cases e2 : j = id2
    · rw [if_pos e2]; exact ⟨by omega, rfl⟩
    · rw [if_neg e2]
      by_cases e1 : j = id
      · rw [if_pos e1]; exact ⟨by omega, rfl⟩
      · rw [if_neg e1]
        have e0 : j ≠ nx := fun e => by subst e; rw [hnew] at hj; cases hj
        rw [if_neg e0]
        by_cases e3 : j < nx
        · rw [holdj j e3 (by omega)] at hj
          exact ⟨by omega, (hI.dead j hj).2⟩
        · rw [hbig j (by omega)] at hj; cases hj
  · rw [hat]
    have e0 : j ≠ nx := fun e => by subst e; rw [hnew] at hj; cases hj
    have e12 : ¬ (j = id ∨ j = id2) := fun e => by rw [hS j e] at hj; cases hj
    rw [if_neg (fun e => e12 (.inr e)), if_neg (fun e => e12 (.inl e)), if_neg e0]
    by_cases e3 : j < nx
    · rw [holdj j e3 e12] at hj
      exact ⟨by omega, (hI.far j b s hj).2⟩
    · rw [hbig j (by omega)] at hj; cases hj
  · exact .sl _ _ _ _ _ _ b1 s1 cap1 (.inl hnew) (Nat.le_refl _) (by omega) (fun h => by cases h) p4 p5 p6
  · have e12 : ¬ (i = id ∨ i = id2) := by rintro (rfl | rfl) <;> simp_all
    refine ⟨by rw [holdj i hi e12]; exact hn, by rw [hat, if_neg (fun e => e12 (.inr e)), if_neg (fun e => e12 (.inl e)), if_neg (by omega)]⟩
  · obtain ⟨q1, q2⟩ := hkeep b hb (fun i s hi => absurd hi (hn i s))
    refine ⟨q1, fun i s hi => ?_⟩
    rcases hcase i b s hi with ⟨rfl, rfl, rfl⟩ | ⟨_, _, q3⟩
    · exact q2 _ _ hb1
    · exact hn i s q3
end

/-- Two blocks alone. -/
noncomputable def two (id : Nat) (b : Blk) (id2 : Nat) (b2 : Blk) : Heap := (Heap.put .e id b).put id2 b2

/-- Insert, where it may need room: both ways, if they come to the same. -/
noncomputable def insV (F : Tab) (f : FuncId) (args : List AV) (H : Heap) (nx : Nat) : Option (AV × Heap × Nat) :=
  match args with
  | [.sl id 0 sz n c false, i, .sl id2 off2 sz2 m c2 ex2] =>
    match H.at id, H.at id2 with
    | .row T cs, .row T2 vs =>
      bif Bool.not (Nat.beq id id2) && Nat.beq (c + 1) (n + m) && Nat.ble cs.length ((n + m) * sz) && Nat.blt nx 1073741823 && Nat.blt id nx && Nat.blt id2 nx && AV.still i then
        match F f [.sl id 0 sz n c true, i, .sl id2 off2 sz2 m c2 ex2] (two id (.row T cs) id2 (.row T2 vs)) nx,
              F f [.sl id 0 sz n (n + m) false, i, .sl id2 off2 sz2 m c2 ex2] ((two id (.row T cs) id2 (.row T2 vs)).put id (.row T (cs ++ List.replicate ((n + m) * sz - cs.length) .u))) nx with
        | some (.sl ia 0 sza na ca exa, HA, nA), some (.sl ib 0 szb nb cb exb, HB, nB) =>
          match HA.at ia, HB.at ib with
          | .row TA csa, .row TB csb =>
            bif Nat.beq sza sz && Nat.beq szb sz && Nat.beq nb na && Nat.beq TB TA && AV.beqL (csb.take (na * sz)) (csa.take (na * sz)) && Nat.beq (csa.take (na * sz)).length (na * sz) && AV.oldL nx (csa.take (na * sz)) then
              some (.sl nx 0 sz na na false, ((H.put nx (.row TA (csa.take (na * sz)))).put id .dead).put id2 .dead, nx + 1)
            else none
          | _, _ => none
        | _, _ => none
      else none
    | _, _ => none
  | _ => none

theorem insV_valid {P : Program} {F : Tab} (hF : F.valid P) {f : FuncId} {args : List AV} {H : Heap} {nx : Nat} {r : AV} {H' : Heap} {nx' : Nat} (h : insV F f args H nx = some (r, H', nx')) : ValidAt P f args H nx r H' nx' := by
  unfold insV at h
  split at h
  rotate_left
  · cases h
  rename_i id sz n c i id2 off2 sz2 m c2 ex2
  split at h
  rotate_left
  · cases h
  rename_i T cs T2 vs hH hH2
  cases hb : (Bool.not (Nat.beq id id2) && Nat.beq (c + 1) (n + m) && Nat.ble cs.length ((n + m) * sz) && Nat.blt nx 1073741823 && Nat.blt id nx && Nat.blt id2 nx && AV.still i) with
  | false => rw [hb] at h; cases h
  | true =>
  rw [hb] at h
  simp only [cond_true] at h
  simp only [Bool.and_eq_true, Bool.not_eq_true'] at hb
  obtain ⟨⟨⟨⟨⟨⟨b1, b2⟩, b3⟩, b4⟩, b5⟩, b6⟩, b7⟩ := hb
  have hne : id ≠ id2 := fun e => by subst e; rw [Nat.beq_refl] at b1; cases b1
  have b2 := Nat.eq_of_beq_eq_true b2
  have b3 := Nat.le_of_ble_eq_true b3
  have b4 := of_blt b4
  have b5 := of_blt b5
  have b6 := of_blt b6
  split at h
  rotate_left
  · cases h
  rename_i ia sza na ca exa HA nA ib szb nb cb exb HB nB hA hBq
  split at h
  rotate_left
  · cases h
  rename_i TA csa TB csb hHA hHB
  cases hc : (Nat.beq sza sz && Nat.beq szb sz && Nat.beq nb na && Nat.beq TB TA && AV.beqL (csb.take (na * sz)) (csa.take (na * sz)) && Nat.beq (csa.take (na * sz)).length (na * sz) && AV.oldL nx (csa.take (na * sz))) with
  | false => rw [hc] at h; cases h
  | true =>
  rw [hc] at h
  simp only [cond_true, Option.some.injEq, Prod.mk.injEq] at h
  obtain ⟨rfl, rfl, rfl⟩ := h
  simp only [Bool.and_eq_true] at hc
  obtain ⟨⟨⟨⟨⟨⟨c1, c2'⟩, c3⟩, c4⟩, c5⟩, c6⟩, c7⟩ := hc
  have c1 := Nat.eq_of_beq_eq_true c1
  have c2' := Nat.eq_of_beq_eq_true c2'
  have c3 := Nat.eq_of_beq_eq_true c3
  have c4 : TB = TA := Nat.eq_of_beq_eq_true c4
  have c5 := AV.beqL_eq c5
  have c6 := Nat.eq_of_beq_eq_true c6
  subst c1 c2' c3 c4
  intro w ρ vargs hI hcr
  cases hcr with | cons _ v0 _ vs0 hx0 hcr =>
  cases hcr with | cons _ v1 _ vs1 hx1 hcr =>
  cases hcr with | cons _ v2 _ vs2 hx2 hcr =>
  cases hcr
  obtain ⟨b, bs, cap, hbid, rfl, p1, p2, p3, p4, p5, p6⟩ := sl_inv hI hH hx0
  obtain ⟨b', bs', cap', hbid2, hv2, _⟩ := sl_inv hI hH2 hx2
  have htwo : ∀ j, (two id (.row T cs) id2 (.row T2 vs)).at j = if j = id2 then .row T2 vs else if j = id then .row T cs else .dead := fun j => by
    unfold two
    rw [Heap.at_put (by omega), Heap.at_put (by omega)]
    split
    · rfl
    · split
      · rfl
      · unfold Heap.at; rw [getR_eq, get_e]
  have hIs : InvH w (only ρ (fun i => i = id ∨ i = id2)) (two id (.row T cs) id2 (.row T2 vs)) nx := by
    refine hI.only (fun j hj => ?_) (fun j hj => ?_)
    · rw [htwo]
      rcases hj with rfl | rfl
      · rw [if_neg hne, if_pos rfl, hH]
      · rw [if_pos rfl, hH2]
    · rw [htwo, if_neg (fun e => hj (.inr e)), if_neg (fun e => hj (.inl e))]
  have hon : only ρ (fun i => i = id ∨ i = id2) id = .at b bs := by unfold only; rw [if_pos (.inl rfl)]; exact hbid
  rcases Nat.eq_or_lt_of_le p2 with hcap | hcap
  · -- just so much
    have hargs : CRs (only ρ (fun i => i = id ∨ i = id2)) [.sl id 0 szb n c true, i, .sl id2 off2 sz2 m c2 ex2] [.slice (some ⟨b, 0, none⟩) n cap, v1, v2] :=
      .cons _ _ _ _ (.sl _ _ _ _ _ _ b bs cap (.inl hon) p1 p2 (fun _ => hcap.symm) p4 p5 p6) (.cons _ _ _ _ hx1.only (.cons _ _ _ _ hx2.only .nil))
    refine (hF _ _ _ _ _ _ _ hA w _ _ hIs hargs).mono ?_
    rintro e w' ⟨v, ρ1, rfl, hI1, hcr1, hfe⟩
    obtain ⟨ρ', k1, k2, k3⟩ := rejoin (nx' := nx + 1) hI b4 ⟨b, bs, hbid⟩ ⟨b', bs', hbid2⟩ hI1 hcr1 hHA c6 c7 hfe (Nat.lt_succ_self _)
    exact ⟨v, ρ', rfl, k1, k2, k3⟩
  · -- room
    have hmul : (n + m) * szb ≤ cap * szb := Nat.mul_le_mul_right _ (by omega)
    have hIl := hIs.longer (id := id) (k := (n + m) * szb - cs.length) (by omega) hon (by rw [htwo, if_neg hne, if_pos rfl]) (by omega)
    have hargs : CRs (only ρ (fun i => i = id ∨ i = id2)) [.sl id 0 szb n (n + m) false, i, .sl id2 off2 sz2 m c2 ex2] [.slice (some ⟨b, 0, none⟩) n cap, v1, v2] :=
      .cons _ _ _ _ (.sl _ _ _ _ _ _ b bs cap (.inl hon) (by omega) (by omega) (fun h => by cases h) p4 p5 p6) (.cons _ _ _ _ hx1.only (.cons _ _ _ _ hx2.only .nil))
    refine (hF _ _ _ _ _ _ _ hBq w _ _ hIl hargs).mono ?_
    rintro e w' ⟨v, ρ1, rfl, hI1, hcr1, hfe⟩
    obtain ⟨ρ', k1, k2, k3⟩ := rejoin (nx' := nx + 1) hI b4 ⟨b, bs, hbid⟩ ⟨b', bs', hbid2⟩ hI1 hcr1 hHB (by rw [c5]; exact c6) (by rw [c5]; exact c7) hfe (Nat.lt_succ_self _)
    rw [c5] at k1 k3
    exact ⟨v, ρ', rfl, k1, k2, k3⟩

theorem insV_bodied {P : Program} {F : Tab} (hB : F.bodied P) {f : FuncId} {args : List AV} {H : Heap} {nx : Nat} {r : AV × Heap × Nat} (h : insV F f args H nx = some r) : Bodied P f := by
  unfold insV at h
  split at h
  rotate_left
  · cases h
  rename_i id sz n c i id2 off2 sz2 m c2 ex2
  split at h
  rotate_left
  · cases h
  rename_i T cs T2 vs hH hH2
  cases hb : (Bool.not (Nat.beq id id2) && Nat.beq (c + 1) (n + m) && Nat.ble cs.length ((n + m) * sz) && Nat.blt nx 1073741823 && Nat.blt id nx && Nat.blt id2 nx && AV.still i) with
  | false => rw [hb] at h; cases h
  | true =>
  rw [hb] at h
  simp only [cond_true] at h
  split at h
  · rename_i hA hBq; exact hB _ _ _ _ _ hA
  · cases h
end Go.Bm
/-
  THE SECOND MACHINE: functions that the model stands in for: bits.Add64, bits.Sub64, bytealg.Compare, slices.overlaps.
-/
namespace Go.Bm
open Go
open Go.Am (Sc add_eq run_szO)

/-- Where these functions stand, and what calls of them are in the model. -/
structure Stands (P : Program) (fA fS fC fO tS tR e : Nat) (sz : Nat) : Prop where
  add : ∀ (x y c : Nat), c ≤ 1 → ∀ w : World, (callFunc fA #[.int .u64 x, .int .u64 y, .int .u64 c]).run P w =
    .ok (.value (.tuple #[.int .u64 (((x + y + c) % 18446744073709551616 : Nat) : Int), .int .u64 (((x + y + c) / 18446744073709551616 : Nat) : Int)])) w
  sub : ∀ (x y b : Nat), b ≤ 1 → ∀ w : World, (callFunc fS #[.int .u64 x, .int .u64 y, .int .u64 b]).run P w =
    .ok (.value (.tuple #[.int .u64 (((x + 18446744073709551616 - y - b) % 18446744073709551616 : Nat) : Int), .int .u64 ((if x < y + b then 1 else 0 : Nat) : Int)])) w
  cmp : ∀ (args : Array Value) (w : World), (callFunc fC args).run P w = ((Extern.BytealgCompare.compare args).run P w).andThen fun v w' => .ok (.value v) w'
  ovl : ∀ (args : Array Value) (w : World), (callFunc fO args).run P w = ((Extern.SlicesOverlaps.overlaps #[tS, tS] #[tR] args).run P w).andThen fun v w' => .ok (.value v) w'
  und : P.underlying tS = some (.slice e)
  size : Am.szO P e = some sz

noncomputable def u64N (n : Nat) : AV := .s (.i .u64 (.ofNat n))

noncomputable def xAdd (args : List AV) : Option AV :=
  match args with
  | [.s (.i .u64 (.ofNat x)), .s (.i .u64 (.ofNat y)), .s (.i .u64 (.ofNat c))] =>
    bif Nat.ble c 1 then some (.t [u64N (Nat.mod (Nat.add (Nat.add x y) c) 18446744073709551616), u64N (Nat.div (Nat.add (Nat.add x y) c) 18446744073709551616)]) else none
  | _ => none

noncomputable def xSub (args : List AV) : Option AV :=
  match args with
  | [.s (.i .u64 (.ofNat x)), .s (.i .u64 (.ofNat y)), .s (.i .u64 (.ofNat c))] =>
    bif Nat.ble c 1 then some (.t [u64N (Nat.mod (Nat.sub (Nat.sub (Nat.add x 18446744073709551616) y) c) 18446744073709551616), u64N (bif Nat.blt x (Nat.add y c) then 1 else 0)]) else none
  | _ => none

noncomputable def bytesAV (H : Heap) (x : AV) : Option (List Int) :=
  match srcCells H 1 x with
  | some (_, cs) => u8s cs
  | none => none

noncomputable def xCmp (H : Heap) (args : List AV) : Option AV :=
  match args with
  | [a, b] => match bytesAV H a, bytesAV H b with
    | some ns, some ms => some (.s (.i .i64 (Lib.compareBytes (Lib.bytesOf ns) (Lib.bytesOf ms))))
    | _, _ => none
  | _ => none

noncomputable def xOvl (H : Heap) (args : List AV) : Option AV :=
  match args with
  | [.sl id _ _ _ _ _, .sl id2 _ _ n2 _ _] => match H.at id, H.at id2 with
    | .row .., .row .. => bif Nat.beq id id2 then none else bif Nat.blt 0 n2 then some (.s (.b false)) else none
    | _, _ => none
  | _ => none

noncomputable def xExt (fA fS fC fO : Nat) : Ext1 := fun f args H =>
  bif Nat.beq f fA then xAdd args else bif Nat.beq f fS then xSub args else bif Nat.beq f fC then xCmp H args else bif Nat.beq f fO then xOvl H args else none

section
variable {P : Program} {w : World} {ρ : Map} {H : Heap} {nx : Nat}

theorem bytesAV_run (hI : InvH w ρ H nx) {x : AV} {v : Value} {ns : List Int} (h : bytesAV H x = some ns) (hx : CR ρ x v) : (Extern.Bytes.bytesOf v).run P w = .ok ⟨(Lib.bytesOf ns).toArray⟩ w := by
  unfold bytesAV at h
  split at h
  rotate_left
  · cases h
  rename_i k cs hsrc
  obtain ⟨A, c, us, rfl, hcs, hl, hA⟩ := src_sound hI hsrc hx
  obtain rfl := u8s_CR h hcs
  have hk : ns.length = k := by simpa using hl
  cases A with
  | none =>
    have h0 : k = 0 := by
      rcases Nat.eq_zero_or_pos k with h | h
      · exact h
      · obtain ⟨ad, h1, _⟩ := hA (by omega); cases h1
    subst h0
    have : ns = [] := List.eq_nil_of_length_eq_zero hk
    subst this
    rfl
  | some ad =>
    have hcell : ∀ j x, ns[j]? = some x → w.cell? (ad.add j) = some (.int .u8 x) := fun j x hj => by
      have hlt : j < ns.length := (List.getElem?_eq_some_iff.1 hj).1
      obtain ⟨ad', h1, h2⟩ := hA (by omega)
      injection h1 with h1; subst h1
      exact h2 j _ (by rw [List.getElem?_map, hj]; rfl)
    have := Lib.run_loadBytesX (P := P) w ns ad .empty hcell
    rw [hk] at this
    show (Extern.Bytes.loadBytes ad k .empty).run P w = _
    rw [this]
    simp

theorem xExt_valid {fA fS fC fO tS tR e sz : Nat} (h : Stands P fA fS fC fO tS tR e sz) : (xExt fA fS fC fO).valid P := by
  intro f args H r hx w ρ nx vargs hI hc
  unfold xExt at hx
  cases hA : Nat.beq f fA with
  | true =>
    rw [hA] at hx
    simp only [cond_true] at hx
    obtain rfl := Nat.eq_of_beq_eq_true hA
    unfold xAdd at hx
    split at hx
    rotate_left
    · cases hx
    rename_i x y c
    cases hb : Nat.ble c 1 with
    | false => rw [hb] at hx; cases hx
    | true =>
      rw [hb] at hx
      simp only [cond_true, Option.some.injEq] at hx
      subst hx
      cases hc with | cons _ v0 _ vs0 h0 hc =>
      cases hc with | cons _ v1 _ vs1 h1 hc =>
      cases hc with | cons _ v2 _ vs2 h2 hc =>
      cases hc; cases h0; cases h1; cases h2
      exact ⟨_, h.add x y c (Nat.le_of_ble_eq_true hb) w, .t _ _ (.cons _ _ _ _ (.s (.i .u64 _)) (.cons _ _ _ _ (.s (.i .u64 _)) .nil))⟩
  | false =>
  rw [hA] at hx
  simp only [cond_false] at hx
  cases hS : Nat.beq f fS with
  | true =>
    rw [hS] at hx
    simp only [cond_true] at hx
    obtain rfl := Nat.eq_of_beq_eq_true hS
    unfold xSub at hx
    split at hx
    rotate_left
    · cases hx
    rename_i x y c
    cases hb : Nat.ble c 1 with
    | false => rw [hb] at hx; cases hx
    | true =>
      rw [hb] at hx
      simp only [cond_true, Option.some.injEq] at hx
      subst hx
      cases hc with | cons _ v0 _ vs0 h0 hc =>
      cases hc with | cons _ v1 _ vs1 h1 hc =>
      cases hc with | cons _ v2 _ vs2 h2 hc =>
      cases hc; cases h0; cases h1; cases h2
      refine ⟨_, h.sub x y c (Nat.le_of_ble_eq_true hb) w, .t _ _ (.cons _ _ _ _ (.s (.i .u64 _)) (.cons _ _ _ _ ?_ .nil))⟩
      have e : (bif Nat.blt x (Nat.add y c) then 1 else 0 : Nat) = if x < y + c then 1 else 0 := by
        cases hb2 : Nat.blt x (Nat.add y c) with
        | true => rw [if_pos (show x < y + c from of_blt hb2)]; rfl
        | false => rw [if_neg (Nat.not_lt.2 (show y + c ≤ x from not_blt hb2))]; rfl
      unfold u64N
      rw [e]
      exact .s (.i .u64 _)
  | false =>
  rw [hS] at hx
  simp only [cond_false] at hx
  cases hC : Nat.beq f fC with
  | true =>
    rw [hC] at hx
    simp only [cond_true] at hx
    obtain rfl := Nat.eq_of_beq_eq_true hC
    unfold xCmp at hx
    split at hx
    rotate_left
    · cases hx
    rename_i a b
    split at hx
    rotate_left
    · cases hx
    rename_i ns ms h1 h2
    injection hx with hx; subst hx
    cases hc with | cons _ v0 _ vs0 h0 hc =>
    cases hc with | cons _ v1 _ vs1 h1' hc =>
    cases hc
    refine ⟨_, ?_, .s (.i .i64 _)⟩
    rw [h.cmp]
    have : (Extern.BytealgCompare.compare #[v0, v1]).run P w = .ok (.int .i64 (Lib.compareBytes (Lib.bytesOf ns) (Lib.bytesOf ms))) w := by
      change Sem.run P (do pure (goInt (Extern.BytealgCompare.cmp (← Extern.Bytes.bytesOf v0) (← Extern.Bytes.bytesOf v1)))) w = _
      simp only [Sem.run_bind, bytesAV_run hI h1 h0, bytesAV_run hI h2 h1', Result.andThen_ok, Sem.run_pure, Lib.cmp_eq]
      rfl
    show ((Extern.BytealgCompare.compare #[v0, v1]).run P w).andThen _ = _
    rw [this]; rfl
  | false =>
  rw [hC] at hx
  simp only [cond_false] at hx
  cases hO : Nat.beq f fO with
  | false => rw [hO] at hx; cases hx
  | true =>
    rw [hO] at hx
    simp only [cond_true] at hx
    obtain rfl := Nat.eq_of_beq_eq_true hO
    unfold xOvl at hx
    split at hx
    rotate_left
    · cases hx
    rename_i id off sz1 n1 c1 ex1 id2 off2 sz2 n2 c2 ex2
    split at hx
    rotate_left
    · cases hx
    rename_i T1 cs1 T2 cs2 hH1 hH2
    cases hne : Nat.beq id id2 with
    | true => rw [hne] at hx; cases hx
    | false =>
      rw [hne] at hx
      simp only [cond_false] at hx
      have hne' : id ≠ id2 := fun e => by subst e; rw [Nat.beq_refl] at hne; cases hne
      cases hn2 : Nat.blt 0 n2 with
      | false => rw [hn2] at hx; cases hx
      | true =>
        rw [hn2] at hx
        simp only [cond_true, Option.some.injEq] at hx
        subst hx
        have hn2 := of_blt hn2
        cases hc with | cons _ v0 _ vs0 h0 hc =>
        cases hc with | cons _ v1 _ vs1 h1 hc =>
        cases hc
        obtain ⟨b, bs, cap, hb, rfl, _⟩ := sl_inv hI hH1 h0
        obtain ⟨b2, bs2, cap2, hb2, rfl, p1, p2, _, _, p5, p6⟩ := sl_inv hI hH2 h1
        obtain ⟨ws, g1, g2, _⟩ := hI.cells hH1 hb
        obtain ⟨ws2, g3, g4, _⟩ := hI.cells hH2 hb2
        refine ⟨.bool false, ?_, .s (.b false)⟩
        rw [h.ovl]
        have hmul : 1 * 1 ≤ cap2 * sz2 := Nat.mul_le_mul (by omega) p6
        have := Lib.run_overlaps_apart (P := P) w tS tR e h.und sz (fun w => run_szO h.size w) ⟨b, off, none⟩ ⟨b2, off2, none⟩ n1 cap n2 cap2 (fun e => hne' (hI.inj id id2 b bs bs2 hb (by rw [show b = b2 from e]; exact hb2))) T1 T2 bs bs2
          (by simp [World.shape?, g1, g2]) (by simp [World.shape?, g3, g4]) (by omega) (by simp [World.frozen?, g1]) (by simp [World.frozen?, g1])
        show ((Extern.SlicesOverlaps.overlaps #[tS, tS] #[tR] #[.slice (some ⟨b, off, none⟩) n1 cap, .slice (some ⟨b2, off2, none⟩) n2 cap2]).run P w).andThen _ = _
        rw [this]; rfl
end
end Go.Bm
/-
  THE SECOND MACHINE: results that are kept, by function; results that are a new row.
-/
namespace Go.Bm
open Go
open Go.Am (Sc)

section
variable {P : Program}

/-- A call that, alone, hands on a new row, hands on such a row in every state. -/
theorem ValidAt.liftRow {f : FuncId} {args : List AV} {id off sz n c : Nat} {ex : Bool} {T : TypeId} {cs : List AV} {H0 : Heap} {nx0 : Nat} (h : ValidAt P f args .e 16 (.sl id off sz n c ex) H0 nx0) (hrow : H0.at id = .row T cs)
    (ha : AV.stillL args = true) (hs : AV.stillL cs = true) (H : Heap) (nx : Nat) (hnx : nx < 1073741823) : ValidAt P f args H nx (.sl nx off sz n c ex) (H.put nx (.row T cs)) (nx + 1) := by
  intro w ρ vargs hI hc
  refine (h w _ vargs (InvH.base w) (hc.still ha)).mono ?_
  rintro e w' ⟨v, ρ1, rfl, hI1, hcr, hfe⟩
  have hold : ∀ b, b < w.heap.size → w'.heap[b]? = w.heap[b]? ∧ ∀ i s, ρ1 i ≠ .at b s := fun b hb => hfe.old b hb (fun _ _ h => baseMap_at h)
  have hno : ρ nx = .no := by
    cases hl : ρ nx with
    | no => rfl
    | dead => have := (hI.dead nx hl).1; omega
    | far b s => have := (hI.far nx b s hl).1; omega
    | «at» b s => have := (hI.row nx b s hl).1; omega
  generalize hv : AV.sl id off sz n c ex = x at hcr
  cases hcr with
  | sl id' off' sz' n' c' ex' b bs cap h1 h2 h3 h4 h5 h6 h7 =>
    injection hv with e1 e2 e3 e4 e5 e6
    subst e1 e2 e3 e4 e5 e6
    have hat := hI1.alive' hrow h1
    obtain ⟨_, T', cs', vs, g1, g2, g3, g4, g5⟩ := hI1.row id b bs hat
    rw [hrow] at g1
    injection g1 with g1 g1'
    subst g1 g1'
    have hb : w.heap.size ≤ b := by
      rcases Nat.lt_or_ge b w.heap.size with hlt | hge
      · exact absurd hat ((hold b hlt).2 id bs)
      · exact hge
    have hx : Ext ρ (ρ.put nx (.at b bs)) := .put_no hno
    have hat' : (ρ.put nx (.at b bs)) nx = .at b bs := Map.put_at _ _ _
    refine ⟨_, ρ.put nx (.at b bs), rfl, ⟨hI.glob.ext hx, ?_, ?_, ?_, ?_⟩, .sl nx off sz n c ex b bs cap (.inl hat') h2 h3 h4 h5 h6 h7, ⟨hx, ?_, Nat.le_succ _, ?_, hfe.size, hfe.os, hfe.tape, hfe.output⟩⟩
    · intro i j b0 s s' hi hj
      by_cases e1 : i = nx
      · by_cases e2 : j = nx
        · rw [e1, e2]
        · subst e1
          rw [Map.put_at] at hi; rw [Map.put_ne _ _ e2] at hj
          injection hi with hi _; subst hi
          have := hI.lt hj; omega
      · by_cases e2 : j = nx
        · subst e2
          rw [Map.put_at] at hj; rw [Map.put_ne _ _ e1] at hi
          injection hj with hj _; subst hj
          have := hI.lt hi; omega
        · rw [Map.put_ne _ _ e1] at hi; rw [Map.put_ne _ _ e2] at hj
          exact hI.inj i j b0 s s' hi hj
    · intro i b0 s hi
      by_cases e1 : i = nx
      · subst e1
        rw [Map.put_at] at hi
        injection hi with hi1 hi2; subst hi1 hi2
        exact ⟨by omega, T, cs, vs, by rw [Heap.at_put (by omega), if_pos rfl], g2, g3, g4, g5.still hs⟩
      · rw [Map.put_ne _ _ e1] at hi
        obtain ⟨p1, T2, cs2, vs2, p2, p3, p4, p5, p6⟩ := hI.row i b0 s hi
        exact ⟨by omega, T2, cs2, vs2, by rw [Heap.at_put (by omega), if_neg e1]; exact p2, by rw [(hold b0 (hI.lt hi)).1]; exact p3, p4, p5, p6.ext hx⟩
    · intro i hi
      have e1 : i ≠ nx := fun e => by subst e; rw [Map.put_at] at hi; cases hi
      rw [Map.put_ne _ _ e1] at hi
      obtain ⟨p1, p2⟩ := hI.dead i hi
      exact ⟨by omega, by rw [Heap.at_put (by omega), if_neg e1]; exact p2⟩
    · intro i b0 s hi
      have e1 : i ≠ nx := fun e => by subst e; rw [Map.put_at] at hi; cases hi
      rw [Map.put_ne _ _ e1] at hi
      obtain ⟨p1, p2⟩ := hI.far i b0 s hi
      exact ⟨by omega, by rw [Heap.at_put (by omega), if_neg e1]; exact p2⟩
    · intro i hi hn
      exact ⟨by rw [Map.put_ne _ _ (by omega)]; exact hn, by rw [Heap.at_put (by omega), if_neg (by omega)]⟩
    · intro b0 hb0 hn
      refine ⟨(hold b0 hb0).1, fun i s => ?_⟩
      by_cases e1 : i = nx
      · subst e1; rw [Map.put_at]; intro e; injection e with e _; omega
      · rw [Map.put_ne _ _ e1]; exact hn i s
  | sld id' off' sz' n' c' ex' v h1 h2 =>
    injection hv with e1
    subst e1
    exact absurd h1 (hI1.alive hrow)
  | _ => cases hv

/-! ### By function -/
noncomputable def lookA : List (List AV × AV) → List AV → Option AV
  | [], _ => none
  | q :: l, args => bif AV.beqL args q.1 then some q.2 else lookA l args

structure RowLit where
  T : TypeId
  off : Nat
  sz : Nat
  n : Nat
  c : Nat
  ex : Bool
  cs : List AV

noncomputable def lookR : List (List AV × RowLit) → List AV → Option RowLit
  | [], _ => none
  | q :: l, args => bif AV.beqL args q.1 then some q.2 else lookR l args

theorem lookA_mem : ∀ {l : List (List AV × AV)} {args : List AV} {r : AV}, lookA l args = some r → (args, r) ∈ l
  | [], args, r, h => by simp [lookA] at h
  | q :: l, args, r, h => by
    simp only [lookA] at h
    cases hb : AV.beqL args q.1 with
    | false => rw [hb] at h; exact List.mem_cons_of_mem _ (lookA_mem h)
    | true => rw [hb] at h; simp only [cond_true, Option.some.injEq] at h; rw [AV.beqL_eq hb, ← h]; simp

theorem lookR_mem : ∀ {l : List (List AV × RowLit)} {args : List AV} {r : RowLit}, lookR l args = some r → (args, r) ∈ l
  | [], args, r, h => by simp [lookR] at h
  | q :: l, args, r, h => by
    simp only [lookR] at h
    cases hb : AV.beqL args q.1 with
    | false => rw [hb] at h; exact List.mem_cons_of_mem _ (lookR_mem h)
    | true => rw [hb] at h; simp only [cond_true, Option.some.injEq] at h; rw [AV.beqL_eq hb, ← h]; simp

/-- One function's results. -/
noncomputable def keepV (g : FuncId) (l : List (List AV × AV)) : Kn := fun f args H nx => bif Nat.beq f g then (match lookA l args with | some r => some (r, H, nx) | none => none) else none
noncomputable def keepR (g : FuncId) (l : List (List AV × RowLit)) : Kn := fun f args H nx => bif Nat.beq f g && Nat.blt nx 1073741823 then (match lookR l args with | some ⟨T, off, sz, n, c, ex, cs⟩ => some (.sl nx off sz n c ex, H.put nx (.row T cs), Nat.succ nx) | none => none) else none

noncomputable def comesRow (q : Option (AV × Heap × Nat)) (args : List AV) (r : RowLit) : Bool :=
  match q with
  | some (.sl id off sz n c ex, H', _) => match H'.at id with
    | .row T cs => (Nat.beq T r.T && (Nat.beq off r.off && (Nat.beq sz r.sz && (Nat.beq n r.n && (Nat.beq c r.c && (ex == r.ex)))))) && (AV.beqL cs r.cs && (AV.stillL cs && AV.stillL args))
    | .dead => false
  | _ => false

theorem keepV_ok {K : Tbl} {X : Ext1} {V : Kn} (hmx : P.follows .mixedOrders = true) (hK : K.ok P) (hX : X.valid P) (hV : V.ok P) {k d : Nat} {g : FuncId} {l : List (List AV × AV)}
    (h : l.all (fun q => comesTo (yTab K P X V k d g q.1 .e 16) q.1 q.2) = true) : (keepV g l).ok P := by
  obtain ⟨v1, v2⟩ := yTab_valid hmx hK hX hV (k := k) d
  have key : ∀ args r, lookA l args = some r → (∀ H nx, ValidAt P g args H nx r H nx) ∧ Bodied P g := by
    intro args r hl
    have := List.all_eq_true.1 h _ (lookA_mem hl)
    unfold comesTo at this
    split at this
    · rename_i r' H' nx' hx
      simp only [Bool.and_eq_true] at this
      obtain ⟨h1, h2, h3⟩ := this
      have e := AV.beq_eq h1
      subst e
      exact ⟨fun H nx => (v1 _ _ _ _ _ _ _ hx).lift h3 h2 H nx, v2 _ _ _ _ _ hx⟩
    · cases this
  refine ⟨fun f args H nx r H' nx' hv => ?_, fun f args H nx r hv => ?_⟩
  · unfold keepV at hv
    cases hb : Nat.beq f g with
    | false => rw [hb] at hv; cases hv
    | true =>
      rw [hb] at hv
      obtain rfl := Nat.eq_of_beq_eq_true hb
      simp only [cond_true] at hv
      split at hv
      · rename_i r' hr
        simp only [Option.some.injEq, Prod.mk.injEq] at hv
        obtain ⟨rfl, rfl, rfl⟩ := hv
        exact (key _ _ hr).1 H nx
      · cases hv
  · unfold keepV at hv
    cases hb : Nat.beq f g with
    | false => rw [hb] at hv; cases hv
    | true =>
      rw [hb] at hv
      obtain rfl := Nat.eq_of_beq_eq_true hb
      simp only [cond_true] at hv
      split at hv
      · rename_i r' hr; exact (key _ _ hr).2
      · cases hv

theorem keepR_ok {K : Tbl} {X : Ext1} {V : Kn} (hmx : P.follows .mixedOrders = true) (hK : K.ok P) (hX : X.valid P) (hV : V.ok P) {k d : Nat} {g : FuncId} {l : List (List AV × RowLit)}
    (h : l.all (fun q => comesRow (yTab K P X V k d g q.1 .e 16) q.1 q.2) = true) : (keepR g l).ok P := by
  obtain ⟨v1, v2⟩ := yTab_valid hmx hK hX hV (k := k) d
  have key : ∀ args r, lookR l args = some r → (∀ H nx, nx < 1073741823 → ValidAt P g args H nx (.sl nx r.off r.sz r.n r.c r.ex) (H.put nx (.row r.T r.cs)) (nx + 1)) ∧ Bodied P g := by
    intro args r hl
    have := List.all_eq_true.1 h _ (lookR_mem hl)
    unfold comesRow at this
    split at this
    · rename_i id off sz n c ex H' nx' hx
      split at this
      · rename_i T cs hrow
        simp only [Bool.and_eq_true] at this
        obtain ⟨⟨h1, h2, h3, h4, h5, h6⟩, h7, h8, h9⟩ := this
        have e1 := Nat.eq_of_beq_eq_true h1
        have e2 := Nat.eq_of_beq_eq_true h2
        have e3 := Nat.eq_of_beq_eq_true h3
        have e4 := Nat.eq_of_beq_eq_true h4
        have e5 := Nat.eq_of_beq_eq_true h5
        have e6 := eq_of_beq h6
        have e7 := AV.beqL_eq h7
        refine ⟨fun H nx hn => ?_, v2 _ _ _ _ _ hx⟩
        rw [← e1, ← e2, ← e3, ← e4, ← e5, ← e6, ← e7]
        exact (v1 _ _ _ _ _ _ _ hx).liftRow hrow h9 h8 H nx hn
      · cases this
    · cases this
  refine ⟨fun f args H nx r H' nx' hv => ?_, fun f args H nx r hv => ?_⟩
  · unfold keepR at hv
    cases hb : (Nat.beq f g && Nat.blt nx 1073741823) with
    | false => rw [hb] at hv; cases hv
    | true =>
      rw [hb] at hv
      simp only [Bool.and_eq_true] at hb
      obtain ⟨hb, hn⟩ := hb
      obtain rfl := Nat.eq_of_beq_eq_true hb
      simp only [cond_true] at hv
      split at hv
      · rename_i T off sz n c ex cs hr
        simp only [Option.some.injEq, Prod.mk.injEq] at hv
        obtain ⟨rfl, rfl, rfl⟩ := hv
        exact (key _ _ hr).1 H nx (of_blt hn)
      · cases hv
  · unfold keepR at hv
    cases hb : (Nat.beq f g && Nat.blt nx 1073741823) with
    | false => rw [hb] at hv; cases hv
    | true =>
      rw [hb] at hv
      simp only [Bool.and_eq_true] at hb
      obtain ⟨hb, hn⟩ := hb
      obtain rfl := Nat.eq_of_beq_eq_true hb
      simp only [cond_true] at hv
      split at hv
      · rename_i T off sz n c ex cs hr; exact (key _ _ hr).2
      · cases hv
end
end Go.Bm
/-
  THE SECOND MACHINE: memory written out; what is not told of is forgotten.
-/
namespace Go.Bm
open Go
open Go.Am (Sc)

noncomputable def hOf : List (Nat × Blk) → Heap
  | [] => .e
  | q :: l => (hOf l).put q.1 q.2

noncomputable def Blk.beqB : Blk → Blk → Bool
  | .row T cs, .row T' cs' => Nat.beq T T' && AV.beqL cs cs'
  | _, _ => false

theorem Blk.beqB_eq {x y : Blk} (h : Blk.beqB x y = true) : x = y := by
  cases x <;> cases y <;> simp only [Blk.beqB, Bool.false_eq_true, Bool.and_eq_true] at h
  rw [Nat.eq_of_beq_eq_true h.1, AV.beqL_eq h.2]

noncomputable def toldBy (l : List (Nat × Blk)) (H' : Heap) : Bool := l.all fun q => Nat.blt q.1 1073741824 && Blk.beqB (H'.at q.1) q.2

theorem at_e (j : Nat) : Heap.at .e j = .dead := rfl

theorem hOf_at {H' : Heap} : ∀ {l : List (Nat × Blk)}, toldBy l H' = true → ∀ j, (hOf l).at j = .dead ∨ (hOf l).at j = H'.at j
  | [], h, j => .inl (at_e j)
  | q :: l, h, j => by
    simp only [toldBy, List.all_cons, Bool.and_eq_true] at h
    obtain ⟨⟨h1, h2⟩, h3⟩ := h
    simp only [hOf]
    rw [Heap.at_put (of_blt h1)]
    by_cases e : j = q.1
    · rw [if_pos e, e]; exact .inr (Blk.beqB_eq h2).symm
    · rw [if_neg e]; exact hOf_at h3 j

section
variable {P : Program}

noncomputable def cut (ρ : Map) (H : Heap) : Map := fun i => match ρ i with
  | .at b s => match H.at i with
    | .dead => .dead
    | .row .. => .at b s
  | x => x

theorem cut_at {ρ : Map} {H : Heap} {i b s : Nat} (h : cut ρ H i = .at b s) : ρ i = .at b s ∧ ∃ T cs, H.at i = .row T cs := by
  unfold cut at h
  cases hr : ρ i with
  | «at» b' s' =>
    rw [hr] at h
    cases hH : H.at i with
    | dead => simp only [hH] at h; cases h
    | row T cs => simp only [hH] at h; exact ⟨h, T, cs, rfl⟩
  | no => rw [hr] at h; cases h
  | dead => rw [hr] at h; cases h
  | far b s => rw [hr] at h; cases h

theorem cut_ext {ρ : Map} {H : Heap} : Ext ρ (cut ρ H) := by
  refine ⟨fun i b s h => ?_, fun i h => by simp [cut, h], fun i b s h => by simp [cut, h]⟩
  cases hH : H.at i with
  | dead => right; simp [cut, h, hH]
  | row T cs => left; simp [cut, h, hH]

theorem ValidAt.prune {f : FuncId} {args : List AV} {r : AV} {H' : Heap} {nx' : Nat} {l : List (Nat × Blk)} (h : ValidAt P f args .e 16 r H' nx') (hl : toldBy l H' = true) : ValidAt P f args .e 16 r (hOf l) nx' := by
  intro w ρ vargs hI hc
  refine (h w ρ vargs hI hc).mono ?_
  rintro e w' ⟨v, ρ1, rfl, hI1, hcr, hfe⟩
  have hd : ∀ i, H'.at i = .dead → (hOf l).at i = .dead := fun i hi => by
    rcases hOf_at hl i with h | h
    · exact h
    · rw [h, hi]
  refine ⟨v, cut ρ1 (hOf l), rfl, ⟨hI1.glob.ext cut_ext, fun i j b s s' hi hj => hI1.inj i j b s s' (cut_at hi).1 (cut_at hj).1, fun i b s hi => ?_, fun i hi => ?_, fun i b s hi => ?_⟩, hcr.ext cut_ext,
    ⟨hfe.ext.trans cut_ext, fun i hi hn => (by
      rcases hI.glob.1 i hi with ⟨s, h⟩ | h
      · rw [hn] at h; rcases h with h | h <;> cases h
      · rw [hn] at h; cases h), hfe.nx, fun b hb hn => ?_, hfe.size, hfe.os, hfe.tape, hfe.output⟩⟩
  · obtain ⟨h1, T0, cs0, hrow⟩ := cut_at hi
    obtain ⟨g1, T, cs, vs, g2, g3, g4, g5, g6⟩ := hI1.row i b s h1
    refine ⟨g1, T, cs, vs, ?_, g3, g4, g5, g6.ext cut_ext⟩
    rcases hOf_at hl i with h | h
    · rw [hrow] at h; cases h
    · rw [h, g2]
  · unfold cut at hi
    cases hr : ρ1 i with
    | «at» b' s' =>
      rw [hr] at hi
      cases hH : (hOf l).at i with
      | dead => exact ⟨(hI1.row i b' s' hr).1, rfl⟩
      | row T cs => simp only [hH] at hi; cases hi
    | no => rw [hr] at hi; cases hi
    | dead => exact ⟨(hI1.dead i hr).1, hd i (hI1.dead i hr).2⟩
    | far b s => rw [hr] at hi; cases hi
  · unfold cut at hi
    cases hr : ρ1 i with
    | «at» b' s' =>
      rw [hr] at hi
      cases hH : (hOf l).at i with
      | dead => simp only [hH] at hi; cases hi
      | row T cs => simp only [hH] at hi; cases hi
    | no => rw [hr] at hi; cases hi
    | dead => rw [hr] at hi; cases hi
    | far b' s' => exact ⟨(hI1.far i b' s' hr).1, hd i (hI1.far i b' s' hr).2⟩
  · obtain ⟨p1, p2⟩ := hfe.old b hb hn
    exact ⟨p1, fun i s hi => p2 i s (cut_at hi).1⟩

/-- A call from nothing that comes to memory written out. -/
noncomputable def litV (g : FuncId) (r : AV) (l : List (Nat × Blk)) (n : Nat) : Kn := fun f args H nx =>
  bif Nat.beq f g && Nat.beq nx 16 then
    match args, H with
    | [], .e => some (r, hOf l, n)
    | _, _ => none
  else none

noncomputable def comesLit (q : Option (AV × Heap × Nat)) (r : AV) (l : List (Nat × Blk)) (n : Nat) : Bool :=
  match q with
  | some (r', H', n') => AV.beq r' r && (Nat.beq n' n && toldBy l H')
  | none => false

theorem litV_ok {K : Tbl} {X : Ext1} {V : Kn} (hmx : P.follows .mixedOrders = true) (hK : K.ok P) (hX : X.valid P) (hV : V.ok P) {k d : Nat} {g : FuncId} {r : AV} {l : List (Nat × Blk)} {n : Nat}
    (h : comesLit (yTab K P X V k d g [] .e 16) r l n = true) : (litV g r l n).ok P := by
  obtain ⟨v1, v2⟩ := yTab_valid hmx hK hX hV (k := k) d
  have key : ValidAt P g [] .e 16 r (hOf l) n ∧ Bodied P g := by
    unfold comesLit at h
    split at h
    · rename_i r' H' n' hx
      simp only [Bool.and_eq_true] at h
      obtain ⟨h1, h2, h3⟩ := h
      have e1 := AV.beq_eq h1
      have e2 := Nat.eq_of_beq_eq_true h2
      subst e1 e2
      exact ⟨(v1 _ _ _ _ _ _ _ hx).prune h3, v2 _ _ _ _ _ hx⟩
    · cases h
  refine ⟨fun f args H nx r' H' nx' hv => ?_, fun f args H nx r' hv => ?_⟩
  · unfold litV at hv
    cases hb : (Nat.beq f g && Nat.beq nx 16) with
    | false => rw [hb] at hv; cases hv
    | true =>
      rw [hb] at hv
      simp only [Bool.and_eq_true] at hb
      have e1 := Nat.eq_of_beq_eq_true hb.1
      have e2 := Nat.eq_of_beq_eq_true hb.2
      subst e1 e2
      simp only [cond_true] at hv
      split at hv
      · simp only [Option.some.injEq, Prod.mk.injEq] at hv
        obtain ⟨rfl, rfl, rfl⟩ := hv
        exact key.1
      · cases hv
  · unfold litV at hv
    cases hb : (Nat.beq f g && Nat.beq nx 16) with
    | false => rw [hb] at hv; cases hv
    | true =>
      simp only [Bool.and_eq_true] at hb
      rw [Nat.eq_of_beq_eq_true hb.1]
      exact key.2
end
end Go.Bm
/-
  THE SECOND MACHINE: a call that was run on a part of the memory, kept: that part, before and behind, is written out.
-/
namespace Go.Bm
open Go
open Go.Am (Sc)

noncomputable def layB : List (Nat × Blk) → Heap → Heap
  | [], H => H
  | q :: l, H => (layB l H).put q.1 q.2

noncomputable def inL (t : Tr Blk) (i : Nat) : Bool := match t.getR i with | some _ => true | none => false

noncomputable def sameB : Blk → Blk → Bool
  | .row T cs, .row T' cs' => Nat.beq T T' && AV.beqL cs cs'
  | .dead, .dead => true
  | _, _ => false

theorem sameB_eq {x y : Blk} (h : sameB x y = true) : x = y := by
  cases x <;> cases y <;> simp only [sameB, Bool.false_eq_true, Bool.and_eq_true] at h
  · rfl
  · rw [Nat.eq_of_beq_eq_true h.1, AV.beqL_eq h.2]

noncomputable def tells (l : List (Nat × Blk)) (H : Heap) : Bool := l.all fun q => Nat.blt q.1 1073741824 && sameB (H.at q.1) q.2

theorem put_getR {H : Heap} {i j : Nat} {b : Blk} (h : i < 1073741824) : (H.put i b).getR j = if j = i then some b else H.getR j := by
  unfold Heap.put
  rw [getR_eq, getR_eq, setR_eq, Tr.get_set b 40 H i j (by omega)]

theorem lay_getR {H0 : Heap} : ∀ {l : List (Nat × Blk)} {H : Heap}, tells l H0 = true → ∀ j, (layB l H).getR j = match (layB l .e).getR j with | some b => some b | none => H.getR j
  | [], H, h, j => by
    show H.getR j = match Tr.getR (Tr.e : Tr Blk) j with | some b => some b | none => H.getR j
    rw [getR_eq (Tr.e : Tr Blk), get_e]
  | q :: l, H, h, j => by
    simp only [tells, List.all_cons, Bool.and_eq_true] at h
    obtain ⟨⟨h1, h2⟩, h3⟩ := h
    simp only [layB]
    rw [put_getR (of_blt h1), put_getR (of_blt h1)]
    by_cases e : j = q.1
    · rw [if_pos e, if_pos e]
    · rw [if_neg e, if_neg e]; exact lay_getR h3 j

theorem lay_at {H0 : Heap} {l : List (Nat × Blk)} {H : Heap} (h : tells l H0 = true) (j : Nat) : (layB l H).at j = match (layB l .e).getR j with | some b => b | none => H.at j := by
  show Option.rec (motive := fun _ => Blk) .dead (fun b => b) ((layB l H).getR j) = _
  rw [lay_getR h j]
  cases (layB l .e).getR j <;> rfl

theorem told_eq {H0 : Heap} : ∀ {l : List (Nat × Blk)}, tells l H0 = true → ∀ j b, (layB l .e).getR j = some b → b = H0.at j
  | [], h, j, b, hb => by
    rw [show (layB [] .e) = (Tr.e : Tr Blk) from rfl, getR_eq, get_e] at hb; cases hb
  | q :: l, h, j, b, hb => by
    simp only [tells, List.all_cons, Bool.and_eq_true] at h
    obtain ⟨⟨h1, h2⟩, h3⟩ := h
    simp only [layB] at hb
    rw [put_getR (of_blt h1)] at hb
    by_cases e : j = q.1
    · rw [if_pos e] at hb; injection hb with hb; rw [e, sameB_eq h2, hb]
    · rw [if_neg e] at hb; exact told_eq h3 j b hb

theorem lay_mem {H0 : Heap} : ∀ {l : List (Nat × Blk)}, tells l H0 = true → ∀ q ∈ l, inL (layB l .e) q.1 = true
  | [], h, q, hq => by cases hq
  | q' :: l, h, q, hq => by
    simp only [tells, List.all_cons, Bool.and_eq_true] at h
    obtain ⟨⟨h1, h2⟩, h3⟩ := h
    unfold inL
    simp only [layB]
    rw [put_getR (of_blt h1)]
    by_cases e : q.1 = q'.1
    · rw [if_pos e]
    · rw [if_neg e]
      rcases List.mem_cons.1 hq with rfl | hq
      · exact absurd rfl e
      · exact lay_mem h3 q hq

mutual
/-- Names only what is older, or told. -/
noncomputable def AV.inN (k : Nat) (t : Tr Blk) : AV → Bool
  | .p id _ => Nat.blt id k || inL t id
  | .sl id _ _ _ _ _ => Nat.blt id k || inL t id
  | .f _ fs cs => AV.inNL k t fs && AV.inNL k t cs
  | .a cs => AV.inNL k t cs
  | .t cs => AV.inNL k t cs
  | .yl _ => false
  | _ => true
noncomputable def AV.inNL (k : Nat) (t : Tr Blk) : List AV → Bool
  | [] => true
  | x :: xs => AV.inN k t x && AV.inNL k t xs
end

mutual
theorem CR.swap {ρ ρ' : Map} {k : Nat} {t : Tr Blk} (hk : ∀ i b s, (Nat.blt i k || inL t i) = true → (ρ i).is b s → (ρ' i).is b s ∨ ρ' i = .dead) (hd : ∀ i, (Nat.blt i k || inL t i) = true → ρ i = .dead → ρ' i = .dead) (hfr : ∀ i L, 13 ≤ i → i < 16 → ρ i = .far i L → ρ' i = .far i L) {x : AV} {v : Value} (hx : x.inN k t = true) (h : CR ρ x v) : CR ρ' x v :=
  match x, v, h, hx with
  | _, _, .u v, _ => .u v
  | _, _, .s x, _ => .s x
  | _, _, .g n x h, _ => .g n x h
  | _, _, .yl id l h, hx => by cases hx
  | _, _, .w i kk l L x h1 h2 h3 h4, _ => .w i kk l L x h1 h2 (hfr i L h1 h2 h3) h4
  | _, _, .p id off b sz h, hx => (hk id b sz hx h).elim (fun h' => .p id off b sz h') (fun h' => .pd id off _ h' rfl)
  | _, _, .pd id off v h h', hx => .pd id off v (hd id hx h) h'
  | _, _, .sl id off sz n c ex b bs cap h h1 h2 h3 h4 h5 h6, hx => (hk id b bs hx h).elim (fun h' => .sl id off sz n c ex b bs cap h' h1 h2 h3 h4 h5 h6) (fun h' => .sld id off sz n c ex _ h' rfl)
  | _, _, .sld id off sz n c ex v h h', hx => .sld id off sz n c ex v (hd id hx h) h'
  | _, _, .z ex a cap h h', _ => .z ex a cap h h'
  | _, _, .f fn fs cs vf vc h1 h2, hx => .f fn fs cs vf vc (CRs.swap hk hd hfr (by simp only [AV.inN, Bool.and_eq_true] at hx; exact hx.1) h1) (CRs.swap hk hd hfr (by simp only [AV.inN, Bool.and_eq_true] at hx; exact hx.2) h2)
  | _, _, .a cs vs h, hx => .a cs vs (CRs.swap hk hd hfr (by simpa only [AV.inN] using hx) h)
  | _, _, .t cs vs h, hx => .t cs vs (CRs.swap hk hd hfr (by simpa only [AV.inN] using hx) h)
theorem CRs.swap {ρ ρ' : Map} {k : Nat} {t : Tr Blk} (hk : ∀ i b s, (Nat.blt i k || inL t i) = true → (ρ i).is b s → (ρ' i).is b s ∨ ρ' i = .dead) (hd : ∀ i, (Nat.blt i k || inL t i) = true → ρ i = .dead → ρ' i = .dead) (hfr : ∀ i L, 13 ≤ i → i < 16 → ρ i = .far i L → ρ' i = .far i L) {xs : List AV} {vs : List Value} (hx : AV.inNL k t xs = true) (h : CRs ρ xs vs) : CRs ρ' xs vs :=
  match xs, vs, h, hx with
  | _, _, .nil, _ => .nil
  | _, _, .cons x v xs vs h1 h2, hx => .cons x v xs vs (CR.swap hk hd hfr (by simp only [AV.inNL, Bool.and_eq_true] at hx; exact hx.1) h1) (CRs.swap hk hd hfr (by simp only [AV.inNL, Bool.and_eq_true] at hx; exact hx.2) h2)
end

noncomputable def closedB (n : Nat) (t : Tr Blk) (l : List (Nat × Blk)) : Bool := l.all fun q => match q.2 with | .row _ cs => AV.inNL n t cs | .dead => true

/-- The three things that are asked of what is written out. -/
noncomputable def partOK (n : Nat) (r : AV) (l l' : List (Nat × Blk)) : Bool :=
  match layB l .e, layB l' .e with
  | t, t' => l.all (fun q => inL t' q.1) && (l'.all (fun q => Nat.ble n q.1 || inL t q.1) && (AV.inN n t' r && closedB n t' l'))

section
variable {P : Program}

theorem closed_get {H0 : Heap} {n : Nat} {t : Tr Blk} : ∀ {l : List (Nat × Blk)}, tells l H0 = true → closedB n t l = true → ∀ j T cs, (layB l .e).getR j = some (.row T cs) → AV.inNL n t cs = true
  | [], h, hc, j, T, cs, hb => by
    rw [show (layB [] .e) = (Tr.e : Tr Blk) from rfl, getR_eq, get_e] at hb; cases hb
  | q :: l, h, hc, j, T, cs, hb => by
    simp only [tells, closedB, List.all_cons, Bool.and_eq_true] at h hc
    obtain ⟨⟨h1, h2⟩, h3⟩ := h
    simp only [layB] at hb
    rw [put_getR (of_blt h1)] at hb
    by_cases e : j = q.1
    · rw [if_pos e] at hb; injection hb with hb; have := hc.1; rw [hb] at this; exact this
    · rw [if_neg e] at hb; exact closed_get h3 hc.2 j T cs hb

theorem mem_of_inL {H0 : Heap} : ∀ {l : List (Nat × Blk)}, tells l H0 = true → ∀ j, inL (layB l .e) j = true → ∃ b, (j, b) ∈ l
  | [], h, j, hb => by
    unfold inL at hb
    rw [show (layB [] .e) = (Tr.e : Tr Blk) from rfl, getR_eq, get_e] at hb; cases hb
  | q :: l, h, j, hb => by
    simp only [tells, List.all_cons, Bool.and_eq_true] at h
    obtain ⟨⟨h1, h2⟩, h3⟩ := h
    by_cases e : j = q.1
    · exact ⟨q.2, by rw [e]; simp⟩
    · unfold inL at hb
      simp only [layB] at hb
      rw [put_getR (of_blt h1), if_neg e] at hb
      obtain ⟨b, hb⟩ := mem_of_inL h3 j hb
      exact ⟨b, by simp [hb]⟩

/-- What a call comes to on a part of the memory, it comes to on all of it. -/
theorem ValidAt.part {f : FuncId} {args : List AV} {r : AV} {l l' : List (Nat × Blk)} {H H' : Heap} {n n' : Nat} (h : ValidAt P f args (layB l .e) n r H' n')
    (hl : tells l H = true) (hl' : tells l' H' = true) (hp : partOK n r l l' = true) : ValidAt P f args H n r (layB l' H) n' := by
  intro w ρ vargs hI hc
  unfold partOK at hp
  simp only [Bool.and_eq_true] at hp
  obtain ⟨p1, p2, p3, p4⟩ := hp
  -- the part
  let S : Nat → Prop := fun i => inL (layB l .e) i = true
  have hS1 : ∀ i, S i → (layB l .e).at i = H.at i := fun i hi => by
    rw [lay_at hl i]
    unfold S at hi
    unfold inL at hi
    cases hg : (layB l .e).getR i with
    | none => rw [hg] at hi; cases hi
    | some b => exact told_eq hl i b hg
  have hS2 : ∀ i, ¬ S i → (layB l .e).at i = .dead := fun i hi => by
    rw [lay_at hl i]
    cases hg : (layB l .e).getR i with
    | none => exact at_e i
    | some b => exact absurd (by unfold S inL; rw [hg]) hi
  have hSL : ∀ i, S i → inL (layB l' .e) i = true := fun i hi => by
    obtain ⟨b, hb⟩ := mem_of_inL hl i hi
    exact List.all_eq_true.1 p1 _ hb
  have hLS : ∀ i, i < n → inL (layB l' .e) i = true → S i := fun i hin hi => by
    obtain ⟨b, hb⟩ := mem_of_inL hl' i hi
    have := List.all_eq_true.1 p2 _ hb
    simp only [Bool.or_eq_true] at this
    rcases this with h | h
    · exact absurd (Nat.le_of_ble_eq_true h) (by omega)
    · exact h
  have hI0 : InvH w (only ρ S) (layB l .e) n := hI.only hS1 hS2
  refine (h w (only ρ S) vargs hI0 hc.only).mono ?_
  rintro e w' ⟨v, ρ1, rfl, hI1, hcr, hfe⟩
  -- what becomes of names that aren't in the part
  have hout : ∀ i, ¬ S i → ∀ b s, ρ i = .at b s → only ρ S i = .far b s := fun i hi b s hb => by unfold Bm.only; rw [if_neg hi, hb]
  have hin : ∀ i, S i → only ρ S i = ρ i := fun i hi => by unfold Bm.only; rw [if_pos hi]
  have hlt : ∀ i, ρ i ≠ .no → i < n := fun i hi => by
    cases hr : ρ i with
    | no => exact absurd hr hi
    | «at» b s => exact (hI.row i b s hr).1
    | dead => exact (hI.dead i hr).1
    | far b s => exact (hI.far i b s hr).1
  let ρ2 : Map := fun i => if inL (layB l' .e) i = true then ρ1 i else ρ i
  have r2in : ∀ i, inL (layB l' .e) i = true → ρ2 i = ρ1 i := fun i hi => if_pos hi
  have r2out : ∀ i, ¬ inL (layB l' .e) i = true → ρ2 i = ρ i := fun i hi => if_neg hi
  have hext : Ext ρ ρ2 := by
    refine ⟨fun i b s hi => ?_, fun i hi => ?_, fun i b s hi => ?_⟩
    · by_cases hL : inL (layB l' .e) i = true
      · have hs := hLS i (hlt i (by rw [hi]; exact fun h => by cases h)) hL
        rw [r2in i hL]
        exact hfe.ext.at_ i b s (by rw [hin i hs]; exact hi)
      · rw [r2out i hL]; exact .inl hi
    · by_cases hL : inL (layB l' .e) i = true
      · have hs := hLS i (hlt i (by rw [hi]; exact fun h => by cases h)) hL
        rw [r2in i hL]
        exact hfe.ext.dead i (by rw [hin i hs]; exact hi)
      · rw [r2out i hL]; exact hi
    · by_cases hL : inL (layB l' .e) i = true
      · have hs := hLS i (hlt i (by rw [hi]; exact fun h => by cases h)) hL
        rw [r2in i hL]
        exact hfe.ext.far i b s (by rw [hin i hs]; exact hi)
      · rw [r2out i hL]; exact hi
  -- from the run's names to ours
  have hk : ∀ i b s, (Nat.blt i n || inL (layB l' .e) i) = true → (ρ1 i).is b s → (ρ2 i).is b s ∨ ρ2 i = .dead := fun i b s hi hb => by
    by_cases hL : inL (layB l' .e) i = true
    · rw [r2in i hL]; exact .inl hb
    · have hni : i < n := by
        simp only [Bool.or_eq_true] at hi
        rcases hi with h | h
        · exact of_blt h
        · exact absurd h hL
      have hns : ¬ S i := fun hs => hL (hSL i hs)
      rw [r2out i hL]
      left
      cases hr : ρ i with
      | no =>
        have := (hfe.no i hni (by unfold Bm.only; rw [if_neg hns, hr])).1
        rw [this] at hb; rcases hb with h | h <;> cases h
      | dead =>
        have := hfe.ext.dead i (by unfold Bm.only; rw [if_neg hns, hr])
        rw [this] at hb; rcases hb with h | h <;> cases h
      | far b' s' =>
        have := hfe.ext.far i b' s' (by unfold Bm.only; rw [if_neg hns, hr])
        rw [this] at hb
        rcases hb with h | h
        · cases h
        · exact .inr h
      | «at» b' s' =>
        have := hfe.ext.far i b' s' (hout i hns b' s' hr)
        rw [this] at hb
        rcases hb with h | h
        · cases h
        · injection h with e1 e2; subst e1 e2; exact .inl rfl
  have hd : ∀ i, (Nat.blt i n || inL (layB l' .e) i) = true → ρ1 i = .dead → ρ2 i = .dead := fun i hi hb => by
    by_cases hL : inL (layB l' .e) i = true
    · rw [r2in i hL]; exact hb
    · have hni : i < n := by
        simp only [Bool.or_eq_true] at hi
        rcases hi with h | h
        · exact of_blt h
        · exact absurd h hL
      have hns : ¬ S i := fun hs => hL (hSL i hs)
      rw [r2out i hL]
      cases hr : ρ i with
      | no =>
        have := (hfe.no i hni (by unfold Bm.only; rw [if_neg hns, hr])).1
        rw [this] at hb; cases hb
      | dead => rfl
      | far b' s' =>
        have := hfe.ext.far i b' s' (by unfold Bm.only; rw [if_neg hns, hr])
        rw [this] at hb; cases hb
      | «at» b' s' =>
        have := hfe.ext.far i b' s' (hout i hns b' s' hr)
        rw [this] at hb; cases hb
  have hfr : ∀ i L, 13 ≤ i → i < 16 → ρ1 i = .far i L → ρ2 i = .far i L := fun i L g1 g2 hb => by
    by_cases hL : inL (layB l' .e) i = true
    · rw [r2in i hL]; exact hb
    · rw [r2out i hL]
      obtain ⟨s, hr⟩ := hI.glob.2 i g1 g2
      have hq := hfe.ext.far i i s (by unfold Bm.only; split <;> simp [hr])
      rw [hq] at hb
      injection hb with _ e
      subst e
      exact hr
  -- an old block that the part does not name is as it was
  have hkeep : ∀ i b s, ¬ inL (layB l' .e) i = true → ρ i = .at b s → w'.heap[b]? = w.heap[b]? ∧ ∀ j s', ρ1 j ≠ .at b s' := fun i b s hL hi => by
    have hns : ¬ S i := fun hs => hL (hSL i hs)
    refine hfe.old b (hI.lt hi) (fun j s' hj => ?_)
    by_cases hs : S j
    · rw [hin j hs] at hj
      have := hI.inj i j b s s' hi hj
      subst this; exact hns hs
    · unfold Bm.only at hj
      rw [if_neg hs] at hj
      split at hj
      · cases hj
      · rename_i hne; exact hne _ _ hj
  have hat : ∀ i, inL (layB l' .e) i = true → (layB l' H).at i = H'.at i := fun i hL => by
    rw [lay_at hl' i]
    unfold inL at hL
    cases hg : (layB l' .e).getR i with
    | none => rw [hg] at hL; cases hL
    | some b => exact told_eq hl' i b hg
  have hat' : ∀ i, ¬ inL (layB l' .e) i = true → (layB l' H).at i = H.at i := fun i hL => by
    rw [lay_at hl' i]
    unfold inL at hL
    cases hg : (layB l' .e).getR i with
    | none => rfl
    | some b => rw [hg] at hL; exact absurd rfl hL
  refine ⟨v, ρ2, rfl, ⟨hI.glob.ext hext, fun i j b s s' hi hj => ?_, fun i b s hi => ?_, fun i hi => ?_, fun i b s hi => ?_⟩, hcr.swap hk hd hfr p3, ⟨hext, fun i hi hn => ?_, hfe.nx, fun b hb hn => ?_, hfe.size, hfe.os, hfe.tape, hfe.output⟩⟩
  · by_cases hLi : inL (layB l' .e) i = true
    · by_cases hLj : inL (layB l' .e) j = true
      · rw [r2in i hLi] at hi; rw [r2in j hLj] at hj
        exact hI1.inj i j b s s' hi hj
      · rw [r2in i hLi] at hi; rw [r2out j hLj] at hj
        exact absurd hi ((hkeep j b s' hLj hj).2 i s)
    · by_cases hLj : inL (layB l' .e) j = true
      · rw [r2out i hLi] at hi; rw [r2in j hLj] at hj
        exact absurd hj ((hkeep i b s hLi hi).2 j s')
      · rw [r2out i hLi] at hi; rw [r2out j hLj] at hj
        exact hI.inj i j b s s' hi hj
  · by_cases hL : inL (layB l' .e) i = true
    · rw [r2in i hL] at hi
      obtain ⟨g1, T, cs, vs, g2, g3, g4, g5, g6⟩ := hI1.row i b s hi
      refine ⟨g1, T, cs, vs, by rw [hat i hL]; exact g2, g3, g4, g5, g6.swap hk hd hfr ?_⟩
      have hL' := hL
      unfold inL at hL'
      cases hg : (layB l' .e).getR i with
      | none => rw [hg] at hL'; cases hL'
      | some bb =>
        have := told_eq hl' i bb hg
        rw [g2] at this
        subst this
        exact closed_get hl' p4 i T cs hg
    · rw [r2out i hL] at hi
      obtain ⟨g1, T, cs, vs, g2, g3, g4, g5, g6⟩ := hI.row i b s hi
      exact ⟨Nat.lt_of_lt_of_le g1 hfe.nx, T, cs, vs, by rw [hat' i hL]; exact g2, by rw [(hkeep i b s hL hi).1]; exact g3, g4, g5, g6.ext hext⟩
  · by_cases hL : inL (layB l' .e) i = true
    · rw [r2in i hL] at hi
      rw [hat i hL]; exact hI1.dead i hi
    · rw [r2out i hL] at hi
      rw [hat' i hL]; exact ⟨Nat.lt_of_lt_of_le (hI.dead i hi).1 hfe.nx, (hI.dead i hi).2⟩
  · by_cases hL : inL (layB l' .e) i = true
    · rw [r2in i hL] at hi
      rw [hat i hL]; exact hI1.far i b s hi
    · rw [r2out i hL] at hi
      rw [hat' i hL]; exact ⟨Nat.lt_of_lt_of_le (hI.far i b s hi).1 hfe.nx, (hI.far i b s hi).2⟩
  · by_cases hL : inL (layB l' .e) i = true
    · have hs := hLS i hi hL
      obtain ⟨q1, q2⟩ := hfe.no i hi (by rw [hin i hs]; exact hn)
      exact ⟨by rw [r2in i hL]; exact q1, by rw [hat i hL, q2, hS1 i hs]⟩
    · exact ⟨by rw [r2out i hL]; exact hn, hat' i hL⟩
  · have hn' : ∀ i s, only ρ S i ≠ .at b s := fun i s hi => by
      unfold Bm.only at hi
      split at hi
      · exact hn i s hi
      · split at hi
        · cases hi
        · exact hn i s hi
    obtain ⟨q1, q2⟩ := hfe.old b hb hn'
    refine ⟨q1, fun i s hi => ?_⟩
    by_cases hL : inL (layB l' .e) i = true
    · rw [r2in i hL] at hi; exact q2 i s hi
    · rw [r2out i hL] at hi; exact hn i s hi

/-- A call that is kept with the part of the memory that it saw. -/
noncomputable def partV (g : FuncId) (as : List AV) (r : AV) (l : List (Nat × Blk)) (n : Nat) (l' : List (Nat × Blk)) (n' : Nat) : Kn := fun f args H nx =>
  bif Nat.beq f g && (Nat.beq nx n && (AV.beqL args as && tells l H)) then some (r, layB l' H, n') else none

noncomputable def comesPart (q : Option (AV × Heap × Nat)) (r : AV) (l : List (Nat × Blk)) (n : Nat) (l' : List (Nat × Blk)) (n' : Nat) : Bool :=
  match q with
  | some (r', H', n1) => AV.beq r' r && (Nat.beq n1 n' && (tells l' H' && partOK n r l l'))
  | none => false

theorem partV_ok {K : Tbl} {X : Ext1} {V : Kn} (hmx : P.follows .mixedOrders = true) (hK : K.ok P) (hX : X.valid P) (hV : V.ok P) {k d : Nat} {g : FuncId} {as : List AV} {r : AV} {l l' : List (Nat × Blk)} {n n' : Nat}
    (h : comesPart (yTab K P X V k d g as (layB l .e) n) r l n l' n' = true) : (partV g as r l n l' n').ok P := by
  obtain ⟨v1, v2⟩ := yTab_valid hmx hK hX hV (k := k) d
  have key : (∀ H, tells l H = true → ValidAt P g as H n r (layB l' H) n') ∧ Bodied P g := by
    unfold comesPart at h
    split at h
    · rename_i r' H' n1 hx
      simp only [Bool.and_eq_true] at h
      obtain ⟨h1, h2, h3, h4⟩ := h
      have e1 := AV.beq_eq h1
      have e2 := Nat.eq_of_beq_eq_true h2
      subst e1 e2
      exact ⟨fun H hH => (v1 _ _ _ _ _ _ _ hx).part hH h3 h4, v2 _ _ _ _ _ hx⟩
    · cases h
  refine ⟨fun f args H nx r' H' nx' hv => ?_, fun f args H nx r' hv => ?_⟩
  · unfold partV at hv
    cases hb : (Nat.beq f g && (Nat.beq nx n && (AV.beqL args as && tells l H))) with
    | false => rw [hb] at hv; cases hv
    | true =>
      rw [hb] at hv
      simp only [Bool.and_eq_true] at hb
      obtain ⟨b1, b2, b3, b4⟩ := hb
      have e1 := Nat.eq_of_beq_eq_true b1
      have e2 := Nat.eq_of_beq_eq_true b2
      have e3 := AV.beqL_eq b3
      subst e1 e2 e3
      simp only [cond_true, Option.some.injEq, Prod.mk.injEq] at hv
      obtain ⟨rfl, rfl, rfl⟩ := hv
      exact key.1 _ b4
  · unfold partV at hv
    cases hb : (Nat.beq f g && (Nat.beq nx n && (AV.beqL args as && tells l H))) with
    | false => rw [hb] at hv; cases hv
    | true =>
      simp only [Bool.and_eq_true] at hb
      rw [Nat.eq_of_beq_eq_true hb.1]
      exact key.2
end
end Go.Bm
/-
  THE SECOND MACHINE: a region one of whose operations is told by hand; the length of a slice that lies elsewhere.
-/
namespace Go.Bm
open Go
open Go.Am (Sc)

section
variable {P : Program} {K : Tbl} {X : Ext1} {F : Tab} {n : Nat}

/-- Told by hand: it changes a slot. -/
def ByHand (P : Program) (n : Nat) (ops : Array Oper) (o : Oper) (Q : Exit → Act → World → Prop) (w : World) (ρ : Map) (st1 st2 : St) : Prop :=
  ∀ a, Rel n w ρ st1 a → ∀ next : Act → World → Prop, (∀ a', Rel n w ρ st2 a' → next a' w) →
    if Region.wanted o (yielded ops a.tmps) then o.wp P a w next Q ∨ (o.asks P a w ∧ LetsOut Q) else next (a.put o.dst undef) w

theorem sOps_mid (hK : K.ok P) (hX : X.valid P) (hF : F.valid P) (hB : F.bodied P) (hn : n ≤ 1073741824) {ops : Array Oper} {o : Oper} {post : List Oper} {Q : Exit → Act → World → Prop} {st1 st2 st3 : St} (hs : st2.H = st1.H ∧ st2.nx = st1.nx)
    (hpost : sOps K P X F n ops post st2 = some st3) : ∀ (pre : List Oper) (k : Nat), (∀ j, (pre ++ o :: post)[j]? = ops[k + j]?) → ∀ {w : World} {ρ : Map} {st : St} {a : Act}, Rel n w ρ st a → sOps K P X F n ops pre st = some st1 →
    (∀ w' ρ', Ext ρ ρ' → ByHand P n ops o Q w' ρ' st1 st2) →
    (∀ w' ρ' a', Rel n w' ρ' st3 a' → FE w ρ st.H st.nx w' ρ' st3.H st3.nx → Q .normal a' w') → wpOps P ops Q ((List.range (pre ++ o :: post).length).map (k + ·)) a w
  | [], k, hos, w, ρ, st, a, h, hx, hmid, hQ => by
    simp only [sOps, Option.some.injEq] at hx; subst hx
    have ho : ops[k]? = some o := by have := hos 0; simpa using this.symm
    rw [List.nil_append, List.length_cons, List.range_succ_eq_map, List.map_cons, List.map_map]
    simp only [wpOps, Nat.add_zero, ho]
    have hcongr : (List.range post.length).map ((k + ·) ∘ Nat.succ) = (List.range post.length).map (k + 1 + ·) := by
      apply List.map_congr_left; intro x _; simp only [Function.comp]; omega
    rw [hcongr]
    refine hmid w ρ .refl a h _ fun a' hr => ?_
    exact sOps_sound hK hX hF hB hn post (k + 1) (fun j => by have := hos (j + 1); simp only [List.nil_append, List.getElem?_cons_succ] at this; rw [this]; congr 1; omega) hr hpost (fun w'' ρ'' a'' hr' hev' => hQ w'' ρ'' a'' hr' (by rw [hs.1, hs.2] at hev'; exact hev'))
  | o1 :: pre, k, hos, w, ρ, st, a, h, hx, hmid, hQ => by
    simp only [sOps] at hx
    split at hx
    rotate_left
    · cases hx
    rename_i st0 h1
    have ho : ops[k]? = some o1 := by have := hos 0; simpa using this.symm
    rw [List.cons_append, List.length_cons, List.range_succ_eq_map, List.map_cons, List.map_map]
    simp only [wpOps, Nat.add_zero, ho]
    have hcongr : (List.range (pre ++ o :: post).length).map ((k + ·) ∘ Nat.succ) = (List.range (pre ++ o :: post).length).map (k + 1 + ·) := by
      apply List.map_congr_left; intro x _; simp only [Function.comp]; omega
    rw [hcongr]
    exact sStep_sound hK hX hF hB hn h h1 (fun w' ρ' a' hr hev => sOps_mid hK hX hF hB hn hs hpost pre (k + 1) (fun j => by have := hos (j + 1); simp only [List.cons_append, List.getElem?_cons_succ] at this; rw [this]; congr 1; omega) hr hx (fun w2 ρ2 he => hmid w2 ρ2 (hev.ext.trans he)) (fun w'' ρ'' a'' hr' hev' => hQ w'' ρ'' a'' hr' (hev.trans hev')))

/-- The length of a slice that lies elsewhere. -/
theorem far_len (hK : K.ok P) (hn : n ≤ 1073741824) {ops : Array Oper} {o : Oper} {x : Operand} {T e : TypeId} {ty : TypeId} {st st2 : St} {Q : Exit → Act → World → Prop} {w : World} {ρ : Map} {id off sz len c b s : Nat} {ex : Bool}
    (ho : o.op = .call { callee := .builtin .len, args := #[x], argTypes := #[T] }) (hu : K.und T = some (.slice e)) (hw : aWant ops o st.env = some true) (hx : rd st.env x = .sl id off sz len c ex) (hf : ρ id = .far b s)
    (h2 : st2 = { st with env := putE n st.env o.dst (.s (.i .i64 len)) }) : ByHand P n ops o Q w ρ st st2 := by
  intro a h next hk
  subst h2
  rw [aWant_sound hw (fun j want d _ _ => h.env d)]
  simp only [if_true]
  refine .inl ?_
  have hc := rd_CR h.inv.glob h.env x
  rw [hx] at hc
  obtain ⟨dst, op, ty, pos, after, guard⟩ := o
  simp only at ho; subst ho
  have hv : ∃ A cap, a.eval x = .slice A len cap := by
    generalize a.eval x = v at hc
    cases hc with
    | sl _ _ _ _ _ _ b' bs cap h1 h2 h3 h4 h5 h6 h7 => exact ⟨_, _, rfl⟩
    | sld _ _ _ _ _ _ _ h1 h2 => rw [hf] at h1; cases h1
  obtain ⟨A, cap, hv⟩ := hv
  unfold Oper.wp
  have he : (execOp a.eval { dst := dst, op := .call { callee := .builtin .len, args := #[x], argTypes := #[T] }, type := ty, pos := pos, after := after, guard := guard }).run P w = .ok (.value (.int .i64 len)) w := by
    simp [execOp, resolve, invoke, builtin, hv, Builtin.len_, run_underlying (hK.und _ _ hu), goInt]
  rw [he]
  exact hk _ ⟨put_size h.size, put_log hn h.log, put_CR hn h.size h.env (.s (.i .i64 len)), h.inv, by rw [put_defers]; exact h.df⟩
end
end Go.Bm
/-
  THE SECOND MACHINE: more functions without a body, worked out by the model's own text where all that they take is plain.
-/
namespace Go.Bm
open Go
open Go.Am (Sc evalPure evalPure_run)

noncomputable def toVs : List AV → Option (List Value)
  | [] => some []
  | x :: xs => match toV x, toVs xs with | some v, some vs => some (v :: vs) | _, _ => none

theorem toVs_CR {ρ : Map} : ∀ {xs : List AV} {vs us : List Value}, toVs xs = some vs → CRs ρ xs us → us = vs
  | [], vs, us, h, hc => by cases hc; simp [toVs] at h; exact h.symm
  | x :: xs, vs, us, h, hc => by
    cases hc with
    | cons _ v _ us' h1 h2 =>
      simp only [toVs] at h
      split at h
      · rename_i v' vs' e1 e2
        injection h with h; subst h
        rw [toV_CR e1 h1, toVs_CR e2 h2]
      · cases h

noncomputable def extVal (P : Program) (f : FuncId) (vs : List Value) : Option AV :=
  match evalPure P (callFunc f vs.toArray) with
  | some (.value v) => some (ofV v)
  | _ => none

noncomputable def moreX (P : Program) (m : Nat) (X : Ext1) : Ext1 := fun f args H =>
  bif tb m f then (match toVs args with | some vs => extVal P f vs | none => none) else X f args H

theorem moreX_valid {P : Program} {m : Nat} {X : Ext1} (h : X.valid P) : (moreX P m X).valid P := by
  intro f args H r hx w ρ nx vargs hI hc
  unfold moreX at hx
  cases hb : tb m f with
  | false => rw [hb] at hx; exact h f args H r hx w ρ nx vargs hI hc
  | true =>
    rw [hb] at hx
    simp only [cond_true] at hx
    split at hx
    · rename_i vs hv
      unfold extVal at hx
      split at hx
      · rename_i v he
        injection hx with hx; subst hx
        rw [toVs_CR hv hc]
        exact ⟨v, evalPure_run he w, CR_ofV v⟩
      · cases hx
    · cases hx
end Go.Bm
/-
  THE SECOND MACHINE: operations told by hand that change the world; a range over a string; what is known of a call alone.
-/
namespace Go.Bm
open Go Go.RowKit
open Go.Am (Sc)

/-- What holds of a state, and behind whatever the machine does. -/
def Firm (I : World → Map → Heap → Nat → Prop) : Prop := ∀ w ρ H nx w' ρ' H' nx', I w ρ H nx → FE w ρ H nx w' ρ' H' nx' → I w' ρ' H' nx'

section
variable {P : Program} {K : Tbl} {X : Ext1} {F : Tab} {n : Nat}

def HandStep (P : Program) (n : Nat) (ops : Array Oper) (o : Oper) (st1 st2 : St) (I I2 : World → Map → Heap → Nat → Prop) : Prop :=
  ∀ Q w ρ a, Rel n w ρ st1 a → I w ρ st1.H st1.nx → ∃ w2 ρ2, I2 w2 ρ2 st2.H st2.nx ∧ ∀ next : Act → World → Prop, (∀ a', Rel n w2 ρ2 st2 a' → next a' w2) →
    if Region.wanted o (yielded ops a.tmps) then o.wp P a w next Q ∨ (o.asks P a w ∧ LetsOut Q) else next (a.put o.dst undef) w

theorem ops_hand (hK : K.ok P) (hX : X.valid P) (hF : F.valid P) (hB : F.bodied P) (hn : n ≤ 1073741824) {ops : Array Oper} {o : Oper} {post : List Oper} {Q : Exit → Act → World → Prop} {st1 st2 st3 : St} {I I2 : World → Map → Heap → Nat → Prop} (fI : Firm I) (fI2 : Firm I2)
    (hmid : HandStep P n ops o st1 st2 I I2) (hpost : sOps K P X F n ops post st2 = some st3) : ∀ (pre : List Oper) (k : Nat), (∀ j, (pre ++ o :: post)[j]? = ops[k + j]?) → ∀ {w : World} {ρ : Map} {st : St} {a : Act}, Rel n w ρ st a → I w ρ st.H st.nx → sOps K P X F n ops pre st = some st1 →
    (∀ w' ρ' a', Rel n w' ρ' st3 a' → I2 w' ρ' st3.H st3.nx → Q .normal a' w') → wpOps P ops Q ((List.range (pre ++ o :: post).length).map (k + ·)) a w
  | [], k, hos, w, ρ, st, a, h, hI, hx, hQ => by
    simp only [sOps, Option.some.injEq] at hx; subst hx
    have ho : ops[k]? = some o := by have := hos 0; simpa using this.symm
    rw [List.nil_append, List.length_cons, List.range_succ_eq_map, List.map_cons, List.map_map]
    simp only [wpOps, Nat.add_zero, ho]
    have hcongr : (List.range post.length).map ((k + ·) ∘ Nat.succ) = (List.range post.length).map (k + 1 + ·) := by
      apply List.map_congr_left; intro x _; simp only [Function.comp]; omega
    rw [hcongr]
    obtain ⟨w2, ρ2, hI2, hstep⟩ := hmid Q w ρ a h hI
    refine hstep _ fun a' hr => ?_
    exact sOps_sound hK hX hF hB hn post (k + 1) (fun j => by have := hos (j + 1); simp only [List.nil_append, List.getElem?_cons_succ] at this; rw [this]; congr 1; omega) hr hpost (fun w'' ρ'' a'' hr' hev' => hQ w'' ρ'' a'' hr' (fI2 _ _ _ _ _ _ _ _ hI2 hev'))
  | o1 :: pre, k, hos, w, ρ, st, a, h, hI, hx, hQ => by
    simp only [sOps] at hx
    split at hx
    rotate_left
    · cases hx
    rename_i st0 h1
    have ho : ops[k]? = some o1 := by have := hos 0; simpa using this.symm
    rw [List.cons_append, List.length_cons, List.range_succ_eq_map, List.map_cons, List.map_map]
    simp only [wpOps, Nat.add_zero, ho]
    have hcongr : (List.range (pre ++ o :: post).length).map ((k + ·) ∘ Nat.succ) = (List.range (pre ++ o :: post).length).map (k + 1 + ·) := by
      apply List.map_congr_left; intro x _; simp only [Function.comp]; omega
    rw [hcongr]
    exact sStep_sound hK hX hF hB hn h h1 (fun w' ρ' a' hr hev => ops_hand hK hX hF hB hn fI fI2 hmid hpost pre (k + 1) (fun j => by have := hos (j + 1); simp only [List.cons_append, List.getElem?_cons_succ] at this; rw [this]; congr 1; omega) hr (fI _ _ _ _ _ _ _ _ hI hev) hx hQ)

theorem region_hand (hK : K.ok P) (hX : X.valid P) (hF : F.valid P) (hB : F.bodied P) (hn : n ≤ 1073741824) {id : Nat} {ops : Array Oper} {o : Oper} {pre post : List Oper} (hops : ops.toList = pre ++ o :: post) {st st1 st2 st3 : St} {I I2 : World → Map → Heap → Nat → Prop} (fI : Firm I) (fI2 : Firm I2)
    (hpre : sOps K P X F n ops pre st = some st1) (hmid : HandStep P n ops o st1 st2 I I2) (hpost : sOps K P X F n ops post st2 = some st3) {w : World} {ρ : Map} {a : Act} (h : Rel n w ρ st a) (hI : I w ρ st.H st.nx) :
    (Code.region id ops false).wp P (fun e a' w' => e = .normal ∧ ∃ ρ', Rel n w' ρ' st3.flush a' ∧ I2 w' ρ' st3.H st3.nx) a w := by
  refine wp_region ?_
  have hl : ops.toList.length = ops.size := by simp
  have := ops_hand (P := P) (Q := fun e a' w' => e = .normal ∧ ∃ ρ', Rel n w' ρ' st3.flush a' ∧ I2 w' ρ' st3.H st3.nx) hK hX hF hB hn fI fI2 hmid hpost pre 0 (fun j => by rw [← hops]; simp) h hI hpre (fun w' ρ' a' q1 q2 => ⟨rfl, ρ', q1.flush, q2⟩)
  rw [← hops] at this
  simpa using this

/-- A piece of code that the machine runs, with what holds of the state. -/
theorem cC_firm (hmx : P.follows .mixedOrders = true) (hK : K.ok P) (hX : X.valid P) (hF : F.valid P) (hB : F.bodied P) (hn : n ≤ 1073741824) {c : Code} {k : Nat} {st st' : St} {e : Exit} {I : World → Map → Heap → Nat → Prop} (fI : Firm I) (h : (cC K P X F n c).run k st = some (e, st')) {w : World} {ρ : Map} {a : Act} (hr : Rel n w ρ st a) (hI : I w ρ st.H st.nx) :
    c.wp P (fun e' a' w' => e' = e ∧ ∃ ρ', Rel n w' ρ' st' a' ∧ I w' ρ' st'.H st'.nx) a w :=
  wp_mono (cC_sound hmx hK hX hF hB hn c k st e st' h w ρ a hr) fun _ _ _ ⟨h1, ρ', h2, h3⟩ => ⟨h1, ρ', h2, fI _ _ _ _ _ _ _ _ hI h3⟩

/-! ### A string that is ranged over -/
def Iter (r : Nat) (s : ByteArray) (pos : Nat) (w : World) (ρ : Map) : Prop := w.heap[r]? = some (.stringIter s pos) ∧ ∀ i k, ρ i ≠ .at r k

theorem Iter.keep {r : Nat} {s : ByteArray} {pos : Nat} {w w' : World} {ρ ρ' : Map} {H H' : Heap} {nx nx' : Nat} (h : Iter r s pos w ρ) (hf : FE w ρ H nx w' ρ' H' nx') : Iter r s pos w' ρ' := by
  have hlt : r < w.heap.size := (Array.getElem?_eq_some_iff.1 h.1).1
  obtain ⟨h1, h2⟩ := hf.old r hlt h.2
  exact ⟨h1.trans h.1, h2⟩

/-- From a beginning on: and a string's place, which was made since then. -/
def Since (w0 : World) (ρ0 : Map) (H0 : Heap) (nx0 : Nat) (id : Nat) (s : ByteArray) (pos : Nat) : World → Map → Heap → Nat → Prop :=
  fun w ρ H nx => FE w0 ρ0 H0 nx0 w ρ H nx ∧ ∃ r, w0.heap.size ≤ r ∧ ρ id = .far r 0 ∧ Iter r s pos w ρ

theorem Since.firm {w0 : World} {ρ0 : Map} {H0 : Heap} {nx0 id : Nat} {s : ByteArray} {pos : Nat} : Firm (Since w0 ρ0 H0 nx0 id s pos) :=
  fun _ _ _ _ _ _ _ _ ⟨h1, r, h2, h3, h4⟩ hf => ⟨h1.trans hf, r, h2, hf.ext.far _ _ _ h3, h4.keep hf⟩

theorem FE.firm {w0 : World} {ρ0 : Map} {H0 : Heap} {nx0 : Nat} : Firm (FE w0 ρ0 H0 nx0) := fun _ _ _ _ _ _ _ _ h hf => h.trans hf

/-- A new object without a name, and a name for where it lies. -/
theorem InvH.farNew {w : World} {ρ : Map} {H : Heap} {nx : Nat} (hI : InvH w ρ H nx) (hd : H.at nx = .dead) (o : Obj) :
    InvH { w with heap := w.heap.push o } (ρ.put nx (.far w.heap.size 0)) H (nx + 1) ∧ FE w ρ H nx { w with heap := w.heap.push o } (ρ.put nx (.far w.heap.size 0)) H (nx + 1) := by
  have hn := hI.fresh
  have hx : Ext ρ (ρ.put nx (.far w.heap.size 0)) := .put_no hn
  have hold : ∀ b, b < w.heap.size → (w.heap.push o)[b]? = w.heap[b]? := fun b hb => by simp only [Array.getElem?_push]; rw [if_neg (by omega)]
  have hat : ∀ {i b s}, (ρ.put nx (.far w.heap.size 0)) i = .at b s → i ≠ nx ∧ ρ i = .at b s := fun {i b s} h => by
    by_cases e : i = nx
    · subst e; rw [Map.put_at] at h; cases h
    · rw [Map.put_ne _ _ e] at h; exact ⟨e, h⟩
  refine ⟨⟨hI.glob.ext hx, fun i j b s s' hi hj => hI.inj i j b s s' (hat hi).2 (hat hj).2, fun i b s hi => ?_, fun i hi => ?_, fun i b s hi => ?_⟩, ⟨hx, fun i hi hin => ?_, Nat.le_succ _, fun b hb hnb => ⟨hold b hb, fun i s h => hnb i s (hat h).2⟩, by simp, rfl, rfl, rfl⟩⟩
  · obtain ⟨q1, T, cs, vs, q2, q3, q4, q5, q6⟩ := hI.row i b s (hat hi).2
    exact ⟨Nat.lt_succ_of_lt q1, T, cs, vs, q2, (hold b (hI.lt (hat hi).2)).trans q3, q4, q5, q6.ext hx⟩
  · have e : i ≠ nx := fun e => by subst e; rw [Map.put_at] at hi; cases hi
    rw [Map.put_ne _ _ e] at hi
    exact ⟨Nat.lt_succ_of_lt (hI.dead i hi).1, (hI.dead i hi).2⟩
  · by_cases e : i = nx
    · subst e; exact ⟨Nat.lt_succ_self _, hd⟩
    · rw [Map.put_ne _ _ e] at hi
      exact ⟨Nat.lt_succ_of_lt (hI.far i b s hi).1, (hI.far i b s hi).2⟩
  · exact ⟨by rw [Map.put_ne _ _ (by omega)]; exact hin, rfl⟩

theorem InvH.setFar {w : World} {ρ : Map} {H : Heap} {nx : Nat} (hI : InvH w ρ H nx) {r : Nat} (hr : ∀ i k, ρ i ≠ .at r k) (o : Obj) : InvH { w with heap := w.heap.setIfInBounds r o } ρ H nx := by
  refine ⟨hI.glob, hI.inj, fun i b s hi => ?_, hI.dead, hI.far⟩
  obtain ⟨q1, T, cs, vs, q2, q3, q4, q5, q6⟩ := hI.row i b s hi
  have hne : r ≠ b := fun e => by subst e; exact hr _ _ hi
  exact ⟨q1, T, cs, vs, q2, by simp only [Array.getElem?_setIfInBounds]; rw [if_neg hne]; exact q3, q4, q5, q6⟩

theorem FE.setFar {w0 : World} {ρ0 : Map} {H0 : Heap} {nx0 : Nat} {w : World} {ρ : Map} {H : Heap} {nx : Nat} (hf : FE w0 ρ0 H0 nx0 w ρ H nx) {r : Nat} (hr : w0.heap.size ≤ r) (o : Obj) : FE w0 ρ0 H0 nx0 { w with heap := w.heap.setIfInBounds r o } ρ H nx :=
  ⟨hf.ext, hf.no, hf.nx, fun b hb hn => ⟨by simp only [Array.getElem?_setIfInBounds]; rw [if_neg (by omega)]; exact (hf.old b hb hn).1, (hf.old b hb hn).2⟩, by simpa using hf.size, hf.os, hf.tape, hf.output⟩

/-- The beginning of a range over a string. -/
theorem range_hand (hn : n ≤ 1073741824) {ops : Array Oper} {o : Oper} {x : Operand} {T : TypeId} {s : ByteArray} {st : St} {w0 : World} {ρ0 : Map} {H0 : Heap} {nx0 : Nat} (hu : P.underlying T = some .string)
    (ho : o.op = .range T x) (hw : aWant ops o st.env = some true) (hx : rd st.env x = .s (.str s)) (hd : st.H.at st.nx = .dead) {st2 : St} (h2 : st2 = { st with env := putE n st.env o.dst (.p st.nx 0), nx := st.nx + 1 }) :
    HandStep P n ops o st st2 (FE w0 ρ0 H0 nx0) (Since w0 ρ0 H0 nx0 st.nx s 0) := by
  intro Q w ρ a h hI
  subst h2
  obtain ⟨m1, m2⟩ := h.inv.farNew hd (.stringIter s 0)
  refine ⟨{ w with heap := w.heap.push (.stringIter s 0) }, ρ.put st.nx (.far w.heap.size 0), ⟨hI.trans m2, w.heap.size, hI.size, Map.put_at _ _ _, by simp, fun i k hi => ?_⟩, fun next hk => ?_⟩
  · by_cases e : i = st.nx
    · subst e; rw [Map.put_at] at hi; cases hi
    · rw [Map.put_ne _ _ e] at hi; have := h.inv.lt hi; omega
  · rw [aWant_sound hw (fun j want d _ _ => h.env d)]
    simp only [if_true]
    refine .inl ?_
    have hc := rd_CR h.inv.glob h.env x
    rw [hx] at hc
    have hv : a.eval x = .string s := by generalize a.eval x = v at hc; cases hc; rfl
    obtain ⟨dst, op, ty, pos, after, guard⟩ := o
    simp only at ho; subst ho
    unfold Oper.wp
    have he : (execOp a.eval { dst := dst, op := .range T x, type := ty, pos := pos, after := after, guard := guard }).run P w = .ok (.value (.pointer (some ⟨w.heap.size, 0, none⟩))) { w with heap := w.heap.push (.stringIter s 0) } := by
      have := run_range_string (P := P) w T s hu
      simp only [execOp, hv, Sem.run_bind, this, Result.andThen_ok]
      rfl
    rw [he]
    exact hk _ ⟨put_size h.size, put_log hn h.log, put_CR hn h.size (fun t => (h.env t).ext m2.ext) (.p _ _ _ 0 (.inr (Map.put_at _ _ _))), m1, by rw [put_defers]; exact h.df.ext m2.ext⟩

/-- The next letter of it. -/
theorem next_hand (hn : n ≤ 1073741824) {ops : Array Oper} {o : Oper} {x : Operand} {s : ByteArray} {pos id : Nat} {st : St} {w0 : World} {ρ0 : Map} {H0 : Heap} {nx0 : Nat}
    (ho : o.op = .next x true) (hw : aWant ops o st.env = some true) (hx : rd st.env x = .p id 0) (hp : pos < s.size) {c wd : Nat} (hdec : Utf8.decode s pos = (c, wd))
    {st2 : St} (h2 : st2 = { st with env := putE n st.env o.dst (.t [.s (.b true), .s (.i .i64 pos), .s (.i .i32 c)]) }) :
    HandStep P n ops o st st2 (Since w0 ρ0 H0 nx0 id s pos) (Since w0 ρ0 H0 nx0 id s (pos + wd)) := by
  intro Q w ρ a h hI
  subst h2
  obtain ⟨hf, r, hr, hfar, hit, hap⟩ := hI
  have hrlt : r < w.heap.size := (Array.getElem?_eq_some_iff.1 hit).1
  refine ⟨{ w with heap := w.heap.setIfInBounds r (.stringIter s (pos + wd)) }, ρ, ⟨hf.setFar hr _, r, hr, hfar, by simp [hrlt], hap⟩, fun next hk => ?_⟩
  rw [aWant_sound hw (fun j want d _ _ => h.env d)]
  simp only [if_true]
  refine .inl ?_
  have hc := rd_CR h.inv.glob h.env x
  rw [hx] at hc
  have hv : a.eval x = .pointer (some ⟨r, 0, none⟩) := by
    generalize a.eval x = v at hc
    cases hc with
    | p _ _ b sz h1 => rcases h1 with h1 | h1 <;> rw [hfar] at h1 <;> cases h1; rfl
    | pd _ _ _ h1 h2 => rw [hfar] at h1; cases h1
  obtain ⟨dst, op, ty, pos', after, guard⟩ := o
  simp only at ho; subst ho
  unfold Oper.wp
  have he : (execOp a.eval { dst := dst, op := .next x true, type := ty, pos := pos', after := after, guard := guard }).run P w = .ok (.value (.tuple #[.bool true, .int .i64 pos, .int .i32 c])) { w with heap := w.heap.setIfInBounds r (.stringIter s (pos + wd)) } := by
    have := Lib.run_next_any_at (P := P) w r s pos ty hit hp
    rw [hdec] at this
    simp only [execOp, hv, Sem.run_bind, this, Result.andThen_ok]
    rfl
  rw [he]
  exact hk _ ⟨put_size h.size, put_log hn h.log, put_CR hn h.size h.env (.t _ _ (.cons _ _ _ _ (.s (.b true)) (.cons _ _ _ _ (.s (.i .i64 _)) (.cons _ _ _ _ (.s (.i .i32 _)) .nil)))), h.inv.setFar hap _, by rw [put_defers]; exact h.df⟩

/-- There is none. -/
theorem over_hand (hn : n ≤ 1073741824) {ops : Array Oper} {o : Oper} {x : Operand} {s : ByteArray} {pos id : Nat} {st : St} {w0 : World} {ρ0 : Map} {H0 : Heap} {nx0 : Nat}
    (ho : o.op = .next x true) (hw : aWant ops o st.env = some true) (hx : rd st.env x = .p id 0) (hp : ¬ pos < s.size)
    {st2 : St} (h2 : st2 = { st with env := putE n st.env o.dst (.t [.s (.b false)]) }) :
    HandStep P n ops o st st2 (Since w0 ρ0 H0 nx0 id s pos) (Since w0 ρ0 H0 nx0 id s pos) := by
  intro Q w ρ a h hI
  subst h2
  obtain ⟨hf, r, hr, hfar, hit, hap⟩ := hI
  refine ⟨w, ρ, ⟨hf, r, hr, hfar, hit, hap⟩, fun next hk => ?_⟩
  rw [aWant_sound hw (fun j want d _ _ => h.env d)]
  simp only [if_true]
  refine .inl ?_
  have hc := rd_CR h.inv.glob h.env x
  rw [hx] at hc
  have hv : a.eval x = .pointer (some ⟨r, 0, none⟩) := by
    generalize a.eval x = v at hc
    cases hc with
    | p _ _ b sz h1 => rcases h1 with h1 | h1 <;> rw [hfar] at h1 <;> cases h1; rfl
    | pd _ _ _ h1 h2 => rw [hfar] at h1; cases h1
  obtain ⟨dst, op, ty, pos', after, guard⟩ := o
  simp only at ho; subst ho
  unfold Oper.wp
  have he : (execOp a.eval { dst := dst, op := .next x true, type := ty, pos := pos', after := after, guard := guard }).run P w = .ok (.value (.tuple #[.bool false])) w := by
    have := Lib.run_next_end_at (P := P) w r s pos ty hit hp
    simp only [execOp, hv, Sem.run_bind, this, Result.andThen_ok]
    rfl
  rw [he]
  exact hk _ ⟨put_size h.size, put_log hn h.log, put_CR hn h.size h.env (.t _ _ (.cons _ _ _ _ (.s (.b false)) .nil)), h.inv, by rw [put_defers]; exact h.df⟩

/-! ### What is known of a call alone -/
noncomputable def factV (g : FuncId) (args : List AV) (r : AV) : Kn := fun f a H nx => bif Nat.beq f g && AV.beqL a args then some (r, H, nx) else none

theorem factV_ok {g : FuncId} {args : List AV} {r : AV} {vs : List Value} {v : Value} (hb : Bodied P g) (hvs : ∀ ρ us, CRs ρ args us → us = vs) (hr : ∀ ρ, CR ρ r v) (hc : ∀ w, Calls P g vs.toArray w fun e w' => e = .returned v ∧ Below w.heap.size w w') : (factV g args r).ok P := by
  refine ⟨fun f a H nx r' H' nx' hv => ?_, fun f a H nx r' hv => ?_⟩
  · unfold factV at hv
    cases hh : (Nat.beq f g && AV.beqL a args) with
    | false => rw [hh] at hv; cases hv
    | true =>
      rw [hh] at hv
      simp only [Bool.and_eq_true] at hh
      obtain rfl := Nat.eq_of_beq_eq_true hh.1
      obtain rfl := AV.beqL_eq hh.2
      simp only [cond_true, Option.some.injEq, Prod.mk.injEq] at hv
      obtain ⟨rfl, rfl, rfl⟩ := hv
      intro w ρ vargs hI hcr
      rw [hvs ρ vargs hcr]
      refine (hc w).mono ?_
      rintro e w' ⟨rfl, hB⟩
      refine ⟨v, ρ, rfl, ⟨hI.glob, hI.inj, fun i b s hi => ?_, hI.dead, hI.far⟩, hr ρ, ⟨.refl, fun i _ h => ⟨h, rfl⟩, Nat.le_refl _, fun b hb hn => ⟨hB.block b hb, hn⟩, hB.size, hB.os, hB.tape, hB.output⟩⟩
      obtain ⟨h1, T, cs, us, h2, h3, h4⟩ := hI.row i b s hi
      exact ⟨h1, T, cs, us, h2, by rw [hB.block b (hI.lt hi)]; exact h3, h4⟩
  · unfold factV at hv
    cases hh : (Nat.beq f g && AV.beqL a args) with
    | false => rw [hh] at hv; cases hv
    | true =>
      simp only [Bool.and_eq_true] at hh
      rw [Nat.eq_of_beq_eq_true hh.1]; exact hb
end
end Go.Bm
/-
  THE SECOND MACHINE: inside the round of a loop over a function; such a loop.
-/
namespace Go.Bm
open Go Go.RowKit
open Go.Am (Sc)

/-- The same with other calls put off. -/
def wd (a : Act) (ds : List Deferred) : Act := { a with defers := ds }
def FR (ro : Option Nat) : Fence := { Fence.wide with round := ro }

theorem wd_put (a : Act) (ds : List Deferred) (d : Option Tmp) (v : Value) : (wd a ds).put d v = wd (a.put d v) ds := by cases d <;> rfl
theorem wd_self {a : Act} (h : a.defers = []) : wd a [] = a := by cases a; subst h; rfl

section
variable {P : Program} {K : Tbl} {X : Ext1} {F : Tab} {n m : Nat} {ro : Option Nat} {ds : List Deferred} {ops : Array Oper} {Q : Exit → Act → World → Prop}

theorem calls_in {f : FuncId} {args : Array Value} {w : World} {R : Ending → World → Prop} (h : Calls P f args w R) : CallsIn (FR ro) m P f args w R :=
  show CallsIn Fence.wide m P f args w R from callsIn_wide.2 h

theorem op_in {o : Oper} {a : Act} {w : World} {next next' : Act → World → Prop} (hd : ∀ c, o.op ≠ .defer c) (ha : a.defers = []) (hn : ∀ a' w', next a' w' → a'.defers = [] ∧ next' (wd a' ds) w')
    (h : o.wp P a w next (fun _ _ _ => False)) : o.wpIn (FR ro) m P (wd a ds) w next' Q := by
  refine ⟨fun _ _ => trivial, ?_⟩
  rw [Oper.semAt_eq _ _ _ hd]
  unfold Oper.wp at h
  have he : (wd a ds).eval = a.eval := rfl
  rw [he]
  generalize (execOp a.eval o).run P w = r at h ⊢
  cases r with
  | ok x w' =>
    cases x with
    | value v => show next' ((wd a ds).put o.dst v) w'; rw [wd_put]; exact (hn _ _ h).2
    | skip => show next' ((wd a ds).put o.dst undef) w'; rw [wd_put]; exact (hn _ _ h).2
    | defer d => exact absurd (hn _ _ h).1 (by rw [put_defers]; simp)
    | enter f args =>
      refine ⟨fun h' => (by cases h'), calls_in (Calls.mono h ?_)⟩
      intro e w'' he
      cases e with
      | returned v => show next' ((wd a ds).put o.dst v) w''; rw [wd_put]; exact (hn _ _ he).2
      | panicked c => exact he.elim
      | outgrown => obtain ⟨_, _, hf⟩ := he; exact hf.elim
    | row row args =>
      refine ⟨fun h' => (by cases h'), fun c cs _ => ?_⟩
      obtain ⟨v, w'', hr, hs⟩ := h c cs
      refine ⟨v, w'', ?_, (stepsIn_wide (P := P)).2 hs⟩
      show next' ((wd a ds).put o.dst v) w''; rw [wd_put]; exact (hn _ _ hr).2
    | _ => exact h.elim
  | halt x w' => cases x <;> exact h.elim

theorem sStep_df {o : Oper} {st st' : St} (hd : ∀ c, o.op ≠ .defer c) (h : sStep K P X F n ops o st = some st') : st'.df = st.df := by
  obtain ⟨env, H, nx, df⟩ := st
  unfold sStep at h
  simp only at h
  split at h
  · cases h
  · injection h with h; subst h; rfl
  · split at h
    · split at h
      · injection h with h; subst h; rfl
      · cases h
    · split at h
      · generalize Nat.blt nx 1073741823 = b at h
        cases b with
        | true => simp only [cond_true] at h; injection h with h; subst h; rfl
        | false => cases h
      · cases h
    · split at h
      · injection h with h; subst h; rfl
      · cases h
    · split at h
      · rename_i hh; exact absurd hh (hd _)
      · cases h

theorem defers_nil {w : World} {ρ : Map} {st : St} {a : Act} (h : Rel n w ρ st a) (hd : st.df = []) : a.defers = [] := by
  have := h.df
  rw [hd] at this
  generalize a.defers = l at this
  cases this; rfl

theorem range_cons (k c : Nat) : (List.range (c + 1)).map (k + ·) = k :: (List.range c).map (k + 1 + ·) := by
  rw [List.range_succ_eq_map, List.map_cons, List.map_map]
  simp only [Nat.add_zero]
  congr 1
  apply List.map_congr_left; intro x _; simp only [Function.comp]; omega

/-- Operations that the machine runs, and what comes behind them. -/
theorem sOps_in (hK : K.ok P) (hX : X.valid P) (hF : F.valid P) (hB : F.bodied P) (hn : n ≤ 1073741824) : ∀ (os : List Oper) (k : Nat), (∀ j o, os[j]? = some o → ops[k + j]? = some o) → (∀ o ∈ os, ∀ c, o.op ≠ .defer c) →
    ∀ {w : World} {ρ : Map} {st st' : St} {a : Act}, Rel n w ρ st a → st.df = [] → sOps K P X F n ops os st = some st' → ∀ rest : List Nat,
    (∀ w' ρ' a', Rel n w' ρ' st' a' → st'.df = [] → FE w ρ st.H st.nx w' ρ' st'.H st'.nx → wpOpsIn (FR ro) m P ops Q rest (wd a' ds) w') →
    wpOpsIn (FR ro) m P ops Q ((List.range os.length).map (k + ·) ++ rest) (wd a ds) w
  | [], k, _, _, w, ρ, st, st', a, h, hdf, hx, rest, hQ => by
    simp only [sOps, Option.some.injEq] at hx; subst hx
    exact hQ w ρ a h hdf .refl
  | o :: os, k, hos, hnd, w, ρ, st, st', a, h, hdf, hx, rest, hQ => by
    simp only [sOps] at hx
    split at hx
    rotate_left
    · cases hx
    rename_i st1 h1
    have ho : ops[k]? = some o := by have := hos 0 o rfl; simpa using this
    have hd := hnd o (by simp)
    have hdf1 : st1.df = [] := by rw [sStep_df hd h1, hdf]
    rw [List.length_cons, range_cons, List.cons_append]
    simp only [wpOpsIn, ho]
    have hstep := sStep_sound (Q := fun _ _ _ => False) (next := fun a' w' => ∃ ρ', Rel n w' ρ' st1 a' ∧ FE w ρ st.H st.nx w' ρ' st1.H st1.nx) hK hX hF hB hn (ops := ops) h h1 (fun w' ρ' a' q1 q2 => ⟨ρ', q1, q2⟩)
    have hgo : ∀ a' w', (∃ ρ', Rel n w' ρ' st1 a' ∧ FE w ρ st.H st.nx w' ρ' st1.H st1.nx) → wpOpsIn (FR ro) m P ops Q ((List.range os.length).map (k + 1 + ·) ++ rest) (wd a' ds) w' := by
      rintro a' w' ⟨ρ', q1, q2⟩
      exact sOps_in hK hX hF hB hn os (k + 1) (fun j o' hj => by have := hos (j + 1) o' (by simpa using hj); rw [← this]; congr 1; omega) (fun o' ho' => hnd o' (by simp [ho'])) q1 hdf1 hx rest
        (fun w'' ρ'' a'' g1 g2 g3 => hQ w'' ρ'' a'' g1 g2 (q2.trans g3))
    have ht : (wd a ds).tmps = a.tmps := rfl
    rw [ht]
    split at hstep
    · rename_i hw
      rw [if_pos hw]
      rcases hstep with hstep | ⟨_, _, _, hf⟩
      · exact op_in hd (defers_nil h hdf) (fun a' w' hh => ⟨by obtain ⟨ρ', q1, _⟩ := hh; exact defers_nil q1 hdf1, hgo a' w' hh⟩) hstep
      · exact hf.elim
    · rename_i hw
      rw [if_neg hw, wd_put]
      exact ⟨fun _ _ => trivial, hgo _ _ hstep⟩

def noDefer (l : List Oper) : Bool := l.all fun o => match o.op with | .defer _ => false | _ => true
theorem noDefer_ok {l : List Oper} (h : noDefer l = true) : ∀ o ∈ l, ∀ c, o.op ≠ .defer c := fun o ho c e => by
  have := List.all_eq_true.1 h o ho
  rw [e] at this; cases this

/-- A region. -/
theorem region_in (hK : K.ok P) (hX : X.valid P) (hF : F.valid P) (hB : F.bodied P) (hn : n ≤ 1073741824) (hnd : noDefer ops.toList = true) {id : Nat} {w : World} {ρ : Map} {st st' : St} {a : Act} (h : Rel n w ρ st a) (hdf : st.df = []) (hx : sOps K P X F n ops ops.toList st = some st')
    (hQ : ∀ w' ρ' a', Rel n w' ρ' st'.flush a' → st'.flush.df = [] → FE w ρ st.H st.nx w' ρ' st'.H st'.nx → Q .normal (wd a' ds) w') : (Code.region id ops false).wpIn (FR ro) m P Q (wd a ds) w := by
  refine wpIn_region ?_
  have := sOps_in (m := m) (ro := ro) (ds := ds) (Q := Q) (ops := ops) hK hX hF hB hn ops.toList 0 (fun j o hj => by simpa using hj) (noDefer_ok hnd) h hdf hx [] (fun w' ρ' a' q1 q2 q3 => hQ w' ρ' a' q1.flush q2 q3)
  simpa using this

theorem any_inv_in (I : Array Bool → Act → World → Prop) (hdf : ∀ l a w, I l a w → a.defers = []) (hnd : ∀ (i : Nat) (o : Oper), ops[i]? = some o → ∀ c, o.op ≠ .defer c)
    (step : ∀ l a w i, I l a w → i ∈ Region.ready .any ops l → wpOp P ops (fun _ _ _ => False) i (fun a' w' => I (l.setIfInBounds i true) a' w') a w)
    (fin : ∀ l a w, I l a w → Region.ready .any ops l = [] → Q .normal (wd a ds) w) :
    ∀ (fuel : Nat) (l : Array Bool) (a : Act) (w : World), I l a w → l.toList.countP (!·) ≤ fuel → wpAnyIn (FR ro) m P .any ops Q fuel l (wd a ds) w
  | 0, l, a, w, h, hc => by
    have hr : Region.ready .any ops l = [] := by
      apply List.eq_nil_iff_forall_not_mem.2
      intro j hj
      have := count_set (mem_ready.1 hj).1
      omega
    exact ⟨hr, fin l a w h hr⟩
  | fuel + 1, l, a, w, h, hc => by
    refine ⟨fin l a w h, fun i hi => ?_⟩
    have hs := step l a w i h hi
    have hc' : (l.setIfInBounds i true).toList.countP (!·) ≤ fuel := by
      have := count_set (mem_ready.1 hi).1
      omega
    have hgo : ∀ a' w', I (l.setIfInBounds i true) a' w' → wpAnyIn (FR ro) m P .any ops Q fuel (l.setIfInBounds i true) (wd a' ds) w' := fun a' w' h' => any_inv_in I hdf hnd step fin fuel _ a' w' h' hc'
    unfold wpOp at hs
    unfold wpOpIn
    split at hs
    · rename_i ho; rw [ho]; exact hgo _ _ hs
    · rename_i o ho
      rw [ho]
      have ht : (wd a ds).tmps = a.tmps := rfl
      simp only [ht]
      split at hs
      · rename_i hw
        rw [if_pos hw]
        rcases hs with hs | ⟨_, _, _, hf⟩
        · exact op_in (hnd i o ho) (hdf _ _ _ h) (fun a' w' hh => ⟨hdf _ _ _ hh, hgo a' w' hh⟩) hs
        · exact hf.elim
      · rename_i hw
        rw [if_neg hw, wd_put]
        exact ⟨fun _ _ => trivial, hgo _ _ hs⟩

/-- A region in whatever order. -/
theorem drawn_in (hmx : P.follows .mixedOrders = true) (hK : K.ok P) (hX : X.valid P) (hF : F.valid P) (hB : F.bodied P) (hn : n ≤ 1073741824) (hnd : noDefer ops.toList = true) {id : Nat} {w : World} {ρ : Map} {st st' : St} {a : Act} (h : Rel n w ρ st a) (hdf : st.df = []) (hx : dRun K P X F n ops st = some st')
    (hQ : ∀ w' ρ' a', Rel n w' ρ' st'.flush a' → FE w ρ st.H st.nx w' ρ' st'.H st'.nx → Q .normal (wd a' ds) w') : (Code.region id ops true).wpIn (FR ro) m P Q (wd a ds) w := by
  obtain ⟨I, h1, h2, h3, h4, h5⟩ := dRun_inv hK hX hF hB hn h hx
  refine wpIn_region_any hmx (any_inv_in I (fun l a w hi => ?_) (fun i o ho => noDefer_ok hnd o (by simpa using Array.mem_of_getElem? ho)) (h2 _) (fun l a' w' hi hr => ?_) ops.size _ a _ h4 h5)
  · obtain ⟨ρ', hd⟩ := h1 l a w hi
    rw [hdf] at hd
    generalize a.defers = l at hd
    cases hd; rfl
  · obtain ⟨ρ', g1, g2⟩ := h3 l a' w' hi hr
    exact hQ w' ρ' a' g1.flush g2

/-! ### The loop itself -/
/-- What the loop's record is. -/
def recOf (fn : FuncId) (tmps : Array Value) (ps : Array Tmp) (assign body : Code) (D : Nat) : Loop := { state := .ready, pending := none, fn, tmps, params := ps, assign, body, defers := D }

theorem range_own {g : Operand} {ps : Array Tmp} {assign body : Code} {a : Act} {w : World} {gf : FuncId} {lb : Array Value} (hg : a.eval g = .func (.func gf) #[] lb) (eg : ∀ args w, (callFunc gf args).run P w = .ok (.enter gf args) w)
    (h : ∀ fn, CallsIn Fence.wide (m - 1) P gf (#[.func (.yield (w.heap.size + 1)) #[] #[]] ++ lb) ((w.alloc (.deferred (some []))).alloc (.loop (recOf fn a.tmps ps assign body w.heap.size)))
      fun e W2 => (∃ v, e = .returned v) ∧ W2.heap[w.heap.size + 1]? = some (.loop (recOf fn a.tmps ps assign body w.heap.size)) ∧
        Q .normal { a with defers := { target := .collected w.heap.size, args := #[] } :: a.defers } (W2.putObj (w.heap.size + 1) (.loop { recOf fn a.tmps ps assign body w.heap.size with state := .exhausted }))) :
    (Code.rangeFunc g ps assign body).wpIn Fence.wide m P Q a w := by
  refine wpIn_rangeFunc ?_
  intro fn _
  obtain ⟨W1, hW1⟩ : ∃ W1, (w.alloc (.deferred (some []))).alloc (.loop (recOf fn a.tmps ps assign body w.heap.size)) = W1 := ⟨_, rfl⟩
  have hen := run_enterLoop_outer (P := P) (w := w) fn a.tmps ps assign body
  have h := h fn
  rw [hW1] at h
  refine ⟨w.heap.size + 1, [{ target := .collected w.heap.size, args := #[] }], W1, { target := .fn (.func gf) lb, args := #[.func (.yield (w.heap.size + 1)) #[] #[]] }, W1, gf,
    #[.func (.yield (w.heap.size + 1)) #[] #[]] ++ lb, W1, by rw [← hW1]; exact hen, ?_, fun _ _ => trivial, ?_, fun h' => (by cases h'), ?_⟩
  · simp only [resolve, hg]
    simp [go_sem]
  · simp [invoke, go_sem, eg]
  · refine h.mono ?_
    rintro e W2 ⟨⟨v, rfl⟩, h1, h2⟩
    exact ⟨none, _, run_endLoop h1 (by simp [recOf]), h2⟩
end
end Go.Bm
/-
  THE SECOND MACHINE: a loop over a function, its rounds and the function itself run.
-/
namespace Go.Bm
open Go Go.RowKit
open Go.Am (Sc)

/-- There lies an object that is none of ours. -/
def Pin (r : Nat) (o : Obj) (w : World) (ρ : Map) : Prop := w.heap[r]? = some o ∧ ∀ i k, ρ i ≠ .at r k

theorem Pin.keep {r : Nat} {o : Obj} {w w' : World} {ρ ρ' : Map} {H H' : Heap} {nx nx' : Nat} (h : Pin r o w ρ) (hf : FE w ρ H nx w' ρ' H' nx') : Pin r o w' ρ' := by
  have hlt : r < w.heap.size := (Array.getElem?_eq_some_iff.1 h.1).1
  obtain ⟨h1, h2⟩ := hf.old r hlt h.2
  exact ⟨h1.trans h.1, h2⟩

theorem InvH.push {w : World} {ρ : Map} {H : Heap} {nx : Nat} (hI : InvH w ρ H nx) (o : Obj) : InvH (w.alloc o) ρ H nx ∧ FE w ρ H nx (w.alloc o) ρ H nx := by
  have hold : ∀ b, b < w.heap.size → (w.alloc o).heap[b]? = w.heap[b]? := fun b hb => Below.heap_alloc _ _ _ hb
  refine ⟨⟨hI.glob, hI.inj, fun i b s hi => ?_, hI.dead, hI.far⟩, ⟨.refl, fun i _ h => ⟨h, rfl⟩, Nat.le_refl _, fun b hb hn => ⟨hold b hb, hn⟩, by simp, rfl, rfl, rfl⟩⟩
  obtain ⟨q1, T, cs, vs, q2, q3, q4⟩ := hI.row i b s hi
  exact ⟨q1, T, cs, vs, q2, (hold b (hI.lt hi)).trans q3, q4⟩

section
variable {P : Program} {K : Tbl} {X : Ext1} {F : Tab} {n m l : Nat} {ops : Array Oper} {Q : Exit → Act → World → Prop}

/-- A piece of code that the machine runs. -/
theorem cC_in (hmx : P.follows .mixedOrders = true) (hK : K.ok P) (hX : X.valid P) (hF : F.valid P) (hB : F.bodied P) (hn : n ≤ 1073741824) {c : Code} {k : Nat} {st st' : St} {e : Exit} (h : (cC K P X F n c).run k st = some (e, st')) {w : World} {ρ : Map} {a : Act} (hr : Rel n w ρ st a)
    (hQ : ∀ w' ρ' a', Rel n w' ρ' st' a' → FE w ρ st.H st.nx w' ρ' st'.H st'.nx → Q e a' w') : c.wpIn (FR none) m P Q a w :=
  wpIn_wide.2 (wp_mono (cC_sound hmx hK hX hF hB hn c k st e st' h w ρ a hr) fun _ _ _ ⟨h1, ρ', h2, h3⟩ => by subst h1; exact hQ _ _ _ h2 h3)

/-- In a round of the loop l it is run. -/
def InRun (P : Program) (n m l : Nat) (c : Code) (st st' : St) : Prop :=
  ∀ (Q : Exit → Act → World → Prop) w ρ a, Rel n w ρ st a → (∀ w' ρ' a', Rel n w' ρ' st' a' → FE w ρ st.H st.nx w' ρ' st'.H st'.nx → Q .normal a' w') → c.wpIn (FR (some l)) m P Q a w

theorem flush_df {st : St} : st.flush.df = st.df := rfl

theorem InRun.region (hK : K.ok P) (hX : X.valid P) (hF : F.valid P) (hB : F.bodied P) (hn : n ≤ 1073741824) {id : Nat} {st st' : St} (hnd : noDefer ops.toList = true) (hdf : st.df = []) (hx : sOps K P X F n ops ops.toList st = some st') : InRun P n m l (.region id ops false) st st'.flush := by
  intro Q w ρ a h hQ
  rw [← wd_self (defers_nil h hdf)]
  refine region_in hK hX hF hB hn hnd h hdf hx fun w' ρ' a' q1 q2 q3 => ?_
  rw [wd_self (defers_nil q1 q2)]
  exact hQ w' ρ' a' q1 q3

theorem InRun.drawn (hmx : P.follows .mixedOrders = true) (hK : K.ok P) (hX : X.valid P) (hF : F.valid P) (hB : F.bodied P) (hn : n ≤ 1073741824) {id : Nat} {st st' : St} (hnd : noDefer ops.toList = true) (hdf : st.df = []) (hdf' : st'.df = []) (hx : dRun K P X F n ops st = some st') : InRun P n m l (.region id ops true) st st'.flush := by
  intro Q w ρ a h hQ
  rw [← wd_self (defers_nil h hdf)]
  refine drawn_in hmx hK hX hF hB hn hnd h hdf hx fun w' ρ' a' q1 q3 => ?_
  rw [wd_self (defers_nil q1 hdf')]
  exact hQ w' ρ' a' q1 q3

theorem InRun.seq {x y : Code} {s0 s1 s2 : St} (h1 : InRun P n m l x s0 s1) (h2 : InRun P n m l y s1 s2) : InRun P n m l (.seq x y) s0 s2 := by
  intro Q w ρ a h hQ
  refine wpIn_seq (h1 _ w ρ a h fun w' ρ' a' q1 q2 => ?_)
  exact h2 Q w' ρ' a' q1 fun w'' ρ'' a'' g1 g2 => hQ w'' ρ'' a'' g1 (q2.trans g2)

theorem InRun.block {id : Nat} {x : Code} {s0 s1 : St} (h1 : InRun P n m l x s0 s1) : InRun P n m l (.block id x) s0 s1 := by
  intro Q w ρ a h hQ
  exact wpIn_block (h1 _ w ρ a h fun w' ρ' a' q1 q2 => hQ w' ρ' a' q1 q2)

/-- One round. -/
theorem round_of {f : FuncId} {tmps : Array Value} {assign body : Code} {r : Loop} {s0 s1 s2 : St} (ha : InRun P n m l assign s0 s1) (hb : InRun P n m l body s1 s2) {w : World} {ρ : Map} (h : Rel n w ρ s0 { tmps := tmps, defers := [] }) (hp : Pin l (.loop r) w ρ) (hr : r.state = .ready) (hpd : r.pending = none) :
    RoundIn Fence.wide m P l f tmps assign body w fun e w' => e = .returned (.bool true) ∧ ∃ ρ', InvH w' ρ' s2.H s2.nx ∧ FE w ρ s0.H s0.nx w' ρ' s2.H s2.nx := by
  refine roundIn_of_wpIn (F := Fence.wide) trivial ?_
  refine ha _ w ρ _ h fun w1 ρ1 a1 r1 f1 => ?_
  have p1 := hp.keep f1
  have hlt : l < w1.heap.size := (Array.getElem?_eq_some_iff.1 p1.1).1
  refine ⟨_, run_beginRound p1.1 hr, ?_⟩
  have r1' : Rel n (w1.putObj l (.loop { r with state := .busy })) ρ1 s1 a1 := ⟨r1.size, r1.log, r1.env, r1.inv.setFar p1.2 _, r1.df⟩
  refine hb _ _ ρ1 a1 r1' fun w2 ρ2 a2 r2 f2 => ?_
  have p2 : Pin l (.loop { r with state := .busy }) w2 ρ2 := Pin.keep ⟨World.putObj_heap_same hlt, p1.2⟩ f2
  have hlt2 : l < w2.heap.size := (Array.getElem?_eq_some_iff.1 p2.1).1
  refine ⟨_, _, run_endRound none p2.1, rfl, ρ2, r2.inv.setFar p2.2 _, ?_⟩
  have hrr : ({ ({ r with state := .busy } : Loop) with state := if (none : Option Code).isNone then .ready else .done, pending := none } : Loop) = r := by
    cases r; simp only at hr hpd; subst hr; subst hpd; rfl
  rw [hrr]
  refine ⟨f1.ext.trans f2.ext, fun i hi h => ?_, Nat.le_trans f1.nx f2.nx, fun b hb hn => ?_, ?_, f2.os.trans f1.os, f2.tape.trans f1.tape, f2.output.trans f1.output⟩
  · have g1 := f1.no i hi h
    have g2 := f2.no i (Nat.lt_of_lt_of_le hi f1.nx) g1.1
    exact ⟨g2.1, g2.2.trans g1.2⟩
  · have g1 := f1.old b hb hn
    have g2 := f2.old b (by simpa using Nat.lt_of_lt_of_le hb f1.size) g1.2
    refine ⟨?_, g2.2⟩
    by_cases e : b = l
    · subst e; rw [World.putObj_heap_same hlt2, hp.1]
    · rw [World.putObj_heap_other e, g2.1, World.putObj_heap_other e, g1.1]
  · have := f2.size
    simp only [World.putObj_size] at this ⊢
    exact Nat.le_trans f1.size this

theorem range_split {os pre post : List Oper} {o : Oper} (h : os = pre ++ o :: post) : List.range os.length = (List.range pre.length).map (0 + ·) ++ (pre.length :: ((List.range post.length).map (pre.length + 1 + ·) ++ [])) := by
  subst h
  rw [List.length_append, List.length_cons, List.range_add, List.append_nil]
  simp only [Nat.zero_add, List.map_id', List.append_cancel_left_eq]
  exact range_cons _ _

/-- A region in which a round is gone through. -/
theorem yield_region (hK : K.ok P) (hX : X.valid P) (hF : F.valid P) (hB : F.bodied P) (hn : n ≤ 1073741824) {k : Nat} {o : Oper} {pre post : List Oper} {g : Operand} {xs : Array Operand} {ts : Array TypeId} {id : Nat} {r : Loop} {st st1 st3 : St} {H2 : Heap} {nx2 : Nat} (hops : ops.toList = pre ++ o :: post) (hnd : noDefer ops.toList = true)
    (ho : o.op = .call { callee := .value g, args := xs, argTypes := ts }) (hdf : st.df = []) (hpre : sOps K P X F n ops pre st = some st1) (hw : aWant ops o st1.env = some true) (hg : rd st1.env g = .yl id)
    (hpost : sOps K P X F n ops post { env := putE n st1.env o.dst (.s (.b true)), H := H2, nx := nx2, df := [] } = some st3)
    {w : World} {ρ : Map} {a : Act} (h : Rel n w ρ st a) (hid : ρ id = .far l 0) (hpin : Pin l (.loop r) w ρ) (hxs : xs.size = r.params.size)
    (hround : ∀ w1 ρ1 a1, Rel n w1 ρ1 st1 a1 → FE w ρ st.H st.nx w1 ρ1 st1.H st1.nx → Pin l (.loop r) w1 ρ1 → RoundIn Fence.wide (m - 1) P l r.fn ((r.params.zip (xs.map a1.eval)).foldl (fun t (p, v) => t.setIfInBounds p v) r.tmps) r.assign r.body w1 fun e w2 => e = .returned (.bool true) ∧ ∃ ρ2, InvH w2 ρ2 H2 nx2 ∧ FE w1 ρ1 st1.H st1.nx w2 ρ2 H2 nx2)
    (hQ : ∀ w3 ρ3 a3, Rel n w3 ρ3 st3.flush a3 → FE w ρ st.H st.nx w3 ρ3 st3.H st3.nx → Q .normal a3 w3) : (Code.region k ops false).wpIn (FR none) m P Q a w := by
  have hnd' := noDefer_ok hnd
  rw [hops] at hnd'
  rw [← wd_self (defers_nil h hdf)]
  refine wpIn_region ?_
  have hsz : ops.size = ops.toList.length := by simp
  rw [hsz, range_split hops]
  have hat : ∀ j : Nat, ops[j]? = (pre ++ o :: post)[j]? := fun j => by rw [← hops]; simp
  refine sOps_in (ds := []) hK hX hF hB hn pre 0 (fun j o' hj => by rw [Nat.zero_add, hat, List.getElem?_append_left (List.getElem?_eq_some_iff.1 hj).1]; exact hj) (fun o' h' => hnd' o' (by simp [h'])) h hdf hpre _ ?_
  intro w1 ρ1 a1 r1 d1 f1
  have hk : ops[pre.length]? = some o := by rw [hat]; simp
  have ha1 := defers_nil r1 d1
  rw [wd_self ha1]
  simp only [wpOpsIn, hk]
  rw [aWant_sound hw (fun j want d _ _ => r1.env d)]
  simp only [if_true]
  refine ⟨fun _ _ => trivial, ?_⟩
  rw [Oper.semAt_eq _ _ _ (hnd' o (by simp))]
  have hid1 : ρ1 id = .far l 0 := f1.ext.far _ _ _ hid
  have hv : a1.eval g = .func (.yield l) #[] #[] := by
    have hc := rd_CR r1.inv.glob r1.env g
    rw [hg] at hc
    generalize a1.eval g = v at hc
    cases hc with | yl _ l' hl => rw [hid1] at hl; cases hl; rfl
  have p1 := hpin.keep f1
  have hy := run_yield (P := P) (args := xs.map a1.eval) p1.1 (by simpa using hxs)
  have he : (execOp a1.eval o).run P w1 = .ok (.round l r.fn ((r.params.zip (xs.map a1.eval)).foldl (fun t (p, v) => t.setIfInBounds p v) r.tmps) r.assign r.body) w1 := by
    obtain ⟨dst, op, ty, pos, after, guard⟩ := o
    simp only at ho; subst ho
    simp [execOp, resolve, invoke, hv, hy, Deferred.ofValue]
  rw [he]
  refine ⟨fun h' => (by cases h'), (hround w1 ρ1 a1 r1 f1 p1).mono ?_⟩
  rintro e w2 ⟨rfl, ρ2, i2, f2⟩
  have hd2 : (a1.put o.dst (.bool true)).defers = [] := by rw [put_defers]; exact ha1
  have r2 : Rel n w2 ρ2 { env := putE n st1.env o.dst (.s (.b true)), H := H2, nx := nx2, df := [] } (a1.put o.dst (.bool true)) :=
    ⟨put_size r1.size, put_log hn r1.log, put_CR hn r1.size (fun t => (r1.env t).ext f2.ext) (.s (.b true)), i2, by rw [hd2]; exact .nil⟩
  show wpOpsIn (FR none) m P ops Q ((List.range post.length).map (pre.length + 1 + ·) ++ []) (a1.put o.dst (.bool true)) w2
  rw [← wd_self hd2]
  refine sOps_in (ds := []) hK hX hF hB hn post (pre.length + 1) (fun j o' hj => by
    rw [hat, List.getElem?_append_right (by omega), show pre.length + 1 + j - pre.length = j + 1 by omega]; simpa using hj) (fun o' h' => hnd' o' (by simp [h'])) r2 rfl hpost [] ?_
  intro w3 ρ3 a3 r3 d3 f3
  rw [wd_self (defers_nil r3 d3)]
  exact hQ w3 ρ3 a3 r3.flush ((f1.trans f2).trans f3)

/-- The loop. -/
theorem range_bm {g : Operand} {ps : Array Tmp} {assign body : Code} {st : St} {gf : FuncId} {lbA : List AV} {H2 : Heap} {nx2 : Nat} {w : World} {ρ : Map} {a : Act} (h : Rel n w ρ st a) (hdf : st.df = []) (hg : rd st.env g = .f gf [] lbA) (eg : ∀ args w, (callFunc gf args).run P w = .ok (.enter gf args) w) (hd : st.H.at st.nx = .dead)
    (hit : ∀ w1 ρ1 fn l D vlb, ρ1 st.nx = .far l 0 → InvH w1 ρ1 st.H (st.nx + 1) → Pin l (.loop (recOf fn a.tmps ps assign body D)) w1 ρ1 → CRs ρ1 lbA vlb → (∀ t, CR ρ1 ((st.env.get t).getD .u) (a.tmps.getD t undef)) →
      CallsIn (FR none) (m - 1) P gf (#[.func (.yield l) #[] #[]] ++ vlb.toArray) w1 fun e w2 => (∃ v, e = .returned v) ∧ ∃ ρ2, InvH w2 ρ2 H2 nx2 ∧ FE w1 ρ1 st.H (st.nx + 1) w2 ρ2 H2 nx2)
    (hQ : ∀ w2 ρ2 D, Rel n w2 ρ2 { st with H := H2, nx := nx2 } a → FE w ρ st.H st.nx w2 ρ2 H2 nx2 → Pin D (.deferred (some [])) w2 ρ2 → w.heap.size ≤ D → Q .normal (wd a [{ target := .collected D, args := #[] }]) w2) :
    (Code.rangeFunc g ps assign body).wpIn (FR none) m P Q a w := by
  have hc := rd_CR h.inv.glob h.env g
  rw [hg] at hc
  obtain ⟨vlb, hgv, hlb⟩ : ∃ vlb, a.eval g = .func (.func gf) #[] vlb.toArray ∧ CRs ρ lbA vlb := by
    generalize a.eval g = v at hc
    cases hc with | f _ _ _ vf vc h1 h2 => cases h1; exact ⟨vc, rfl, h2⟩
  have ha := defers_nil h hdf
  refine range_own hgv eg fun fn => ?_
  obtain ⟨i0, f0⟩ := h.inv.push (.deferred (some []))
  obtain ⟨i1, f1⟩ := i0.farNew hd (.loop (recOf fn a.tmps ps assign body w.heap.size))
  have hs0 : (w.alloc (.deferred (some []))).heap.size = w.heap.size + 1 := by simp
  rw [hs0] at i1 f1
  have hnat : ∀ {b : Nat}, w.heap.size ≤ b → ∀ i k, (ρ.put st.nx (.far (w.heap.size + 1) 0)) i ≠ .at b k := fun {b} hb i k hi => by
    by_cases e : i = st.nx
    · subst e; rw [Map.put_at] at hi; cases hi
    · rw [Map.put_ne _ _ e] at hi; have := h.inv.lt hi; omega
  have pl : Pin (w.heap.size + 1) (.loop (recOf fn a.tmps ps assign body w.heap.size)) ((w.alloc (.deferred (some []))).alloc (.loop (recOf fn a.tmps ps assign body w.heap.size))) (ρ.put st.nx (.far (w.heap.size + 1) 0)) :=
    ⟨by have := World.alloc_heap_new (w.alloc (.deferred (some []))) (.loop (recOf fn a.tmps ps assign body w.heap.size)); rwa [World.size_alloc] at this, hnat (by omega)⟩
  have pD : Pin w.heap.size (.deferred (some [])) ((w.alloc (.deferred (some []))).alloc (.loop (recOf fn a.tmps ps assign body w.heap.size))) (ρ.put st.nx (.far (w.heap.size + 1) 0)) :=
    ⟨(Below.heap_alloc _ _ _ (by simp)).trans (World.alloc_heap_new w _), hnat (Nat.le_refl _)⟩
  have f01 := f0.trans f1
  refine (hit _ _ fn _ w.heap.size vlb (Map.put_at _ _ _) i1 pl (hlb.ext f01.ext) (fun t => (h.env t).ext f01.ext)).mono ?_
  rintro e w2 ⟨hv, ρ2, i2, f2⟩
  have pl2 := pl.keep f2
  have pD2 := pD.keep f2
  refine ⟨hv, pl2.1, ?_⟩
  have f3 := f01.trans f2
  rw [ha]
  refine hQ _ ρ2 w.heap.size ⟨h.size, h.log, fun t => (h.env t).ext f3.ext, i2.setFar pl2.2 _, by rw [ha, show ({ st with H := H2, nx := nx2 } : St).df = [] from hdf]; exact .nil⟩ (f3.setFar (by omega) _) ⟨(World.putObj_heap_other (by omega)).trans pD2.1, pD2.2⟩ (Nat.le_refl _)

theorem args1 {tmps : Array Value} {p : Tmp} {x : Operand} {f : Operand → Value} : ((#[p] : Array Tmp).zip ((#[x] : Array Operand).map f)).foldl (fun t (p, v) => t.setIfInBounds p v) tmps = tmps.setIfInBounds p (f x) := by simp
theorem args2 {tmps : Array Value} {p p' : Tmp} {x x' : Operand} {f : Operand → Value} : ((#[p, p'] : Array Tmp).zip ((#[x, x'] : Array Operand).map f)).foldl (fun t (p, v) => t.setIfInBounds p v) tmps = (tmps.setIfInBounds p (f x)).setIfInBounds p' (f x') := by simp

/-- The end of a function that has such a loop. -/
theorem leaves_mark (hK : K.ok P) {fn : Func} {R : Ending → World → Prop} {st : St} {xs : List AV} {w w0 : World} {ρ ρ0 : Map} {H0 : Heap} {nx0 D : Nat} {a : Act} (h : Rel n w ρ st a) (hD : w0.heap.size ≤ D) (hf : FE w0 ρ0 H0 nx0 w ρ st.H st.nx) (hp : Pin D (.deferred (some [])) w ρ) (hx : resList K st.H st.env fn.results.toList = some xs)
    (hR : ∀ w' u, InvH w' ρ st.H st.nx → FE w0 ρ0 H0 nx0 w' ρ st.H st.nx → CR ρ (single xs) u → R (.returned u) w') :
    LeavesInM (FR none) m P fn a.tmps R [{ target := .collected D, args := #[] }] .returning w := by
  have hi := h.inv.setFar hp.2 (.deferred none)
  obtain ⟨u, h1, h2⟩ := results_sound (P := P) (a := a) hK hi h.env hx
  exact ⟨by simp, .inl ⟨D, _, rfl, run_takeDeferred hp.1, u, h1, hR _ u hi (hf.setFar hD _) h2⟩⟩
end
end Go.Bm
/-
  THE SECOND MACHINE: single operations told by hand, inside a region.
-/
namespace Go.Bm
open Go Go.RowKit
open Go.Am (Sc)

theorem InvH.below {w w' : World} {ρ : Map} {H : Heap} {nx : Nat} (hI : InvH w ρ H nx) (hB : Below w.heap.size w w') : InvH w' ρ H nx ∧ FE w ρ H nx w' ρ H nx := by
  refine ⟨⟨hI.glob, hI.inj, fun i b s hi => ?_, hI.dead, hI.far⟩, ⟨.refl, fun i _ h => ⟨h, rfl⟩, Nat.le_refl _, fun b hb hn => ⟨hB.block b hb, hn⟩, hB.size, hB.os, hB.tape, hB.output⟩⟩
  obtain ⟨h1, T, cs, us, h2, h3, h4⟩ := hI.row i b s hi
  exact ⟨h1, T, cs, us, h2, by rw [hB.block b (hI.lt hi)]; exact h3, h4⟩

section
variable {P : Program} {K : Tbl} {X : Ext1} {F : Tab} {n m : Nat} {ro : Option Nat} {ds : List Deferred} {ops : Array Oper} {Q : Exit → Act → World → Prop}

/-- A call whose contract is at hand. -/
theorem call_step (hn : n ≤ 1073741824) {o : Oper} {k : Nat} {rest : List Nat} {g : FuncId} {xs : Array Operand} {ts : Array TypeId} {st : St} {w : World} {ρ : Map} {a : Act} {r : AV} {R : World → Prop} (hk : ops[k]? = some o) (ho : o.op = .call { callee := .value (.func g), args := xs, argTypes := ts })
    (eg : ∀ args w, (callFunc g args).run P w = .ok (.enter g args) w) (hw : aWant ops o st.env = some true) (h : Rel n w ρ st a) (hdf : st.df = [])
    (hC : Calls P g (xs.map a.eval) w fun e w' => ∃ v, e = .returned v ∧ CR ρ r v ∧ Below w.heap.size w w' ∧ R w')
    (next : ∀ w' a', Rel n w' ρ { st with env := putE n st.env o.dst r } a' → FE w ρ st.H st.nx w' ρ st.H st.nx → R w' → wpOpsIn (FR ro) m P ops Q rest (wd a' ds) w') :
    wpOpsIn (FR ro) m P ops Q (k :: rest) (wd a ds) w := by
  simp only [wpOpsIn, hk]
  have ht : (wd a ds).tmps = a.tmps := rfl
  rw [ht, aWant_sound hw (fun j want d _ _ => h.env d)]
  simp only [if_true]
  refine ⟨fun _ _ => trivial, ?_⟩
  rw [Oper.semAt_eq _ _ _ (fun c e => by rw [ho] at e; cases e)]
  have hev : (wd a ds).eval = a.eval := rfl
  have he : (execOp (wd a ds).eval o).run P w = .ok (.enter g (xs.map a.eval)) w := by
    rw [hev]
    obtain ⟨dst, op, ty, pos, after, guard⟩ := o
    simp only at ho; subst ho
    have hgv : a.eval (.func g) = .func (.func g) #[] #[] := rfl
    simp [execOp, resolve, invoke, Deferred.ofValue, hgv, eg]
  rw [he]
  refine ⟨fun h' => (by cases h'), calls_in (hC.mono ?_)⟩
  rintro e w' ⟨v, rfl, hc, hB, hR⟩
  show wpOpsIn (FR ro) m P ops Q rest ((wd a ds).put o.dst v) w'
  rw [wd_put]
  obtain ⟨i2, f2⟩ := h.inv.below hB
  exact next w' _ ⟨put_size h.size, put_log hn h.log, put_CR hn h.size h.env hc, i2, by rw [put_defers]; exact h.df⟩ f2 hR

/-- An operation that leaves the world as it is. -/
theorem pure_step (hn : n ≤ 1073741824) {o : Oper} {k : Nat} {rest : List Nat} {st : St} {w : World} {ρ : Map} {a : Act} {r : AV} {v : Value} (hk : ops[k]? = some o) (hnd : ∀ c, o.op ≠ .defer c) (hw : aWant ops o st.env = some true) (h : Rel n w ρ st a)
    (he : (execOp a.eval o).run P w = .ok (.value v) w) (hc : CR ρ r v)
    (next : ∀ a', Rel n w ρ { st with env := putE n st.env o.dst r } a' → wpOpsIn (FR ro) m P ops Q rest (wd a' ds) w) :
    wpOpsIn (FR ro) m P ops Q (k :: rest) (wd a ds) w := by
  simp only [wpOpsIn, hk]
  have ht : (wd a ds).tmps = a.tmps := rfl
  rw [ht, aWant_sound hw (fun j want d _ _ => h.env d)]
  simp only [if_true]
  refine ⟨fun _ _ => trivial, ?_⟩
  rw [Oper.semAt_eq _ _ _ hnd]
  have hev : (wd a ds).eval = a.eval := rfl
  rw [hev, he]
  show wpOpsIn (FR ro) m P ops Q rest ((wd a ds).put o.dst v) w
  rw [wd_put]
  exact next _ ⟨put_size h.size, put_log hn h.log, put_CR hn h.size h.env hc, h.inv, by rw [put_defers]; exact h.df⟩
end
end Go.Bm
/-
  THE SECOND MACHINE: bytes in many lanes, compared.
-/
namespace Go.Bm
open Go
open Go.Am (Sc add_eq run_szO)

noncomputable def laneC (i j : Nat) : List AV → Option (List Int)
  | [] => some []
  | .s (.i .u8 x) :: r => match laneC i j r with | some xs => some (x :: xs) | none => none
  | .w i' .u8 l :: r => bif Nat.beq i' i then (match l[j]?, laneC i j r with | some x, some xs => some (x :: xs) | _, _ => none) else none
  | _ => none
noncomputable def firstW : List AV → Option (Nat × Nat)
  | [] => none
  | .w i _ l :: _ => some (i, l.length)
  | _ :: r => firstW r
noncomputable def cmpAt (i : Nat) (cs ds : List AV) (j : Nat) : Option Int :=
  match laneC i j cs, laneC i j ds with
  | some ns, some ms => some (Lib.compareBytes (Lib.bytesOf ns) (Lib.bytesOf ms))
  | _, _ => none
noncomputable def sameI (x : Int) : List (Option Int) → Bool
  | [] => true
  | some y :: r => decide (y = x) && sameI x r
  | none :: _ => false
noncomputable def xCmpW (H : Heap) (args : List AV) : Option AV :=
  match args with
  | [a, b] => match srcCells H 1 a, srcCells H 1 b with
    | some (_, cs), some (_, ds) => match firstW (cs ++ ds) with
      | some (i, n) => match cmpAt i cs ds 0 with
        | some x => bif sameI x ((List.range n).map (cmpAt i cs ds)) then some (.s (.i .i64 x)) else none
        | none => none
      | none => none
    | _, _ => none
  | _ => none

/-- With bytes in lanes, too. -/
noncomputable def laneX (fC : FuncId) (X : Ext1) : Ext1 := fun f args H =>
  match X f args H with
  | some r => some r
  | none => bif Nat.beq f fC then xCmpW H args else none

section
variable {P : Program} {w : World} {ρ : Map} {H : Heap} {nx : Nat}

theorem firstW_mem : ∀ {cs : List AV} {i n : Nat}, firstW cs = some (i, n) → ∃ k l, AV.w i k l ∈ cs ∧ l.length = n
  | [], i, n, h => by cases h
  | x :: r, i, n, h => by
    unfold firstW at h
    split at h
    · rename_i he; cases he
    · rename_i i' k l r' he
      injection he with e1 e2; subst e1
      simp only [Option.some.injEq, Prod.mk.injEq] at h
      obtain ⟨rfl, rfl⟩ := h
      exact ⟨k, l, List.mem_cons_self .., rfl⟩
    · rename_i y r' _ he
      injection he with e1 e2; subst e1; subst e2
      obtain ⟨k, l, h1, h2⟩ := firstW_mem h
      exact ⟨k, l, List.mem_cons_of_mem _ h1, h2⟩

theorem laneC_CR {i L : Nat} (hr : ρ i = .far i L) : ∀ {cs : List AV} {us : List Value} {ns : List Int}, laneC i L cs = some ns → CRs ρ cs us → us = ns.map (Value.int .u8)
  | [], us, ns, h, hc => by cases hc; simp [laneC] at h; subst h; rfl
  | x :: r, us, ns, h, hc => by
    cases hc with
    | cons _ v _ us' h1 h2 =>
      unfold laneC at h
      split at h
      · rename_i he; cases he
      · rename_i x' r' he
        injection he with e1 e2; subst e1; subst e2
        split at h
        · rename_i xs hxs
          injection h with h; subst h
          cases h1
          rw [laneC_CR hr hxs h2]; rfl
        · cases h
      · rename_i i' l r' he
        injection he with e1 e2; subst e1; subst e2
        cases hi : Nat.beq i' i with
        | false => rw [hi] at h; cases h
        | true =>
          rw [hi] at h
          simp only [cond_true] at h
          obtain rfl := Nat.eq_of_beq_eq_true hi
          split at h
          · rename_i y xs hy hxs
            injection h with h; subst h
            cases h1 with | w _ _ _ L' z _ _ g3 g4 =>
            rw [hr] at g3; injection g3 with _ e; subst e
            rw [hy] at g4; injection g4 with g4; subst g4
            rw [laneC_CR hr hxs h2]; rfl
          · cases h
      · cases h

theorem sameI_get {x : Int} : ∀ {l : List (Option Int)}, sameI x l = true → ∀ (j : Nat) q, l[j]? = some q → q = some x
  | [], _, j, q, h => by simp at h
  | o :: r, hs, j, q, h => by
    cases o with
    | none => cases hs
    | some y =>
      simp only [sameI, Bool.and_eq_true, decide_eq_true_eq] at hs
      obtain ⟨rfl, hs⟩ := hs
      cases j with
      | zero => simp only [List.getElem?_cons_zero, Option.some.injEq] at h; exact h.symm
      | succ j => exact sameI_get hs j q (by simpa using h)

theorem bytes_run {x : AV} {v : Value} {k : Nat} {cs : List AV} {ns : List Int} (hI : InvH w ρ H nx) (hsrc : srcCells H 1 x = some (k, cs)) (hx : CR ρ x v) (hn : ∀ us, CRs ρ cs us → us = ns.map (Value.int .u8)) : (Extern.Bytes.bytesOf v).run P w = .ok ⟨(Lib.bytesOf ns).toArray⟩ w := by
  obtain ⟨A, c, us, rfl, hcs, hl, hA⟩ := src_sound hI hsrc hx
  obtain rfl := hn _ hcs
  have hk : ns.length = k := by simpa using hl
  cases A with
  | none =>
    have h0 : k = 0 := by
      rcases Nat.eq_zero_or_pos k with h | h
      · exact h
      · obtain ⟨ad, h1, _⟩ := hA (by omega); cases h1
    subst h0
    have : ns = [] := List.eq_nil_of_length_eq_zero hk
    subst this
    rfl
  | some ad =>
    have hcell : ∀ j x, ns[j]? = some x → w.cell? (ad.add j) = some (.int .u8 x) := fun j x hj => by
      have hlt : j < ns.length := (List.getElem?_eq_some_iff.1 hj).1
      obtain ⟨ad', h1, h2⟩ := hA (by omega)
      injection h1 with h1; subst h1
      exact h2 j _ (by rw [List.getElem?_map, hj]; rfl)
    have := Lib.run_loadBytesX (P := P) w ns ad .empty hcell
    rw [hk] at this
    show (Extern.Bytes.loadBytes ad k .empty).run P w = _
    rw [this]
    simp

theorem laneX_valid {fC : FuncId} {X : Ext1} (hX : X.valid P) (hcmp : ∀ (args : Array Value) (w : World), (callFunc fC args).run P w = ((Extern.BytealgCompare.compare args).run P w).andThen fun v w' => .ok (.value v) w') : (laneX fC X).valid P := by
  intro f args H r hx w ρ nx vargs hI hc
  unfold laneX at hx
  split at hx
  · rename_i r' hr
    injection hx with hx; subst hx
    exact hX f args H _ hr w ρ nx vargs hI hc
  · cases hb : Nat.beq f fC with
    | false => rw [hb] at hx; cases hx
    | true =>
      rw [hb] at hx
      simp only [cond_true] at hx
      obtain rfl := Nat.eq_of_beq_eq_true hb
      unfold xCmpW at hx
      split at hx
      rotate_left
      · cases hx
      rename_i a b
      split at hx
      rotate_left
      · cases hx
      rename_i ka cs kb ds ha hb'
      split at hx
      rotate_left
      · cases hx
      rename_i i n hfw
      split at hx
      rotate_left
      · cases hx
      rename_i x h0
      cases hs : sameI x ((List.range n).map (cmpAt i cs ds)) with
      | false => rw [hs] at hx; cases hx
      | true =>
        rw [hs] at hx
        simp only [cond_true, Option.some.injEq] at hx
        subst hx
        cases hc with | cons _ v0 _ vs0 hc0 hc =>
        cases hc with | cons _ v1 _ vs1 hc1 hc =>
        cases hc
        obtain ⟨A0, c0, us0, e0, hcs0, _, _⟩ := src_sound hI ha hc0
        obtain ⟨A1, c1, us1, e1, hcs1, _, _⟩ := src_sound hI hb' hc1
        obtain ⟨k, l, hmem, hln⟩ := firstW_mem hfw
        obtain ⟨L, hL, hr⟩ : ∃ L, L < n ∧ ρ i = .far i L := by
          have hcc := hcs0.append hcs1
          obtain ⟨j, hj, he⟩ := List.getElem_of_mem hmem
          obtain ⟨v, _, hv⟩ := hcc.get (j := j) (x := .w i k l) (by rw [List.getElem?_eq_getElem hj, he])
          cases hv with | w _ _ _ L z _ _ g3 g4 => exact ⟨L, by rw [← hln]; exact (List.getElem?_eq_some_iff.1 g4).1, g3⟩
        have hq := sameI_get hs L (cmpAt i cs ds L) (by rw [List.getElem?_map, List.getElem?_range hL]; rfl)
        unfold cmpAt at hq
        split at hq
        rotate_left
        · cases hq
        rename_i ns ms h1 h2
        injection hq with hq; subst hq
        refine ⟨_, ?_, .s (.i .i64 _)⟩
        rw [hcmp]
        have : (Extern.BytealgCompare.compare #[v0, v1]).run P w = .ok (.int .i64 (Lib.compareBytes (Lib.bytesOf ns) (Lib.bytesOf ms))) w := by
          change Sem.run P (do pure (goInt (Extern.BytealgCompare.cmp (← Extern.Bytes.bytesOf v0) (← Extern.Bytes.bytesOf v1)))) w = _
          simp only [Sem.run_bind, bytes_run hI ha hc0 (fun us hu => laneC_CR hr h1 hu), bytes_run hI hb' hc1 (fun us hu => laneC_CR hr h2 hu), Result.andThen_ok, Sem.run_pure, Lib.cmp_eq]
          rfl
        show ((Extern.BytealgCompare.compare #[v0, v1]).run P w).andThen _ = _
        rw [this]; rfl
end
end Go.Bm
/-
  THE SECOND MACHINE: a beginning whose arguments are in lanes.
-/
namespace Go.Bm
open Go
open Go.Am (Sc)

/-- The lanes of the three lane names. -/
def laneMap (L : Nat → Nat) : Map := fun i => if i < 16 then .far i (if i < 13 then 0 else L i) else .no

theorem laneMap_at {L : Nat → Nat} {i b s : Nat} : laneMap L i ≠ .at b s := fun h => by
  unfold laneMap at h
  split at h <;> cases h
theorem laneMap_dead {L : Nat → Nat} {i : Nat} : laneMap L i ≠ .dead := fun h => by
  unfold laneMap at h
  split at h <;> cases h

theorem laneMap_lane {L : Nat → Nat} {i : Nat} (h1 : 13 ≤ i) (h2 : i < 16) : laneMap L i = .far i (L i) := by
  unfold laneMap
  rw [if_pos h2, if_neg (by omega)]

theorem InvH.lanes (w : World) (L : Nat → Nat) : InvH w (laneMap L) .e 16 := by
  refine ⟨⟨fun g hg => .inl ⟨_, by unfold laneMap; rw [if_pos hg]; exact .inr rfl⟩, fun g h1 hg => ⟨_, laneMap_lane h1 hg⟩⟩, fun i j b s s' hi hj => absurd hi laneMap_at, fun i b s hi => absurd hi laneMap_at, fun i hi => absurd hi laneMap_dead, fun i b s hi => ?_⟩
  unfold laneMap at hi
  split at hi
  · exact ⟨by assumption, rfl⟩
  · cases hi

/-- An argument in its lane. -/
theorem lane_CR {L : Nat → Nat} {i : Nat} {k : IntKind} {l : List Int} {x : Int} (h1 : 13 ≤ i) (h2 : i < 16) (h : l[L i]? = some x) : CR (laneMap L) (.w i k l) (.int k x) :=
  .w i k l (L i) x h1 h2 (laneMap_lane h1 h2) h
end Go.Bm
