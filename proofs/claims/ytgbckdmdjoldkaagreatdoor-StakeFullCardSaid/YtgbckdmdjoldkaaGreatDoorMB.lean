import Derived.Test.YtgbckdmdjoldkaaGreatDoorMA
import Derived.Orders
import Derived.Scope
import Derived.ProofKit
import Derived.OpenShut
set_option linter.unusedSimpArgs false
set_option linter.unusedVariables false
/-
  THE ABSTRACT MACHINE: a region whose order is drawn.
-/
namespace Go.Am
open Go

/-- No row among them. -/
def noRow : AV → Bool
  | .r _ => false
  | _ => true
def plainL (xs : List AV) : Bool := (argCells xs).all noRow

/-- The row of a slice's literal. -/
def litRow (P : Program) (t : TypeId) (len : Nat) (parts : Array (Nat × Operand)) (env : List AV) : Option Blk :=
  if (partCells env parts).all noRow then
    match sliceO P t with
    | some e =>
      match P.info? e, zeroO P e with
      | some ie, some z =>
        if 0 < len * ie.size ∧ len * ie.size ≤ 2 ^ 24 ∧ len ≤ maxLen then
          match fillAV (fun i => some (i * ie.size, ie.size)) (zeroCellsAV z (len * ie.size)) (partsAV env parts) with
          | some cells => if cells.all AV.data ∧ cells.length = len * ie.size then some (.row e ie.size len cells) else none
          | none => none
        else none
      | _, _ => none
    | none => none
  else none

/-- One operation that changes no slot but its own, in the state's parts. -/
def yOp (P : Program) (F : Tab) (base : Nat) (o : Oper) (env : List AV) (S O : List Blk) : Option (AV × List Blk × List Blk) :=
  match o.op with
  | .alloc T =>
    match o.dst, zeroO P T with
    | some d, some z => if d < env.length then match S[base + d]? with | some .dead => some (.p (.s (base + d)) 0, S.set (base + d) (.box T (z.map ofC)), O) | _ => none else none
    | _, _ => none
  | .box T x =>
    match o.dst, (rd env x).cells? with
    | some d, some cs => if d < env.length then match S[base + d]? with | some .dead => some (.p (.s (base + d)) 0, S.set (base + d) (.box T cs), O) | _ => none else none
    | _, _ => none
  | .build t parts => (buildAV P t (partsAV env parts)).map (·, S, O)
  | .store T x y =>
    match rd env x, (rd env y).cells?, szO P T with
    | .p id off, some cs, some sz =>
      if cs.length = sz ∧ cs.all noRow then (xStore base id off cs ⟨[], S, O⟩).map fun st => (.u, st.S, st.O) else none
    | _, _, _ => none
  | .call { callee := .value f, args, .. } =>
    if plainL (args.toList.map (rd env)) then
      match calleeAV env f with
      | some (g, fs, cs) =>
        if hasBody P g then F g (AV.nrmL (fs ++ args.toList.map (rd env) ++ cs)) S O
        else match toVs (AV.nrmL (fs ++ args.toList.map (rd env) ++ cs)) with
          | some vs => match extVal P g vs with | some v => some (ofV v, S, O) | none => none
          | none => none
      | none => none
    else none
  | .slice T x lo hi mx => match rd env x with
    | .s (.str _) => (xPure P ⟨env, S, O⟩ o).map (·, S, O)
    | .r _ => none
    | .p .. => none
    | v => if mx.isSome && hi.isNone then none else (sliceAV P T v lo hi mx env).map (·, S, O)
  | .buildSlice t len parts =>
    match o.dst, litRow P t len parts env with
    | some d, some blk => if d < env.length then match S[base + d]? with | some .dead => some (.r (base + d), S.set (base + d) blk, O) | _ => none else none
    | _, _ => none
  | .makeSlice .. => none
  | .call { callee := .builtin .append, .. } => none
  | _ => (xPure P ⟨env, S, O⟩ o).map (·, S, O)

def yStep (P : Program) (F : Tab) (base : Nat) (ops : Array Oper) (o : Oper) (env : List AV) (S O : List Blk) : Option (AV × List Blk × List Blk) :=
  match aWant ops o env with
  | none => none
  | some false => some (.t [], S, O)
  | some true => yOp P F base o env S O

def yRun (P : Program) (F : Tab) (base : Nat) (ops : Array Oper) (o : Oper) (st : St) : Option St :=
  (yStep P F base ops o st.env st.S st.O).map fun q => (St.mk st.env q.2.1 q.2.2).put o.dst q.1

section
variable {base : Nat} {w w' w'' : World} {G G' G'' : Ghost} {S S' S'' O O' O'' : List Blk} {P : Program} {F : Tab} {ops : Array Oper}

theorem freezeIn_plain {xs : List AV} (h : xs.all noRow = true) (st : St) : st.freezeIn base xs = st := by
  induction xs generalizing st with
  | nil => rfl
  | cons x xs ih =>
    simp only [List.all_cons, Bool.and_eq_true] at h
    cases x <;> first | exact ih h.2 st | (exact absurd h.1 (by simp [noRow]))

theorem setAt_dead {st : St} {m : Nat} {blk : Blk} (h : st.S[m]? = some .dead) : st.setAt base m blk = { st with S := st.S.set m blk } := by
  unfold St.setAt; rw [h]

theorem xStore_env {id : Bid} {off : Nat} {cs : List AV} {st s1 : St} (h : xStore base id off cs ⟨[], st.S, st.O⟩ = some s1) : xStore base id off cs st = some ⟨st.env, s1.S, s1.O⟩ := by
  unfold xStore at *
  split at h
  · rename_i T cs' hg
    rw [hg]; simp only
    split at h
    · rename_i hc
      rw [if_pos hc]
      injection h with h; subst h
      unfold setB; cases id <;> rfl
    · cases h
  · rename_i e sz n cs' hg
    rw [hg]; simp only
    split at h
    · split at h
      · rename_i hc; rw [if_pos hc]; injection h with h; subst h; rfl
      · cases h
    · cases h
  · cases h

theorem yOp_x {o : Oper} {env : List AV} {S O : List Blk} {v : AV} (h : yOp P F base o env S O = some (v, S', O')) :
    (match o.op with
      | .call { callee := .value f, args, .. } => xCall P F base f args ⟨env, S, O⟩
      | _ => xOp P (fun _ => false) base o ⟨env, S, O⟩) = some (v, ⟨env, S', O'⟩) := by
  obtain ⟨dst, op, type, pos, after, guard⟩ := o
  cases op
  case call c =>
    obtain ⟨callee, args, tys⟩ := c
    cases callee
    case value f =>
      simp only [yOp] at h ⊢
      unfold xCall
      split at h
      rotate_left
      · cases h
      rename_i hp
      rw [freezeIn_plain hp]
      simp only
      split at h
      rotate_left
      · cases h
      rename_i g fs cs hc
      rw [hc]
      simp only
      split at h
      · rename_i hb
        rw [if_pos hb, h]
      · rename_i hb
        rw [if_neg hb]
        split at h
        rotate_left
        · cases h
        rename_i vs hvs
        rw [hvs]
        simp only
        split at h
        · rename_i v' hv; rw [hv]; simp only [Option.some.injEq, Prod.mk.injEq] at h; obtain ⟨rfl, rfl, rfl⟩ := h; rfl
        · cases h
    case builtin b =>
      cases b <;> simp only [yOp, xOp] at h ⊢ <;> first
        | (simp only [Option.map_eq_some_iff, Prod.mk.injEq] at h; obtain ⟨r, hr, rfl, rfl, rfl⟩ := h; rw [hr]; rfl)
        | cases h
    case invoke r m =>
      simp only [yOp, xOp] at h ⊢
      simp only [Option.map_eq_some_iff, Prod.mk.injEq] at h; obtain ⟨r, hr, rfl, rfl, rfl⟩ := h; rw [hr]; rfl
  case alloc T =>
    simp only [yOp, xOp] at h ⊢
    split at h
    rotate_left
    · cases h
    rename_i d z hz
    split at h
    rotate_left
    · cases h
    rename_i hlt
    split at h
    rotate_left
    · cases h
    rename_i hS
    simp only [Option.some.injEq, Prod.mk.injEq] at h
    obtain ⟨rfl, rfl, rfl⟩ := h
    simp only [hz, newBox, Bool.false_eq_true, if_false, hlt, if_true, boxCells, hS, setAt_dead (st := ⟨env, S, O⟩) hS]
  case box T x =>
    simp only [yOp, xOp] at h ⊢
    split at h
    rotate_left
    · cases h
    rename_i d cs hz
    split at h
    rotate_left
    · cases h
    rename_i hlt
    split at h
    rotate_left
    · cases h
    rename_i hS
    simp only [Option.some.injEq, Prod.mk.injEq] at h
    obtain ⟨rfl, rfl, rfl⟩ := h
    simp only [hz, Option.any_some, newBox, Bool.false_eq_true, if_false, hlt, if_true, boxCells, hS, setAt_dead (st := ⟨env, S, O⟩) hS]
  case build t parts =>
    simp only [yOp, xOp] at h ⊢
    simp only [Option.map_eq_some_iff, Prod.mk.injEq] at h; obtain ⟨r, hr, rfl, rfl, rfl⟩ := h; rw [hr]; rfl
  case store T x y =>
    simp only [yOp, xOp] at h ⊢
    unfold xStoreOp
    split at h
    rotate_left
    · cases h
    rename_i id off cs sz h1 h2 h3
    split at h
    rotate_left
    · cases h
    rename_i hc
    simp only [Option.map_eq_some_iff, Prod.mk.injEq] at h
    obtain ⟨s1, hs, rfl, rfl, rfl⟩ := h
    have := xStore_env (st := ⟨env, S, O⟩) hs
    simp only [h1, h2, h3, hc.1, if_true]
    split
    · rw [this]; rfl
    · rw [freezeIn_plain hc.2]
      simp only [h1, h2, hc.1, if_true, this]; rfl
  case slice T x lo hi mx =>
    simp only [yOp, xOp] at h ⊢
    cases hx : rd env x <;> rw [hx] at h <;> (try simp only at h)
    case s sc =>
      cases sc <;> (try simp only at h ⊢)
      case str => simp only [Option.map_eq_some_iff, Prod.mk.injEq] at h; obtain ⟨r, hr, rfl, rfl, rfl⟩ := h; rw [hr]; rfl
      all_goals
        unfold xSlice
        split at h
        · cases h
        · rename_i hb; rw [if_neg hb]; simp only [hx]
          simp only [Option.map_eq_some_iff, Prod.mk.injEq] at h; obtain ⟨r, hr, rfl, rfl, rfl⟩ := h; rw [hr]; rfl
    case r => cases h
    case p => cases h
    all_goals
      unfold xSlice
      split at h
      · cases h
      · rename_i hb; rw [if_neg hb]; simp only [hx]
        simp only [Option.map_eq_some_iff, Prod.mk.injEq] at h; obtain ⟨r, hr, rfl, rfl, rfl⟩ := h; rw [hr]; rfl
  case buildSlice t len parts =>
    simp only [yOp, xOp] at h ⊢
    split at h
    rotate_left
    · cases h
    rename_i d blk hz
    split at h
    rotate_left
    · cases h
    rename_i hlt
    split at h
    rotate_left
    · cases h
    rename_i hS
    simp only [Option.some.injEq, Prod.mk.injEq] at h
    obtain ⟨rfl, rfl, rfl⟩ := h
    unfold litRow at hz
    split at hz
    rotate_left
    · cases hz
    rename_i hp
    unfold xBuildSlice
    rw [freezeIn_plain hp]
    split at hz
    rotate_left
    · cases hz
    rename_i e he
    rw [he]; simp only
    split at hz
    rotate_left
    · cases hz
    rename_i ie z hie hz0
    rw [hie, hz0]; simp only
    split at hz
    rotate_left
    · cases hz
    rename_i hc
    rw [if_pos hc]
    split at hz
    rotate_left
    · cases hz
    rename_i cells hcells
    rw [hcells]; simp only
    split at hz
    rotate_left
    · cases hz
    rename_i hc2
    rw [if_pos hc2]
    injection hz with hz; subst hz
    simp only [rowHere, hlt, if_true, setAt_dead (st := ⟨env, S, O⟩) hS]
  case makeSlice => simp only [yOp] at h; cases h
  all_goals
    simp only [yOp, xOp] at h ⊢
    simp only [Option.map_eq_some_iff, Prod.mk.injEq] at h; obtain ⟨r, hr, rfl, rfl, rfl⟩ := h; rw [hr]; rfl

theorem yRun_x {o : Oper} {st st' : St} (h : yRun P F base ops o st = some st') : xStep P F (fun _ => false) base ops o st = some st' := by
  unfold yRun yStep at h
  unfold xStep
  simp only [Option.map_eq_some_iff] at h
  obtain ⟨⟨v, S', O'⟩, hv, rfl⟩ := h
  split at hv
  · cases hv
  · rename_i hw
    rw [hw]
    simp only [Option.some.injEq, Prod.mk.injEq] at hv
    obtain ⟨rfl, rfl, rfl⟩ := hv
    rfl
  · rename_i hw
    rw [hw]
    have := yOp_x hv
    obtain ⟨dst, op, type, pos, after, guard⟩ := o
    cases op
    case call c =>
      obtain ⟨callee, args, tys⟩ := c
      cases callee <;> (try simp only at this ⊢) <;> rw [this] <;> rfl
    all_goals ((try simp only at this ⊢); rw [this]; rfl)
end
end Go.Am
/-
  THE ABSTRACT MACHINE: which operations of a region may change places.
-/
namespace Go.Am
open Go

def putE (env : List AV) (d : Option Tmp) (v : AV) : List AV := match d with | some d => env.set d v | none => env

section
variable {base : Nat} {w w' w'' : World} {G G' G'' : Ghost} {S S' S'' O O' O'' : List Blk} {P : Program} {F : Tab} {ops : Array Oper}

theorem rd_put {env : List AV} {d : Option Tmp} {v : AV} {x : Operand} (h : ∀ t, d = some t → x ≠ .tmp t) : rd (putE env d v) x = rd env x := by
  cases d with
  | none => rfl
  | some d =>
    cases x with
    | tmp t =>
      have hne : d ≠ t := fun e => h d rfl (e ▸ rfl)
      simp [rd, putE, List.getD_eq_getElem?_getD, List.getElem?_set_ne hne]
    | _ => rfl

theorem len_put {env : List AV} {d : Option Tmp} {v : AV} : (putE env d v).length = env.length := by cases d <;> simp [putE]

theorem bnd_congr {e1 e2 : List AV} {x : Option Operand} (h : ∀ y, x = some y → rd e1 y = rd e2 y) (a b : Nat) : bnd e1 x a b = bnd e2 x a b := by
  cases x with
  | none => rfl
  | some y => simp only [bnd, h y rfl]

theorem xPure_congr {e1 e2 : List AV} {S O : List Blk} (o : Oper) (h : ∀ x ∈ o.op.operands.toList, rd e1 x = rd e2 x) : xPure P ⟨e1, S, O⟩ o = xPure P ⟨e2, S, O⟩ o := by
  obtain ⟨dst, op, type, pos, after, guard⟩ := o
  cases op <;> simp only [Op.operands] at h
  case pick c a b => simp only [xPure, h c (by simp), h a (by simp), h b (by simp)]
  case binOp op T x y T' => simp only [xPure, h x (by simp), h y (by simp)]
  case indexAddr T x i => simp only [xPure, h x (by simp), h i (by simp)]
  case index T x i => simp only [xPure, h x (by simp), h i (by simp)]
  case makeFunc f fs cs =>
    cases f <;> simp only [xPure]
    rw [List.map_congr_left (l := fs.toList) fun x hx => h x (by simp; exact .inl (by simpa using hx)), List.map_congr_left (l := cs.toList) fun x hx => h x (by simp; exact .inr (by simpa using hx))]
  case slice T x lo hi mx =>
    cases mx with
    | some m => rfl
    | none =>
      have h1 := h x (by simp)
      have h2 : (lo.map fun y => toV (rd e1 y)) = lo.map fun y => toV (rd e2 y) := by cases lo with | none => rfl | some l => simp only [Option.map_some, h l (by simp)]
      have h3 : (hi.map fun y => toV (rd e1 y)) = hi.map fun y => toV (rd e2 y) := by cases hi with | none => rfl | some l => simp only [Option.map_some, h l (by simp)]
      simp only [xPure, h1, h2, h3]
  case call c =>
    obtain ⟨callee, args, tys⟩ := c
    cases callee with
    | builtin b =>
      have h' : ∀ x ∈ args.toList, rd e1 x = rd e2 x := fun x hx => h x (by simp [Call.operands]; simpa using hx)
      cases b <;> simp only [xPure]
      all_goals
        generalize args.toList = l at h' ⊢
        generalize tys.toList = k
        rcases l with _ | ⟨x, _ | ⟨y, _ | ⟨z, l⟩⟩⟩ <;> rcases k with _ | ⟨T, _ | ⟨T', k⟩⟩ <;> first
          | rfl
          | (simp only [h' x (by simp)]; done)
          | (simp only [h' x (by simp), h' y (by simp)]; done)
    | _ => rfl
  all_goals first
    | rfl
    | (rename_i x; simp only [xPure, h x (by simp)])
    | (rename_i _ x; simp only [xPure, h x (by simp)])
    | (rename_i x _; simp only [xPure, h x (by simp)])
    | (rename_i _ x _; simp only [xPure, h x (by simp)])
    | (rename_i _ _ x; simp only [xPure, h x (by simp)])

theorem parts_congr {e1 e2 : List AV} {parts : Array (Nat × Operand)} (h : ∀ q ∈ parts.toList, rd e1 q.2 = rd e2 q.2) : partsAV e1 parts = partsAV e2 parts :=
  List.map_congr_left fun q hq => by rw [h q hq]

theorem sliceAV_congr {e1 e2 : List AV} {T : TypeId} {x : AV} {lo hi mx : Option Operand} (h1 : ∀ y, lo = some y → rd e1 y = rd e2 y) (h2 : ∀ y, hi = some y → rd e1 y = rd e2 y) (h3 : ∀ y, mx = some y → rd e1 y = rd e2 y) :
    sliceAV P T x lo hi mx e1 = sliceAV P T x lo hi mx e2 := by
  unfold sliceAV cutAV
  simp only [bnd_congr h1, bnd_congr h2, bnd_congr h3]

theorem yOp_congr {e1 e2 : List AV} {S O : List Blk} (o : Oper) (h : ∀ x ∈ o.op.operands.toList, rd e1 x = rd e2 x) (hl : e1.length = e2.length) : yOp P F base o e1 S O = yOp P F base o e2 S O := by
  have hp := xPure_congr (P := P) (S := S) (O := O) o h
  obtain ⟨dst, op, type, pos, after, guard⟩ := o
  cases op <;> simp only [Op.operands] at h
  case alloc T => simp only [yOp, hl]
  case box T x => simp only [yOp, hl, h x (by simp)]
  case buildSlice t len parts =>
    have h0 : ∀ q ∈ parts.toList, rd e1 q.2 = rd e2 q.2 := fun q hq => h q.2 (by simp; exact ⟨q.1, by simpa using hq⟩)
    have h1 : partCells e1 parts = partCells e2 parts := by
      unfold partCells
      rw [List.map_congr_left (l := parts.toList) fun q hq => by rw [h0 q hq]]
    have h2 : litRow P t len parts e1 = litRow P t len parts e2 := by unfold litRow; rw [h1, parts_congr h0]
    simp only [yOp, hl, h2]
  case build t parts => simp only [yOp]; rw [parts_congr fun q hq => h q.2 (by simp; exact ⟨q.1, by simpa using hq⟩)]
  case store T x y => simp only [yOp, h x (by simp), h y (by simp)]
  case slice T x lo hi mx =>
    have h1 := h x (by simp)
    have h2 := sliceAV_congr (P := P) (T := T) (x := rd e2 x) (lo := lo) (hi := hi) (mx := mx) (e1 := e1) (e2 := e2) (fun y hy => h y (by subst hy; simp)) (fun y hy => h y (by subst hy; simp)) (fun y hy => h y (by subst hy; simp))
    simp only [yOp, h1, hp]
    cases hx : rd e2 x <;> simp only [hx] at h2 ⊢
    case s sc => cases sc <;> simp only [h2]
    all_goals simp only [h2]
  case call c =>
    obtain ⟨callee, args, tys⟩ := c
    cases callee with
    | builtin b => cases b <;> first | rfl | (simp only [yOp]; rw [hp])
    | invoke r m => rfl
    | value f =>
      have h1 : args.toList.map (rd e1) = args.toList.map (rd e2) := List.map_congr_left fun x hx => h x (by simp [Call.operands]; exact .inr (by simpa using hx))
      have h2 : calleeAV e1 f = calleeAV e2 f := by
        have := h f (by simp [Call.operands])
        cases f <;> first | rfl | (simp only [rd] at this; simp only [calleeAV, this])
      simp only [yOp, h1, h2]
  all_goals first | rfl | (simp only [yOp]; rw [hp])

theorem aWant_put {o : Oper} {env : List AV} {d : Option Tmp} {v : AV} (h : ∀ t, d = some t → t ∉ o.looksAt ops) : aWant ops o (putE env d v) = aWant ops o env := by
  cases d with
  | none => rfl
  | some d =>
    unfold aWant
    cases hg : o.guard with
    | none => rfl
    | some gw =>
      obtain ⟨g, want⟩ := gw
      simp only
      cases ht : (ops[g]?).bind (·.dst) with
      | none => rfl
      | some t =>
        have hne : d ≠ t := fun e => h d rfl (by subst e; simp [Oper.looksAt, hg, ht])
        simp only [putE, List.getElem?_set_ne hne]

theorem yStep_put {o : Oper} {env : List AV} {S O : List Blk} {d : Option Tmp} {v : AV} (h : ∀ t, d = some t → t ∉ o.looksAt ops) : yStep P F base ops o (putE env d v) S O = yStep P F base ops o env S O := by
  unfold yStep
  rw [aWant_put h, yOp_congr o (fun x hx => rd_put fun t ht hxt => h t ht (by subst hxt; exact List.mem_append_left _ (List.mem_filterMap.2 ⟨.tmp t, by simpa using hx, rfl⟩))) len_put]

/-! ### Kinds -/
/-- Calls that look at no memory. -/
def Calm (F : Tab) (quiet : FuncId → Bool) : Prop := ∀ f, quiet f = true → ∀ xs S O r, F f xs S O = some r → ∃ v, r = (v, S, O) ∧ ∀ S2 O2, F f xs S2 O2 = some (v, S2, O2)

def cls (quiet : FuncId → Bool) (o : Oper) : Nat :=
  match o.op with
  | .move _ | .assign _ | .pick .. | .nilCheck _ | .fieldAddr .. | .field .. | .index .. | .extract .. | .binOp .. | .unOp .. | .convert .. | .makeFunc .. | .build .. | .slice .. => 0
  | .call { callee := .value (.func f), .. } => if quiet f then 0 else 3
  | .call { callee := .builtin .real, .. } | .call { callee := .builtin .imag, .. } | .call { callee := .builtin .complex, .. } => 0
  | .call { callee := .builtin .len, .. } | .load .. | .indexAddr .. => 1
  | .alloc _ | .box .. | .buildSlice .. => 2
  | .store .. => 3
  | .call { callee := .value _, .. } => 3
  | _ => 4

def free (o : Oper) (env : List AV) (m : Nat) : Prop := ∀ x ∈ o.op.operands.toList, ∀ ow, (rd env x).has ow = true → ow.at m = false

theorem kE {quiet : FuncId → Bool} (hq : Calm F quiet) {o : Oper} (hc : cls quiet o = 0) {env : List AV} {S O : List Blk} {r : AV × List Blk × List Blk} (h : yStep P F base ops o env S O = some r) :
    ∃ v, r = (v, S, O) ∧ ∀ S2 O2, yStep P F base ops o env S2 O2 = some (v, S2, O2) := by
  unfold yStep at *
  split at h
  · cases h
  · injection h with h; exact ⟨_, h.symm, fun _ _ => rfl⟩
  · rename_i hw
    obtain ⟨dst, op, type, pos, after, guard⟩ := o
    cases op <;> simp only [cls] at hc <;> try first | (exact absurd hc (by decide)) | (simp at hc; done)
    case build t parts =>
      simp only [yOp, Option.map_eq_some_iff] at h ⊢
      obtain ⟨v, hv, rfl⟩ := h
      exact ⟨v, rfl, fun _ _ => ⟨v, hv, rfl⟩⟩
    case slice T x lo hi mx =>
      simp only [yOp] at h ⊢
      cases hx : rd env x <;> simp only [hx] at h ⊢
      case s sc =>
        cases sc <;> simp only at h ⊢
        case str =>
          simp only [Option.map_eq_some_iff] at h ⊢
          obtain ⟨v, hv, rfl⟩ := h
          exact ⟨v, rfl, fun _ _ => ⟨v, by rw [← hv]; cases mx <;> rfl, rfl⟩⟩
        all_goals
          split at h
          · cases h
          · simp only [Option.map_eq_some_iff] at h
            obtain ⟨v, hv, rfl⟩ := h
            exact ⟨v, rfl, fun _ _ => by rw [if_neg (by assumption), hv]; rfl⟩
      all_goals first
        | (cases h; done)
        | (split at h
           · cases h
           · simp only [Option.map_eq_some_iff] at h
             obtain ⟨v, hv, rfl⟩ := h
             exact ⟨v, rfl, fun _ _ => by rw [if_neg (by assumption), hv]; rfl⟩)
    case call c =>
      obtain ⟨callee, args, tys⟩ := c
      cases callee with
      | builtin b =>
        cases b <;> simp only at hc <;> try first | (exact absurd hc (by decide)) | (simp at hc; done)
        all_goals
          simp only [yOp, Option.map_eq_some_iff] at h ⊢
          obtain ⟨v, hv, rfl⟩ := h
          refine ⟨v, rfl, fun _ _ => ⟨v, ?_, rfl⟩⟩
          rw [← hv]
          simp only [xPure]
          generalize args.toList = l
          generalize tys.toList = k
          rcases l with _ | ⟨x, _ | ⟨y, _ | ⟨z, l⟩⟩⟩ <;> rcases k with _ | ⟨T, _ | ⟨T', k⟩⟩ <;> rfl
      | invoke r m => first | exact absurd hc (by decide) | (simp at hc; done)
      | value f =>
        cases f <;> simp only at hc <;> try first | (exact absurd hc (by decide)) | (simp at hc; done)
        rename_i f
        split at hc
        rotate_left
        · first | exact absurd hc (by decide) | (simp at hc; done)
        rename_i hqf
        simp only [yOp, calleeAV] at h ⊢
        split at h
        rotate_left
        · cases h
        rename_i hpl
        split at h
        · rename_i hb
          obtain ⟨v, h1, h2⟩ := hq f hqf _ _ _ _ h
          exact ⟨v, h1, fun S2 O2 => by simp only [if_pos hpl, if_pos hb]; exact h2 S2 O2⟩
        · rename_i hb
          split at h
          rotate_left
          · cases h
          rename_i vs hvs
          split at h
          rotate_left
          · cases h
          rename_i v hv
          injection h with h
          exact ⟨_, h.symm, fun S2 O2 => by simp only [if_pos hpl, if_neg hb, hvs, hv]⟩
    case makeFunc f fs cs =>
      simp only [yOp, Option.map_eq_some_iff] at h ⊢
      obtain ⟨v, hv, rfl⟩ := h
      exact ⟨v, rfl, fun _ _ => ⟨v, by rw [← hv]; cases f <;> rfl, rfl⟩⟩
    all_goals
      simp only [yOp, Option.map_eq_some_iff] at h ⊢
      obtain ⟨v, hv, rfl⟩ := h
      exact ⟨v, rfl, fun _ _ => ⟨v, hv, rfl⟩⟩

theorem getB_set {m : Nat} {blk : Blk} {id : Bid} (h : Owner.at m (.box id) = false) : getB (S.set m blk) O id = getB S O id := by
  cases id with
  | o n => rfl
  | s n =>
    have : n ≠ m := by simpa [Owner.at] using h
    simp only [getB, List.getElem?_set_ne (Ne.symm this)]

theorem lenAV_set {m : Nat} {blk : Blk} {T : TypeId} {x : AV} (h : ∀ ow, x.has ow = true → ow.at m = false) : lenAV P (S.set m blk) T x = lenAV P S T x := by
  cases x with
  | r n =>
    have hne : n ≠ m := by simpa [Owner.at] using h (.row n) (by simp [AV.has])
    have e : (S.set m blk)[n]? = S[n]? := List.getElem?_set_ne (Ne.symm hne)
    unfold lenAV
    cases P.underlying T with | none => rfl | some t => cases t <;> first | rfl | (simp only [e]; done)
  | s sc => unfold lenAV; cases sc <;> (cases P.underlying T with | none => rfl | some t => cases t <;> rfl)
  | _ => unfold lenAV; cases P.underlying T with | none => rfl | some t => cases t <;> rfl

theorem kR {quiet : FuncId → Bool} {o : Oper} (hc : cls quiet o = 1) (env : List AV) (S O : List Blk) :
    ∃ q : Option AV, yStep P F base ops o env S O = q.map (·, S, O) ∧ ∀ m blk, free o env m → yStep P F base ops o env (S.set m blk) O = q.map (·, S.set m blk, O) := by
  unfold yStep
  cases hw : aWant ops o env with
  | none => exact ⟨none, rfl, fun _ _ _ => rfl⟩
  | some b =>
    cases b with
    | false => exact ⟨some (.t []), rfl, fun _ _ _ => rfl⟩
    | true =>
      simp only
      obtain ⟨dst, op, type, pos, after, guard⟩ := o
      cases op <;> simp only [cls] at hc <;> try first | (exact absurd hc (by decide)) | (simp at hc; done)
      case load T x =>
        refine ⟨_, rfl, fun m blk hf => ?_⟩
        simp only [yOp]
        congr 1
        have := hf x (by simp [Op.operands])
        simp only [xPure]
        cases hx : rd env x <;> try rfl
        rename_i id off
        rw [hx] at this
        simp only [getB_set (this (.box id) (by simp [AV.has]))]
      case indexAddr T x i =>
        refine ⟨_, rfl, fun m blk hf => ?_⟩
        simp only [yOp]
        congr 1
        have := hf x (by simp [Op.operands])
        simp only [xPure]
        cases hx : rd env x <;> try rfl
        rename_i n
        rw [hx] at this
        have hne : n ≠ m := by simpa [Owner.at] using this (.row n) (by simp [AV.has])
        simp only [List.getElem?_set_ne (Ne.symm hne)]
      case call c =>
        obtain ⟨callee, args, tys⟩ := c
        cases callee with
        | builtin b =>
          cases b <;> simp only at hc <;> try first | (exact absurd hc (by decide)) | (simp at hc; done)
          refine ⟨_, rfl, fun m blk hf => ?_⟩
          simp only [yOp]
          congr 1
          simp only [xPure]
          have hf' : ∀ x ∈ args.toList, ∀ ow, (rd env x).has ow = true → ow.at m = false := fun x hx => hf x (by simp [Op.operands, Call.operands]; simpa using hx)
          generalize args.toList = l at hf' ⊢
          rcases l with _ | ⟨x, _ | ⟨y, l⟩⟩ <;> try rfl
          generalize tys.toList = k
          rcases k with _ | ⟨T, _ | ⟨y, k⟩⟩ <;> try rfl
          exact lenAV_set (hf' x (by simp))
        | invoke r m => first | exact absurd hc (by decide) | (simp at hc; done)
        | value f =>
          cases f <;> simp only at hc <;> try first | (exact absurd hc (by decide)) | (simp at hc; done)
          split at hc <;> first | exact absurd hc (by decide) | (simp at hc; done)

theorem kI {quiet : FuncId → Bool} {o : Oper} (hc : cls quiet o = 2) {env : List AV} {S O : List Blk} {r : AV × List Blk × List Blk} (h : yStep P F base ops o env S O = some r) :
    (∃ v, r = (v, S, O) ∧ ∀ S2 O2, yStep P F base ops o env S2 O2 = some (v, S2, O2)) ∨
    (∃ d v blk, o.dst = some d ∧ S[base + d]? = some .dead ∧ r = (v, S.set (base + d) blk, O) ∧ ∀ S2 O2, S2[base + d]? = some .dead → yStep P F base ops o env S2 O2 = some (v, S2.set (base + d) blk, O2)) := by
  unfold yStep at *
  split at h
  · cases h
  · injection h with h; exact .inl ⟨_, h.symm, fun _ _ => rfl⟩
  · rename_i hw
    refine .inr ?_
    obtain ⟨dst, op, type, pos, after, guard⟩ := o
    cases op <;> simp only [cls] at hc <;> try first | (exact absurd hc (by decide)) | (simp at hc; done)
    case alloc T =>
      simp only [yOp] at h ⊢
      split at h
      rotate_left
      · cases h
      rename_i d z hz
      split at h
      rotate_left
      · cases h
      rename_i hlt
      split at h
      rotate_left
      · cases h
      rename_i hS
      injection h with h
      exact ⟨d, _, _, rfl, hS, h.symm, fun S2 O2 hd => by simp only [hz, if_pos hlt, hd]⟩
    case buildSlice t len parts =>
      simp only [yOp] at h ⊢
      split at h
      rotate_left
      · cases h
      rename_i d z hz
      split at h
      rotate_left
      · cases h
      rename_i hlt
      split at h
      rotate_left
      · cases h
      rename_i hS
      injection h with h
      exact ⟨d, _, _, rfl, hS, h.symm, fun S2 O2 hd => by simp only [hz, if_pos hlt, hd]⟩
    case box T x =>
      simp only [yOp] at h ⊢
      split at h
      rotate_left
      · cases h
      rename_i d z hz
      split at h
      rotate_left
      · cases h
      rename_i hlt
      split at h
      rotate_left
      · cases h
      rename_i hS
      injection h with h
      exact ⟨d, _, _, rfl, hS, h.symm, fun S2 O2 hd => by simp only [hz, if_pos hlt, hd]⟩
    case call c =>
      obtain ⟨callee, args, tys⟩ := c
      cases callee with
      | builtin b => cases b <;> simp only at hc <;> first | exact absurd hc (by decide) | (simp at hc; done)
      | invoke r m => first | exact absurd hc (by decide) | (simp at hc; done)
      | value f =>
        cases f <;> simp only at hc <;> try first | (exact absurd hc (by decide)) | (simp at hc; done)
        split at hc <;> first | exact absurd hc (by decide) | (simp at hc; done)
end
end Go.Am
/-
  THE ABSTRACT MACHINE: a region whose order is drawn, by its run in the order of the text.
-/
namespace Go.Am
open Go

def clsOK : Nat → Nat → Bool
  | 4, _ => false
  | _, 4 => false
  | 0, _ => true
  | _, 0 => true
  | 1, 1 => true
  | 1, 2 => true
  | 2, 1 => true
  | 2, 2 => true
  | _, _ => false

/-- An operation that keeps its place among all. -/
def wild (esc : Nat → Bool) (quiet : FuncId → Bool) (o : Oper) : Bool := cls quiet o == 4 || o.dst.any esc

def dRun (P : Program) (F : Tab) (esc : Nat → Bool) (quiet : FuncId → Bool) (base : Nat) (ops : Array Oper) (o : Oper) (st : St) : Option St :=
  if wild esc quiet o then xStep P F esc base ops o st else yRun P F base ops o st

def dOps (P : Program) (F : Tab) (esc : Nat → Bool) (quiet : FuncId → Bool) (base : Nat) (ops : Array Oper) : List Oper → St → Option St
  | [], st => some st
  | o :: os, st => (dRun P F esc quiet base ops o st).bind (dOps P F esc quiet base ops os)

def pairOK (esc : Nat → Bool) (quiet : FuncId → Bool) (ops : Array Oper) (x y : Oper) : Bool := !wild esc quiet x && (!wild esc quiet y && (x.apart ops y && clsOK (cls quiet x) (cls quiet y)))

/-- Stands that operation ahead of this one in every order? -/
inductive Anc (ops : Array Oper) : Nat → Nat → Prop
  | one (j : Nat) (o : Oper) (e : Edge) : ops[j]? = some o → e ∈ o.after → Region.binds .any e = true → Anc ops e.on j
  | up (i j : Nat) (o : Oper) (e : Edge) : ops[j]? = some o → e ∈ o.after → Region.binds .any e = true → Anc ops i e.on → Anc ops i j

def maskOf (ms : List Nat) (o : Oper) : Nat := (o.after.toList.filter (Region.binds .any)).foldl (fun s e => s ||| 2 ^ e.on ||| ms.getD e.on 0) 0

def calmAt (esc : Nat → Bool) (quiet : FuncId → Bool) (ops : Array Oper) (o : Oper) (m : Nat) : Nat → List Oper → Bool
  | _, [] => true
  | i, x :: xs => (m.testBit i || pairOK esc quiet ops x o) && calmAt esc quiet ops o m (i + 1) xs

/-- Every two operations of the region are in order, or may change places. -/
def calmGo (esc : Nat → Bool) (quiet : FuncId → Bool) (ops : Array Oper) : List Oper → List Oper → List Nat → Bool
  | _, [], _ => true
  | seen, o :: os, ms =>
    let m := maskOf ms o
    (o.after.toList.all fun e => !Region.binds .any e || decide (e.on < seen.length)) && calmAt esc quiet ops o m 0 seen && calmGo esc quiet ops (seen ++ [o]) os (ms ++ [m])

def calm (esc : Nat → Bool) (quiet : FuncId → Bool) (ops : Array Oper) : Bool := calmGo esc quiet ops [] ops.toList []

section
variable {base : Nat} {w w' w'' : World} {G G' G'' : Ghost} {S S' S'' O O' O'' : List Blk} {P : Program} {F : Tab} {ops : Array Oper} {esc : Nat → Bool} {quiet : FuncId → Bool}

theorem apart_comm {x y : Oper} (h : x.apart ops y = true) : y.apart ops x = true := by
  obtain ⟨h1, h2, h3⟩ := Oper.apart_spec h
  unfold Oper.apart
  simp only [Bool.and_eq_true]
  constructor
  · cases hd : y.dst with
    | none => rfl
    | some d => simp only [Bool.and_eq_true, Bool.not_eq_true', bne_iff_ne, ne_eq]; exact ⟨by simpa using h3 d hd, fun hx => h2 d hx hd⟩
  · cases hd : x.dst with
    | none => rfl
    | some d => simpa using h1 d hd

/-- A state that some world has. -/
def Good (base : Nat) (st : St) : Prop := ∃ w G a, Rel base w G st a

theorem yRun_esc {o : Oper} {st st' : St} (he : o.dst.any esc = false) (h : yRun P F base ops o st = some st') : xStep P F esc base ops o st = some st' := by
  have h1 := yRun_x h
  rw [← h1]
  unfold xStep
  have hn : ∀ T cs s, newBox esc base o.dst T cs s = newBox (fun _ => false) base o.dst T cs s := fun T cs s => by
    unfold newBox
    cases hd : o.dst with
    | none => rfl
    | some d => rw [hd] at he; simp only [Option.any_some] at he; simp only [he]
  have hx : xOp P esc base o st = xOp P (fun _ => false) base o st := by
    obtain ⟨dst, op, type, pos, after, guard⟩ := o
    cases op <;> try rfl
    case call c => obtain ⟨callee, args, tys⟩ := c; cases callee <;> first | rfl | (rename_i b; cases b <;> rfl)
    case alloc T => simp only [xOp, hn]
    case box T x => simp only [xOp, hn, he, Option.any_false]
  rw [hx]

theorem dRun_x {o : Oper} {st st' : St} (h : dRun P F esc quiet base ops o st = some st') : xStep P F esc base ops o st = some st' := by
  unfold dRun at h
  split at h
  · exact h
  · rename_i hw
    simp only [wild, Bool.or_eq_true, not_or, Bool.not_eq_true] at hw
    exact yRun_esc hw.2 h

theorem Good.step (hF : F.valid P) {o : Oper} {st st' : St} (h : Good base st) (hy : dRun P F esc quiet base ops o st = some st') : Good base st' := by
  obtain ⟨w, G, a, hr⟩ := h
  have := xStep_sound (K := fun a' w' => ∃ G', Rel base w' G' st' a') (Q := fun _ _ _ => False) hF hr (dRun_x hy) (fun w' G' a' h1 _ => ⟨G', h1⟩)
  split at this
  · rcases this with this | ⟨_, _, _, hf⟩
    · unfold Oper.wp at this
      generalize (execOp a.eval o).run P w = r at this
      cases r with
      | ok n w' =>
        cases n <;> simp only [Oper.upon] at this
        case value v => obtain ⟨G', h⟩ := this; exact ⟨_, _, _, h⟩
        case skip => obtain ⟨G', h⟩ := this; exact ⟨_, _, _, h⟩
        case defer d => obtain ⟨G', h⟩ := this; exact ⟨_, _, _, h⟩
        case enter f args =>
          obtain ⟨e, w2, fr, hR, _⟩ := this []
          cases e with
          | returned v => obtain ⟨G', h⟩ := hR; exact ⟨_, _, _, h⟩
          | panicked c => exact hR.elim
          | outgrown => obtain ⟨_, _, hf⟩ := hR; exact hf.elim
        case row row args =>
          obtain ⟨v, w2, ⟨G', h⟩, _⟩ := this default []
          exact ⟨_, _, _, h⟩
      | halt x w' => cases x <;> simp only [Oper.upon] at this
    · exact hf.elim
  · obtain ⟨G', h⟩ := this; exact ⟨_, _, _, h⟩

theorem Good.free {st : St} (h : Good base st) {m : Nat} (hd : st.S[m]? = some .dead) (o : Oper) : free o st.env m := by
  obtain ⟨w, G, a, hr⟩ := h
  intro x _ ow hx
  exact dead_at hd (has_live hr.inv (rd_sound hr.env x) hx)

theorem pair_parts (hq : Calm F quiet) {x y : Oper} (hap : x.apart ops y = true) (hc : clsOK (cls quiet x) (cls quiet y) = true) {st : St} (hg : Good base st)
    {v z : AV} {S1 O1 S2 O2 : List Blk} (hx : yStep P F base ops x st.env st.S st.O = some (v, S1, O1)) (hy : yStep P F base ops y st.env S1 O1 = some (z, S2, O2)) :
    ∃ S3 O3, yStep P F base ops y st.env st.S st.O = some (z, S3, O3) ∧ yStep P F base ops x st.env S3 O3 = some (v, S2, O2) := by
  have caseE1 : (∃ v', (v, S1, O1) = (v', st.S, st.O) ∧ ∀ S2 O2, yStep P F base ops x st.env S2 O2 = some (v', S2, O2)) → ∃ S3 O3, yStep P F base ops y st.env st.S st.O = some (z, S3, O3) ∧ yStep P F base ops x st.env S3 O3 = some (v, S2, O2) := by
    rintro ⟨v', he, hi⟩
    simp only [Prod.mk.injEq] at he
    obtain ⟨rfl, rfl, rfl⟩ := he
    exact ⟨S2, O2, hy, hi S2 O2⟩
  have caseE2 : (∃ v', (z, S2, O2) = (v', S1, O1) ∧ ∀ S2 O2, yStep P F base ops y st.env S2 O2 = some (v', S2, O2)) → ∃ S3 O3, yStep P F base ops y st.env st.S st.O = some (z, S3, O3) ∧ yStep P F base ops x st.env S3 O3 = some (v, S2, O2) := by
    rintro ⟨v', he, hi⟩
    simp only [Prod.mk.injEq] at he
    obtain ⟨rfl, rfl, rfl⟩ := he
    exact ⟨_, _, hi _ _, hx⟩
  by_cases e1 : cls quiet x = 0
  · exact caseE1 (kE hq e1 hx)
  by_cases e2 : cls quiet y = 0
  · exact caseE2 (kE hq e2 hy)
  have hx12 : (cls quiet x = 1 ∨ cls quiet x = 2) ∧ (cls quiet y = 1 ∨ cls quiet y = 2) := by
    generalize cls quiet x = a at *
    generalize cls quiet y = b at *
    rcases a with _ | _ | _ | _ | _ | a <;> rcases b with _ | _ | _ | _ | _ | b <;> simp_all [clsOK]
  obtain ⟨hx1 | hx2, hy1 | hy2⟩ := hx12
  · obtain ⟨q, q1, _⟩ := kR (P := P) (F := F) (base := base) (ops := ops) hx1 st.env st.S st.O
    rw [q1] at hx
    simp only [Option.map_eq_some_iff, Prod.mk.injEq] at hx
    obtain ⟨v', hv, rfl, rfl, rfl⟩ := hx
    obtain ⟨p, p1, _⟩ := kR (P := P) (F := F) (base := base) (ops := ops) hy1 st.env st.S st.O
    rw [p1] at hy
    simp only [Option.map_eq_some_iff, Prod.mk.injEq] at hy
    obtain ⟨u', hu, rfl, rfl, rfl⟩ := hy
    exact ⟨_, _, by rw [p1, hu]; rfl, by rw [q1, hv]; rfl⟩
  · obtain ⟨q, q1, q2⟩ := kR (P := P) (F := F) (base := base) (ops := ops) hx1 st.env st.S st.O
    rw [q1] at hx
    simp only [Option.map_eq_some_iff, Prod.mk.injEq] at hx
    obtain ⟨v', hv, rfl, rfl, rfl⟩ := hx
    rcases kI hy2 hy with hE | ⟨d, u', blk, hd, hS, he, hi⟩
    · exact caseE2 hE
    · simp only [Prod.mk.injEq] at he
      obtain ⟨rfl, rfl, rfl⟩ := he
      exact ⟨_, _, hy, by rw [q2 _ blk (hg.free hS x), hv]; rfl⟩
  · rcases kI hx2 hx with hE | ⟨d, v', blk, hd, hS, he, hi⟩
    · exact caseE1 hE
    · simp only [Prod.mk.injEq] at he
      obtain ⟨rfl, rfl, rfl⟩ := he
      obtain ⟨q, q1, q2⟩ := kR (P := P) (F := F) (base := base) (ops := ops) hy1 st.env st.S st.O
      rw [q2 _ blk (hg.free hS y)] at hy
      simp only [Option.map_eq_some_iff, Prod.mk.injEq] at hy
      obtain ⟨u', hu, rfl, rfl, rfl⟩ := hy
      exact ⟨_, _, by rw [q1, hu]; rfl, hx⟩
  · rcases kI hx2 hx with hE | ⟨d, v', blk, hd, hS, he, hi⟩
    · exact caseE1 hE
    rcases kI hy2 hy with hE | ⟨d', u', blk', hd', hS', he', hi'⟩
    · exact caseE2 hE
    simp only [Prod.mk.injEq] at he he'
    obtain ⟨rfl, rfl, rfl⟩ := he
    obtain ⟨rfl, rfl, rfl⟩ := he'
    have hne : base + d ≠ base + d' := fun e => (Oper.apart_spec hap).2.1 d hd (by rw [hd', Nat.add_left_cancel e])
    have h1 : st.S[base + d']? = some .dead := by rw [List.getElem?_set_ne hne] at hS'; exact hS'
    refine ⟨_, _, hi' _ _ h1, ?_⟩
    rw [hi _ _ (by rw [List.getElem?_set_ne (Ne.symm hne)]; exact hS), List.set_comm _ _ hne]

theorem pair_comm (hq : Calm F quiet) {x y : Oper} (hp : pairOK esc quiet ops x y = true) {st a b : St} (hg : Good base st) (hx : dRun P F esc quiet base ops x st = some a) (hy : dRun P F esc quiet base ops y a = some b) :
    ∃ c, dRun P F esc quiet base ops y st = some c ∧ dRun P F esc quiet base ops x c = some b := by
  unfold pairOK at hp
  simp only [Bool.and_eq_true, Bool.not_eq_true'] at hp
  obtain ⟨hw1, hw2, hap, hc⟩ := hp
  simp only [dRun, hw1, hw2, Bool.false_eq_true, if_false] at hx hy ⊢
  obtain ⟨h1, h2, h3⟩ := Oper.apart_spec hap
  unfold yRun at *
  simp only [Option.map_eq_some_iff] at hx hy ⊢
  obtain ⟨⟨v, S1, O1⟩, hx, rfl⟩ := hx
  obtain ⟨⟨z, S2, O2⟩, hy, rfl⟩ := hy
  have e1 : ∀ (env : List AV) (S O : List Blk) (d : Option Tmp) (v : AV), (St.mk env S O).put d v = ⟨putE env d v, S, O⟩ := fun env S O d v => by cases d <;> rfl
  rw [e1] at hy
  simp only at hy
  rw [yStep_put h1] at hy
  obtain ⟨S3, O3, g1, g2⟩ := pair_parts hq hap hc hg hx hy
  refine ⟨_, ⟨_, g1, rfl⟩, ⟨(v, S2, O2), ?_, ?_⟩⟩
  · rw [e1]; simp only; rw [yStep_put h3]; exact g2
  · simp only [e1]
    congr 1
    cases hdx : x.dst with
    | none => cases hdy : y.dst <;> rfl
    | some d =>
      cases hdy : y.dst with
      | none => rfl
      | some d' =>
        have hne : d ≠ d' := fun e => h2 d hdx (by rw [hdy, e])
        simp only [putE, List.set_comm _ _ hne]

/-! ### Every order -/
def AnyA (P : Program) (F : Tab) (esc : Nat → Bool) (quiet : FuncId → Bool) (base : Nat) (ops : Array Oper) (R : St → Prop) : Nat → Array Bool → St → Prop
  | 0, listed, st => Region.ready .any ops listed = [] ∧ R st
  | fuel + 1, listed, st =>
    (Region.ready .any ops listed = [] → R st) ∧
    ∀ i ∈ Region.ready .any ops listed, ∃ o st', ops[i]? = some o ∧ dRun P F esc quiet base ops o st = some st' ∧ AnyA P F esc quiet base ops R fuel (listed.setIfInBounds i true) st'

theorem AnyA.sound (hF : F.valid P) {R : St → Prop} {Q : Exit → Act → World → Prop} {w₀ : World} {G₀ : Ghost} {S₀ O₀ : List Blk} (hQ : ∀ st w G a, R st → Rel base w G st a → FEvol base w₀ G₀ S₀ O₀ w G st.S st.O → Q .normal a w) :
    ∀ (fuel : Nat) (listed : Array Bool) (st : St) (w : World) (G : Ghost) (a : Act), AnyA P F esc quiet base ops R fuel listed st → Rel base w G st a → FEvol base w₀ G₀ S₀ O₀ w G st.S st.O → wpAny P .any ops Q fuel listed a w
  | 0, listed, st, w, G, a, h, hr, hev => ⟨h.1, hQ st w G a h.2 hr hev⟩
  | fuel + 1, listed, st, w, G, a, h, hr, hev => by
    refine ⟨fun h0 => hQ st w G a (h.1 h0) hr hev, fun i hi => ?_⟩
    obtain ⟨o, st', ho, hy, hrest⟩ := h.2 i hi
    unfold wpOp
    simp only [ho]
    exact xStep_sound hF hr (dRun_x hy) (fun w' G' a' h1 h2 => AnyA.sound hF hQ fuel _ st' w' G' a' hrest h1 (hev.trans h2))

def closed (ops : Array Oper) (listed : Array Bool) : Prop := ∀ j o, ops[j]? = some o → listed.getD j false = true → ∀ e ∈ o.after, Region.binds .any e = true → listed.getD e.on false = true

theorem anc_listed {listed : Array Bool} (hc : closed ops listed) {i j : Nat} (h : Anc ops i j) (hj : ∀ o, ops[j]? = some o → ∀ e ∈ o.after, Region.binds .any e = true → listed.getD e.on false = true) : listed.getD i false = true := by
  induction h with
  | one j o e ho he hb => exact hj o ho e he hb
  | up i j o e ho he hb _ ih => exact ih fun o' ho' => hc e.on o' ho' (hj o ho e he hb)

theorem closed_set {listed : Array Bool} (hc : closed ops listed) {j : Nat} (hj : j ∈ Region.ready .any ops listed) : closed ops (listed.setIfInBounds j true) := by
  intro k o hk hl e he hb
  obtain ⟨_, oj, hoj, hall⟩ := mem_ready.1 hj
  by_cases hkj : j = k
  · subst hkj
    rw [hk] at hoj; injection hoj with hoj; subst hoj
    exact getD_set_true (hall e he hb)
  · rw [getD_set_ne false hkj] at hl
    exact getD_set_true (hc k o hk hl e he hb)

theorem AnyA.first (hF : F.valid P) (hq : Calm F quiet) {R : St → Prop} {i : Nat} {oi : Oper} (hi : ops[i]? = some oi) :
    ∀ (fuel : Nat) (listed : Array Bool) (st st1 : St), Good base st → closed ops listed →
      (∀ j oj, ops[j]? = some oj → j ≠ i → listed.getD j true = false → ¬ Anc ops i j → pairOK esc quiet ops oi oj = true) →
      i ∈ Region.ready .any ops listed → dRun P F esc quiet base ops oi st = some st1 → AnyA P F esc quiet base ops R fuel (listed.setIfInBounds i true) st1 → AnyA P F esc quiet base ops R (fuel + 1) listed st := by
  intro fuel
  induction fuel with
  | zero =>
    intro listed st st1 _ _ _ hr hy H
    refine ⟨fun h => (by rw [h] at hr; cases hr), fun j hj => ?_⟩
    by_cases hji : j = i
    · subst hji; exact ⟨oi, st1, hi, hy, H⟩
    · have := ready_mono hj hji
      rw [H.1] at this
      cases this
  | succ fuel ih =>
    intro listed st st1 hg hcl hfree hr hy H
    refine ⟨fun h => (by rw [h] at hr; cases hr), fun j hj => ?_⟩
    by_cases hji : j = i
    · subst hji; exact ⟨oi, st1, hi, hy, H⟩
    · obtain ⟨oj, b, hoj, hyj, H'⟩ := H.2 j (ready_mono hj hji)
      obtain ⟨hjun, oj', hoj', hall⟩ := mem_ready.1 hj
      rw [hoj] at hoj'; injection hoj' with hoj'; subst hoj'
      have hnot : ¬ Anc ops i j := fun ha => by
        have h1 := anc_listed hcl ha (fun o ho e he hb => by rw [hoj] at ho; injection ho with ho; subst ho; exact hall e he hb)
        have h0 := (mem_ready.1 hr).1
        rcases Nat.lt_or_ge i listed.size with h' | h'
        · simp [h'] at h0 h1; rw [h0] at h1; cases h1
        · simp [Array.getElem?_eq_none h'] at h1
      obtain ⟨c, hc1, hc2⟩ := pair_comm hq (hfree j oj hoj hji hjun hnot) hg hy hyj
      refine ⟨oj, c, hoj, hc1, ih (listed.setIfInBounds j true) c b (hg.step hF hc1) (closed_set hcl hj) (fun k ok hk hki hun hno => ?_) (ready_mono hr (Ne.symm hji)) hc2 ?_⟩
      · refine hfree k ok hk hki ?_ hno
        by_cases hjk : j = k
        · subst hjk; exact hjun
        · rw [getD_set_ne true hjk] at hun; exact hun
      · rw [Array.setIfInBounds_comm _ _ hji]; exact H'
end
end Go.Am
/-
  THE ABSTRACT MACHINE: the rule of a region whose order is drawn.
-/
namespace Go.Am
open Go

section
variable {base : Nat} {P : Program} {F : Tab} {ops : Array Oper} {esc : Nat → Bool} {quiet : FuncId → Bool}

theorem fold_mask {ms : List Nat} {k : Nat} : ∀ (l : List Edge) (s : Nat), (l.foldl (fun s e => s ||| 2 ^ e.on ||| ms.getD e.on 0) s).testBit k = true → s.testBit k = true ∨ ∃ e ∈ l, e.on = k ∨ (ms.getD e.on 0).testBit k = true
  | [], s, h => .inl h
  | e :: l, s, h => by
    rcases fold_mask l _ h with h1 | ⟨e', he', h1⟩
    · simp only [Nat.testBit_or, Nat.testBit_two_pow, Bool.or_eq_true, decide_eq_true_eq] at h1
      rcases h1 with (h1 | h1) | h1
      · exact .inl h1
      · exact .inr ⟨e, by simp, .inl h1⟩
      · exact .inr ⟨e, by simp, .inr h1⟩
    · exact .inr ⟨e', by simp [he'], h1⟩

def Masks (ops : Array Oper) (ms : List Nat) : Prop := ∀ (j m : Nat), ms[j]? = some m → ∀ k, m.testBit k = true → Anc ops k j

theorem mask_anc {ms : List Nat} (hm : Masks ops ms) {o : Oper} {j : Nat} (ho : ops[j]? = some o) {k : Nat} (h : (maskOf ms o).testBit k = true) : Anc ops k j := by
  rcases fold_mask _ _ h with h | ⟨e, he, h⟩
  · simp at h
  · simp only [List.mem_filter] at he
    have hmem : e ∈ o.after := by simpa using he.1
    rcases h with rfl | h
    · exact .one j o e ho hmem he.2
    · refine .up k j o e ho hmem he.2 ?_
      rw [List.getD_eq_getElem?_getD] at h
      cases hx : ms[e.on]? with
      | none => rw [hx] at h; simp at h
      | some m => rw [hx] at h; exact hm e.on m hx k h

theorem calmAt_spec {o : Oper} {m : Nat} : ∀ (xs : List Oper) (i : Nat), calmAt esc quiet ops o m i xs = true → ∀ (k : Nat) (x : Oper), xs[k]? = some x → m.testBit (i + k) = true ∨ pairOK esc quiet ops x o = true
  | [], i, _, k, x, hx => by simp at hx
  | y :: ys, i, h, k, x, hx => by
    simp only [calmAt, Bool.and_eq_true, Bool.or_eq_true] at h
    cases k with
    | zero => simp at hx; subst hx; simpa using h.1
    | succ k =>
      have := calmAt_spec ys (i + 1) h.2 k x (by simpa using hx)
      rw [show i + (k + 1) = i + 1 + k by omega]; exact this

structure CalmP (esc : Nat → Bool) (quiet : FuncId → Bool) (ops : Array Oper) : Prop where
  fwd : ∀ (j : Nat) (o : Oper), ops[j]? = some o → ∀ e ∈ o.after, Region.binds .any e = true → e.on < j
  pair : ∀ (i j : Nat) (x y : Oper), i < j → ops[i]? = some x → ops[j]? = some y → Anc ops i j ∨ pairOK esc quiet ops x y = true

theorem calmGo_spec : ∀ (os seen : List Oper) (ms : List Nat), ops.toList = seen ++ os → ms.length = seen.length → Masks ops ms → calmGo esc quiet ops seen os ms = true →
    (∀ (j : Nat) (o : Oper), seen.length ≤ j → ops[j]? = some o → ∀ e ∈ o.after, Region.binds .any e = true → e.on < j) ∧
    (∀ (i j : Nat) (x y : Oper), seen.length ≤ j → i < j → ops[i]? = some x → ops[j]? = some y → Anc ops i j ∨ pairOK esc quiet ops x y = true)
  | [], seen, ms, hl, _, _, _ => by
    have hn : ∀ j o, seen.length ≤ j → ops[j]? = some o → False := fun j o hj ho => by
      rw [← Array.getElem?_toList, hl] at ho
      simp only [List.append_nil] at ho
      have := (List.getElem?_eq_some_iff.1 ho).1
      omega
    exact ⟨fun j o hj ho => (hn j o hj ho).elim, fun i j x y hj _ _ hy => (hn j y hj hy).elim⟩
  | o :: os, seen, ms, hl, hlen, hm, h => by
    simp only [calmGo, Bool.and_eq_true, List.all_eq_true, Bool.or_eq_true, Bool.not_eq_true', decide_eq_true_eq] at h
    obtain ⟨⟨h1, h2⟩, h3⟩ := h
    have ho : ops[seen.length]? = some o := by rw [← Array.getElem?_toList, hl]; simp
    have hm' : Masks ops (ms ++ [maskOf ms o]) := fun j m hj k hk => by
      rw [List.getElem?_append] at hj
      split at hj
      · exact hm j m hj k hk
      · rename_i hge
        rw [List.getElem?_singleton] at hj
        split at hj
        · rename_i h0
          injection hj with hj; subst hj
          have : j = seen.length := by omega
          subst this
          exact mask_anc hm ho hk
        · cases hj
    obtain ⟨r1, r2⟩ := calmGo_spec os (seen ++ [o]) (ms ++ [maskOf ms o]) (by simp [hl]) (by simp [hlen]) hm' h3
    constructor
    · intro j o' hj ho' e he hb
      by_cases hjs : j = seen.length
      · subst hjs
        rw [ho] at ho'; injection ho' with ho'; subst ho'
        rcases h1 e (by simpa using he) with hb' | hlt
        · rw [hb] at hb'; cases hb'
        · exact hlt
      · exact r1 j o' (by simp; omega) ho' e he hb
    · intro i j x y hj hij hx hy
      by_cases hjs : j = seen.length
      · subst hjs
        rw [ho] at hy; injection hy with hy; subst hy
        have hxs : seen[i]? = some x := by
          rw [← Array.getElem?_toList, hl, List.getElem?_append_left hij] at hx; exact hx
        rcases calmAt_spec seen 0 h2 i x hxs with h | h
        · rw [Nat.zero_add] at h
          exact .inl (mask_anc hm ho h)
        · exact .inr h
      · exact r2 i j x y (by simp; omega) hij hx hy

theorem calm_spec (h : calm esc quiet ops = true) : CalmP esc quiet ops := by
  obtain ⟨h1, h2⟩ := calmGo_spec ops.toList [] [] rfl rfl (fun j m hj => by simp at hj) h
  exact ⟨fun j o => h1 j o (Nat.zero_le _), fun i j x y => h2 i j x y (Nat.zero_le _)⟩

def lst (n : Nat) : Nat → Array Bool
  | 0 => Array.replicate n false
  | k + 1 => (lst n k).setIfInBounds k true

theorem lst_size {n : Nat} : ∀ k, (lst n k).size = n
  | 0 => by simp [lst]
  | k + 1 => by simp [lst, lst_size k]

theorem lst_get {n : Nat} : ∀ (k i : Nat), i < n → (lst n k)[i]? = some (decide (i < k))
  | 0, i, h => by simp [lst, h]
  | k + 1, i, h => by
    simp only [lst, Array.getElem?_setIfInBounds]
    split
    · rename_i e
      subst e
      rw [if_pos (by rw [lst_size]; exact h)]; simp
    · rw [lst_get k i h]
      have : i < k ↔ i < k + 1 := by omega
      simp [this]

theorem lst_getD {n k i : Nat} {d : Bool} : (lst n k).getD i d = if i < n then decide (i < k) else d := by
  rw [Array.getD_eq_getD_getElem?]
  split
  · rw [lst_get k i (by assumption)]; rfl
  · rw [Array.getElem?_eq_none (by rw [lst_size]; omega)]; rfl

theorem any_run (hF : F.valid P) (hq : Calm F quiet) (hc : CalmP esc quiet ops) {R : St → Prop} {st' : St} (hR : R st') : ∀ (os : List Oper) (k : Nat) (st : St), ops.toList.drop k = os → Good base st → dOps P F esc quiet base ops os st = some st' →
    AnyA P F esc quiet base ops R os.length (lst ops.size k) st
  | [], k, st, hk, hg, h => by
    simp only [dOps, Option.some.injEq] at h; subst h
    have hle : ops.size ≤ k := by have := congrArg List.length hk; simp at this; omega
    refine ⟨?_, hR⟩
    apply List.eq_nil_iff_forall_not_mem.2
    intro j hj
    obtain ⟨h0, o, ho, _⟩ := mem_ready.1 hj
    have hlt := (Array.getElem?_eq_some_iff.1 ho).1
    rw [lst_getD, if_pos hlt] at h0
    simp at h0; omega
  | o :: os, k, st, hk, hg, h => by
    simp only [dOps, Option.bind_eq_some_iff] at h
    obtain ⟨st1, h1, h2⟩ := h
    have ho : ops[k]? = some o := by
      have : (ops.toList.drop k)[0]? = some o := by rw [hk]; rfl
      rw [List.getElem?_drop] at this
      simpa using this
    have hkn := (Array.getElem?_eq_some_iff.1 ho).1
    have hk' : ops.toList.drop (k + 1) = os := by rw [← List.drop_drop, hk]; rfl
    refine AnyA.first hF hq ho os.length (lst ops.size k) st st1 hg ?_ ?_ ?_ h1 (any_run hF hq hc hR os (k + 1) st1 hk' (hg.step hF h1) h2)
    · intro j oj hj hl e he hb
      have hjn := (Array.getElem?_eq_some_iff.1 hj).1
      rw [lst_getD, if_pos hjn] at hl
      have := hc.fwd j oj hj e he hb
      rw [lst_getD, if_pos (by omega)]
      simp at hl ⊢; omega
    · intro j oj hj hne hun hna
      have hjn := (Array.getElem?_eq_some_iff.1 hj).1
      rw [lst_getD, if_pos hjn] at hun
      simp at hun
      exact (hc.pair k j o oj (by omega) ho hj).resolve_left hna
    · rw [mem_ready]
      refine ⟨by rw [lst_getD, if_pos hkn]; simp, o, ho, fun e he hb => ?_⟩
      have := hc.fwd k o ho e he hb
      rw [lst_getD, if_pos (by omega)]; simpa using this

theorem Rel.drawnF {w : World} {G : Ghost} {st : St} {a : Act} (h : Rel base w G st a) (n : Nat) : Rel base { w with drawn := n } G st a ∧ FEvol base w G st.S st.O { w with drawn := n } G st.S st.O := by
  have hk : ∀ K, Keep w G st.S { w with drawn := n } G st.S K := fun K => ⟨fun _ _ _ => ⟨rfl, rfl⟩, Nat.le_refl _, fun _ _ _ h => h, fun _ _ _ _ _ _ h => ⟨h, fun _ h => ⟨h, rfl⟩⟩⟩
  refine ⟨⟨h.defers, h.size, h.env.keep (hk (fun _ => True)) (fun _ _ => trivial), ?_, h.len, h.scopeE, h.scopeS, h.scopeB, h.scopeO⟩, ⟨hk _, rfl, rfl, rfl, rfl, Nat.le_refl _, fun _ _ _ hh => hh⟩⟩
  refine ⟨h.inv.inj, h.inv.rng, h.inv.live, h.inv.orow, fun m e sz k cs b hm hb => (h.inv.row m e sz k cs b hm hb).keep (hk (fun _ => True)) trivial hm, fun id T cs hh => ?_⟩
  obtain ⟨b, vs, p1, p2, p3, p4⟩ := h.inv.box id T cs hh
  exact ⟨b, vs, p1, p2, p3, fun j x v hx hv => (p4 j x v hx hv).keep (hk (fun _ => True)) (fun _ _ => trivial) (fun b' h' => ⟨h', rfl⟩)⟩

/-- A region whose order is drawn, by its run in the order of the text. -/
theorem AWP.draw {Q : Exit → St → Prop} {st st' : St} {id : Nat} (hm : P.follows .mixedOrders = true) (hF : F.valid P) (hq : Calm F quiet) (hc : calm esc quiet ops = true) (h : dOps P F esc quiet base ops ops.toList st = some st') (hQ : Q .normal st') :
    AWP P base (.region id ops true) Q st := fun w G a hr => by
  obtain ⟨h1, h2⟩ := hr.drawnF (w.drawn + 1)
  refine wp_region_any hm ?_
  have := any_run hF hq (calm_spec hc) (R := fun s => s = st') rfl ops.toList 0 st rfl ⟨_, _, _, hr⟩ h
  rw [Array.length_toList] at this
  exact AnyA.sound hF (fun s w' G' a' hs hr' hev => by subst hs; exact ⟨s, G', hQ, hr', hev⟩) ops.size _ st _ G a this h1 h2

/-- Weaken: what lies at a place is given up. -/
theorem AWP.drop {Q : Exit → St → Prop} {st : St} {c : Code} {m : Nat} (hm : base ≤ m) (hlt : m < st.S.length) (h : AWP P base c Q (st.setAt base m .dead)) : AWP P base c Q st := fun w G a hr => by
  obtain ⟨h1, h2, _⟩ := hr.drop hm hlt
  rw [hr.setAt_eq m .dead] at h
  refine wp_mono (h w _ a h1) ?_
  rintro e a' w' ⟨s, G', q1, q2, q3⟩
  exact ⟨s, G', q1, q2, h2.trans q3⟩
end
end Go.Am
/-
  THE ABSTRACT MACHINE: laws by which an operation is worked out.
-/
namespace Go.Am
open Go

section
variable {P : Program} {T : TypeId} {x y : Operand} {k : FloatKind} {a b c d : Nat}
theorem evalPure_pure {α : Type} (v : α) : evalPure P (pure v : Sem α) = some v := rfl
theorem evalPure_stuck {α : Type} (m : String) : evalPure P (stuck m : Sem α) = none := rfl

theorem evalPure_bind' {α β : Type} (s : Sem α) (f : α → Sem β) : evalPure P (s >>= f) = (evalPure P s).bind fun x => evalPure P (f x) := by
  show evalPure P (s.bind f) = _
  induction s with
  | pure a => rfl
  | program k ih => simp only [evalPure, Sem.bind]; exact ih P
  | mark m k ih => simp only [evalPure, Sem.bind]; exact ih
  | _ => rfl

theorem bin_fl (op : BinOp) (k : FloatKind) (a b : Nat) : binAV P op T x y (.s (.fl k a)) (.s (.fl k b)) =
    match op with
    | .add => (k.format.add a b).map fun r => .s (.fl k r)
    | .sub => (k.format.sub a b).map fun r => .s (.fl k r)
    | .mul => (k.format.mul a b).map fun r => .s (.fl k r)
    | .quo => (k.format.div a b).map fun r => .s (.fl k r)
    | .eql => some (.s (.b (k.format.order a b == some .eq)))
    | .neq => some (.s (.b (k.format.order a b != some .eq)))
    | .lss => some (.s (.b (k.format.order a b == some .lt)))
    | .leq => some (.s (.b (k.format.order a b == some .lt || k.format.order a b == some .eq)))
    | .gtr => some (.s (.b (k.format.order a b == some .gt)))
    | .geq => some (.s (.b (k.format.order a b == some .gt || k.format.order a b == some .eq)))
    | _ => none := by
  have h1 : eqGuard op T x y (.float k a) (.float k b) = pure () := by cases op <;> rfl
  simp only [binAV, toV, Sc.val, scVal, h1, pure_bind, binOp, ne_eq, not_true_eq_false, if_false]
  cases op <;> simp only [Op.floatArith, Op.floatCmp, evalPure_bind', evalPure_pure, evalPure_stuck, Option.bind_some, Option.map_none, Option.map_some, Option.bind_none] <;> try rfl
  · cases k.format.add a b <;> rfl
  · cases k.format.sub a b <;> rfl
  · cases k.format.mul a b <;> rfl
  · cases k.format.div a b <;> rfl

theorem ar_add : evalPure P (Op.Complex.arith .add .f64 a b) = Ieee.double.add a b := by
  simp only [Op.Complex.arith, Op.floatArith, evalPure_bind', evalPure_pure, show FloatKind.format .f64 = Ieee.double from rfl]
  cases Ieee.double.add a b <;> rfl
theorem ar_sub : evalPure P (Op.Complex.arith .sub .f64 a b) = Ieee.double.sub a b := by
  simp only [Op.Complex.arith, Op.floatArith, evalPure_bind', evalPure_pure, show FloatKind.format .f64 = Ieee.double from rfl]
  cases Ieee.double.sub a b <;> rfl
theorem ar_mul : evalPure P (Op.Complex.arith .mul .f64 a b) = Ieee.double.mul a b := by
  simp only [Op.Complex.arith, Op.floatArith, evalPure_bind', evalPure_pure, show FloatKind.format .f64 = Ieee.double from rfl]
  cases Ieee.double.mul a b <;> rfl

/-- Two integers. -/
theorem bin_i (op : BinOp) (k k' : IntKind) (m n : Int) : binAV P op T x y (.s (.i k m)) (.s (.i k' n)) = if isShift op then (shiftBin op k m n).map .s else if k = k' then (intBin op k m n).map .s else none := rfl

/-- Two complex numbers. -/
theorem bin_cadd : binAV P .add T x y (.s (.cx .f64 a b)) (.s (.cx .f64 c d)) = (Ieee.double.add a c).bind fun r => (Ieee.double.add b d).bind fun i => some (.s (.cx .f64 r i)) := by
  have h1 : eqGuard .add T x y (.complex .f64 a b) (.complex .f64 c d) = pure () := rfl
  simp only [binAV, toV, Sc.val, scVal, h1, pure_bind, binOp, ne_eq, not_true_eq_false, if_false, Op.complexOp, evalPure_bind', ar_add, evalPure_pure]
  cases Ieee.double.add a c <;> cases Ieee.double.add b d <;> rfl
theorem bin_csub : binAV P .sub T x y (.s (.cx .f64 a b)) (.s (.cx .f64 c d)) = (Ieee.double.sub a c).bind fun r => (Ieee.double.sub b d).bind fun i => some (.s (.cx .f64 r i)) := by
  have h1 : eqGuard .sub T x y (.complex .f64 a b) (.complex .f64 c d) = pure () := rfl
  simp only [binAV, toV, Sc.val, scVal, h1, pure_bind, binOp, ne_eq, not_true_eq_false, if_false, Op.complexOp, evalPure_bind', ar_sub, evalPure_pure]
  cases Ieee.double.sub a c <;> cases Ieee.double.sub b d <;> rfl
theorem bin_cmul : binAV P .mul T x y (.s (.cx .f64 a b)) (.s (.cx .f64 c d)) =
    (Ieee.double.mul a c).bind fun ac => (Ieee.double.mul b d).bind fun bd => (Ieee.double.sub ac bd).bind fun r =>
      (Ieee.double.mul a d).bind fun ad => (Ieee.double.mul b c).bind fun bc => (Ieee.double.add ad bc).bind fun i => some (.s (.cx .f64 r i)) := by
  have h1 : eqGuard .mul T x y (.complex .f64 a b) (.complex .f64 c d) = pure () := rfl
  have h2 : ∀ z, Op.Complex.conv .f64 z .f64 = pure z := fun z => rfl
  simp only [binAV, toV, Sc.val, scVal, h1, pure_bind, binOp, ne_eq, not_true_eq_false, if_false, Op.complexOp, h2, Op.Complex.product, Op.Complex.mul, Op.Complex.sub, Op.Complex.add, evalPure_bind', ar_add, ar_sub, ar_mul, evalPure_pure, beq_self_eq_true, if_true]
  cases Ieee.double.mul a c with
  | none => rfl
  | some ac => cases Ieee.double.mul b d with
    | none => rfl
    | some bd =>
      simp only [Option.bind_some]
      cases Ieee.double.sub ac bd with
      | none => rfl
      | some r => cases Ieee.double.mul a d with
        | none => rfl
        | some ad => cases Ieee.double.mul b c with
          | none => rfl
          | some bc =>
            simp only [Option.bind_some]
            cases Ieee.double.add ad bc <;> rfl
theorem bin_ceql : binAV P .eql T x y (.s (.cx .f64 a b)) (.s (.cx .f64 c d)) = some (.s (.b (Ieee.double.order a c == some .eq && Ieee.double.order b d == some .eq))) := by
  have h1 : eqGuard .eql T x y (.complex .f64 a b) (.complex .f64 c d) = pure () := rfl
  have h2 : ∀ p q, evalPure P (Op.Complex.cmp .eql .f64 p q) = some (Ieee.double.order p q == some .eq) := fun p q => rfl
  simp only [binAV, toV, Sc.val, scVal, h1, pure_bind, binOp, ne_eq, not_true_eq_false, if_false, Op.complexOp, evalPure_bind', evalPure_pure, h2, Option.bind_some]
  cases Ieee.double.order a c == some .eq <;> rfl
end
end Go.Am
/-
  THE ABSTRACT MACHINE: a call that names no memory of ours may be worked out alone; the machine as a program.
-/
namespace Go.Am
open Go

mutual
/-- Names no box and no row. -/
def AV.still : AV → Bool
  | .u => true
  | .s _ => true
  | .l .. => true
  | .e _ => true
  | .f _ fs cs => AV.stillL fs && AV.stillL cs
  | .a cs => AV.stillL cs
  | .t cs => AV.stillL cs
  | _ => false
def AV.stillL : List AV → Bool
  | [] => true
  | x :: xs => AV.still x && AV.stillL xs
end

section
variable {base : Nat} {w w' : World} {G G' : Ghost} {S S' O O' : List Blk} {P : Program}

theorem still_of_data {cs : List AV} (h : ∀ x ∈ cs, x.data = true) : AV.stillL cs = true := by
  induction cs with
  | nil => rfl
  | cons x cs ih =>
    have h1 := h x (by simp)
    simp only [AV.stillL, ih fun y hy => h y (by simp [hy]), Bool.and_true]
    cases x <;> simp_all [AV.data, AV.still]

mutual
theorem CR.still (hg : ∀ b, G b = none → G' b = none) {x : AV} {v : Value} (hx : x.still = true) (h : CR w G S x v) : CR w G' S' x v :=
  match x, v, h, hx with
  | _, _, .u v, _ => .u v
  | _, _, .s x, _ => .s x
  | _, _, .l n cs A c vs h hc hm hd hs hn, _ =>
    .l n cs A c vs (CRs.still hg (still_of_data hd) h) hc hm hd (fun h0 => let ⟨a, ha, h1, h2, h3, h4⟩ := hs h0; ⟨a, ha, h1, hg _ h2, h3, h4⟩) hn
  | _, _, .e cs a vs h hd hs, _ => .e cs a vs (CRs.still hg (still_of_data hd) h) hd (let ⟨h1, h2, h3, h4⟩ := hs; ⟨h1, hg _ h2, h3, h4⟩)
  | _, _, .p id off b h, hx => by cases hx
  | _, _, .r m e sz n cs vs v hS hh h hd, hx => by cases hx
  | _, _, .f fn fs cs vf vc h1 h2, hx => .f fn fs cs vf vc (CRs.still hg (by simp only [AV.still, Bool.and_eq_true] at hx; exact hx.1) h1) (CRs.still hg (by simp only [AV.still, Bool.and_eq_true] at hx; exact hx.2) h2)
  | _, _, .a cs vs h, hx => .a cs vs (CRs.still hg (by simpa only [AV.still] using hx) h)
  | _, _, .t cs vs h, hx => .t cs vs (CRs.still hg (by simpa only [AV.still] using hx) h)
theorem CRs.still (hg : ∀ b, G b = none → G' b = none) {xs : List AV} {vs : List Value} (hx : AV.stillL xs = true) (h : CRs w G S xs vs) : CRs w G' S' xs vs :=
  match xs, vs, h, hx with
  | _, _, .nil, _ => .nil
  | _, _, .cons x v xs vs h1 h2, hx => .cons x v xs vs (CR.still hg (by simp only [AV.stillL, Bool.and_eq_true] at hx; exact hx.1) h1) (CRs.still hg (by simp only [AV.stillL, Bool.and_eq_true] at hx; exact hx.2) h2)
end

def others (G : Ghost) : Ghost := fun b => match G b with
  | some _ => some (.ext b)
  | none => none

theorem others_idle (G : Ghost) (b : Nat) : idle (others G b) = true := by unfold others; split <;> rfl
theorem others_none {b : Nat} : others G b = none ↔ G b = none := by unfold others; cases G b <;> simp

/-- What holds of a call alone holds of it in every state. -/
theorem ValidAt.lift {f : FuncId} {args : List AV} {r : AV} (h : ValidAt P f args [] [] r [] []) (ha : AV.stillL args = true) (hr : r.still = true) (S O : List Blk) : ValidAt P f args S O r S O := by
  intro w G vargs hI hs hc
  have h1 : InvH w (others G) [] [] := by
    refine ⟨fun b b' o hb hb' => ?_, fun b o hb => ?_, fun b o hb => ?_, fun _ _ _ _ _ h => by simp at h, fun _ _ _ _ _ _ h => by simp at h, fun id T cs h => by cases id <;> simp [getB] at h⟩
    · unfold others at hb hb'
      split at hb
      · split at hb'
        · injection hb with hb; injection hb' with hb'; rw [← hb] at hb'; injection hb' with hb'; exact hb'.symm
        · cases hb'
      · cases hb
    · unfold others at hb
      split at hb
      · rename_i hg; exact hI.rng b _ hg
      · cases hb
    · unfold others at hb
      split at hb
      · injection hb with hb; subst hb; trivial
      · cases hb
  refine (h w (others G) vargs h1 ⟨fun _ _ _ h => by simp at h, fun _ _ _ h => by simp at h⟩ (hc.still (fun b hb => others_none.2 hb) ha)).mono ?_
  rintro e w' ⟨v, G2, rfl, hI2, _, hcr, hev⟩
  have hold : ∀ b, b < w.heap.size → w'.heap[b]? = w.heap[b]? ∧ G2 b = others G b := fun b hb => hev.keep.free b hb (others_idle G b)
  let Gf : Ghost := fun b => if b < w.heap.size then G b else none
  have hGf : ∀ b o, G b = some o → Gf b = some o := fun b o hb => by simp only [Gf]; rw [if_pos (hI.rng b o hb)]; exact hb
  have hGf' : ∀ b o, Gf b = some o → G b = some o := fun b o hb => by
    simp only [Gf] at hb
    split at hb
    · exact hb
    · cases hb
  have hk : Keep w G S w' Gf S (fun _ => True) :=
    ⟨fun b hb _ => ⟨(hold b hb).1, by simp only [Gf]; rw [if_pos hb]⟩, hev.keep.size, fun o _ b hb => hGf b o hb, fun m _ e sz n cs hh => ⟨hh, fun b hb => ⟨hGf b _ hb, (hold b (hI.rng b _ hb)).1⟩⟩⟩
  refine ⟨v, Gf, rfl, ⟨fun b b' o hb hb' => hI.inj b b' o (hGf' _ _ hb) (hGf' _ _ hb'), fun b o hb => Nat.lt_of_lt_of_le (hI.rng b o (hGf' _ _ hb)) hk.size, fun b o hb => hI.live b o (hGf' _ _ hb), hI.orow,
    fun m e sz n cs b hh hb => (hI.row m e sz n cs b hh (hGf' _ _ hb)).keep hk trivial hh, fun id T cs hh => ?_⟩, hs, hcr.still (fun b hb => ?_) hr, ⟨hk.imp fun _ _ => trivial, hev.os, hev.tape, hev.output, rfl, Nat.le_refl _, fun _ _ _ hh => hh⟩⟩
  · obtain ⟨b, vs, p1, p2, p3, p4⟩ := hI.box id T cs hh
    exact ⟨b, vs, hGf b _ p1, by rw [(hold b (hI.rng b _ p1)).1]; exact p2, p3, fun j x v hx hv => (p4 j x v hx hv).keep hk (fun _ _ => trivial) (fun b' h' => ⟨hGf b' _ h', (hold b' (hI.rng b' _ h')).1⟩)⟩
  · simp only [Gf]
    split
    · rename_i hlt
      rw [(hold b hlt).2] at hb
      exact others_none.1 hb
    · rfl
end

/-! ### The machine as a program -/
def dropL (base : Nat) (quiet : FuncId → Bool) : List Oper → St → St
  | [], st => st
  | o :: os, st => dropL base quiet os (match o.dst with
    | some d => if cls quiet o = 2 ∧ d < st.env.length then st.setAt base (base + d) .dead else st
    | none => st)

def xCode (P : Program) (F : Tab) (esc : Nat → Bool) (quiet : FuncId → Bool) (base : Nat) : Nat → Code → St → Option (Exit × St)
  | 0, _, _ => none
  | n + 1, c, st =>
    match c with
    | .skip => some (.normal, st)
    | .exit id => some (.exit id, st)
    | .ret => some (.ret, st)
    | .region _ ops drawn =>
      if drawn then (if calm esc quiet ops then (dOps P F esc quiet base ops ops.toList (dropL base quiet ops.toList st)).map (Exit.normal, ·) else none)
      else (xOps P F esc base ops ops.toList st).map (Exit.normal, ·)
    | .seq x y => match xCode P F esc quiet base n x st with | some (.normal, s) => xCode P F esc quiet base n y s | r => r
    | .cond c x y => match rd st.env c with | .s (.b t) => xCode P F esc quiet base n (if t then x else y) st | _ => none
    | .block id c => match xCode P F esc quiet base n c st with | some (.exit id', s) => if id' = id then some (.normal, s) else some (.exit id', s) | r => r
    | .loop c => match xCode P F esc quiet base n c st with | some (.normal, s) => xCode P F esc quiet base n (.loop c) s | r => r
    | .scope c => match xCode P F esc quiet base n c st with | some (.goto _, _) => none | r => r
    | _ => none

section
variable {base : Nat} {P : Program} {F : Tab} {esc : Nat → Bool} {quiet : FuncId → Bool}

theorem AWP.dropL {Q : Exit → St → Prop} {c : Code} : ∀ (os : List Oper) {st : St}, st.S.length = base + st.env.length → AWP P base c Q (dropL base quiet os st) → AWP P base c Q st
  | [], _, _, h => h
  | o :: os, st, hl, h => by
    simp only [Am.dropL] at h
    cases hd : o.dst with
    | none => rw [hd] at h; exact AWP.dropL os hl h
    | some d =>
      rw [hd] at h
      simp only at h
      split at h
      · rename_i hc
        have hlt : base + d < st.S.length := by rw [hl]; exact Nat.add_lt_add_left hc.2 _
        refine AWP.drop (Nat.le_add_right _ _) hlt (AWP.dropL os ?_ h)
        unfold St.setAt
        split
        · simpa using hl
        · rw [giveTo_len]; simp [St.giveTo, length_subL, hl]
      · exact AWP.dropL os hl h

theorem AWP.len {Q : Exit → St → Prop} {c : Code} {st : St} (h : st.S.length = base + st.env.length → AWP P base c Q st) : AWP P base c Q st := fun w G a hr => h hr.len w G a hr

theorem xCode_sound (hm : P.follows .mixedOrders = true) (hF : F.valid P) (hq : Calm F quiet) {Q : Exit → St → Prop} {e : Exit} {st' : St} : ∀ (n : Nat) (c : Code) (st : St), xCode P F esc quiet base n c st = some (e, st') → Q e st' → AWP P base c Q st := by
  intro n
  induction n using Nat.strongRecOn generalizing Q e st' with
  | _ n ih =>
    intro c st h hQ
    cases n with
    | zero => simp [xCode] at h
    | succ n =>
      cases c with
      | skip => simp only [xCode, Option.some.injEq, Prod.mk.injEq] at h; obtain ⟨rfl, rfl⟩ := h; exact AWP.skip hQ
      | exit id => simp only [xCode, Option.some.injEq, Prod.mk.injEq] at h; obtain ⟨rfl, rfl⟩ := h; exact AWP.exit_ hQ
      | ret => simp only [xCode, Option.some.injEq, Prod.mk.injEq] at h; obtain ⟨rfl, rfl⟩ := h; exact AWP.ret hQ
      | region id ops drawn =>
        simp only [xCode] at h
        cases drawn with
        | false =>
          simp only [Bool.false_eq_true, if_false, Option.map_eq_some_iff, Prod.mk.injEq] at h
          obtain ⟨s, hs, rfl, rfl⟩ := h
          exact AWP.region hF esc hs hQ
        | true =>
          simp only [if_true] at h
          split at h
          · rename_i hc
            simp only [Option.map_eq_some_iff, Prod.mk.injEq] at h
            obtain ⟨s, hs, rfl, rfl⟩ := h
            exact AWP.len fun hl => AWP.dropL ops.toList hl (AWP.draw hm hF hq hc hs hQ)
          · cases h
      | seq x y =>
        simp only [xCode] at h
        refine AWP.seq ?_
        split at h
        · rename_i s hs
          exact ih n (by omega) (Q := thenA (AWP P base y Q) Q) x st hs (ih n (by omega) y s h hQ)
        · rename_i r hr
          refine ih n (by omega) (Q := thenA (AWP P base y Q) Q) x st h ?_
          cases e <;> first | exact hQ | (exact absurd h (fun hh => hr _ hh))
      | cond c x y =>
        simp only [xCode] at h
        split at h
        · rename_i t ht; exact AWP.cond ht (ih n (by omega) _ st h hQ)
        · cases h
      | block id c =>
        simp only [xCode] at h
        refine AWP.block ?_
        split at h
        · rename_i id' s hs
          refine ih n (by omega) (Q := inBlockA id Q) c st hs ?_
          simp only [inBlockA]
          split at h <;> (simp only [Option.some.injEq, Prod.mk.injEq] at h; obtain ⟨rfl, rfl⟩ := h)
          · rename_i hi; rw [if_pos hi]; exact hQ
          · rename_i hi; rw [if_neg hi]; exact hQ
        · rename_i r hr
          refine ih n (by omega) (Q := inBlockA id Q) c st h ?_
          cases e <;> first | exact hQ | (exact absurd h (fun hh => hr _ _ hh))
      | loop c =>
        refine AWP.loop (fun k s => k ≤ n + 1 ∧ xCode P F esc quiet base k (.loop c) s = some (e, st')) (n + 1) ⟨Nat.le_refl _, h⟩ ?_
        rintro k s ⟨hk, hs⟩
        cases k with
        | zero => simp [xCode] at hs
        | succ k =>
          simp only [xCode] at hs
          split at hs
          · rename_i s1 hs1
            exact ih k (by omega) (Q := thenA _ Q) c s hs1 ⟨k, by omega, by omega, hs⟩
          · rename_i r hr
            refine ih k (by omega) (Q := thenA _ Q) c s hs ?_
            cases e <;> first | exact hQ | (exact absurd hs (fun hh => hr _ hh))
      | scope c =>
        simp only [xCode] at h
        split at h
        · cases h
        · rename_i r hr
          refine fun w G a hrel => wp_scope_straight (wp_mono (ih n (by omega) (Q := fun e' s' => e' = e ∧ s' = st') c st h ⟨rfl, rfl⟩ w G a hrel) ?_)
          rintro e' a' w' ⟨s, G', ⟨rfl, rfl⟩, q1, q2⟩
          cases e' <;> first | exact ⟨_, G', hQ, q1, q2⟩ | (exact absurd h (fun hh => hr _ _ hh))
      | _ => simp [xCode] at h
end
end Go.Am
/-
  THE ABSTRACT MACHINE AS A PROGRAM: the table of what functions come to.
-/
namespace Go.Am
open Go

/-- A function's body worked out. -/
def xBody (P : Program) (F : Tab) (esc : FuncId → Nat → Bool) (quiet : FuncId → Bool) (k : Nat) (f : FuncId) (args : List AV) (S O : List Blk) : Option (AV × List Blk × List Blk) :=
  match P.funcs[f]? with
  | some fn =>
    match fn.body with
    | some c =>
      if args.length ≤ fn.ntmps then
        match xCode P F (esc f) quiet S.length k c (frame0 args S O fn.ntmps) with
        | some (.normal, st) => finAV P S.length fn st
        | some (.ret, st) => finAV P S.length fn st
        | _ => none
      else none
    | none => none
  | none => none

def aloneOf : Option (AV × List Blk × List Blk) → Option AV
  | some (r, [], []) => if r.still then some r else none
  | _ => none

/-- What functions come to: what we know of them, else what the machine works out; a quiet one alone. -/
def xTab (P : Program) (V : FuncId → List AV → Option AV) (esc : FuncId → Nat → Bool) (quiet : FuncId → Bool) (k : Nat) : Nat → Tab
  | 0 => fun f args S O => (V f args).map (·, S, O)
  | n + 1 => fun f args S O =>
    match V f args with
    | some r => some (r, S, O)
    | none =>
      if quiet f then (if AV.stillL args then (aloneOf (xBody P (xTab P V esc quiet k n) esc quiet k f args [] [])).map (·, S, O) else none)
      else xBody P (xTab P V esc quiet k n) esc quiet k f args S O

section
variable {P : Program} {F : Tab} {V : FuncId → List AV → Option AV} {esc : FuncId → Nat → Bool} {quiet : FuncId → Bool} {k : Nat}

theorem aloneOf_some {q : Option (AV × List Blk × List Blk)} {r : AV} (h : aloneOf q = some r) : q = some (r, [], []) ∧ r.still = true := by
  unfold aloneOf at h
  split at h
  · split at h
    · injection h with h; subst h; exact ⟨rfl, by assumption⟩
    · cases h
  · cases h

theorem xBody_valid (hm : P.follows .mixedOrders = true) (hF : F.valid P) (hq : Calm F quiet) {f : FuncId} {args : List AV} {S O : List Blk} {r : AV} {S' O' : List Blk} (h : xBody P F esc quiet k f args S O = some (r, S', O')) : ValidAt P f args S O r S' O' := by
  unfold xBody at h
  split at h
  rotate_left
  · cases h
  rename_i fn hf
  split at h
  rotate_left
  · cases h
  rename_i c hc
  split at h
  rotate_left
  · cases h
  rename_i hn
  split at h
  · rename_i st hx
    exact valid_of_awp hf hc hn (xCode_sound hm hF hq k c _ hx ⟨.inl rfl, h⟩)
  · rename_i st hx
    exact valid_of_awp hf hc hn (xCode_sound hm hF hq k c _ hx ⟨.inr rfl, h⟩)
  · cases h

/-- What we know is so. -/
def Known (P : Program) (V : FuncId → List AV → Option AV) : Prop := ∀ f args r, V f args = some r → ∀ S O, ValidAt P f args S O r S O

theorem xTab_calm : ∀ n, Calm (xTab P V esc quiet k n) quiet
  | 0 => fun f hf xs S O r h => by
    simp only [xTab, Option.map_eq_some_iff] at h ⊢
    obtain ⟨v, hv, rfl⟩ := h
    exact ⟨v, rfl, fun _ _ => ⟨v, hv, rfl⟩⟩
  | n + 1 => fun f hf xs S O r h => by
    simp only [xTab] at h ⊢
    cases hv : V f xs with
    | some v => rw [hv] at h; injection h with h; exact ⟨v, h.symm, fun _ _ => rfl⟩
    | none =>
      rw [hv] at h
      simp only [hf, if_true] at h ⊢
      split at h
      · rename_i hs
        simp only [Option.map_eq_some_iff] at h
        obtain ⟨v, hv, rfl⟩ := h
        exact ⟨v, rfl, fun _ _ => by rw [if_pos hs, hv]; rfl⟩
      · cases h

theorem xTab_valid (hm : P.follows .mixedOrders = true) (hV : Known P V) : ∀ n, (xTab P V esc quiet k n).valid P
  | 0 => fun f args S O r S' O' h => by
    simp only [xTab, Option.map_eq_some_iff, Prod.mk.injEq] at h
    obtain ⟨v, hv, rfl, rfl, rfl⟩ := h
    exact hV f args v hv S O
  | n + 1 => fun f args S O r S' O' h => by
    simp only [xTab] at h
    cases hv : V f args with
    | some v =>
      rw [hv] at h
      simp only [Option.some.injEq, Prod.mk.injEq] at h
      obtain ⟨rfl, rfl, rfl⟩ := h
      exact hV f args v hv S O
    | none =>
      rw [hv] at h
      simp only at h
      split at h
      · split at h
        · rename_i hs
          simp only [Option.map_eq_some_iff, Prod.mk.injEq] at h
          obtain ⟨v, hv, rfl, rfl, rfl⟩ := h
          obtain ⟨h1, h2⟩ := aloneOf_some hv
          exact (xBody_valid hm (xTab_valid hm hV n) (xTab_calm n) h1).lift hs h2 S O
        · cases h
      · exact xBody_valid hm (xTab_valid hm hV n) (xTab_calm n) h
end
end Go.Am
/-
  THE ABSTRACT MACHINE: what is handed to a law, as the machine's values.
-/
namespace Go.Am
open Go Go.ChangeShapes Go.WideShapes Go.ChangeAt Go.RowKit

/-- These fields lie one behind the other and fill so many cells. -/
def tile (P : Program) : List Field → Nat → Nat → Bool
  | [], off, n => off == n
  | f :: fs, off, n => f.offset == off && tile P fs (off + P.cellsOf f.type) n

/-- Types of plain data: bools, integers, strings, slices, arrays and structs of such. -/
def okT (P : Program) : Nat → TypeId → Bool
  | 0, _ => false
  | k + 1, t =>
    match P.underlying t with
    | some .bool => true
    | some (.int _) => true
    | some .string => true
    | some (.slice e) => okT P k e && decide (0 < P.cellsOf e)
    | some (.array n e) => okT P k e && P.cellsOf t == n * P.cellsOf e
    | some (.struct fs) => fs.toList.all (fun f => okT P k f.type) && tile P fs.toList 0 (P.cellsOf t)
    | _ => false

/-- These cells are of that type. -/
def Sh (P : Program) : Nat → TypeId → List AV → Prop
  | 0, _, _ => False
  | k + 1, t, xs =>
    match P.underlying t with
    | some .bool => ∃ b, xs = [.s (.b b)]
    | some (.int i) => ∃ n, xs = [.s (.i i n)] ∧ (Lit.int i n).wf = true
    | some .string => ∃ s : ByteArray, xs = [.s (.str s)] ∧ s.size ≤ maxLen
    | some (.slice e) => xs = [.s .sn] ∨ ∃ els : List (List AV), xs = [.l els.length els.flatten] ∧ els.length ≤ maxLen ∧ ∀ l ∈ els, Sh P k e l
    | some (.array n e) => ∃ els : List (List AV), xs = els.flatten ∧ els.length = n ∧ ∀ l ∈ els, Sh P k e l
    | some (.struct fs) => ∃ els : List (List AV), xs = els.flatten ∧ els.length = fs.size ∧ ∀ (i : Nat) (f : Field) (l : List AV), fs[i]? = some f → els[i]? = some l → Sh P k f.type l
    | _ => False

def noG : Ghost := fun _ => none

section
variable {P : Program} {w w' : World} {H : Type} {enc : TypeId × Value → H} {base : Nat} {spare : Nat → Bool} {held : Bool}

def DataL (w : World) (P : Program) (k : Nat) (t : TypeId) (cs : List Value) : Prop := ∃ xs, CRs w noG [] xs cs ∧ Sh P k t xs ∧ (∀ x ∈ xs, x.data = true)

theorem pieces {α β : Type} {R : α → β → Prop} : ∀ (l : List α), (∀ x ∈ l, ∃ y, R x y) → ∃ ys : List β, ys.length = l.length ∧ ∀ (i : Nat) (x : α) (y : β), l[i]? = some x → ys[i]? = some y → R x y
  | [], _ => ⟨[], rfl, fun i x y h => by simp at h⟩
  | x :: l, h => by
    obtain ⟨y, hy⟩ := h x (by simp)
    obtain ⟨ys, h1, h2⟩ := pieces l fun z hz => h z (by simp [hz])
    refine ⟨y :: ys, by simp [h1], fun i a b ha hb => ?_⟩
    cases i with
    | zero => simp at ha hb; subst ha hb; exact hy
    | succ i => exact h2 i a b (by simpa using ha) (by simpa using hb)

theorem CRs.flatten {G : Ghost} {S : List Blk} : ∀ {els : List (List AV)} {vss : List (List Value)}, els.length = vss.length → (∀ (i : Nat) (x : List AV) (v : List Value), els[i]? = some x → vss[i]? = some v → CRs w G S x v) → CRs w G S els.flatten vss.flatten
  | [], [], _, _ => .nil
  | x :: els, v :: vss, hl, h => by
    simp only [List.flatten_cons]
    exact (h 0 x v rfl rfl).append (CRs.flatten (by simpa using hl) fun i a b ha hb => h (i + 1) a b (by simpa using ha) (by simpa using hb))

theorem chunks {α : Type} (sz : Nat) : ∀ (n : Nat) (cs : List α), cs.length = n * sz → ((List.range n).map fun i => (cs.drop (i * sz)).take sz).flatten = cs
  | 0, cs, h => by simp at h; subst h; rfl
  | n + 1, cs, h => by
    rw [List.range_succ_eq_map, List.map_cons, List.map_map, List.flatten_cons]
    have h1 := chunks sz n (cs.drop sz) (by rw [List.length_drop, h, Nat.succ_mul]; omega)
    have h2 : ((List.range n).map ((fun i => (cs.drop (i * sz)).take sz) ∘ Nat.succ)) = (List.range n).map fun i => ((cs.drop sz).drop (i * sz)).take sz := by
      apply List.map_congr_left
      intro i _
      simp only [Function.comp, List.drop_drop]
      congr 2
      rw [Nat.succ_mul]; omega
    rw [h2, h1]
    simp

theorem tiles {α : Type} : ∀ (fs : List Field) (off n : Nat) (cs : List α), tile P fs off n = true → cs.length = n → off ≤ n → (fs.map fun f => (cs.drop f.offset).take (P.cellsOf f.type)).flatten = cs.drop off
  | [], off, n, cs, h, hl, _ => by
    simp only [tile, beq_iff_eq] at h
    subst h
    simp [← hl]
  | f :: fs, off, n, cs, h, hl, hle => by
    simp only [tile, Bool.and_eq_true, beq_iff_eq] at h
    obtain ⟨h1, h2⟩ := h
    rw [List.map_cons, List.flatten_cons, h1]
    by_cases hb : off + P.cellsOf f.type ≤ n
    · rw [tiles fs _ n cs h2 hl hb, ← List.drop_drop]
      exact List.take_append_drop _ _
    · exfalso
      have key : ∀ (fs : List Field) (o : Nat), tile P fs o n = true → o ≤ n := by
        intro fs
        induction fs with
        | nil => intro o ho; simp only [tile, beq_iff_eq] at ho; omega
        | cons g gs ih => intro o ho; simp only [tile, Bool.and_eq_true, beq_iff_eq] at ho; have := ih _ ho.2; omega
      exact hb (key fs _ h2)

theorem mapM_some {α β : Type} {f : α → Option β} {l : List α} {r : List β} (h : l.mapM f = some r) : r.length = l.length ∧ ∀ (i : Nat) (x : α), l[i]? = some x → ∃ y, r[i]? = some y ∧ f x = some y := by
  induction l generalizing r with
  | nil => simp at h; subst h; exact ⟨rfl, fun i x hx => by simp at hx⟩
  | cons a l ih =>
    rw [List.mapM_cons] at h
    cases ha : f a with
    | none => rw [ha] at h; simp at h
    | some y =>
      cases hl : l.mapM f with
      | none => rw [ha, hl] at h; simp at h
      | some ys =>
        rw [ha, hl] at h
        simp at h
        subst h
        obtain ⟨h1, h2⟩ := ih hl
        refine ⟨by simp [h1], fun i x hx => ?_⟩
        cases i with
        | zero => simp at hx; subst hx; exact ⟨y, rfl, ha⟩
        | succ i => simpa using h2 i x (by simpa using hx)
end
end Go.Am
/-
  THE ABSTRACT MACHINE: whatever reads as plain data is such a value of the machine.
-/
namespace Go.Am
open Go Go.ChangeShapes Go.WideShapes Go.ChangeAt Go.RowKit

section
variable {P : Program} {w w' : World} {H : Type} {enc : TypeId × Value → H} {base : Nat} {spare : Nat → Bool} {held : Bool}

theorem cells?_spec {b : Nat} {a : Addr} {n : Nat} {cs : List Value} (h : w.cells? b a n = some cs) : cs.length = n ∧ ∀ j, j < n → ∃ y, cs[j]? = some y ∧ w.cell? (a.add j) = some y := by
  unfold World.cells? at h
  split at h
  · obtain ⟨h1, h2⟩ := mapM_some h
    refine ⟨by simpa using h1, fun j hj => ?_⟩
    exact h2 j j (by simp [hj])
  · cases h

theorem slice_vals {b : Nat} {a : Addr} {sz len : Nat} (hsz : 0 < sz) (hlen : 0 < len) {css : Nat → List Value} (h : ∀ i, i < len → w.cells? b (a.add (i * sz)) sz = some (css i)) :
    ∃ vs : List Value, vs.length = len * sz ∧ Stable w noG a vs ∧ ∀ i, i < len → (vs.drop (i * sz)).take sz = css i := by
  have h0 := (cells?_spec (h 0 hlen)).2 0 hsz
  obtain ⟨y0, _, hy0⟩ := h0
  have hsp0 := World.cell?_spot hy0
  have hsp : a.spot = none := by
    have : ((a.add (0 * sz)).add 0).spot = none := hsp0
    unfold Addr.add at this
    split at this
    · rename_i h1; simp at h1
      cases hs : a.spot with
      | none => rfl
      | some s => simp_all
    · split at this <;> simp_all
  have hcell : ∀ i r, i < len → r < sz → ∃ y, (css i)[r]? = some y ∧ w.cell? (a.add (i * sz + r)) = some y := by
    intro i r hi hr
    obtain ⟨y, h1, h2⟩ := (cells?_spec (h i hi)).2 r hr
    refine ⟨y, h1, ?_⟩
    rw [add_eq (add_spot hsp _), add_eq hsp] at h2
    rw [add_eq hsp]
    simpa [Nat.add_assoc] using h2
  refine ⟨(List.range (len * sz)).map fun j => (w.cell? (a.add j)).getD undef, by simp, ⟨?_, rfl, hsp, fun j y hy => ?_⟩, fun i hi => ?_⟩
  · have hb : (a.add (0 * sz)).add 0 = a.add 0 := by rw [add_eq (add_spot hsp _), add_eq hsp, add_eq hsp]; simp
    rw [hb, add_eq hsp] at hy0
    unfold World.cell? at hy0
    split at hy0
    · rename_i hh; exact (Array.getElem?_eq_some_iff.1 hh).1
    · cases hy0
  · rw [List.getElem?_map] at hy
    simp only [Option.map_eq_some_iff] at hy
    obtain ⟨j', hj', rfl⟩ := hy
    have hlt : j < len * sz := by
      have := (List.getElem?_eq_some_iff.1 hj').1
      simpa using this
    · rw [List.getElem?_range hlt] at hj'
      injection hj' with hj'; subst hj'
      obtain ⟨y, _, h2⟩ := hcell (j / sz) (j % sz) (Nat.div_lt_of_lt_mul (by rw [Nat.mul_comm]; exact hlt)) (Nat.mod_lt _ hsz)
      rw [show j / sz * sz + j % sz = j from Nat.div_add_mod' j sz] at h2
      rw [h2]; rfl
  · apply List.ext_getElem?
    intro r
    by_cases hr : r < sz
    · rw [List.getElem?_take, if_pos hr, List.getElem?_drop, List.getElem?_map]
      have hlt : i * sz + r < len * sz := by
        have : (i + 1) * sz ≤ len * sz := Nat.mul_le_mul_right _ hi
        rw [Nat.succ_mul] at this; omega
      rw [List.getElem?_range hlt]
      obtain ⟨y, h1, h2⟩ := hcell i r hi hr
      simp [h1, h2]
    · rw [List.getElem?_take, if_neg hr, List.getElem?_eq_none]
      rw [(cells?_spec (h i hi)).1]; omega

theorem open_sh : ∀ (k fuel : Nat) (t : TypeId) (cs : List Value) (x : DataW H × List MemPlace), okT P k t = true → DataW.trod enc P w base spare held fuel t cs = some x → DataL w P k t cs := by
  intro k
  induction k with
  | zero => intro fuel t cs x hk; simp [okT] at hk
  | succ k ih =>
    intro fuel t cs x hk h
    cases fuel with
    | zero => simp [DataW.trod] at h
    | succ fuel =>
      simp only [okT] at hk
      unfold DataL
      simp only [Sh]
      cases hu : P.underlying t with
      | none => rw [hu] at hk; cases hk
      | some d =>
        rw [hu] at hk
        cases d with
        | bool =>
          rcases cs with _ | ⟨v, _ | ⟨v2, cs⟩⟩
          · simp [DataW.trod, hu] at h
          · cases v <;> simp [DataW.trod, hu] at h
            rename_i b
            exact ⟨[.s (.b b)], .cons _ _ _ _ (.s (.b b)) .nil, ⟨b, rfl⟩, by simp [AV.data]⟩
          · simp [DataW.trod, hu] at h
        | int i =>
          rcases cs with _ | ⟨v, _ | ⟨v2, cs⟩⟩
          · simp [DataW.trod, hu] at h
          · cases v <;> simp [DataW.trod, hu] at h
            rename_i i' n
            obtain ⟨⟨rfl, hw⟩, _⟩ := h
            exact ⟨[.s (.i i' n)], .cons _ _ _ _ (.s (.i i' n)) .nil, ⟨n, rfl, hw⟩, by simp [AV.data]⟩
          · simp [DataW.trod, hu] at h
        | string =>
          rcases cs with _ | ⟨v, _ | ⟨v2, cs⟩⟩
          · simp [DataW.trod, hu] at h
          · cases v <;> simp [DataW.trod, hu] at h
            rename_i s
            exact ⟨[.s (.str s)], .cons _ _ _ _ (.s (.str s)) .nil, ⟨s, rfl, h.1⟩, by simp [AV.data]⟩
          · simp [DataW.trod, hu] at h
        | slice e =>
          simp only [Bool.and_eq_true, decide_eq_true_eq] at hk
          obtain ⟨hk, hsz⟩ := hk
          rcases cs with _ | ⟨v, _ | ⟨v2, cs⟩⟩
          · simp [DataW.trod, hu] at h
          · cases v
            case slice A n c =>
              cases A with
              | none =>
                cases n with
                | zero =>
                  cases c with
                  | zero => exact ⟨[.s .sn], .cons _ _ _ _ (.s .sn) .nil, .inl rfl, by simp [AV.data]⟩
                  | succ c => simp [DataW.trod, hu] at h
                | succ n => simp [DataW.trod, hu] at h
              | some a =>
                simp only [DataW.trod, hu] at h
                split at h
                rotate_left
                · cases h
                rename_i hc
                simp only [Option.bind_eq_some_iff] at h
                obtain ⟨elems, he, _⟩ := h
                obtain ⟨h1, h2⟩ := mapM_some he
                simp only [List.length_range] at h1
                have hel : ∀ i, i < n → ∃ css y, w.cells? base (a.add (i * P.cellsOf e)) (P.cellsOf e) = some css ∧ DataW.trod enc P w base spare held fuel e css = some y := by
                  intro i hi
                  obtain ⟨y, _, hy⟩ := h2 i i (by simp [hi])
                  simp only [Option.bind_eq_some_iff] at hy
                  obtain ⟨css, q1, q2⟩ := hy
                  exact ⟨css, y, q1, q2⟩
                by_cases hn : n = 0
                · subst hn
                  exact ⟨[.l 0 []], .cons _ _ _ _ (.l 0 [] _ _ [] .nil hc.2.1 hc.2.2 (fun _ h => by cases h) (fun h => absurd rfl h) (fun _ => rfl)) .nil, .inr ⟨[], rfl, Nat.zero_le _, fun _ h => by cases h⟩, by simp [AV.data]⟩
                · let css : Nat → List Value := fun i => (w.cells? base (a.add (i * P.cellsOf e)) (P.cellsOf e)).getD []
                  have hcss : ∀ i, i < n → w.cells? base (a.add (i * P.cellsOf e)) (P.cellsOf e) = some (css i) := fun i hi => by
                    obtain ⟨c, _, q1, _⟩ := hel i hi
                    simp only [css, q1, Option.getD_some]
                  obtain ⟨vs, v1, v2, v3⟩ := slice_vals hsz (Nat.pos_of_ne_zero hn) hcss
                  have hdl : ∀ i ∈ List.range n, ∃ xs, CRs w noG [] xs (css i) ∧ Sh P k e xs ∧ ∀ x ∈ xs, x.data = true := fun i hi => by
                    have hi' : i < n := by simpa using hi
                    obtain ⟨c, y, q1, q2⟩ := hel i hi'
                    have : c = css i := by have := hcss i hi'; rw [q1] at this; injection this
                    subst this
                    exact ih fuel e _ y hk q2
                  obtain ⟨els, e1, e2⟩ := pieces (R := fun i xs => CRs w noG [] xs (css i) ∧ Sh P k e xs ∧ ∀ x ∈ xs, x.data = true) _ hdl
                  simp only [List.length_range] at e1
                  have hget : ∀ (i : Nat) (l : List AV), els[i]? = some l → i < n ∧ CRs w noG [] l (css i) ∧ Sh P k e l ∧ ∀ x ∈ l, x.data = true := fun i l hl => by
                    have hi : i < n := by rw [← e1]; exact (List.getElem?_eq_some_iff.1 hl).1
                    exact ⟨hi, e2 i i l (by simp [hi]) hl⟩
                  have hmem : ∀ l ∈ els, Sh P k e l ∧ ∀ x ∈ l, x.data = true := fun l hl => by
                    obtain ⟨i, hi, rfl⟩ := List.getElem_of_mem hl
                    exact (hget i _ (List.getElem?_eq_getElem hi)).2.2
                  have hdat : ∀ x ∈ els.flatten, x.data = true := fun x hx => by
                    obtain ⟨l, hl, hxl⟩ := List.mem_flatten.1 hx
                    exact (hmem l hl).2 x hxl
                  have hcr : CRs w noG [] els.flatten vs := by
                    rw [← chunks (P.cellsOf e) n vs v1]
                    refine CRs.flatten (by simp [e1]) fun i l v hl hv => ?_
                    obtain ⟨hi, hc1, _⟩ := hget i l hl
                    rw [List.getElem?_map] at hv
                    simp only [Option.map_eq_some_iff] at hv
                    obtain ⟨i', hi', rfl⟩ := hv
                    rw [List.getElem?_range hi] at hi'
                    injection hi' with hi'; subst hi'
                    rw [v3 i hi]; exact hc1
                  refine ⟨[.l n els.flatten], .cons _ _ _ _ (.l n _ (some a) c vs hcr hc.2.1 hc.2.2 hdat (fun _ => ⟨a, rfl, v2⟩) (fun h => absurd h hn)) .nil, .inr ⟨els, by rw [e1], by rw [e1]; exact Nat.le_trans hc.2.1 hc.2.2, fun l hl => (hmem l hl).1⟩, by simp [AV.data]⟩
            all_goals simp [DataW.trod, hu] at h
          · simp [DataW.trod, hu] at h
        | array n e =>
          simp only [Bool.and_eq_true, beq_iff_eq] at hk
          obtain ⟨hk, hsz⟩ := hk
          obtain ⟨xs, m, hf, _, hlen, hxl, hx⟩ := DataW.trod_array hu h
          have hdl : ∀ i ∈ List.range n, DataL w P k e ((cs.drop (i * P.cellsOf e)).take (P.cellsOf e)) := fun i hi => by
            have hi' : i < n := by simpa using hi
            have := hx i hi'
            have hlt : i < xs.length := by omega
            rw [List.getElem?_eq_getElem hlt] at this
            exact ih m e _ _ hk this
          obtain ⟨els, e1, e2⟩ := pieces (R := fun i xs => CRs w noG [] xs ((cs.drop (i * P.cellsOf e)).take (P.cellsOf e)) ∧ Sh P k e xs ∧ ∀ x ∈ xs, x.data = true) _ hdl
          simp only [List.length_range] at e1
          have hget : ∀ (i : Nat) (l : List AV), els[i]? = some l → i < n ∧ CRs w noG [] l ((cs.drop (i * P.cellsOf e)).take (P.cellsOf e)) ∧ Sh P k e l ∧ ∀ x ∈ l, x.data = true := fun i l hl => by
            have hi : i < n := by rw [← e1]; exact (List.getElem?_eq_some_iff.1 hl).1
            exact ⟨hi, e2 i i l (by simp [hi]) hl⟩
          refine ⟨els.flatten, ?_, ⟨els, rfl, e1, fun l hl => ?_⟩, fun x hx => ?_⟩
          · rw [← chunks (P.cellsOf e) n cs (by rw [hlen, hsz])]
            refine CRs.flatten (by simp [e1]) fun i l v hl hv => ?_
            obtain ⟨hi, hc1, _⟩ := hget i l hl
            rw [List.getElem?_map, List.getElem?_range hi] at hv
            injection hv with hv; subst hv
            exact hc1
          · obtain ⟨i, hi, rfl⟩ := List.getElem_of_mem hl
            exact (hget i _ (List.getElem?_eq_getElem hi)).2.2.1
          · obtain ⟨l, hl, hxl⟩ := List.mem_flatten.1 hx
            obtain ⟨i, hi, rfl⟩ := List.getElem_of_mem hl
            exact (hget i _ (List.getElem?_eq_getElem hi)).2.2.2 x hxl
        | struct fs =>
          simp only [Bool.and_eq_true, List.all_eq_true] at hk
          obtain ⟨hk, hsz⟩ := hk
          simp only [DataW.trod, hu] at h
          split at h
          rotate_left
          · cases h
          rename_i hlen
          simp only [Option.map_eq_some_iff] at h
          obtain ⟨ys, hys, _⟩ := h
          obtain ⟨_, h2⟩ := mapM_some hys
          have hdl : ∀ f ∈ fs.toList, DataL w P k f.type ((cs.drop f.offset).take (P.cellsOf f.type)) := fun f hf => by
            obtain ⟨i, hi, rfl⟩ := List.getElem_of_mem hf
            obtain ⟨y, _, hy⟩ := h2 i _ (List.getElem?_eq_getElem hi)
            exact ih fuel _ _ _ (hk _ hf) hy
          obtain ⟨els, e1, e2⟩ := pieces (R := fun (f : Field) xs => CRs w noG [] xs ((cs.drop f.offset).take (P.cellsOf f.type)) ∧ Sh P k f.type xs ∧ ∀ x ∈ xs, x.data = true) _ hdl
          have hget : ∀ (i : Nat) (l : List AV), els[i]? = some l → ∃ f, fs.toList[i]? = some f ∧ CRs w noG [] l ((cs.drop f.offset).take (P.cellsOf f.type)) ∧ Sh P k f.type l ∧ ∀ x ∈ l, x.data = true := fun i l hl => by
            have hi : i < fs.toList.length := by rw [← e1]; exact (List.getElem?_eq_some_iff.1 hl).1
            exact ⟨_, List.getElem?_eq_getElem hi, e2 i _ l (List.getElem?_eq_getElem hi) hl⟩
          refine ⟨els.flatten, ?_, ⟨els, rfl, by rw [e1]; simp, fun i f l hf hl => ?_⟩, fun x hx => ?_⟩
          · have ht := tiles fs.toList 0 _ cs hsz hlen (Nat.zero_le _)
            rw [List.drop_zero] at ht
            rw [← ht]
            refine CRs.flatten (by simp [e1]) fun i l v hl hv => ?_
            obtain ⟨f, hf, hc1, _⟩ := hget i l hl
            rw [List.getElem?_map, hf] at hv
            injection hv with hv; subst hv
            exact hc1
          · obtain ⟨f', hf', _, hs, _⟩ := hget i l hl
            rw [Array.getElem?_toList, hf] at hf'
            injection hf' with hf'; subst hf'
            exact hs
          · obtain ⟨l, hl, hxl⟩ := List.mem_flatten.1 hx
            obtain ⟨i, hi, rfl⟩ := List.getElem_of_mem hl
            obtain ⟨_, _, _, _, hd⟩ := hget i _ (List.getElem?_eq_getElem hi)
            exact hd x hxl
        | _ => exact absurd hk Bool.false_ne_true
end
end Go.Am
/-
  THE ABSTRACT MACHINE: a law that comes to 'true' at every input of its types.
-/
namespace Go.Am
open Go Go.ChangeShapes Go.WideShapes Go.ChangeAt Go.RowKit

/-- An argument of those cells. -/
def argAV (P : Program) (t : TypeId) (xs : List AV) : AV :=
  match P.underlying t with
  | some (.struct _) => .a xs
  | some (.array _ _) => .a xs
  | _ => xs.headD .u

/-- Arguments of those types. -/
def ShArgs (P : Program) (k : Nat) : List TypeId → List AV → Prop
  | [], avs => avs = []
  | t :: ts, avs => ∃ xs rest, avs = argAV P t xs :: rest ∧ Sh P k t xs ∧ ShArgs P k ts rest

section
variable {P : Program} {w W W' : World} {H : Type} {enc : TypeId × Value → H} {spare : Nat → Bool} {held : Bool}

theorem arg_CR {b base k : Nat} {r : Reach} {t : TypeId} {v : Value} {d : DataW H} {ps : List MemPlace} (hk : okT P k t = true) (hv : Value.okWide P W r b t v) (h : DataW.Trod enc P W base spare held t v d ps) :
    ∃ xs, Sh P k t xs ∧ CR W noG [] (argAV P t xs) v := by
  obtain ⟨fuel, h⟩ := h
  obtain ⟨xs, h1, h2, _⟩ := open_sh k fuel t _ _ hk h
  refine ⟨xs, h2, ?_⟩
  cases k with
  | zero => simp [okT] at hk
  | succ k =>
    simp only [okT] at hk
    unfold argAV
    cases hu : P.underlying t with
    | none => rw [hu] at hk; cases hk
    | some e =>
      rw [hu] at hk
      have single : v.cells = #[v] → (∃ x, xs = [x]) → CR W noG [] (xs.headD .u) v := by
        rintro hc ⟨x, rfl⟩
        rw [hc] at h1
        cases h1 with | cons _ _ _ _ q _ => exact q
      cases e with
      | bool =>
        obtain ⟨b, rfl⟩ := okWide_bool hu hv
        refine single rfl ?_
        simp only [Sh, hu] at h2
        obtain ⟨b, rfl⟩ := h2; exact ⟨_, rfl⟩
      | int i =>
        simp only [Value.okWide, hu, Cell.okWide] at hv
        simp only [Sh, hu] at h2
        obtain ⟨n, rfl, _⟩ := h2
        refine single ?_ ⟨_, rfl⟩
        cases v <;> first | rfl | (simp [Cell.ok, hu] at hv)
      | string =>
        simp only [Value.okWide, hu, Cell.okWide] at hv
        simp only [Sh, hu] at h2
        obtain ⟨n, rfl, _⟩ := h2
        refine single ?_ ⟨_, rfl⟩
        cases v <;> first | rfl | (simp [Cell.ok, hu] at hv)
      | slice e =>
        simp only [Value.okWide, hu, Cell.okWide] at hv
        simp only [Sh, hu] at h2
        refine single ?_ ?_
        · cases v <;> first | rfl | (simp [Cell.ok, hu] at hv)
        · rcases h2 with rfl | ⟨els, rfl, _⟩ <;> exact ⟨_, rfl⟩
      | array n e =>
        simp only [Value.okWide, hu] at hv
        obtain ⟨cs, rfl, _⟩ := hv
        exact .a xs _ (by simpa [Value.cells] using h1)
      | struct fs =>
        simp only [Value.okWide, hu] at hv
        obtain ⟨cs, rfl, _⟩ := hv
        exact .a xs _ (by simpa [Value.cells] using h1)
      | _ => exact absurd hk Bool.false_ne_true

theorem args_CR {b base k : Nat} {r : Reach} : ∀ (ts : List TypeId) (vs : List Value) (ds : List (DataW H)) (ps : List MemPlace), (∀ t ∈ ts, okT P k t = true) → (∀ (j : Nat) t v, ts[j]? = some t → vs[j]? = some v → Value.okWide P W r b t v) → DataW.TrodAll enc P W base spare held ts vs ds ps →
    ∃ avs, ShArgs P k ts avs ∧ CRs W noG [] avs vs
  | [], vs, ds, ps, _, _, h => by
    obtain ⟨rfl, _, _⟩ := trodAll_nil h
    exact ⟨[], rfl, .nil⟩
  | t :: ts, vs, ds, ps, hk, hv, h => by
    obtain ⟨v, vs1, d, ds1, p, q, rfl, rfl, rfl, h1, h2⟩ := trodAll_cons h
    obtain ⟨xs, q1, q2⟩ := arg_CR (hk t (by simp)) (hv 0 t v rfl rfl) h1
    obtain ⟨avs, q3, q4⟩ := args_CR ts vs1 ds1 q (fun t' ht => hk t' (by simp [ht])) (fun j t' v' hj hv' => hv (j + 1) t' v' (by simpa using hj) (by simpa using hv')) h2
    exact ⟨_, ⟨xs, avs, rfl, q1, q3⟩, .cons _ _ _ _ q2 q4⟩

theorem trodAll_below (hl : laidOutB P = true) (hb : Below W.heap.size W W') {sp : Nat → Bool} : ∀ (ts : List TypeId) (vs : List Value) (ds : List (DataW H)) (ps : List MemPlace), (∀ t ∈ ts, P.readableRec t = true ∧ t < P.types.size) →
    DataW.TrodAll enc P W 0 (fun _ => true) true ts vs ds ps → (∀ x ∈ ps, x.block < W.heap.size ∧ sp x.block = true) → DataW.TrodAll enc P W' 0 sp true ts vs ds ps
  | [], vs, ds, ps, _, h, _ => by
    obtain ⟨rfl, rfl, rfl⟩ := trodAll_nil h
    rfl
  | t :: ts, vs, ds, ps, ht, h, hp => by
    obtain ⟨v, vs1, d, ds1, p, q, rfl, rfl, rfl, h1, h2⟩ := trodAll_cons h
    exact ⟨p, q, WideElems.Trod_stays hl (ht t (by simp)).1 (ht t (by simp)).2 h1 (fun x hx => hb.same (hp x (by simp [hx])).1) (fun x hx => (hp x (by simp [hx])).2),
      trodAll_below hl hb ts vs1 ds1 q (fun t' h' => ht t' (by simp [h'])) h2 (fun x hx => hp x (by simp [hx])), rfl⟩

theorem post_of_below {f : Func} {s : ChangeSpec} {apart fresh handsOn again : Bool} {args : Array Value} {tb : TypeId} {ds gs : List (DataW H)} {before : List MemPlace}
    (hl : laidOutB P = true) (hts : ∀ t ∈ f.params.toList, P.readableRec t = true ∧ t < P.types.size) (hsv : s.vars = []) (hr : f.resultTypes = #[tb]) (htb : P.underlying tb = some .bool)
    (hsf : (s.fn H ds).results = [.lit (.bool true)] ∧ (s.fn H ds).args = ds ∧ (s.fn H ds).vars = [])
    (hW : DataW.Whole enc P f.params.toList s.vars apart W args.toList ds gs before) (hb : Below W.heap.size W W') : s.post enc P f apart fresh handsOn again W args (.bool true) W' := by
  have hlt := hW.lt
  have hW' := hW
  obtain ⟨p, q, hA, hV, rfl, hz, hn⟩ := hW'
  rw [hsv] at hV
  obtain ⟨rfl, rfl⟩ := trodVars_none hV
  simp only [List.append_nil] at hW hlt hz hn ⊢
  have hargs : ∀ sp : Nat → Bool, (∀ x ∈ p, sp x.block = true) → DataW.TrodAll enc P W' 0 sp true f.params.toList args.toList ds p := fun sp hsp =>
    trodAll_below hl hb _ _ _ _ hts hA (fun x hx => ⟨hlt x hx, hsp x hx⟩)
  have hres : ∀ (b : Nat) (sp : Nat → Bool) (hd : Bool), DataW.TrodAll enc P W' b sp hd f.resultTypes.toList ((Value.bool true).resultList f.resultTypes.size) (s.fn H (ds ++ [])).results [] := fun b sp hd => by
    rw [List.append_nil, hsf.1, hr]
    exact trodAll_mk1 (shut_bool htb true)
  have hvars : ∀ sp : Nat → Bool, DataW.TrodVars enc P W' sp s.vars (s.fn H (ds ++ [])).vars [] := fun sp => by
    rw [List.append_nil, hsf.2.2, hsv]; rfl
  have hargs' : ∀ sp : Nat → Bool, (∀ x ∈ p, sp x.block = true) → DataW.TrodAll enc P W' 0 sp true f.params.toList args.toList (s.fn H (ds ++ [])).args p := fun sp hsp => by
    rw [List.append_nil, hsf.2.1]; exact hargs sp hsp
  have hold : ∀ x ∈ p, (fun b => decide (b < W.heap.size)) x.block = true := fun x hx => by simpa using hlt x hx
  refine ⟨ds, [], p, [], p, [], hW, hres _ _ _, hargs' _ hold, hvars _, World.keptBut_mono (fun x hx => ⟨hx, ?_⟩) (hb.frame (· ∈ p)), fun _ => ?_⟩
  · simpa using hx
  · refine ⟨ok_one hr rfl (okWide_bool_mk htb true), _, _, ([] ++ p) ++ [], ⟨[] ++ p, [], trodAll_append (hargs' _ (fun _ _ => rfl)) (hres _ _ _), hvars _, rfl, ?_, ?_⟩, ?_⟩
    · intro b off hp
      have hp' : MemPlace.cell b off ∈ p := by simpa using hp
      rw [hb.frozen (hlt _ hp')]
      exact hz b off hp'
    · intro ha
      have := hn ha
      simpa using this
    · intro x hx _
      simpa using hx

/-- What the machine works out of a law alone, the law comes to; and nothing that was there is turned. -/
theorem law_calls {f : FuncId} {args : Array Value} {avs : List AV} (h : ValidAt P f avs [] [] (.s (.b true)) [] []) (hc : CRs W noG [] avs args.toList) : Calls P f args W fun e W' => e = .returned (.bool true) ∧ Below W.heap.size W W' := by
  have hno : ∀ b o, noG b = some o → False := fun b o h => by simp [noG] at h
  have hI : InvH W noG [] [] := by
    refine ⟨fun b b' o h _ => (hno b o h).elim, fun b o h => (hno b o h).elim, fun b o h => (hno b o h).elim, fun k e sz n cs h => ?_, fun m e sz n cs b h _ => ?_, fun id T cs h => ?_⟩
    · simp at h
    · simp at h
    · cases id <;> simp [getB] at h
  have := h W noG args.toList hI ⟨fun _ _ _ h => by simp at h, fun _ _ _ h => by simp at h⟩ hc
  rw [Array.toArray_toList] at this
  refine this.mono ?_
  rintro e w' ⟨v, G', rfl, _, _, hcr, hev⟩
  cases hcr
  exact ⟨rfl, ⟨hev.os, hev.tape, hev.output, hev.keep.size, fun k hk => (hev.keep.free k hk rfl).1⟩⟩

/-- A law, whole. -/
theorem law_post {f : FuncId} {fn : Func} {s : ChangeSpec} {b k : Nat} {apart fresh handsOn again : Bool} {args : Array Value} {tb : TypeId} {ds gs : List (DataW H)} {before : List MemPlace}
    (hl : laidOutB P = true) (hts : ∀ t ∈ fn.params.toList, okT P k t = true ∧ P.readableRec t = true ∧ t < P.types.size) (hsv : s.vars = []) (hr : fn.resultTypes = #[tb]) (htb : P.underlying tb = some .bool)
    (hsf : (s.fn H ds).results = [.lit (.bool true)] ∧ (s.fn H ds).args = ds ∧ (s.fn H ds).vars = [])
    (hrun : ∀ avs, ShArgs P k fn.params.toList avs → ValidAt P f avs [] [] (.s (.b true)) [] [])
    (hval : ∀ (j : Nat) t v, fn.params[j]? = some t → args[j]? = some v → Value.okWide P W .any b t v)
    (hW : DataW.Whole enc P fn.params.toList s.vars apart W args.toList ds gs before) :
    Calls P f args W fun e W' => ∃ v, e = .returned v ∧ s.post enc P fn apart fresh handsOn again W args v W' := by
  obtain ⟨p, q, hA, hrest⟩ := hW
  obtain ⟨avs, h1, h2⟩ := args_CR _ _ _ _ (fun t ht => (hts t ht).1) (fun j t v hj hv => hval j t v (by simpa using hj) (by simpa using hv)) hA
  refine (law_calls (hrun avs h1) h2).mono ?_
  rintro e W' ⟨rfl, hb⟩
  exact ⟨_, rfl, post_of_below hl (fun t ht => (hts t ht).2) hsv hr htb hsf ⟨p, q, hA, hrest⟩ hb⟩
end
end Go.Am
