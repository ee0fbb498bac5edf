/-
  THE ABSTRACT MACHINE: a region whose order is drawn.
-/
import Derived.Test.YtgbkilmgmnhokaaAm13
import Derived.Orders
set_option linter.unusedSimpArgs false
set_option linter.unusedVariables false
namespace Go.Am
open Go

/-- No row among them. -/
def noRow : AV → Bool
  | .r _ => false
  | _ => true
def plainL (xs : List AV) : Bool := (argCells xs).all noRow

/-- The row of a slice's literal. -/
def litRow (P : Program) (t : TypeId) (len : Nat) (parts : Array (Nat × Operand)) (env : List AV) : Option Blk :=
  if (partCells env parts).all noRow then
    match sliceO P t with
    | some e =>
      match P.info? e, zeroO P e with
      | some ie, some z =>
        if 0 < len * ie.size ∧ len * ie.size ≤ 2 ^ 24 ∧ len ≤ maxLen then
          match fillAV (fun i => some (i * ie.size, ie.size)) (zeroCellsAV z (len * ie.size)) (partsAV env parts) with
          | some cells => if cells.all AV.data ∧ cells.length = len * ie.size then some (.row e ie.size len cells) else none
          | none => none
        else none
      | _, _ => none
    | none => none
  else none

/-- One operation that changes no slot but its own, in the state's parts. -/
def yOp (P : Program) (F : Tab) (base : Nat) (o : Oper) (env : List AV) (S O : List Blk) : Option (AV × List Blk × List Blk) :=
  match o.op with
  | .alloc T =>
    match o.dst, zeroO P T with
    | some d, some z => if d < env.length then match S[base + d]? with | some .dead => some (.p (.s (base + d)) 0, S.set (base + d) (.box T (z.map ofC)), O) | _ => none else none
    | _, _ => none
  | .box T x =>
    match o.dst, (rd env x).cells? with
    | some d, some cs => if d < env.length then match S[base + d]? with | some .dead => some (.p (.s (base + d)) 0, S.set (base + d) (.box T cs), O) | _ => none else none
    | _, _ => none
  | .build t parts => (buildAV P t (partsAV env parts)).map (·, S, O)
  | .store T x y =>
    match rd env x, (rd env y).cells?, szO P T with
    | .p id off, some cs, some sz =>
      if cs.length = sz ∧ cs.all noRow then (xStore base id off cs ⟨[], S, O⟩).map fun st => (.u, st.S, st.O) else none
    | _, _, _ => none
  | .call { callee := .value f, args, .. } =>
    if plainL (args.toList.map (rd env)) then
      match calleeAV env f with
      | some (g, fs, cs) =>
        if hasBody P g then F g (AV.nrmL (fs ++ args.toList.map (rd env) ++ cs)) S O
        else match toVs (AV.nrmL (fs ++ args.toList.map (rd env) ++ cs)) with
          | some vs => match extVal P g vs with | some v => some (ofV v, S, O) | none => none
          | none => none
      | none => none
    else none
  | .slice T x lo hi mx => match rd env x with
    | .s (.str _) => (xPure P ⟨env, S, O⟩ o).map (·, S, O)
    | .r _ => none
    | .p .. => none
    | v => if mx.isSome && hi.isNone then none else (sliceAV P T v lo hi mx env).map (·, S, O)
  | .buildSlice t len parts =>
    match o.dst, litRow P t len parts env with
    | some d, some blk => if d < env.length then match S[base + d]? with | some .dead => some (.r (base + d), S.set (base + d) blk, O) | _ => none else none
    | _, _ => none
  | .makeSlice .. => none
  | .call { callee := .builtin .append, .. } => none
  | _ => (xPure P ⟨env, S, O⟩ o).map (·, S, O)

def yStep (P : Program) (F : Tab) (base : Nat) (ops : Array Oper) (o : Oper) (env : List AV) (S O : List Blk) : Option (AV × List Blk × List Blk) :=
  match aWant ops o env with
  | none => none
  | some false => some (.t [], S, O)
  | some true => yOp P F base o env S O

def yRun (P : Program) (F : Tab) (base : Nat) (ops : Array Oper) (o : Oper) (st : St) : Option St :=
  (yStep P F base ops o st.env st.S st.O).map fun q => (St.mk st.env q.2.1 q.2.2).put o.dst q.1

section
variable {base : Nat} {w w' w'' : World} {G G' G'' : Ghost} {S S' S'' O O' O'' : List Blk} {P : Program} {F : Tab} {ops : Array Oper}

theorem freezeIn_plain {xs : List AV} (h : xs.all noRow = true) (st : St) : st.freezeIn base xs = st := by
  induction xs generalizing st with
  | nil => rfl
  | cons x xs ih =>
    simp only [List.all_cons, Bool.and_eq_true] at h
    cases x <;> first | exact ih h.2 st | (exact absurd h.1 (by simp [noRow]))

theorem setAt_dead {st : St} {m : Nat} {blk : Blk} (h : st.S[m]? = some .dead) : st.setAt base m blk = { st with S := st.S.set m blk } := by
  unfold St.setAt; rw [h]

theorem xStore_env {id : Bid} {off : Nat} {cs : List AV} {st s1 : St} (h : xStore base id off cs ⟨[], st.S, st.O⟩ = some s1) : xStore base id off cs st = some ⟨st.env, s1.S, s1.O⟩ := by
  unfold xStore at *
  split at h
  · rename_i T cs' hg
    rw [hg]; simp only
    split at h
    · rename_i hc
      rw [if_pos hc]
      injection h with h; subst h
      unfold setB; cases id <;> rfl
    · cases h
  · rename_i e sz n cs' hg
    rw [hg]; simp only
    split at h
    · split at h
      · rename_i hc; rw [if_pos hc]; injection h with h; subst h; rfl
      · cases h
    · cases h
  · cases h

theorem yOp_x {o : Oper} {env : List AV} {S O : List Blk} {v : AV} (h : yOp P F base o env S O = some (v, S', O')) :
    (match o.op with
      | .call { callee := .value f, args, .. } => xCall P F base f args ⟨env, S, O⟩
      | _ => xOp P (fun _ => false) base o ⟨env, S, O⟩) = some (v, ⟨env, S', O'⟩) := by
  obtain ⟨dst, op, type, pos, after, guard⟩ := o
  cases op
  case call c =>
    obtain ⟨callee, args, tys⟩ := c
    cases callee
    case value f =>
      simp only [yOp] at h ⊢
      unfold xCall
      split at h
      rotate_left
      · cases h
      rename_i hp
      rw [freezeIn_plain hp]
      simp only
      split at h
      rotate_left
      · cases h
      rename_i g fs cs hc
      rw [hc]
      simp only
      split at h
      · rename_i hb
        rw [if_pos hb, h]
      · rename_i hb
        rw [if_neg hb]
        split at h
        rotate_left
        · cases h
        rename_i vs hvs
        rw [hvs]
        simp only
        split at h
        · rename_i v' hv; rw [hv]; simp only [Option.some.injEq, Prod.mk.injEq] at h; obtain ⟨rfl, rfl, rfl⟩ := h; rfl
        · cases h
    case builtin b =>
      cases b <;> simp only [yOp, xOp] at h ⊢ <;> first
        | (simp only [Option.map_eq_some_iff, Prod.mk.injEq] at h; obtain ⟨r, hr, rfl, rfl, rfl⟩ := h; rw [hr]; rfl)
        | cases h
    case invoke r m =>
      simp only [yOp, xOp] at h ⊢
      simp only [Option.map_eq_some_iff, Prod.mk.injEq] at h; obtain ⟨r, hr, rfl, rfl, rfl⟩ := h; rw [hr]; rfl
  case alloc T =>
    simp only [yOp, xOp] at h ⊢
    split at h
    rotate_left
    · cases h
    rename_i d z hz
    split at h
    rotate_left
    · cases h
    rename_i hlt
    split at h
    rotate_left
    · cases h
    rename_i hS
    simp only [Option.some.injEq, Prod.mk.injEq] at h
    obtain ⟨rfl, rfl, rfl⟩ := h
    simp only [hz, newBox, Bool.false_eq_true, if_false, hlt, if_true, boxCells, hS, setAt_dead (st := ⟨env, S, O⟩) hS]
  case box T x =>
    simp only [yOp, xOp] at h ⊢
    split at h
    rotate_left
    · cases h
    rename_i d cs hz
    split at h
    rotate_left
    · cases h
    rename_i hlt
    split at h
    rotate_left
    · cases h
    rename_i hS
    simp only [Option.some.injEq, Prod.mk.injEq] at h
    obtain ⟨rfl, rfl, rfl⟩ := h
    simp only [hz, Option.any_some, newBox, Bool.false_eq_true, if_false, hlt, if_true, boxCells, hS, setAt_dead (st := ⟨env, S, O⟩) hS]
  case build t parts =>
    simp only [yOp, xOp] at h ⊢
    simp only [Option.map_eq_some_iff, Prod.mk.injEq] at h; obtain ⟨r, hr, rfl, rfl, rfl⟩ := h; rw [hr]; rfl
  case store T x y =>
    simp only [yOp, xOp] at h ⊢
    unfold xStoreOp
    split at h
    rotate_left
    · cases h
    rename_i id off cs sz h1 h2 h3
    split at h
    rotate_left
    · cases h
    rename_i hc
    simp only [Option.map_eq_some_iff, Prod.mk.injEq] at h
    obtain ⟨s1, hs, rfl, rfl, rfl⟩ := h
    have := xStore_env (st := ⟨env, S, O⟩) hs
    simp only [h1, h2, h3, hc.1, if_true]
    split
    · rw [this]; rfl
    · rw [freezeIn_plain hc.2]
      simp only [h1, h2, hc.1, if_true, this]; rfl
  case slice T x lo hi mx =>
    simp only [yOp, xOp] at h ⊢
    cases hx : rd env x <;> rw [hx] at h <;> (try simp only at h)
    case s sc =>
      cases sc <;> (try simp only at h ⊢)
      case str => simp only [Option.map_eq_some_iff, Prod.mk.injEq] at h; obtain ⟨r, hr, rfl, rfl, rfl⟩ := h; rw [hr]; rfl
      all_goals
        unfold xSlice
        split at h
        · cases h
        · rename_i hb; rw [if_neg hb]; simp only [hx]
          simp only [Option.map_eq_some_iff, Prod.mk.injEq] at h; obtain ⟨r, hr, rfl, rfl, rfl⟩ := h; rw [hr]; rfl
    case r => cases h
    case p => cases h
    all_goals
      unfold xSlice
      split at h
      · cases h
      · rename_i hb; rw [if_neg hb]; simp only [hx]
        simp only [Option.map_eq_some_iff, Prod.mk.injEq] at h; obtain ⟨r, hr, rfl, rfl, rfl⟩ := h; rw [hr]; rfl
  case buildSlice t len parts =>
    simp only [yOp, xOp] at h ⊢
    split at h
    rotate_left
    · cases h
    rename_i d blk hz
    split at h
    rotate_left
    · cases h
    rename_i hlt
    split at h
    rotate_left
    · cases h
    rename_i hS
    simp only [Option.some.injEq, Prod.mk.injEq] at h
    obtain ⟨rfl, rfl, rfl⟩ := h
    unfold litRow at hz
    split at hz
    rotate_left
    · cases hz
    rename_i hp
    unfold xBuildSlice
    rw [freezeIn_plain hp]
    split at hz
    rotate_left
    · cases hz
    rename_i e he
    rw [he]; simp only
    split at hz
    rotate_left
    · cases hz
    rename_i ie z hie hz0
    rw [hie, hz0]; simp only
    split at hz
    rotate_left
    · cases hz
    rename_i hc
    rw [if_pos hc]
    split at hz
    rotate_left
    · cases hz
    rename_i cells hcells
    rw [hcells]; simp only
    split at hz
    rotate_left
    · cases hz
    rename_i hc2
    rw [if_pos hc2]
    injection hz with hz; subst hz
    simp only [rowHere, hlt, if_true, setAt_dead (st := ⟨env, S, O⟩) hS]
  case makeSlice => simp only [yOp] at h; cases h
  all_goals
    simp only [yOp, xOp] at h ⊢
    simp only [Option.map_eq_some_iff, Prod.mk.injEq] at h; obtain ⟨r, hr, rfl, rfl, rfl⟩ := h; rw [hr]; rfl

theorem yRun_x {o : Oper} {st st' : St} (h : yRun P F base ops o st = some st') : xStep P F (fun _ => false) base ops o st = some st' := by
  unfold yRun yStep at h
  unfold xStep
  simp only [Option.map_eq_some_iff] at h
  obtain ⟨⟨v, S', O'⟩, hv, rfl⟩ := h
  split at hv
  · cases hv
  · rename_i hw
    rw [hw]
    simp only [Option.some.injEq, Prod.mk.injEq] at hv
    obtain ⟨rfl, rfl, rfl⟩ := hv
    rfl
  · rename_i hw
    rw [hw]
    have := yOp_x hv
    obtain ⟨dst, op, type, pos, after, guard⟩ := o
    cases op
    case call c =>
      obtain ⟨callee, args, tys⟩ := c
      cases callee <;> (try simp only at this ⊢) <;> rw [this] <;> rfl
    all_goals ((try simp only at this ⊢); rw [this]; rfl)
end
end Go.Am
