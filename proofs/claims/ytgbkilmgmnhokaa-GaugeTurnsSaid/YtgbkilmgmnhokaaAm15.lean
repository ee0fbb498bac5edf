/-
  THE ABSTRACT MACHINE: which operations of a region may change places.
-/
import Derived.Test.YtgbkilmgmnhokaaAm14
set_option linter.unusedSimpArgs false
set_option linter.unusedVariables false
namespace Go.Am
open Go

def putE (env : List AV) (d : Option Tmp) (v : AV) : List AV := match d with | some d => env.set d v | none => env

section
variable {base : Nat} {w w' w'' : World} {G G' G'' : Ghost} {S S' S'' O O' O'' : List Blk} {P : Program} {F : Tab} {ops : Array Oper}

theorem rd_put {env : List AV} {d : Option Tmp} {v : AV} {x : Operand} (h : ∀ t, d = some t → x ≠ .tmp t) : rd (putE env d v) x = rd env x := by
  cases d with
  | none => rfl
  | some d =>
    cases x with
    | tmp t =>
      have hne : d ≠ t := fun e => h d rfl (e ▸ rfl)
      simp [rd, putE, List.getD_eq_getElem?_getD, List.getElem?_set_ne hne]
    | _ => rfl

theorem len_put {env : List AV} {d : Option Tmp} {v : AV} : (putE env d v).length = env.length := by cases d <;> simp [putE]

theorem bnd_congr {e1 e2 : List AV} {x : Option Operand} (h : ∀ y, x = some y → rd e1 y = rd e2 y) (a b : Nat) : bnd e1 x a b = bnd e2 x a b := by
  cases x with
  | none => rfl
  | some y => simp only [bnd, h y rfl]

theorem xPure_congr {e1 e2 : List AV} {S O : List Blk} (o : Oper) (h : ∀ x ∈ o.op.operands.toList, rd e1 x = rd e2 x) : xPure P ⟨e1, S, O⟩ o = xPure P ⟨e2, S, O⟩ o := by
  obtain ⟨dst, op, type, pos, after, guard⟩ := o
  cases op <;> simp only [Op.operands] at h
  case pick c a b => simp only [xPure, h c (by simp), h a (by simp), h b (by simp)]
  case binOp op T x y T' => simp only [xPure, h x (by simp), h y (by simp)]
  case indexAddr T x i => simp only [xPure, h x (by simp), h i (by simp)]
  case index T x i => simp only [xPure, h x (by simp), h i (by simp)]
  case makeFunc f fs cs =>
    cases f <;> simp only [xPure]
    rw [List.map_congr_left (l := fs.toList) fun x hx => h x (by simp; exact .inl (by simpa using hx)), List.map_congr_left (l := cs.toList) fun x hx => h x (by simp; exact .inr (by simpa using hx))]
  case slice T x lo hi mx =>
    cases mx with
    | some m => rfl
    | none =>
      have h1 := h x (by simp)
      have h2 : (lo.map fun y => toV (rd e1 y)) = lo.map fun y => toV (rd e2 y) := by cases lo with | none => rfl | some l => simp only [Option.map_some, h l (by simp)]
      have h3 : (hi.map fun y => toV (rd e1 y)) = hi.map fun y => toV (rd e2 y) := by cases hi with | none => rfl | some l => simp only [Option.map_some, h l (by simp)]
      simp only [xPure, h1, h2, h3]
  case call c =>
    obtain ⟨callee, args, tys⟩ := c
    cases callee with
    | builtin b =>
      have h' : ∀ x ∈ args.toList, rd e1 x = rd e2 x := fun x hx => h x (by simp [Call.operands]; simpa using hx)
      cases b <;> simp only [xPure]
      all_goals
        generalize args.toList = l at h' ⊢
        generalize tys.toList = k
        rcases l with _ | ⟨x, _ | ⟨y, _ | ⟨z, l⟩⟩⟩ <;> rcases k with _ | ⟨T, _ | ⟨T', k⟩⟩ <;> first
          | rfl
          | (simp only [h' x (by simp)]; done)
          | (simp only [h' x (by simp), h' y (by simp)]; done)
    | _ => rfl
  all_goals first
    | rfl
    | (rename_i x; simp only [xPure, h x (by simp)])
    | (rename_i _ x; simp only [xPure, h x (by simp)])
    | (rename_i x _; simp only [xPure, h x (by simp)])
    | (rename_i _ x _; simp only [xPure, h x (by simp)])
    | (rename_i _ _ x; simp only [xPure, h x (by simp)])

theorem parts_congr {e1 e2 : List AV} {parts : Array (Nat × Operand)} (h : ∀ q ∈ parts.toList, rd e1 q.2 = rd e2 q.2) : partsAV e1 parts = partsAV e2 parts :=
  List.map_congr_left fun q hq => by rw [h q hq]

theorem sliceAV_congr {e1 e2 : List AV} {T : TypeId} {x : AV} {lo hi mx : Option Operand} (h1 : ∀ y, lo = some y → rd e1 y = rd e2 y) (h2 : ∀ y, hi = some y → rd e1 y = rd e2 y) (h3 : ∀ y, mx = some y → rd e1 y = rd e2 y) :
    sliceAV P T x lo hi mx e1 = sliceAV P T x lo hi mx e2 := by
  unfold sliceAV cutAV
  simp only [bnd_congr h1, bnd_congr h2, bnd_congr h3]

theorem yOp_congr {e1 e2 : List AV} {S O : List Blk} (o : Oper) (h : ∀ x ∈ o.op.operands.toList, rd e1 x = rd e2 x) (hl : e1.length = e2.length) : yOp P F base o e1 S O = yOp P F base o e2 S O := by
  have hp := xPure_congr (P := P) (S := S) (O := O) o h
  obtain ⟨dst, op, type, pos, after, guard⟩ := o
  cases op <;> simp only [Op.operands] at h
  case alloc T => simp only [yOp, hl]
  case box T x => simp only [yOp, hl, h x (by simp)]
  case buildSlice t len parts =>
    have h0 : ∀ q ∈ parts.toList, rd e1 q.2 = rd e2 q.2 := fun q hq => h q.2 (by simp; exact ⟨q.1, by simpa using hq⟩)
    have h1 : partCells e1 parts = partCells e2 parts := by
      unfold partCells
      rw [List.map_congr_left (l := parts.toList) fun q hq => by rw [h0 q hq]]
    have h2 : litRow P t len parts e1 = litRow P t len parts e2 := by unfold litRow; rw [h1, parts_congr h0]
    simp only [yOp, hl, h2]
  case build t parts => simp only [yOp]; rw [parts_congr fun q hq => h q.2 (by simp; exact ⟨q.1, by simpa using hq⟩)]
  case store T x y => simp only [yOp, h x (by simp), h y (by simp)]
  case slice T x lo hi mx =>
    have h1 := h x (by simp)
    have h2 := sliceAV_congr (P := P) (T := T) (x := rd e2 x) (lo := lo) (hi := hi) (mx := mx) (e1 := e1) (e2 := e2) (fun y hy => h y (by subst hy; simp)) (fun y hy => h y (by subst hy; simp)) (fun y hy => h y (by subst hy; simp))
    simp only [yOp, h1, hp]
    cases hx : rd e2 x <;> simp only [hx] at h2 ⊢
    case s sc => cases sc <;> simp only [h2]
    all_goals simp only [h2]
  case call c =>
    obtain ⟨callee, args, tys⟩ := c
    cases callee with
    | builtin b => cases b <;> first | rfl | (simp only [yOp]; rw [hp])
    | invoke r m => rfl
    | value f =>
      have h1 : args.toList.map (rd e1) = args.toList.map (rd e2) := List.map_congr_left fun x hx => h x (by simp [Call.operands]; exact .inr (by simpa using hx))
      have h2 : calleeAV e1 f = calleeAV e2 f := by
        have := h f (by simp [Call.operands])
        cases f <;> first | rfl | (simp only [rd] at this; simp only [calleeAV, this])
      simp only [yOp, h1, h2]
  all_goals first | rfl | (simp only [yOp]; rw [hp])

theorem aWant_put {o : Oper} {env : List AV} {d : Option Tmp} {v : AV} (h : ∀ t, d = some t → t ∉ o.looksAt ops) : aWant ops o (putE env d v) = aWant ops o env := by
  cases d with
  | none => rfl
  | some d =>
    unfold aWant
    cases hg : o.guard with
    | none => rfl
    | some gw =>
      obtain ⟨g, want⟩ := gw
      simp only
      cases ht : (ops[g]?).bind (·.dst) with
      | none => rfl
      | some t =>
        have hne : d ≠ t := fun e => h d rfl (by subst e; simp [Oper.looksAt, hg, ht])
        simp only [putE, List.getElem?_set_ne hne]

theorem yStep_put {o : Oper} {env : List AV} {S O : List Blk} {d : Option Tmp} {v : AV} (h : ∀ t, d = some t → t ∉ o.looksAt ops) : yStep P F base ops o (putE env d v) S O = yStep P F base ops o env S O := by
  unfold yStep
  rw [aWant_put h, yOp_congr o (fun x hx => rd_put fun t ht hxt => h t ht (by subst hxt; exact List.mem_append_left _ (List.mem_filterMap.2 ⟨.tmp t, by simpa using hx, rfl⟩))) len_put]

/-! ### Kinds -/
/-- Calls that look at no memory. -/
def Calm (F : Tab) (quiet : FuncId → Bool) : Prop := ∀ f, quiet f = true → ∀ xs S O r, F f xs S O = some r → ∃ v, r = (v, S, O) ∧ ∀ S2 O2, F f xs S2 O2 = some (v, S2, O2)

def cls (quiet : FuncId → Bool) (o : Oper) : Nat :=
  match o.op with
  | .move _ | .assign _ | .pick .. | .nilCheck _ | .fieldAddr .. | .field .. | .index .. | .extract .. | .binOp .. | .unOp .. | .convert .. | .makeFunc .. | .build .. | .slice .. => 0
  | .call { callee := .value (.func f), .. } => if quiet f then 0 else 3
  | .call { callee := .builtin .real, .. } | .call { callee := .builtin .imag, .. } | .call { callee := .builtin .complex, .. } => 0
  | .call { callee := .builtin .len, .. } | .load .. | .indexAddr .. => 1
  | .alloc _ | .box .. | .buildSlice .. => 2
  | .store .. => 3
  | .call { callee := .value _, .. } => 3
  | _ => 4

def free (o : Oper) (env : List AV) (m : Nat) : Prop := ∀ x ∈ o.op.operands.toList, ∀ ow, (rd env x).has ow = true → ow.at m = false

theorem kE {quiet : FuncId → Bool} (hq : Calm F quiet) {o : Oper} (hc : cls quiet o = 0) {env : List AV} {S O : List Blk} {r : AV × List Blk × List Blk} (h : yStep P F base ops o env S O = some r) :
    ∃ v, r = (v, S, O) ∧ ∀ S2 O2, yStep P F base ops o env S2 O2 = some (v, S2, O2) := by
  unfold yStep at *
  split at h
  · cases h
  · injection h with h; exact ⟨_, h.symm, fun _ _ => rfl⟩
  · rename_i hw
    obtain ⟨dst, op, type, pos, after, guard⟩ := o
    cases op <;> simp only [cls] at hc <;> try first | (exact absurd hc (by decide)) | (simp at hc; done)
    case build t parts =>
      simp only [yOp, Option.map_eq_some_iff] at h ⊢
      obtain ⟨v, hv, rfl⟩ := h
      exact ⟨v, rfl, fun _ _ => ⟨v, hv, rfl⟩⟩
    case slice T x lo hi mx =>
      simp only [yOp] at h ⊢
      cases hx : rd env x <;> simp only [hx] at h ⊢
      case s sc =>
        cases sc <;> simp only at h ⊢
        case str =>
          simp only [Option.map_eq_some_iff] at h ⊢
          obtain ⟨v, hv, rfl⟩ := h
          exact ⟨v, rfl, fun _ _ => ⟨v, by rw [← hv]; cases mx <;> rfl, rfl⟩⟩
        all_goals
          split at h
          · cases h
          · simp only [Option.map_eq_some_iff] at h
            obtain ⟨v, hv, rfl⟩ := h
            exact ⟨v, rfl, fun _ _ => by rw [if_neg (by assumption), hv]; rfl⟩
      all_goals first
        | (cases h; done)
        | (split at h
           · cases h
           · simp only [Option.map_eq_some_iff] at h
             obtain ⟨v, hv, rfl⟩ := h
             exact ⟨v, rfl, fun _ _ => by rw [if_neg (by assumption), hv]; rfl⟩)
    case call c =>
      obtain ⟨callee, args, tys⟩ := c
      cases callee with
      | builtin b =>
        cases b <;> simp only at hc <;> try first | (exact absurd hc (by decide)) | (simp at hc; done)
        all_goals
          simp only [yOp, Option.map_eq_some_iff] at h ⊢
          obtain ⟨v, hv, rfl⟩ := h
          refine ⟨v, rfl, fun _ _ => ⟨v, ?_, rfl⟩⟩
          rw [← hv]
          simp only [xPure]
          generalize args.toList = l
          generalize tys.toList = k
          rcases l with _ | ⟨x, _ | ⟨y, _ | ⟨z, l⟩⟩⟩ <;> rcases k with _ | ⟨T, _ | ⟨T', k⟩⟩ <;> rfl
      | invoke r m => first | exact absurd hc (by decide) | (simp at hc; done)
      | value f =>
        cases f <;> simp only at hc <;> try first | (exact absurd hc (by decide)) | (simp at hc; done)
        rename_i f
        split at hc
        rotate_left
        · first | exact absurd hc (by decide) | (simp at hc; done)
        rename_i hqf
        simp only [yOp, calleeAV] at h ⊢
        split at h
        rotate_left
        · cases h
        rename_i hpl
        split at h
        · rename_i hb
          obtain ⟨v, h1, h2⟩ := hq f hqf _ _ _ _ h
          exact ⟨v, h1, fun S2 O2 => by simp only [if_pos hpl, if_pos hb]; exact h2 S2 O2⟩
        · rename_i hb
          split at h
          rotate_left
          · cases h
          rename_i vs hvs
          split at h
          rotate_left
          · cases h
          rename_i v hv
          injection h with h
          exact ⟨_, h.symm, fun S2 O2 => by simp only [if_pos hpl, if_neg hb, hvs, hv]⟩
    case makeFunc f fs cs =>
      simp only [yOp, Option.map_eq_some_iff] at h ⊢
      obtain ⟨v, hv, rfl⟩ := h
      exact ⟨v, rfl, fun _ _ => ⟨v, by rw [← hv]; cases f <;> rfl, rfl⟩⟩
    all_goals
      simp only [yOp, Option.map_eq_some_iff] at h ⊢
      obtain ⟨v, hv, rfl⟩ := h
      exact ⟨v, rfl, fun _ _ => ⟨v, hv, rfl⟩⟩

theorem getB_set {m : Nat} {blk : Blk} {id : Bid} (h : Owner.at m (.box id) = false) : getB (S.set m blk) O id = getB S O id := by
  cases id with
  | o n => rfl
  | s n =>
    have : n ≠ m := by simpa [Owner.at] using h
    simp only [getB, List.getElem?_set_ne (Ne.symm this)]

theorem lenAV_set {m : Nat} {blk : Blk} {T : TypeId} {x : AV} (h : ∀ ow, x.has ow = true → ow.at m = false) : lenAV P (S.set m blk) T x = lenAV P S T x := by
  cases x with
  | r n =>
    have hne : n ≠ m := by simpa [Owner.at] using h (.row n) (by simp [AV.has])
    have e : (S.set m blk)[n]? = S[n]? := List.getElem?_set_ne (Ne.symm hne)
    unfold lenAV
    cases P.underlying T with | none => rfl | some t => cases t <;> first | rfl | (simp only [e]; done)
  | s sc => unfold lenAV; cases sc <;> (cases P.underlying T with | none => rfl | some t => cases t <;> rfl)
  | _ => unfold lenAV; cases P.underlying T with | none => rfl | some t => cases t <;> rfl

theorem kR {quiet : FuncId → Bool} {o : Oper} (hc : cls quiet o = 1) (env : List AV) (S O : List Blk) :
    ∃ q : Option AV, yStep P F base ops o env S O = q.map (·, S, O) ∧ ∀ m blk, free o env m → yStep P F base ops o env (S.set m blk) O = q.map (·, S.set m blk, O) := by
  unfold yStep
  cases hw : aWant ops o env with
  | none => exact ⟨none, rfl, fun _ _ _ => rfl⟩
  | some b =>
    cases b with
    | false => exact ⟨some (.t []), rfl, fun _ _ _ => rfl⟩
    | true =>
      simp only
      obtain ⟨dst, op, type, pos, after, guard⟩ := o
      cases op <;> simp only [cls] at hc <;> try first | (exact absurd hc (by decide)) | (simp at hc; done)
      case load T x =>
        refine ⟨_, rfl, fun m blk hf => ?_⟩
        simp only [yOp]
        congr 1
        have := hf x (by simp [Op.operands])
        simp only [xPure]
        cases hx : rd env x <;> try rfl
        rename_i id off
        rw [hx] at this
        simp only [getB_set (this (.box id) (by simp [AV.has]))]
      case indexAddr T x i =>
        refine ⟨_, rfl, fun m blk hf => ?_⟩
        simp only [yOp]
        congr 1
        have := hf x (by simp [Op.operands])
        simp only [xPure]
        cases hx : rd env x <;> try rfl
        rename_i n
        rw [hx] at this
        have hne : n ≠ m := by simpa [Owner.at] using this (.row n) (by simp [AV.has])
        simp only [List.getElem?_set_ne (Ne.symm hne)]
      case call c =>
        obtain ⟨callee, args, tys⟩ := c
        cases callee with
        | builtin b =>
          cases b <;> simp only at hc <;> try first | (exact absurd hc (by decide)) | (simp at hc; done)
          refine ⟨_, rfl, fun m blk hf => ?_⟩
          simp only [yOp]
          congr 1
          simp only [xPure]
          have hf' : ∀ x ∈ args.toList, ∀ ow, (rd env x).has ow = true → ow.at m = false := fun x hx => hf x (by simp [Op.operands, Call.operands]; simpa using hx)
          generalize args.toList = l at hf' ⊢
          rcases l with _ | ⟨x, _ | ⟨y, l⟩⟩ <;> try rfl
          generalize tys.toList = k
          rcases k with _ | ⟨T, _ | ⟨y, k⟩⟩ <;> try rfl
          exact lenAV_set (hf' x (by simp))
        | invoke r m => first | exact absurd hc (by decide) | (simp at hc; done)
        | value f =>
          cases f <;> simp only at hc <;> try first | (exact absurd hc (by decide)) | (simp at hc; done)
          split at hc <;> first | exact absurd hc (by decide) | (simp at hc; done)

theorem kI {quiet : FuncId → Bool} {o : Oper} (hc : cls quiet o = 2) {env : List AV} {S O : List Blk} {r : AV × List Blk × List Blk} (h : yStep P F base ops o env S O = some r) :
    (∃ v, r = (v, S, O) ∧ ∀ S2 O2, yStep P F base ops o env S2 O2 = some (v, S2, O2)) ∨
    (∃ d v blk, o.dst = some d ∧ S[base + d]? = some .dead ∧ r = (v, S.set (base + d) blk, O) ∧ ∀ S2 O2, S2[base + d]? = some .dead → yStep P F base ops o env S2 O2 = some (v, S2.set (base + d) blk, O2)) := by
  unfold yStep at *
  split at h
  · cases h
  · injection h with h; exact .inl ⟨_, h.symm, fun _ _ => rfl⟩
  · rename_i hw
    refine .inr ?_
    obtain ⟨dst, op, type, pos, after, guard⟩ := o
    cases op <;> simp only [cls] at hc <;> try first | (exact absurd hc (by decide)) | (simp at hc; done)
    case alloc T =>
      simp only [yOp] at h ⊢
      split at h
      rotate_left
      · cases h
      rename_i d z hz
      split at h
      rotate_left
      · cases h
      rename_i hlt
      split at h
      rotate_left
      · cases h
      rename_i hS
      injection h with h
      exact ⟨d, _, _, rfl, hS, h.symm, fun S2 O2 hd => by simp only [hz, if_pos hlt, hd]⟩
    case buildSlice t len parts =>
      simp only [yOp] at h ⊢
      split at h
      rotate_left
      · cases h
      rename_i d z hz
      split at h
      rotate_left
      · cases h
      rename_i hlt
      split at h
      rotate_left
      · cases h
      rename_i hS
      injection h with h
      exact ⟨d, _, _, rfl, hS, h.symm, fun S2 O2 hd => by simp only [hz, if_pos hlt, hd]⟩
    case box T x =>
      simp only [yOp] at h ⊢
      split at h
      rotate_left
      · cases h
      rename_i d z hz
      split at h
      rotate_left
      · cases h
      rename_i hlt
      split at h
      rotate_left
      · cases h
      rename_i hS
      injection h with h
      exact ⟨d, _, _, rfl, hS, h.symm, fun S2 O2 hd => by simp only [hz, if_pos hlt, hd]⟩
    case call c =>
      obtain ⟨callee, args, tys⟩ := c
      cases callee with
      | builtin b => cases b <;> simp only at hc <;> first | exact absurd hc (by decide) | (simp at hc; done)
      | invoke r m => first | exact absurd hc (by decide) | (simp at hc; done)
      | value f =>
        cases f <;> simp only at hc <;> try first | (exact absurd hc (by decide)) | (simp at hc; done)
        split at hc <;> first | exact absurd hc (by decide) | (simp at hc; done)
end
end Go.Am
