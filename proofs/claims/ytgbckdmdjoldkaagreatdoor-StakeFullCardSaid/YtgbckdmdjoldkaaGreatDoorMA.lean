import Derived.WalkKit
import Derived.Laws.Cells
import Derived.Laws.Entries
import Derived.Laws.CopyRow
import Derived.Maps.AppendAt
import Derived.Laws.Tables
import Derived.Great.BuildSlice
import Derived.Laws.MakeOwn
set_option linter.unusedSimpArgs false
set_option linter.unusedVariables false
/-
  AN ABSTRACT MACHINE FOR GO FUNCTIONS THAT USE MEMORY WITH OWNERS: the values, and how they stand to the model's.
  Over any program. Lists are values (memory that nobody writes any more), boxes have names (a frame's place, or an object's number), rows that are still appended to have one owner.
-/
namespace Go.Am
open Go

/-- Plain values of one cell. -/
inductive Sc
  | b (x : Bool) | i (k : IntKind) (n : Int) | fl (k : FloatKind) (n : Nat) | cx (k : FloatKind) (re im : Nat) | str (x : ByteArray) | pn | sn | fz
  deriving DecidableEq

def Sc.val : Sc → Value
  | .b x => .bool x
  | .i k n => .int k n
  | .fl k n => .float k n
  | .cx k re im => .complex k re im
  | .str x => .string x
  | .pn => .pointer none
  | .sn => .slice none 0 0
  | .fz => .nilFunc

/-- The name of a box: a place of a frame, or an object. -/
inductive Bid
  | s (n : Nat) | o (n : Nat)
  deriving DecidableEq

inductive AV
  | u | s (x : Sc) | l (n : Nat) (cs : List AV) | e (cs : List AV) | p (id : Bid) (off : Nat) | r (m : Nat)
  | f (fn : FuncId) (fs cs : List AV) | a (cs : List AV) | t (vs : List AV) | w (e sz n : Nat) (cs : List AV)

/-- Who may write to a block. -/
inductive Owner
  | box (id : Bid) | row (m : Nat) | cell (id : Bid) (off : Nat) | ext (b : Nat)
  deriving DecidableEq

abbrev Ghost := Nat → Option Owner

inductive Blk
  | dead | box (T : TypeId) (cs : List AV) | row (e sz n : Nat) (cs : List AV)

/-- What may lie in a list: nothing that names a box or a row. -/
def AV.data : AV → Bool
  | .s _ | .l .. => true
  | _ => false

mutual
def AV.has (o : Owner) : AV → Bool
  | .p id _ => decide (o = .box id)
  | .r m => decide (o = .row m)
  | .f _ fs cs => AV.hasL o fs || AV.hasL o cs
  | .a cs => AV.hasL o cs
  | .t cs => AV.hasL o cs
  | _ => false
def AV.hasL (o : Owner) : List AV → Bool
  | [] => false
  | x :: xs => AV.has o x || AV.hasL o xs
end

/-- The cells from a on hold vs, and nobody writes them. -/
def Stable (w : World) (G : Ghost) (a : Addr) (vs : List Value) : Prop :=
  a.block < w.heap.size ∧ G a.block = none ∧ a.spot = none ∧ ∀ (j : Nat) (y : Value), vs[j]? = some y → w.cell? (a.add j) = some y

/-- A row's header: nil, or a block of its own, whose first cells are vs. -/
def Hdr (w : World) (G : Ghost) (o : Owner) (e sz n : Nat) (vs : List Value) (v : Value) : Prop :=
  vs.length = n * sz ∧ 0 < sz ∧
  ((v = .slice none 0 0 ∧ n = 0) ∨
   ∃ b cap cur, v = .slice (some ⟨b, 0, none⟩) n cap ∧ G b = some o ∧ w.heap[b]? = some (.cells cur e (0, 0)) ∧ n ≤ cap ∧ cap ≤ maxLen ∧ cur.size = cap * sz ∧ cur.toList.take (n * sz) = vs)

mutual
inductive CR (w : World) (G : Ghost) (S : List Blk) : AV → Value → Prop
  | u (v : Value) : CR w G S .u v
  | s (x : Sc) : CR w G S (.s x) x.val
  | l (n : Nat) (cs : List AV) (A : Option Addr) (c : Nat) (vs : List Value) : CRs w G S cs vs → n ≤ c → c ≤ maxLen → (∀ x ∈ cs, x.data = true) → (n ≠ 0 → ∃ a, A = some a ∧ Stable w G a vs) → (n = 0 → cs = []) →
      CR w G S (.l n cs) (.slice A n c)
  | e (cs : List AV) (a : Addr) (vs : List Value) : CRs w G S cs vs → (∀ x ∈ cs, x.data = true) → Stable w G a vs → CR w G S (.e cs) (.pointer (some a))
  | p (id : Bid) (off b : Nat) : G b = some (.box id) → CR w G S (.p id off) (.pointer (some ⟨b, off, none⟩))
  | r (m e sz n : Nat) (cs : List AV) (vs : List Value) (v : Value) : S[m]? = some (.row e sz n cs) → Hdr w G (.box (.s m)) e sz n vs v → CRs w G S cs vs → (∀ x ∈ cs, x.data = true) → CR w G S (.r m) v
  | f (fn : FuncId) (fs cs : List AV) (vf vc : List Value) : CRs w G S fs vf → CRs w G S cs vc → CR w G S (.f fn fs cs) (.func (.func fn) vf.toArray vc.toArray)
  | a (cs : List AV) (vs : List Value) : CRs w G S cs vs → CR w G S (.a cs) (.agg vs.toArray)
  | t (cs : List AV) (vs : List Value) : CRs w G S cs vs → CR w G S (.t cs) (.tuple vs.toArray)
inductive CRs (w : World) (G : Ghost) (S : List Blk) : List AV → List Value → Prop
  | nil : CRs w G S [] []
  | cons (x : AV) (v : Value) (xs : List AV) (vs : List Value) : CR w G S x v → CRs w G S xs vs → CRs w G S (x :: xs) (v :: vs)
end

section
variable {w w' : World} {G G' : Ghost} {S S' : List Blk}

theorem CRs.length {xs : List AV} {vs : List Value} (h : CRs w G S xs vs) : xs.length = vs.length := by
  induction xs generalizing vs with
  | nil => cases h; rfl
  | cons x xs ih => cases h with | cons _ v _ vs h1 h2 => simp [ih h2]

theorem CRs.get {xs : List AV} {vs : List Value} (h : CRs w G S xs vs) {j : Nat} {x : AV} (hx : xs[j]? = some x) : ∃ v, vs[j]? = some v ∧ CR w G S x v := by
  induction xs generalizing vs j with
  | nil => simp at hx
  | cons y xs ih =>
    cases h with
    | cons _ v _ vs h1 h2 =>
      cases j with
      | zero => simp at hx; subst hx; exact ⟨v, rfl, h1⟩
      | succ j => simp at hx; simpa using ih h2 hx

theorem CRs.of {xs : List AV} {vs : List Value} (hl : xs.length = vs.length) (h : ∀ (j : Nat) (x : AV) (v : Value), xs[j]? = some x → vs[j]? = some v → CR w G S x v) : CRs w G S xs vs := by
  induction xs generalizing vs with
  | nil => cases vs <;> simp at hl; exact .nil
  | cons x xs ih =>
    cases vs with
    | nil => simp at hl
    | cons v vs =>
      exact .cons _ _ _ _ (h 0 x v rfl rfl) (ih (by simpa using hl) fun j y u hy hu => h (j + 1) y u (by simpa using hy) (by simpa using hu))

theorem CRs.get' {xs : List AV} {vs : List Value} (h : CRs w G S xs vs) {j : Nat} {x : AV} {v : Value} (hx : xs[j]? = some x) (hv : vs[j]? = some v) : CR w G S x v := by
  obtain ⟨v', h1, h2⟩ := h.get hx
  rw [hv] at h1; injection h1 with h1; subst h1; exact h2

theorem CRs.take {xs : List AV} {vs : List Value} (h : CRs w G S xs vs) (n : Nat) : CRs w G S (xs.take n) (vs.take n) := by
  refine .of (by simp [h.length]) fun j x v hx hv => ?_
  rw [List.getElem?_take] at hx hv
  split at hx
  · rename_i hj; rw [if_pos hj] at hv; exact h.get' hx hv
  · simp at hx

theorem CRs.drop {xs : List AV} {vs : List Value} (h : CRs w G S xs vs) (n : Nat) : CRs w G S (xs.drop n) (vs.drop n) := by
  refine .of (by simp [h.length]) fun j x v hx hv => ?_
  rw [List.getElem?_drop] at hx hv
  exact h.get' hx hv

theorem CRs.append {xs ys : List AV} {vs us : List Value} (h : CRs w G S xs vs) (k : CRs w G S ys us) : CRs w G S (xs ++ ys) (vs ++ us) := by
  induction xs generalizing vs with
  | nil => cases h; exact k
  | cons x xs ih => cases h with | cons _ v _ vs h1 h2 => exact .cons _ _ _ _ h1 (ih h2)

theorem CRs.set {xs : List AV} {vs : List Value} (h : CRs w G S xs vs) (n : Nat) {x : AV} {v : Value} (hx : CR w G S x v) : CRs w G S (xs.set n x) (vs.set n v) := by
  refine .of (by simp [h.length]) fun j y u hy hu => ?_
  have hl := h.length
  rw [List.getElem?_set] at hy hu
  split at hy
  · rename_i hj
    rw [if_pos hj] at hu
    split at hy
    · split at hu
      · simp at hy hu; subst hy hu; exact hx
      · simp at hu
    · simp at hy
  · rename_i hj; rw [if_neg hj] at hu; exact h.get' hy hu

theorem CRs.replicate_u (n : Nat) (vs : List Value) (hl : vs.length = n) : CRs w G S (List.replicate n .u) vs :=
  .of (by simp [hl]) fun j x v hx hv => by
    rw [List.getElem?_replicate] at hx
    split at hx <;> simp at hx
    subst hx; exact .u v

/-- Nobody's, or somebody's whom this call does not know: such a block keeps as it is. -/
def idle : Option Owner → Bool
  | none => true
  | some (.ext _) => true
  | _ => false

/-- What is kept from one world to another: blocks that nobody owns; and, of an owner that is named, its block (and a row's content). -/
structure Keep (w : World) (G : Ghost) (S : List Blk) (w' : World) (G' : Ghost) (S' : List Blk) (K : Owner → Prop) : Prop where
  free : ∀ b, b < w.heap.size → idle (G b) = true → w'.heap[b]? = w.heap[b]? ∧ G' b = G b
  size : w.heap.size ≤ w'.heap.size
  own : ∀ o, K o → ∀ b, G b = some o → G' b = some o
  row : ∀ m, K (.row m) → ∀ (e sz n : Nat) (cs : List AV), S[m]? = some (.row e sz n cs) → S'[m]? = some (.row e sz n cs) ∧ ∀ b, G b = some (.box (.s m)) → G' b = some (.box (.s m)) ∧ w'.heap[b]? = w.heap[b]?

theorem cell?_of_heap {b : Nat} (h : w'.heap[b]? = w.heap[b]?) (j : Nat) (s : Option Nat) : w'.cell? ⟨b, j, s⟩ = w.cell? ⟨b, j, s⟩ := by
  unfold World.cell?; simp only [h]

theorem add_block (a : Addr) (n : Nat) : (a.add n).block = a.block := by unfold Addr.add; split <;> rfl
theorem add_spot {a : Addr} (h : a.spot = none) (n : Nat) : (a.add n).spot = none := by unfold Addr.add; split <;> simp [h]
theorem add_off (a : Addr) (n : Nat) : (a.add n).off = a.off + n := by unfold Addr.add; split <;> simp_all
theorem add_eq {a : Addr} (h : a.spot = none) (n : Nat) : a.add n = ⟨a.block, a.off + n, none⟩ := by
  have h1 := add_block a n; have h2 := add_spot h n; have h3 := add_off a n
  cases hh : a.add n; simp_all

theorem Stable.keep {K : Owner → Prop} (k : Keep w G S w' G' S' K) {a : Addr} {vs : List Value} (h : Stable w G a vs) : Stable w' G' a vs := by
  obtain ⟨h1, h2, h3, h4⟩ := h
  obtain ⟨k1, k2⟩ := k.free _ h1 (by rw [h2]; rfl)
  rw [h2] at k2
  refine ⟨Nat.lt_of_lt_of_le h1 k.size, k2, h3, fun j y hy => ?_⟩
  have := h4 j y hy
  rw [add_eq h3] at this ⊢
  rw [cell?_of_heap k1]; exact this

theorem Hdr.keep {m e sz n : Nat} {vs : List Value} {v : Value} (hk : ∀ b, G b = some (.box (.s m)) → G' b = some (.box (.s m)) ∧ w'.heap[b]? = w.heap[b]?) (h : Hdr w G (.box (.s m)) e sz n vs v) : Hdr w' G' (.box (.s m)) e sz n vs v := by
  obtain ⟨h1, h0, h2⟩ := h
  refine ⟨h1, h0, ?_⟩
  rcases h2 with h2 | ⟨b, cap, cur, hv, hg, hh, hrest⟩
  · exact .inl h2
  · exact .inr ⟨b, cap, cur, hv, (hk b hg).1, ((hk b hg).2).trans hh, hrest⟩

theorem hasL_data {cs : List AV} (hd : ∀ x ∈ cs, x.data = true) (o : Owner) : AV.hasL o cs = false := by
  induction cs with
  | nil => rfl
  | cons x cs ih =>
    have h1 := hd x (by simp)
    have h2 := ih fun y hy => hd y (by simp [hy])
    cases x <;> simp_all [AV.hasL, AV.has, AV.data]

theorem has_data {cs : List AV} (hd : ∀ x ∈ cs, x.data = true) (K : Owner → Prop) : ∀ o, AV.hasL o cs = true → K o := fun o ho => by
  rw [hasL_data hd o] at ho; cases ho

mutual
theorem CR.keep {K : Owner → Prop} (k : Keep w G S w' G' S' K) {x : AV} {v : Value} (h : CR w G S x v) (hk : ∀ o, x.has o = true → K o) : CR w' G' S' x v :=
  match x, v, h, hk with
  | _, _, .u v, _ => .u v
  | _, _, .s x, _ => .s x
  | _, _, .l n cs A c vs h hc hm hd hs hn, _ =>
    .l n cs A c vs (CRs.keep k h (has_data hd K)) hc hm hd (fun h0 => let ⟨a, ha, hst⟩ := hs h0; ⟨a, ha, hst.keep k⟩) hn
  | _, _, .e cs a vs h hd hs, _ => .e cs a vs (CRs.keep k h (has_data hd K)) hd (hs.keep k)
  | _, _, .p id off b h, hk => .p id off b (k.own _ (hk _ (by simp [AV.has])) _ h)
  | _, _, .r m e sz n cs vs v hS hh h hd, hk => .r m e sz n cs vs v (k.row m (hk _ (by simp [AV.has])) _ _ _ _ hS).1 (hh.keep (k.row m (hk _ (by simp [AV.has])) _ _ _ _ hS).2) (CRs.keep k h (has_data hd K)) hd
  | _, _, .f fn fs cs vf vc h1 h2, hk => .f fn fs cs vf vc (CRs.keep k h1 (fun o ho => hk o (by simp [AV.has, ho]))) (CRs.keep k h2 (fun o ho => hk o (by simp [AV.has, ho])))
  | _, _, .a cs vs h, hk => .a cs vs (CRs.keep k h (fun o ho => hk o (by simp [AV.has, ho])))
  | _, _, .t cs vs h, hk => .t cs vs (CRs.keep k h (fun o ho => hk o (by simp [AV.has, ho])))
theorem CRs.keep {K : Owner → Prop} (k : Keep w G S w' G' S' K) {xs : List AV} {vs : List Value} (h : CRs w G S xs vs) (hk : ∀ o, AV.hasL o xs = true → K o) : CRs w' G' S' xs vs :=
  match xs, vs, h, hk with
  | _, _, .nil, _ => .nil
  | _, _, .cons x v xs vs h1 h2, hk => .cons x v xs vs (CR.keep k h1 (fun o ho => hk o (by simp [AV.hasL, ho]))) (CRs.keep k h2 (fun o ho => hk o (by simp [AV.hasL, ho])))
end
end
end Go.Am
/-
  THE ABSTRACT MACHINE: its state, and the operations that change nothing.
-/
namespace Go.Am
open Go

/-- A computation that touches no memory, evaluated. -/
def evalPure (P : Program) {α : Type} : Sem α → Option α
  | .pure a => some a
  | .program k => evalPure P (k P)
  | .mark _ k => evalPure P k
  | _ => none

theorem evalPure_run {P : Program} {α : Type} {s : Sem α} {x : α} (h : evalPure P s = some x) (w : World) : s.run P w = .ok x w := by
  induction s with
  | pure a => simp only [evalPure, Option.some.injEq] at h; subst h; rfl
  | program k ih => simp only [evalPure] at h; simp only [Sem.run]; exact ih P h
  | mark m k ih => simp only [evalPure] at h; simp only [Sem.run]; exact ih h
  | _ => simp [evalPure] at h

/-- The state: a frame's slots; the places of all frames; the objects. -/
structure St where
  env : List AV
  S : List Blk
  O : List Blk

def getB (S O : List Blk) : Bid → Option Blk
  | .s n => S[n]?
  | .o n => O[n]?

def ofC : Value → AV
  | .bool x => .s (.b x)
  | .int k n => .s (.i k n)
  | .float k n => .s (.fl k n)
  | .complex k re im => .s (.cx k re im)
  | .string x => .s (.str x)
  | .pointer none => .s .pn
  | .slice none 0 0 => .s .sn
  | .nilFunc => .s .fz
  | _ => .u

def ofV : Value → AV
  | .agg cs => .a (cs.toList.map ofC)
  | .tuple cs => .t (cs.toList.map ofC)
  | v => ofC v

section
variable {w : World} {G : Ghost} {S O : List Blk}
theorem CR_ofC (v : Value) : CR w G S (ofC v) v := by
  unfold ofC
  split <;> first | exact .s (.b _) | exact .s (.i _ _) | exact .s (.fl _ _) | exact .s (.cx _ _ _) | exact .s (.str _) | exact .s .pn | exact .s .sn | exact .s .fz | exact .u _
theorem CRs_ofC (vs : List Value) : CRs w G S (vs.map ofC) vs := by
  induction vs with
  | nil => exact .nil
  | cons v vs ih => exact .cons _ _ _ _ (CR_ofC v) ih
theorem CR_ofV (v : Value) : CR w G S (ofV v) v := by
  unfold ofV
  split
  · exact .a _ _ (CRs_ofC _)
  · exact .t _ _ (CRs_ofC _)
  · exact CR_ofC _
end

def toSc : List AV → Option (List Value)
  | [] => some []
  | .s x :: xs => (toSc xs).map (x.val :: ·)
  | _ => none

def toV : AV → Option Value
  | .s x => some x.val
  | .a cs => (toSc cs).map fun l => .agg l.toArray
  | _ => none

section
variable {w : World} {G : Ghost} {S O : List Blk}
theorem toSc_CR {xs : List AV} {l vs : List Value} (h : toSc xs = some l) (hc : CRs w G S xs vs) : vs = l := by
  induction xs generalizing l vs with
  | nil => cases hc; simp [toSc] at h; exact h.symm
  | cons x xs ih =>
    cases hc with
    | cons _ v _ vs h1 h2 =>
      cases x <;> simp only [toSc, Option.map_eq_some_iff, reduceCtorEq] at h
      obtain ⟨l', hl, rfl⟩ := h
      cases h1
      rw [ih hl h2]
theorem toV_CR {x : AV} {v v' : Value} (h : toV x = some v) (hc : CR w G S x v') : v' = v := by
  cases x <;> simp only [toV, Option.some.injEq, Option.map_eq_some_iff, reduceCtorEq] at h
  · subst h; cases hc; rfl
  · obtain ⟨l, hl, rfl⟩ := h
    cases hc with | a cs vs hcs => rw [toSc_CR hl hcs]
end

def szO (P : Program) (T : TypeId) : Option Nat := (P.info? T).map (·.size)
def aggO (P : Program) (T : TypeId) : Option Bool :=
  match P.underlying T with
  | some (.struct _) | some (.array ..) => some true
  | some _ => some false
  | none => none

theorem run_szO {P : Program} {T : TypeId} {n : Nat} (h : szO P T = some n) (w : World) : (sizeOf T).run P w = .ok n w := by
  unfold szO at h
  simp only [Option.map_eq_some_iff] at h
  obtain ⟨i, hi, rfl⟩ := h
  simp [sizeOf, typeInfo, hi]

theorem run_aggO {P : Program} {T : TypeId} {b : Bool} (h : aggO P T = some b) (w : World) : (isAgg T).run P w = .ok b w := by
  unfold aggO at h
  split at h
  · rename_i fs hu; simp at h; subst h; simp [isAgg, run_underlying hu]
  · rename_i n e hu; simp at h; subst h; simp [isAgg, run_underlying hu]
  · rename_i d h1 h2 hu
    simp at h; subst h
    simp only [isAgg, Sem.run_bind, run_underlying hu, Result.andThen_ok]
    rfl
  · cases h

/-- A part of some cells, as a value of a type. -/
def partAV (P : Program) (T : TypeId) (cs : List AV) (off : Nat) : Option AV :=
  match aggO P T, szO P T with
  | some true, some n => if off + n ≤ cs.length then some (.a ((cs.drop off).take n)) else none
  | some false, some _ => cs[off]?
  | _, _ => none

section
variable {P : Program} {w : World} {G : Ghost} {S O : List Blk}
theorem partAV_sound {T : TypeId} {cs : List AV} {vs : List Value} {off : Nat} {x : AV} (h : partAV P T cs off = some x) (hc : CRs w G S cs vs) :
    ∃ v, (part T vs.toArray off).run P w = .ok v w ∧ CR w G S x v := by
  unfold partAV at h
  split at h
  · rename_i n ha hs
    split at h <;> simp at h
    subst h
    rename_i hle
    refine ⟨.agg (vs.toArray.extract off (off + n)), by simp [part, run_aggO ha, run_szO hs], ?_⟩
    have := (CR.a _ _ ((hc.drop off).take n) : CR w G S _ _)
    have e : (vs.toArray.extract off (off + n)) = ((vs.drop off).take n).toArray := by
      rw [List.extract_toArray, List.extract_eq_take_drop]
      congr 2
      omega
    rw [e]; exact this
  · rename_i n ha hs
    obtain ⟨v, hv, hcr⟩ := hc.get h
    refine ⟨v, ?_, hcr⟩
    simp [part, run_aggO ha, hv]
  · cases h

theorem run_loadVar_AV {T : TypeId} {a : Addr} {cs : List AV} {vs : List Value} {x : AV} (h : partAV P T cs 0 = some x) (hc : CRs w G S cs vs)
    (hm : ∀ j y, vs[j]? = some y → w.cell? (a.add j) = some y) : ∃ v, (loadVar T a).run P w = .ok v w ∧ CR w G S x v := by
  unfold partAV at h
  split at h
  · rename_i n ha hs
    split at h <;> simp at h
    subst h
    rename_i hle
    have hl : (vs.take n).length = n := by have := hc.length; simp; omega
    have h1 := run_loadCells_list (P := P) (w := w) a (vs.take n) (fun j v hv => hm j v (by
      rw [List.getElem?_take] at hv; split at hv <;> simp_all))
    rw [hl] at h1
    refine ⟨.agg (vs.take n).toArray, by simp [loadVar, run_aggO ha, run_szO hs, h1], .a _ _ (hc.take n)⟩
  · rename_i n ha hs
    obtain ⟨v, hv, hcr⟩ := hc.get h
    refine ⟨v, ?_, hcr⟩
    have := hm 0 v hv
    have e : a.add 0 = a := by simp [Addr.add]
    rw [e] at this
    simp [loadVar, run_aggO ha, this]
  · cases h
end
end Go.Am
/-
  THE ABSTRACT MACHINE: operations that change nothing, and that they are sound.
-/
namespace Go.Am
open Go

def rd (env : List AV) : Operand → AV
  | .tmp t => env.getD t .u
  | .const v => ofV v
  | .global _ => .u
  | .func f => .f f [] []

def strip : AV → AV
  | .w .. => .u
  | x => x

def fieldO (P : Program) (T : TypeId) (f : Nat) : Option Field :=
  match P.underlying T with
  | some (.struct fs) => fs[f]?
  | _ => none

/-- The index of an array's or a slice's element, and its size. -/
def arrO (P : Program) (T : TypeId) : Option (Nat × TypeId) :=
  match P.underlying T with
  | some (.array n e) => some (n, e)
  | _ => none
def sliceO (P : Program) (T : TypeId) : Option TypeId :=
  match P.underlying T with
  | some (.slice e) => some e
  | _ => none

def idx (x : AV) (n : Nat) : Option Nat :=
  match x with
  | .s (.i _ i) => if 0 ≤ i ∧ i < n then some i.toNat else none
  | _ => none

/-- Two numbers. -/
def intBin (op : BinOp) (k : IntKind) (a b : Int) : Option Sc :=
  match op with
  | .add => some (.i k (k.wrap (a + b)))
  | .sub => some (.i k (k.wrap (a - b)))
  | .mul => some (.i k (k.wrap (a * b)))
  | .quo => if b = 0 then none else some (.i k (k.wrap (a.tdiv b)))
  | .rem => if b = 0 then none else some (.i k (a.tmod b))
  | .and => some (.i k (k.wrap (BitVec.ofInt k.bits a &&& BitVec.ofInt k.bits b).toNat))
  | .or => some (.i k (k.wrap (BitVec.ofInt k.bits a ||| BitVec.ofInt k.bits b).toNat))
  | .xor => some (.i k (k.wrap (BitVec.ofInt k.bits a ^^^ BitVec.ofInt k.bits b).toNat))
  | .andNot => some (.i k (k.wrap (BitVec.ofInt k.bits a &&& ~~~(BitVec.ofInt k.bits b)).toNat))
  | .eql => some (.b (a == b))
  | .neq => some (.b (a != b))
  | .lss => some (.b (a < b))
  | .leq => some (.b (a ≤ b))
  | .gtr => some (.b (a > b))
  | .geq => some (.b (a ≥ b))
  | _ => none

def shiftBin (op : BinOp) (k : IntKind) (a b : Int) : Option Sc :=
  if b < 0 then none else
  match op with
  | .shl => some (.i k (k.wrap (a * 2 ^ (min b.toNat k.bits))))
  | .shr => some (.i k (a.fdiv (2 ^ (min b.toNat k.bits))))
  | _ => none

def isShift : BinOp → Bool
  | .shl | .shr => true
  | _ => false

def scVal (P : Program) (s : Sem Value) : Option AV := (evalPure P s).map ofV

def binAV (P : Program) (op : BinOp) (T : TypeId) (x y : Operand) (a b : AV) : Option AV :=
  match a, b with
  | .s (.i k m), .s (.i k' n) =>
    if isShift op then (shiftBin op k m n).map .s
    else if k = k' then (intBin op k m n).map .s else none
  | .p _ _, .s .pn =>
    match P.underlying T, op with
    | some (.pointer _), .eql => some (.s (.b false))
    | some (.pointer _), .neq => some (.s (.b true))
    | _, _ => none
  | _, _ =>
    match toV a, toV b with
    | some v, some u => scVal P (do eqGuard op T x y v u; binOp op T v u)
    | _, _ => none

def lenAV (P : Program) (S : List Blk) (T : TypeId) (x : AV) : Option AV :=
  match P.underlying T, x with
  | some (.slice _), .s .sn => some (.s (.i .i64 0))
  | some (.slice _), .l n _ => some (.s (.i .i64 n))
  | some (.slice _), .r m => match S[m]? with | some (.row _ _ n _) => some (.s (.i .i64 n)) | _ => none
  | some .string, .s (.str s) => some (.s (.i .i64 s.size))
  | some (.array n _), _ => some (.s (.i .i64 n))
  | _, _ => none

/-- The operations that change nothing. -/
def xPure (P : Program) (st : St) (o : Oper) : Option AV :=
  match o.op with
  | .move x | .assign x => some (rd st.env x)
  | .pick c a b => match rd st.env c with | .s (.b t) => some (if t then rd st.env a else rd st.env b) | _ => none
  | .nilCheck x => match rd st.env x with | .p id off => some (.p id off) | .e cs => some (.e cs) | .f fn fs cs => some (.f fn fs cs) | _ => none
  | .load T x =>
    match rd st.env x with
    | .p id off => match getB st.S st.O id with | some (.box _ cs) => partAV P T ((cs.map strip).drop off) 0 | some (.row _ _ _ cs) => partAV P T (cs.drop off) 0 | _ => none
    | .e cs => partAV P T cs 0
    | _ => none
  | .fieldAddr T x f =>
    match fieldO P T f with
    | some fd => match szO P fd.type with
      | some (_ + 1) => match rd st.env x with
        | .p id off => some (.p id (off + fd.offset))
        | .e cs => some (.e (cs.drop fd.offset))
        | _ => none
      | _ => none
    | none => none
  | .field T x f =>
    match fieldO P T f, rd st.env x with
    | some fd, .a cs => partAV P fd.type cs fd.offset
    | _, _ => none
  | .indexAddr T x i =>
    match rd st.env x with
    | .p id off => match arrO P T with
      | some (n, e) => match szO P e, idx (rd st.env i) n with | some sz, some j => some (.p id (off + j * sz)) | _, _ => none
      | none => none
    | .e cs => match arrO P T with
      | some (n, e) => match szO P e, idx (rd st.env i) n with | some sz, some j => some (.e (cs.drop (j * sz))) | _, _ => none
      | none => none
    | .l n cs => match sliceO P T with
      | some e => match szO P e, idx (rd st.env i) n with | some sz, some j => some (.e (cs.drop (j * sz))) | _, _ => none
      | none => none
    | .r m => match st.S[m]?, sliceO P T with
      | some (.row _ _ n _), some e => match szO P e, idx (rd st.env i) n with | some sz, some j => some (.p (.s m) (j * sz)) | _, _ => none
      | _, _ => none
    | _ => none
  | .index T x i =>
    match rd st.env x with
    | .a cs => match arrO P T with
      | some (n, e) => match szO P e, idx (rd st.env i) n with | some sz, some j => partAV P e cs (j * sz) | _, _ => none
      | none => none
    | .s (.str s) => match toV (rd st.env i) with | some v => scVal P (Instr.index T (.string s) v) | none => none
    | _ => none
  | .extract x k => match rd st.env x with | .t vs => vs[k]? | _ => none
  | .binOp op T x y _ => binAV P op T x y (rd st.env x) (rd st.env y)
  | .unOp op _ x => match rd st.env x with
    | .s (.b t) => match op with | .not => some (.s (.b !t)) | _ => none
    | x => match toV x with | some v => scVal P (Op.unary op v) | none => none
  | .convert T T' x => match rd st.env x with
    | .s (.i k n) => match P.underlying T, P.underlying T' with
      | some (.int _), some (.int k') => some (.s (.i k' (k'.wrap n)))
      | _, _ => scVal P (convert T T' (.int k n))
    | x => match toV x with | some v => scVal P (convert T T' v) | none => none
  | .makeFunc (.func f) fs cs => some (.f f (fs.toList.map (rd st.env)) (cs.toList.map (rd st.env)))
  | .slice T x lo hi none =>
    match rd st.env x with
    | .s (.str s) => match (lo.map fun y => toV (rd st.env y)), (hi.map fun y => toV (rd st.env y)) with
      | some none, _ => none
      | _, some none => none
      | lo', hi' => scVal P (Instr.sliceAt T (.string s) (lo'.bind id) (hi'.bind id) none)
    | _ => none
  | .call { callee := .builtin b, args, argTypes } =>
    match b, args.toList, argTypes.toList with
    | .len, [x], [T] => lenAV P st.S T (rd st.env x)
    | .append, _, _ | .copy, _, _ | .clear, _, _ | .panic, _, _ | .recover, _, _ => none
    | .real, [x], _ => match rd st.env x with | .s (.cx k re _) => some (.s (.fl k re)) | _ => none
    | .imag, [x], _ => match rd st.env x with | .s (.cx k _ im) => some (.s (.fl k im)) | _ => none
    | .complex, [x, y], _ => match rd st.env x, rd st.env y with | .s (.fl k re), .s (.fl k' im) => if k = k' then some (.s (.cx k re im)) else none | _, _ => none
    | _, _, _ => none
  | _ => none

section
variable {P : Program} {w : World} {G : Ghost} {S O : List Blk}

theorem scVal_sound {s : Sem Value} {x : AV} (h : scVal P s = some x) : ∃ v, s.run P w = .ok v w ∧ CR w G S x v := by
  unfold scVal at h
  simp only [Option.map_eq_some_iff] at h
  obtain ⟨v, hv, rfl⟩ := h
  exact ⟨v, evalPure_run hv w, CR_ofV v⟩

theorem intBin_sound {op : BinOp} {k : IntKind} {a b : Int} {r : Sc} (h : intBin op k a b = some r) (hs : isShift op = false) (T : TypeId) (x y : Operand) :
    (do eqGuard op T x y (.int k a) (.int k b); binOp op T (.int k a) (.int k b) : Sem Value).run P w = .ok r.val w := by
  cases op <;> simp only [intBin, Option.some.injEq, reduceCtorEq, isShift] at h hs <;>
    first
      | (subst h; simp [eqGuard, binOp, Op.intArith, Op.intBits, Op.intCmp, Sc.val]; done)
      | (split at h <;> simp at h; subst h; rename_i hb; simp [eqGuard, binOp, Op.intDiv, Sc.val, hb])

theorem shiftBin_sound {op : BinOp} {k k' : IntKind} {a b : Int} {r : Sc} (h : shiftBin op k a b = some r) (T : TypeId) (x y : Operand) :
    (do eqGuard op T x y (.int k a) (.int k' b); binOp op T (.int k a) (.int k' b) : Sem Value).run P w = .ok r.val w := by
  unfold shiftBin at h
  split at h
  · cases h
  · rename_i hb
    cases op <;> simp only [Option.some.injEq, reduceCtorEq] at h <;> (subst h; simp [eqGuard, binOp, Op.shift, Sc.val, hb])

theorem eqIn_ptr_nil {T e : TypeId} (hu : P.underlying T = some (.pointer e)) (d : Nat) (a : Addr) : (Op.equalIn (d + 1) T (.pointer (some a)) (.pointer none)).run P w = .ok false w := by
  unfold Op.equalIn
  simp [run_underlying hu]

theorem eq_ptr_nil {T e : TypeId} (hu : P.underlying T = some (.pointer e)) (a : Addr) (x y : Operand) :
    (do eqGuard .eql T x y (.pointer (some a)) (.pointer none); binOp .eql T (.pointer (some a)) (.pointer none) : Sem Value).run P w = .ok (.bool false) w := by
  have h : (Op.equal T (.pointer (some a)) (.pointer none)).run P w = .ok false w := eqIn_ptr_nil hu 9999 a
  have hg : (eqGuard .eql T x y (.pointer (some a)) (.pointer none)).run P w = .ok () w := by simp [eqGuard]
  rw [Sem.run_bind, hg, Result.andThen_ok]
  simp only [binOp, Sem.run_bind, h, Result.andThen_ok, Sem.run_pure]

theorem neq_ptr_nil {T e : TypeId} (hu : P.underlying T = some (.pointer e)) (a : Addr) (x y : Operand) :
    (do eqGuard .neq T x y (.pointer (some a)) (.pointer none); binOp .neq T (.pointer (some a)) (.pointer none) : Sem Value).run P w = .ok (.bool true) w := by
  have h : (Op.equal T (.pointer (some a)) (.pointer none)).run P w = .ok false w := eqIn_ptr_nil hu 9999 a
  have hg : (eqGuard .neq T x y (.pointer (some a)) (.pointer none)).run P w = .ok () w := by simp [eqGuard]
  rw [Sem.run_bind, hg, Result.andThen_ok]
  simp only [binOp, Sem.run_bind, h, Result.andThen_ok, Sem.run_pure, Bool.not_false]

theorem binAV_sound {op : BinOp} {T : TypeId} {x y : Operand} {a b r : AV} {v u : Value} (h : binAV P op T x y a b = some r) (ha : CR w G S a v) (hb : CR w G S b u) :
    ∃ q, (do eqGuard op T x y v u; binOp op T v u : Sem Value).run P w = .ok q w ∧ CR w G S r q := by
  unfold binAV at h
  split at h
  · rename_i k m k' n
    cases ha; cases hb
    split at h
    · simp only [Option.map_eq_some_iff] at h
      obtain ⟨s, hs, rfl⟩ := h
      exact ⟨_, shiftBin_sound hs T x y, .s s⟩
    · rename_i hsh
      split at h
      · rename_i hk; subst hk
        simp only [Option.map_eq_some_iff] at h
        obtain ⟨s, hs, rfl⟩ := h
        exact ⟨_, intBin_sound hs (by simpa using hsh) T x y, .s s⟩
      · cases h
  · rename_i id off
    cases ha; cases hb
    split at h
    · rename_i e hu
      simp at h; subst h
      exact ⟨.bool false, eq_ptr_nil hu _ x y, .s (.b false)⟩
    · rename_i e hu
      simp at h; subst h
      exact ⟨.bool true, neq_ptr_nil hu _ x y, .s (.b true)⟩
    · cases h
  · split at h
    · rename_i v' u' hv hu
      rw [toV_CR hv ha, toV_CR hu hb]
      exact scVal_sound h
    · cases h

theorem rd_sound {env : List AV} {a : Act} (hc : CRs w G S env a.tmps.toList) (x : Operand) : CR w G S (rd env x) (a.eval x) := by
  cases x with
  | tmp t =>
    simp only [rd, Act.eval]
    cases ht : env[t]? with
    | none => simp [List.getD, ht]; exact .u _
    | some v =>
      obtain ⟨u, hu, hcr⟩ := hc.get ht
      have : a.tmps[t]? = some u := by simpa using hu
      simp [List.getD, ht, Array.getD_eq_getD_getElem?, this]; exact hcr
  | const v => exact CR_ofV v
  | global g => exact .u _
  | func f => exact .f f [] [] [] [] .nil .nil

theorem rds_sound {env : List AV} {a : Act} (hc : CRs w G S env a.tmps.toList) (l : List Operand) : CRs w G S (l.map (rd env)) (l.map a.eval) := by
  induction l with
  | nil => exact .nil
  | cons x l ih => exact .cons _ _ _ _ (rd_sound hc x) ih

theorem lenAV_sound {T : TypeId} {x r : AV} {v : Value} (h : lenAV P S T x = some r) (hx : CR w G S x v) (tys : Array TypeId) (ht : tys = #[T]) (ty : TypeId) :
    ∃ q, (Builtin.len_ tys ty #[v]).run P w = .ok q w ∧ CR w G S r q := by
  subst ht
  unfold lenAV at h
  split at h
  · rename_i e hu; simp at h; subst h; cases hx
    exact ⟨.int .i64 0, by simp [Builtin.len_, run_underlying hu, Sc.val, goInt], .s (.i .i64 0)⟩
  · rename_i e n cs hu; simp at h; subst h
    cases hx with | l n cs A c vs =>
    exact ⟨.int .i64 n, by simp [Builtin.len_, run_underlying hu, goInt], .s (.i .i64 n)⟩
  · rename_i e m hu
    split at h <;> simp at h
    subst h
    rename_i e' sz n cs hS
    cases hx with | r m e2 sz2 n2 cs2 vs v hS2 hh =>
    rw [hS] at hS2; injection hS2 with hS2; injection hS2 with h1 h2 h3 h4; subst h1 h2 h3 h4
    obtain ⟨_, _, hh⟩ := hh
    rcases hh with ⟨rfl, rfl⟩ | ⟨b, cap, cur, rfl, _⟩
    · exact ⟨.int .i64 0, by simp [Builtin.len_, run_underlying hu, goInt], .s (.i .i64 0)⟩
    · exact ⟨.int .i64 n, by simp [Builtin.len_, run_underlying hu, goInt], .s (.i .i64 n)⟩
  · rename_i s hu; simp at h; subst h; cases hx
    exact ⟨.int .i64 s.size, by simp [Builtin.len_, run_underlying hu, Sc.val, goInt], .s (.i .i64 s.size)⟩
  · rename_i n e hu; simp at h; subst h
    exact ⟨.int .i64 n, by simp [Builtin.len_, run_underlying hu, goInt], .s (.i .i64 n)⟩
  · cases h

theorem idx_sound {x : AV} {v : Value} {n j : Nat} (h : idx x n = some j) (hx : CR w G S x v) : ∃ k i, v = .int k i ∧ 0 ≤ i ∧ i < n ∧ j = i.toNat := by
  unfold idx at h
  split at h
  · split at h <;> simp at h
    rename_i k i hb
    cases hx
    exact ⟨k, i, rfl, hb.1, hb.2, h.symm⟩
  · cases h
end
end Go.Am
/-
  THE ABSTRACT MACHINE: the memory that stands behind a state; operations that change nothing are sound.
-/
namespace Go.Am
open Go

/-- A cell of a box: a value; or a row that the cell owns. -/
def cellR (w : World) (G : Ghost) (S : List Blk) (id : Bid) (off : Nat) : AV → Value → Prop
  | .w e sz n cs, v => ∃ vs, Hdr w G (.cell id off) e sz n vs v ∧ CRs w G S cs vs ∧ ∀ x ∈ cs, x.data = true
  | x, v => CR w G S x v

def aliveO (S O : List Blk) : Owner → Prop
  | .box id => (∃ T cs, getB S O id = some (.box T cs)) ∨ ∃ e sz n cs, getB S O id = some (.row e sz n cs)
  | .row m => ∃ e sz n cs, S[m]? = some (.row e sz n cs)
  | .cell id _ => ∃ T cs, getB S O id = some (.box T cs)
  | .ext _ => True

/-- What lies in a row's block. -/
def RowR (w : World) (G : Ghost) (S : List Blk) (m e sz n : Nat) (cs : List AV) (b : Nat) : Prop :=
  ∃ cap vs, Hdr w G (.box (.s m)) e sz n vs (.slice (some ⟨b, 0, none⟩) n cap) ∧ CRs w G S cs vs ∧ ∀ x ∈ cs, x.data = true

structure InvH (w : World) (G : Ghost) (S O : List Blk) : Prop where
  inj : ∀ b b' o, G b = some o → G b' = some o → b = b'
  rng : ∀ b o, G b = some o → b < w.heap.size
  live : ∀ b o, G b = some o → aliveO S O o
  orow : ∀ (k e sz n : Nat) (cs : List AV), O[k]? ≠ some (.row e sz n cs)
  row : ∀ (m e sz n : Nat) (cs : List AV) (b : Nat), S[m]? = some (.row e sz n cs) → G b = some (.box (.s m)) → RowR w G S m e sz n cs b
  box : ∀ id T cs, getB S O id = some (.box T cs) → ∃ b vs, G b = some (.box id) ∧ w.heap[b]? = some (.cells vs T (0, 0)) ∧ vs.size = cs.length ∧
    ∀ (j : Nat) (x : AV) (v : Value), cs[j]? = some x → vs[j]? = some v → cellR w G S id j x v

section
variable {P : Program} {w : World} {G : Ghost} {S O : List Blk}

theorem cellR.strip {id : Bid} {off : Nat} {x : AV} {v : Value} (h : cellR w G S id off x v) : CR w G S (strip x) v := by
  cases x <;> first | exact .u v | exact h

theorem InvH.cells (hI : InvH w G S O) {id : Bid} {T : TypeId} {cs : List AV} (h : getB S O id = some (.box T cs)) {b : Nat} (hb : G b = some (.box id)) :
    ∃ vs : Array Value, w.heap[b]? = some (.cells vs T (0, 0)) ∧ vs.size = cs.length ∧ CRs w G S (cs.map strip) vs.toList ∧ ∀ j y, vs[j]? = some y → w.cell? ⟨b, j, none⟩ = some y := by
  obtain ⟨b', vs, h1, h2, h3, h4⟩ := hI.box id T cs h
  obtain rfl := hI.inj _ _ _ h1 hb
  refine ⟨vs, h2, h3, .of (by simp [h3]) fun j x v hx hv => ?_, fun j y hy => by simp [World.cell?, h2, hy]⟩
  rw [List.getElem?_map] at hx
  simp only [Option.map_eq_some_iff] at hx
  obtain ⟨x', hx', rfl⟩ := hx
  exact (h4 j x' v hx' (by simpa using hv)).strip

theorem sureAddr_run (a : Addr) : (Instr.sureAddr (.pointer (some a))).run P w = .ok a w := rfl

theorem Hdr.stable {o : Owner} {e sz n : Nat} {vs : List Value} {b cap : Nat} (h : Hdr w G o e sz n vs (.slice (some ⟨b, 0, none⟩) n cap)) (j : Nat) (y : Value) (hy : vs[j]? = some y) : w.cell? ⟨b, j, none⟩ = some y := by
  obtain ⟨h1, h0, h2⟩ := h
  rcases h2 with ⟨h2, _⟩ | ⟨b', cap', cur, hv, hg, hh, hn, hm, hs, ht⟩
  · cases h2
  · injection hv with e1 e2 e3
    injection e1 with e1; injection e1 with e1; subst e1
    rw [← ht, List.getElem?_take] at hy
    split at hy
    · simp only [World.cell?, hh]
      simpa using hy
    · cases hy

theorem load_sound (hI : InvH w G S O) {T : TypeId} {x r : AV} {v : Value}
    (h : (match x with
      | .p id off => match getB S O id with | some (.box _ cs) => partAV P T ((cs.map strip).drop off) 0 | some (.row _ _ _ cs) => partAV P T (cs.drop off) 0 | _ => none
      | .e cs => partAV P T cs 0
      | _ => none) = some r) (hx : CR w G S x v) : ∃ q, (Instr.loadAt T v).run P w = .ok q w ∧ CR w G S r q := by
  cases x with
  | p id off =>
    simp only at h
    split at h
    · rename_i T' cs hg
      cases hx with | p id off b hb =>
      obtain ⟨vs, h1, h2, h3, h4⟩ := hI.cells hg hb
      obtain ⟨q, hq, hcr⟩ := run_loadVar_AV (P := P) (a := ⟨b, off, none⟩) h (h3.drop off) (fun j y hy => by
        rw [List.getElem?_drop] at hy
        have := h4 (off + j) y (by simpa using hy)
        rw [add_eq rfl]; exact this)
      exact ⟨q, by simp [Instr.loadAt, sureAddr_run, hq], hcr⟩
    · rename_i e' sz n cs hg
      cases hx with | p id off b hb =>
      cases id with
      | o k => 
        obtain hal := hI.live b _ hb
        simp only [aliveO] at hal
        exact absurd hg (hI.orow k _ _ _ _)
      | s m =>
        obtain ⟨cap, vs, q1, q2, q3⟩ := hI.row m _ _ _ _ b hg hb
        obtain ⟨q, hq, hcr⟩ := run_loadVar_AV (P := P) (a := ⟨b, off, none⟩) h (q2.drop off) (fun j y hy => by
          rw [List.getElem?_drop] at hy
          rw [add_eq rfl]; exact q1.stable (off + j) y hy)
        exact ⟨q, by simp [Instr.loadAt, sureAddr_run, hq], hcr⟩
    · cases h
  | e cs =>
    simp only at h
    cases hx with | e cs a vs h1 hd hs =>
    obtain ⟨q, hq, hcr⟩ := run_loadVar_AV (P := P) (a := a) h h1 (fun j y hy => hs.2.2.2 j y hy)
    exact ⟨q, by simp [Instr.loadAt, sureAddr_run, hq], hcr⟩
  | _ => cases h

theorem Stable.drop {a : Addr} {vs : List Value} (h : Stable w G a vs) (n : Nat) : Stable w G (a.add n) (vs.drop n) := by
  obtain ⟨h1, h2, h3, h4⟩ := h
  refine ⟨by rw [add_block]; exact h1, by rw [add_block]; exact h2, add_spot h3 n, fun j y hy => ?_⟩
  rw [List.getElem?_drop] at hy
  have := h4 _ y hy
  rw [add_eq h3] at this
  rw [add_eq (add_spot h3 n), add_block, add_off, Nat.add_assoc]; exact this

theorem data_drop {cs : List AV} (hd : ∀ x ∈ cs, x.data = true) (n : Nat) : ∀ x ∈ cs.drop n, x.data = true := fun x hx => hd x (List.mem_of_mem_drop hx)
theorem data_take {cs : List AV} (hd : ∀ x ∈ cs, x.data = true) (n : Nat) : ∀ x ∈ cs.take n, x.data = true := fun x hx => hd x (List.mem_of_mem_take hx)

theorem e_drop {cs : List AV} {a : Addr} (hx : CR w G S (.e cs) (.pointer (some a))) (n : Nat) : CR w G S (.e (cs.drop n)) (.pointer (some (a.add n))) := by
  cases hx with | e cs a vs h1 hd hs => exact .e _ _ _ (h1.drop n) (data_drop hd n) (hs.drop n)

theorem fieldPlace_run {P : Program} {w : World} {fd : Field} {n : Nat} (h : szO P fd.type = some (n + 1)) (a : Addr) : (fieldPlace a fd).run P w = .ok (a.add fd.offset) w := by
  simp [fieldPlace, run_szO h]

theorem fieldO_run {T : TypeId} {f : Nat} {fd : Field} (h : fieldO P T f = some fd) : ∃ fs, P.underlying T = some (.struct fs) ∧ fs[f]? = some fd := by
  unfold fieldO at h
  split at h
  · rename_i fs hu; exact ⟨fs, hu, h⟩
  · cases h

theorem arrO_run {T : TypeId} {n : Nat} {e : TypeId} (h : arrO P T = some (n, e)) : P.underlying T = some (.array n e) := by
  unfold arrO at h
  split at h
  · rename_i n e hu; simp at h; obtain ⟨rfl, rfl⟩ := h; exact hu
  · cases h
theorem sliceO_run {T : TypeId} {e : TypeId} (h : sliceO P T = some e) : P.underlying T = some (.slice e) := by
  unfold sliceO at h
  split at h
  · rename_i e hu; simp at h; subst h; exact hu
  · cases h

theorem indexAt_arr {T e : TypeId} {n sz : Nat} (hu : P.underlying T = some (.array n e)) (hs : szO P e = some sz) {k : IntKind} {i : Int} (h0 : 0 ≤ i) (h1 : i < n) (a : Addr) :
    (Instr.indexAt T (.pointer (some a)) (.int k i)).run P w = .ok (.pointer (some (a.add (i.toNat * sz)))) w := by
  simp [Instr.indexAt, asIntOf, run_underlying hu, sureAddr_run, run_szO hs, h0, h1]
theorem indexAt_slice {T e : TypeId} {n c sz : Nat} (hu : P.underlying T = some (.slice e)) (hs : szO P e = some sz) {k : IntKind} {i : Int} (h0 : 0 ≤ i) (h1 : i < n) (a : Addr) :
    (Instr.indexAt T (.slice (some a) n c) (.int k i)).run P w = .ok (.pointer (some (a.add (i.toNat * sz)))) w := by
  simp [Instr.indexAt, asIntOf, run_underlying hu, run_szO hs, h0, h1]

theorem xPure_sound {st : St} (hI : InvH w G st.S st.O) {a : Act} (hc : CRs w G st.S st.env a.tmps.toList) {o : Oper} {r : AV} (h : xPure P st o = some r) :
    ∃ v, (execOp a.eval o).run P w = .ok (.value v) w ∧ CR w G st.S r v := by
  obtain ⟨dst, op, ty, pos, after, guard⟩ := o
  have hrd := fun x => rd_sound (w := w) (G := G) (S := st.S) hc x
  cases op <;> simp only [xPure, reduceCtorEq] at h
  case move x => injection h with h; subst h; exact ⟨_, rfl, hrd x⟩
  case assign x => injection h with h; subst h; exact ⟨_, rfl, hrd x⟩
  case pick c x y =>
    have hcc := hrd c
    split at h <;> simp at h
    rename_i t ht
    rw [ht] at hcc
    generalize hv : a.eval c = v at hcc
    cases hcc
    subst h
    refine ⟨if t then a.eval x else a.eval y, by simp [execOp, hv, Sc.val, asBool], ?_⟩
    cases t
    · exact hrd y
    · exact hrd x
  case nilCheck x =>
    have hx := hrd x
    generalize hv : a.eval x = v at hx
    split at h <;> simp at h <;> rename_i hh <;> rw [hh] at hx <;> subst h
    · refine ⟨v, ?_, hx⟩
      cases hx; simp [execOp, hv]
    · refine ⟨v, ?_, hx⟩
      cases hx; simp [execOp, hv]
    · refine ⟨v, ?_, hx⟩
      cases hx; simp [execOp, hv]
  case load T x =>
    obtain ⟨q, h1, h2⟩ := load_sound (P := P) hI (T := T) h (hrd x)
    exact ⟨q, by simp [execOp, h1], h2⟩
  case fieldAddr T x f =>
    split at h; rotate_left
    · cases h
    rename_i fd hf
    obtain ⟨fs, hu, hfs⟩ := fieldO_run hf
    split at h; rotate_left
    · cases h
    rename_i n hn
    have hx := hrd x
    generalize hv : a.eval x = v at hx
    split at h
    · rename_i id off hh
      rw [hh] at hx; injection h with h; subst h
      cases hx with | p id off b hb =>
      refine ⟨.pointer (some ⟨b, off + fd.offset, none⟩), ?_, .p _ _ _ hb⟩
      have e : (⟨b, off, none⟩ : Addr).add fd.offset = ⟨b, off + fd.offset, none⟩ := add_eq rfl _
      simp [execOp, hv, Instr.fieldAt, run_underlying hu, hfs, sureAddr_run, fieldPlace_run hn, e]
    rotate_left
    · cases h
    · rename_i cs hh
      rw [hh] at hx; injection h with h; subst h
      have hx' := hx
      cases hx with | e cs a' vs h1 hd hs =>
      refine ⟨.pointer (some (a'.add fd.offset)), ?_, e_drop hx' _⟩
      simp [execOp, hv, Instr.fieldAt, run_underlying hu, hfs, sureAddr_run, fieldPlace_run hn]
  case field T x f =>
    split at h; rotate_left
    · cases h
    rename_i fd cs hf hh
    obtain ⟨fs, hu, hfs⟩ := fieldO_run hf
    have hx := hrd x
    generalize hv : a.eval x = v at hx
    rw [hh] at hx
    cases hx with | a cs vs hcs =>
    obtain ⟨q, h1, h2⟩ := partAV_sound (P := P) h hcs
    exact ⟨q, by simp [execOp, hv, Instr.field, run_underlying hu, hfs, asAgg, h1], h2⟩
  case indexAddr T x i =>
    have hx := hrd x
    have hi := hrd i
    generalize hv : a.eval x = v at hx
    generalize hw : a.eval i = u at hi
    split at h
    · rename_i id off hh
      rw [hh] at hx
      split at h; rotate_left
      · cases h
      rename_i n e ha
      split at h; rotate_left
      · cases h
      rename_i sz j hs hj
      obtain ⟨k, ii, rfl, h0, h1, rfl⟩ := idx_sound hj hi
      injection h with h; subst h
      cases hx with | p id off b hb =>
      refine ⟨.pointer (some ⟨b, off + ii.toNat * sz, none⟩), ?_, .p _ _ _ hb⟩
      have e : (⟨b, off, none⟩ : Addr).add (ii.toNat * sz) = ⟨b, off + ii.toNat * sz, none⟩ := add_eq rfl _
      simp [execOp, hv, hw, indexAt_arr (arrO_run ha) hs h0 h1, e]
    · rename_i cs hh
      rw [hh] at hx
      split at h; rotate_left
      · cases h
      rename_i n e ha
      split at h; rotate_left
      · cases h
      rename_i sz j hs hj
      obtain ⟨k, ii, rfl, h0, h1, rfl⟩ := idx_sound hj hi
      injection h with h; subst h
      have hx' := hx
      cases hx with | e cs a' vs q1 hd hs' =>
      refine ⟨.pointer (some (a'.add (ii.toNat * sz))), ?_, e_drop hx' _⟩
      simp [execOp, hv, hw, indexAt_arr (arrO_run ha) hs h0 h1]
    · rename_i n cs hh
      rw [hh] at hx
      split at h; rotate_left
      · cases h
      rename_i e ha
      split at h; rotate_left
      · cases h
      rename_i sz j hs hj
      obtain ⟨k, ii, rfl, h0, h1, rfl⟩ := idx_sound hj hi
      injection h with h; subst h
      cases hx with | l n cs A c vs q1 q2 q3 hd q4 q5 =>
      obtain ⟨a', rfl, hst⟩ := q4 (by omega)
      refine ⟨.pointer (some (a'.add (ii.toNat * sz))), ?_, e_drop (.e _ _ _ q1 hd hst) _⟩
      simp [execOp, hv, hw, indexAt_slice (sliceO_run ha) hs h0 h1]
    · rename_i m hh
      rw [hh] at hx
      split at h
      rotate_left
      · cases h
      rename_i e' sz' n cs e hS ha
      split at h
      rotate_left
      · cases h
      rename_i sz j hs hj
      obtain ⟨k, ii, rfl, h0, h1, rfl⟩ := idx_sound hj hi
      injection h with h; subst h
      cases hx with | r m e2 sz2 n2 cs2 vs v hS2 hhd =>
      rw [hS] at hS2; injection hS2 with hS2; injection hS2 with q1 q2 q3 q4; subst q1 q2 q3 q4
      obtain ⟨_, _, hhd⟩ := hhd
      rcases hhd with ⟨_, rfl⟩ | ⟨b, cap, cur, rfl, hb, _⟩
      · omega
      · refine ⟨.pointer (some ⟨b, ii.toNat * sz, none⟩), ?_, .p _ _ _ hb⟩
        have e : (⟨b, 0, none⟩ : Addr).add (ii.toNat * sz) = ⟨b, ii.toNat * sz, none⟩ := by rw [add_eq rfl]; simp
        simp [execOp, hv, hw, indexAt_slice (sliceO_run ha) hs h0 h1, e]
    · cases h
  case index T x i =>
    have hx := hrd x
    have hi := hrd i
    generalize hv : a.eval x = v at hx
    generalize hw : a.eval i = u at hi
    split at h
    · rename_i cs hh
      rw [hh] at hx
      split at h; rotate_left
      · cases h
      rename_i n e ha
      split at h; rotate_left
      · cases h
      rename_i sz j hs hj
      obtain ⟨k, ii, rfl, h0, h1, rfl⟩ := idx_sound hj hi
      cases hx with | a cs vs hcs =>
      obtain ⟨q, h2, h3⟩ := partAV_sound (P := P) h hcs
      exact ⟨q, by simp [execOp, hv, hw, Instr.index, asIntOf, run_underlying (arrO_run ha), h0, h1, run_szO hs, h2], h3⟩
    · rename_i s hh
      rw [hh] at hx
      split at h; rotate_left
      · cases h
      rename_i v' hv'
      cases hx
      rw [toV_CR hv' hi] at hw
      obtain ⟨q, h2, h3⟩ := scVal_sound (P := P) (w := w) (G := G) (S := st.S) h
      exact ⟨q, by simp [execOp, hv, hw, Sc.val, h2], h3⟩
    · cases h
  case extract x k =>
    have hx := hrd x
    generalize hv : a.eval x = v at hx
    split at h; rotate_left
    · cases h
    rename_i vs hh
    rw [hh] at hx
    cases hx with | t cs us hcs =>
    obtain ⟨q, h1, h2⟩ := hcs.get h
    exact ⟨q, by simp [execOp, hv, Instr.extract, h1], h2⟩
  case binOp op T x y ty' =>
    obtain ⟨q, h1, h2⟩ := binAV_sound (P := P) h (hrd x) (hrd y)
    refine ⟨q, ?_, h2⟩
    simp only [execOp]
    rw [Sem.run_bind, h1]; rfl
  case unOp op T x =>
    have hx := hrd x
    generalize hv : a.eval x = v at hx
    split at h
    · rename_i t hh
      rw [hh] at hx
      split at h <;> simp at h
      subst h
      cases hx
      exact ⟨.bool !t, by simp [execOp, hv, Op.unary, Sc.val], .s (.b !t)⟩
    · split at h; rotate_left
      · cases h
      rename_i v' hv'
      rw [toV_CR hv' hx] at hv
      obtain ⟨q, h2, h3⟩ := scVal_sound (P := P) (w := w) (G := G) (S := st.S) h
      exact ⟨q, by simp [execOp, hv, h2], h3⟩
  case convert T T' x =>
    have hx := hrd x
    generalize hv : a.eval x = v at hx
    split at h
    · rename_i k n hh
      rw [hh] at hx
      cases hx
      split at h
      · rename_i k1 k2 hu hu'
        simp at h; subst h
        refine ⟨.int k2 (k2.wrap n), ?_, .s (.i k2 (k2.wrap n))⟩
        simp [execOp, hv, convert, run_underlying hu, run_underlying hu', Conv.intToInt, Sc.val]
      · obtain ⟨q, h2, h3⟩ := scVal_sound (P := P) (w := w) (G := G) (S := st.S) h
        exact ⟨q, by simp [execOp, hv, h2, Sc.val], h3⟩
    · split at h; rotate_left
      · cases h
      rename_i v' hv'
      rw [toV_CR hv' hx] at hv
      obtain ⟨q, h2, h3⟩ := scVal_sound (P := P) (w := w) (G := G) (S := st.S) h
      exact ⟨q, by simp [execOp, hv, h2], h3⟩
  case makeFunc fn fs cs =>
    cases fn <;> simp only [reduceCtorEq] at h
    rename_i f
    injection h with h; subst h
    refine ⟨.func (.func f) (fs.map a.eval) (cs.map a.eval), by simp [execOp, Instr.makeFunc], ?_⟩
    have h1 := rds_sound (w := w) (G := G) (S := st.S) hc fs.toList
    have h2 := rds_sound (w := w) (G := G) (S := st.S) hc cs.toList
    have := CR.f f _ _ _ _ h1 h2
    simp only [← Array.toList_map, Array.toArray_toList] at this ⊢
    exact this
  case slice T x lo hi mx =>
    cases mx <;> simp only [reduceCtorEq] at h
    have hx := hrd x
    generalize hv : a.eval x = v at hx
    split at h
    rotate_left
    · cases h
    rename_i s hh
    rw [hh] at hx
    cases hx
    have ho : ∀ y : Option Operand, y.map (fun y => toV (rd st.env y)) ≠ some none → (y.map (fun y => toV (rd st.env y))).bind id = y.map a.eval := by
      intro y hy
      cases y with
      | none => rfl
      | some y =>
        simp only [Option.map_some] at hy ⊢
        cases ht : toV (rd st.env y) with
        | none => rw [ht] at hy; exact absurd rfl hy
        | some u => simp [toV_CR ht (hrd y)]
    split at h
    · cases h
    · cases h
    · rename_i n1 n2
      rw [ho lo (fun e => n1 e), ho hi (fun e => n2 e)] at h
      obtain ⟨q, h2, h3⟩ := scVal_sound (P := P) (w := w) (G := G) (S := st.S) h
      exact ⟨q, by simp [execOp, hv, Sc.val, h2], h3⟩
  case call c =>
    obtain ⟨callee, args, tys⟩ := c
    cases callee <;> simp only [reduceCtorEq] at h
    rename_i b
    obtain ⟨args⟩ := args
    obtain ⟨tys⟩ := tys
    split at h <;> try (exact absurd h (by simp))
    · rename_i x T e1 e2
      simp only at e1 e2; subst e1 e2
      obtain ⟨q, h1, h2⟩ := lenAV_sound (P := P) h (hrd x) #[T] rfl ty
      exact ⟨q, by simp [execOp, resolve, invoke, builtin, h1], h2⟩
    · rename_i x e1
      simp only at e1; subst e1
      have hx := hrd x
      generalize hv : a.eval x = v at hx
      split at h
      rotate_left
      · cases h
      rename_i k re im hh
      rw [hh] at hx; injection h with h; subst h
      cases hx
      exact ⟨.float k re, by
        have e : (Builtin.real_ tys.toArray ty #[.complex k re im]).run P w = .ok (.float k re) w := rfl
        simp [execOp, resolve, invoke, builtin, hv, Sc.val, e], .s (.fl k re)⟩
    · rename_i x e1
      simp only at e1; subst e1
      have hx := hrd x
      generalize hv : a.eval x = v at hx
      split at h
      rotate_left
      · cases h
      rename_i k re im hh
      rw [hh] at hx; injection h with h; subst h
      cases hx
      exact ⟨.float k im, by
        have e : (Builtin.imag_ tys.toArray ty #[.complex k re im]).run P w = .ok (.float k im) w := rfl
        simp [execOp, resolve, invoke, builtin, hv, Sc.val, e], .s (.fl k im)⟩
    · rename_i x y e1
      simp only at e1; subst e1
      have hx := hrd x
      have hy := hrd y
      generalize hv : a.eval x = v at hx
      generalize hu : a.eval y = u at hy
      split at h
      rotate_left
      · cases h
      rename_i k re k' im hh hh'
      rw [hh] at hx; rw [hh'] at hy
      split at h
      rotate_left
      · cases h
      rename_i hk; subst hk
      injection h with h; subst h
      cases hx; cases hy
      exact ⟨.complex k re im, by
        have e : (Builtin.complex_ tys.toArray ty #[.float k re, .float k im]).run P w = .ok (.complex k re im) w := by
          show (if k = k then _ else _ : Sem Value).run P w = _
          rw [if_pos rfl]; rfl
        simp [execOp, resolve, invoke, builtin, hv, hu, Sc.val, e], .s (.cx k re im)⟩
end
end Go.Am
/-
  THE ABSTRACT MACHINE: a frame's relation to the model's; what a frame may change; wiping, freezing, new boxes.
-/
namespace Go.Am
open Go

def outO (base : Nat) : Owner → Prop
  | .box (.s n) => n < base
  | .box (.o _) => True
  | .row m => m < base
  | .cell .. => False
  | .ext _ => True

mutual
def AV.bel (β : Nat) : AV → Bool
  | .p (.s n) _ => decide (n < β)
  | .r m => decide (m < β)
  | .f _ fs cs => AV.belL β fs && AV.belL β cs
  | .a cs => AV.belL β cs
  | .t cs => AV.belL β cs
  | _ => true
def AV.belL (β : Nat) : List AV → Bool
  | [] => true
  | x :: xs => AV.bel β x && AV.belL β xs
end

theorem belL_mem {β : Nat} : ∀ {xs : List AV}, AV.belL β xs = true ↔ ∀ x ∈ xs, x.bel β = true
  | [] => by simp [AV.belL]
  | x :: xs => by simp [AV.belL, belL_mem (xs := xs)]

mutual
theorem bel_has {β : Nat} : ∀ {x : AV}, x.bel β = true → ∀ o, x.has o = true → outO β o
  | .u, _, _, h => by simp [AV.has] at h
  | .s _, _, _, h => by simp [AV.has] at h
  | .l .., _, _, h => by simp [AV.has] at h
  | .e _, _, _, h => by simp [AV.has] at h
  | .w .., _, _, h => by simp [AV.has] at h
  | .p (.s n) _, hb, o, h => by simp [AV.has] at h; subst h; simpa [AV.bel, outO] using hb
  | .p (.o n) _, _, o, h => by simp [AV.has] at h; subst h; trivial
  | .r m, hb, o, h => by simp [AV.has] at h; subst h; simpa [AV.bel, outO] using hb
  | .f _ fs cs, hb, o, h => by
    simp only [AV.bel, Bool.and_eq_true] at hb
    simp only [AV.has, Bool.or_eq_true] at h
    rcases h with h | h
    · exact belL_has hb.1 o h
    · exact belL_has hb.2 o h
  | .a cs, hb, o, h => belL_has (xs := cs) (by simpa [AV.bel] using hb) o (by simpa [AV.has] using h)
  | .t cs, hb, o, h => belL_has (xs := cs) (by simpa [AV.bel] using hb) o (by simpa [AV.has] using h)
theorem belL_has {β : Nat} : ∀ {xs : List AV}, AV.belL β xs = true → ∀ o, AV.hasL o xs = true → outO β o
  | [], _, _, h => by simp [AV.hasL] at h
  | x :: xs, hb, o, h => by
    simp only [AV.belL, Bool.and_eq_true] at hb
    simp only [AV.hasL, Bool.or_eq_true] at h
    rcases h with h | h
    · exact bel_has hb.1 o h
    · exact belL_has hb.2 o h
end

mutual
theorem bel_mono {β γ : Nat} (hle : β ≤ γ) : ∀ {x : AV}, x.bel β = true → x.bel γ = true
  | .u, _ => rfl
  | .s _, _ => rfl
  | .l .., _ => rfl
  | .e _, _ => rfl
  | .w .., _ => rfl
  | .p (.s n) _, h => by simp only [AV.bel, decide_eq_true_eq] at h ⊢; omega
  | .p (.o n) _, _ => rfl
  | .r m, h => by simp only [AV.bel, decide_eq_true_eq] at h ⊢; omega
  | .f _ fs cs, h => by simp only [AV.bel, Bool.and_eq_true] at h ⊢; exact ⟨belL_mono hle h.1, belL_mono hle h.2⟩
  | .a cs, h => by simp only [AV.bel] at h ⊢; exact belL_mono hle h
  | .t cs, h => by simp only [AV.bel] at h ⊢; exact belL_mono hle h
theorem belL_mono {β γ : Nat} (hle : β ≤ γ) : ∀ {xs : List AV}, AV.belL β xs = true → AV.belL γ xs = true
  | [], _ => rfl
  | x :: xs, h => by
    simp only [AV.belL, Bool.and_eq_true] at h ⊢
    exact ⟨bel_mono hle h.1, belL_mono hle h.2⟩
end

structure Rel (base : Nat) (w : World) (G : Ghost) (st : St) (a : Act) : Prop where
  defers : a.defers = []
  size : a.tmps.size = st.env.length
  env : CRs w G st.S st.env a.tmps.toList
  inv : InvH w G st.S st.O
  len : st.S.length = base + st.env.length
  scopeE : AV.belL st.S.length st.env = true
  scopeS : ∀ (n : Nat) (T : TypeId) (cs : List AV), st.S[n]? = some (.box T cs) → AV.belL st.S.length cs = true
  scopeB : ∀ (n : Nat) (T : TypeId) (cs : List AV), n < base → st.S[n]? = some (.box T cs) → AV.belL base cs = true
  scopeO : ∀ (n : Nat) (T : TypeId) (cs : List AV), st.O[n]? = some (.box T cs) → AV.belL 0 cs = true

/-- What a frame leaves outside itself. -/
structure FEvol (base : Nat) (w : World) (G : Ghost) (S O : List Blk) (w' : World) (G' : Ghost) (S' O' : List Blk) : Prop where
  keep : Keep w G S w' G' S' (outO base)
  os : w'.os = w.os
  tape : w'.tape = w.tape
  output : w'.output = w.output
  lenS : S'.length = S.length
  lenO : O.length ≤ O'.length
  shr : ∀ (n β : Nat), n < base → (∀ (T : TypeId) (cs : List AV), S[n]? = some (.box T cs) → AV.belL β cs = true) → ∀ (T : TypeId) (cs : List AV), S'[n]? = some (.box T cs) → AV.belL β cs = true

section
variable {base : Nat} {w w' w'' : World} {G G' G'' : Ghost} {S S' S'' O O' O'' : List Blk}

theorem Keep.refl (K : Owner → Prop) : Keep w G S w G S K := ⟨fun _ _ _ => ⟨rfl, rfl⟩, Nat.le_refl _, fun _ _ _ h => h, fun _ _ _ _ _ _ h => ⟨h, fun _ h => ⟨h, rfl⟩⟩⟩

theorem Keep.trans {K : Owner → Prop} (h : Keep w G S w' G' S' K) (k : Keep w' G' S' w'' G'' S'' K) : Keep w G S w'' G'' S'' K where
  free b hb hg := by
    obtain ⟨h1, h2⟩ := h.free b hb hg
    obtain ⟨k1, k2⟩ := k.free b (Nat.lt_of_lt_of_le hb h.size) (by rw [h2]; exact hg)
    exact ⟨k1.trans h1, k2.trans h2⟩
  size := Nat.le_trans h.size k.size
  own o ho b hb := k.own o ho b (h.own o ho b hb)
  row m hm e sz n cs hs := by
    obtain ⟨h1, h2⟩ := h.row m hm _ _ _ _ hs
    obtain ⟨k1, k2⟩ := k.row m hm _ _ _ _ h1
    exact ⟨k1, fun b hb => ⟨(k2 b (h2 b hb).1).1, (k2 b (h2 b hb).1).2.trans (h2 b hb).2⟩⟩

theorem Keep.imp {K K' : Owner → Prop} (h : Keep w G S w' G' S' K) (hk : ∀ o, K' o → K o) : Keep w G S w' G' S' K' :=
  ⟨h.free, h.size, fun o ho => h.own o (hk o ho), fun m hm => h.row m (hk _ hm)⟩

theorem FEvol.refl : FEvol base w G S O w G S O := ⟨.refl _, rfl, rfl, rfl, rfl, Nat.le_refl _, fun _ _ _ h => h⟩
theorem FEvol.trans (h : FEvol base w G S O w' G' S' O') (k : FEvol base w' G' S' O' w'' G'' S'' O'') : FEvol base w G S O w'' G'' S'' O'' :=
  ⟨h.keep.trans k.keep, k.os.trans h.os, k.tape.trans h.tape, k.output.trans h.output, k.lenS.trans h.lenS, Nat.le_trans h.lenO k.lenO, fun n β hn hh => k.shr n β hn (h.shr n β hn hh)⟩

/-! ### Slots -/
def St.put (st : St) (d : Option Tmp) (v : AV) : St :=
  match d with
  | some d => { st with env := st.env.set d v }
  | none => st

theorem Rel.put {st : St} {a : Act} (h : Rel base w G st a) (d : Option Tmp) {x : AV} {v : Value} (hx : CR w G st.S x v) (hb : x.bel st.S.length = true) : Rel base w G (st.put d x) (a.put d v) := by
  cases d with
  | none => exact h
  | some d =>
    refine ⟨h.defers, by simp [St.put, Act.put, h.size], ?_, h.inv, by simp [St.put, h.len], ?_, h.scopeS, h.scopeB, h.scopeO⟩
    · have := h.env.set d hx
      simpa [St.put, Act.put, Array.toList_setIfInBounds] using this
    · have h1 := h.scopeE
      rw [belL_mem] at h1 ⊢
      intro y hy
      simp only [St.put] at hy
      rcases List.mem_or_eq_of_mem_set hy with hy | rfl
      · exact h1 y hy
      · exact hb

/-! ### Draws -/
theorem cell?_drawn (w : World) (n : Nat) (a : Addr) : ({ w with drawn := n } : World).cell? a = w.cell? a := rfl

theorem Keep.drawn (w : World) (n : Nat) (G : Ghost) (S : List Blk) (K : Owner → Prop) : Keep w G S { w with drawn := n } G S K :=
  ⟨fun _ _ _ => ⟨rfl, rfl⟩, Nat.le_refl _, fun _ _ _ h => h, fun _ _ _ _ _ _ h => ⟨h, fun _ h => ⟨h, rfl⟩⟩⟩

theorem cellR.keep {K : Owner → Prop} (k : Keep w G S w' G' S' K) {id : Bid} {off : Nat} {x : AV} {v : Value} (h : cellR w G S id off x v) (hk : ∀ o, x.has o = true → K o)
    (hc : ∀ b, G b = some (.cell id off) → G' b = some (.cell id off) ∧ w'.heap[b]? = w.heap[b]?) : cellR w' G' S' id off x v := by
  cases x <;> try exact CR.keep k h hk
  obtain ⟨vs, ⟨h1, h0, h2⟩, h3, h4⟩ := h
  refine ⟨vs, ⟨h1, h0, ?_⟩, CRs.keep k h3 (has_data h4 K), h4⟩
  rcases h2 with h2 | ⟨b, cap, cur, hv, hg, hh, hrest⟩
  · exact .inl h2
  · obtain ⟨q1, q2⟩ := hc b hg
    exact .inr ⟨b, cap, cur, hv, q1, q2.trans hh, hrest⟩

theorem cellR.mk {id : Bid} {off : Nat} {x : AV} {v : Value} (h : CR w G S x v) : cellR w G S id off x v := by
  cases x <;> first | exact h | cases h

theorem RowR.keep {K : Owner → Prop} (k : Keep w G S w' G' S' K) {m e sz n b : Nat} {cs : List AV} (h : RowR w G S m e sz n cs b) (hk : K (.row m)) (hs : S[m]? = some (.row e sz n cs)) : RowR w' G' S' m e sz n cs b := by
  obtain ⟨cap, vs, h1, h2, h3⟩ := h
  exact ⟨cap, vs, h1.keep (k.row m hk _ _ _ _ hs).2, CRs.keep k h2 (has_data h3 _), h3⟩

/-- Only the count of draws has moved. -/
theorem InvH.drawn (h : InvH w G S O) (n : Nat) : InvH { w with drawn := n } G S O := by
  refine ⟨h.inj, h.rng, h.live, h.orow, fun m e sz k cs b hs hb => (h.row m e sz k cs b hs hb).keep (.drawn w n G S (fun _ => True)) trivial hs, fun id T cs hb => ?_⟩
  obtain ⟨b, vs, h1, h2, h3, h4⟩ := h.box id T cs hb
  exact ⟨b, vs, h1, h2, h3, fun j x v hx hv => (h4 j x v hx hv).keep (.drawn w n G S (fun _ => True)) (fun _ _ => trivial) (fun b hb => ⟨hb, rfl⟩)⟩

theorem Rel.drawn {st : St} {a : Act} (h : Rel base w G st a) (n : Nat) : Rel base { w with drawn := n } G st a :=
  ⟨h.defers, h.size, h.env.keep (.drawn w n G st.S (fun _ => True)) (fun _ _ => trivial), h.inv.drawn n, h.len, h.scopeE, h.scopeS, h.scopeB, h.scopeO⟩

/-! ### Giving up a place of the frame -/
def Owner.at (m : Nat) : Owner → Bool
  | .box (.s n) => n == m
  | .row n => n == m
  | .cell (.s n) _ => n == m
  | _ => false

def release (m : Nat) (G : Ghost) : Ghost := fun b => match G b with
  | some o => if o.at m then none else some o
  | none => none

mutual
/-- Whatever names place m is something else. -/
def AV.sub (m : Nat) (pf : Nat → AV) (rf : AV) : AV → AV
  | .p (.s n) off => if n = m then pf off else .p (.s n) off
  | .r n => if n = m then rf else .r n
  | .f fn fs cs => .f fn (AV.subL m pf rf fs) (AV.subL m pf rf cs)
  | .a cs => .a (AV.subL m pf rf cs)
  | .t cs => .t (AV.subL m pf rf cs)
  | x => x
def AV.subL (m : Nat) (pf : Nat → AV) (rf : AV) : List AV → List AV
  | [] => []
  | x :: xs => AV.sub m pf rf x :: AV.subL m pf rf xs
end

theorem subL_map (m : Nat) (pf : Nat → AV) (rf : AV) : ∀ xs : List AV, AV.subL m pf rf xs = xs.map (AV.sub m pf rf)
  | [] => rfl
  | x :: xs => by simp [AV.subL, subL_map m pf rf xs]
theorem length_subL (m : Nat) (pf : Nat → AV) (rf : AV) (xs : List AV) : (AV.subL m pf rf xs).length = xs.length := by rw [subL_map]; simp

mutual
theorem sub_bel {m β : Nat} {pf : Nat → AV} {rf : AV} (hp : ∀ off, (pf off).bel 0 = true) (hr : rf.bel 0 = true) : ∀ {x : AV}, x.bel β = true → (AV.sub m pf rf x).bel β = true
  | .u, h => h
  | .s _, h => h
  | .l .., h => h
  | .e _, h => h
  | .w .., h => h
  | .p (.s n) _, h => by simp only [AV.sub]; split <;> first | exact bel_mono (Nat.zero_le _) (hp _) | exact h
  | .p (.o n) _, h => h
  | .r n, h => by simp only [AV.sub]; split <;> first | exact bel_mono (Nat.zero_le _) hr | exact h
  | .f _ fs cs, h => by simp only [AV.sub, AV.bel, Bool.and_eq_true] at h ⊢; exact ⟨subL_bel hp hr h.1, subL_bel hp hr h.2⟩
  | .a cs, h => by simp only [AV.sub, AV.bel] at h ⊢; exact subL_bel hp hr h
  | .t cs, h => by simp only [AV.sub, AV.bel] at h ⊢; exact subL_bel hp hr h
theorem subL_bel {m β : Nat} {pf : Nat → AV} {rf : AV} (hp : ∀ off, (pf off).bel 0 = true) (hr : rf.bel 0 = true) : ∀ {xs : List AV}, AV.belL β xs = true → AV.belL β (AV.subL m pf rf xs) = true
  | [], h => h
  | x :: xs, h => by
    simp only [AV.belL, AV.subL, Bool.and_eq_true] at h ⊢
    exact ⟨sub_bel hp hr h.1, subL_bel hp hr h.2⟩
end

mutual
theorem sub_id {m β : Nat} {pf : Nat → AV} {rf : AV} (hm : β ≤ m) : ∀ {x : AV}, x.bel β = true → AV.sub m pf rf x = x
  | .u, _ => rfl
  | .s _, _ => rfl
  | .l .., _ => rfl
  | .e _, _ => rfl
  | .w .., _ => rfl
  | .p (.s n) _, h => by simp only [AV.bel, decide_eq_true_eq] at h; simp only [AV.sub]; rw [if_neg (by omega)]
  | .p (.o n) _, _ => rfl
  | .r n, h => by simp only [AV.bel, decide_eq_true_eq] at h; simp only [AV.sub]; rw [if_neg (by omega)]
  | .f _ fs cs, h => by simp only [AV.bel, Bool.and_eq_true] at h; simp only [AV.sub]; rw [subL_id hm h.1, subL_id hm h.2]
  | .a cs, h => by simp only [AV.bel] at h; simp only [AV.sub]; rw [subL_id hm h]
  | .t cs, h => by simp only [AV.bel] at h; simp only [AV.sub]; rw [subL_id hm h]
theorem subL_id {m β : Nat} {pf : Nat → AV} {rf : AV} (hm : β ≤ m) : ∀ {xs : List AV}, AV.belL β xs = true → AV.subL m pf rf xs = xs
  | [], _ => rfl
  | x :: xs, h => by
    simp only [AV.belL, Bool.and_eq_true] at h
    simp only [AV.subL]
    rw [sub_id hm h.1, subL_id hm h.2]
end

mutual
theorem CR.sub2 {m : Nat} {pf : Nat → AV} {rf : AV} {K : Owner → Prop} (k : Keep w G S w' G' S' K) (hb : ∀ id, id ≠ .s m → K (.box id)) (hk : ∀ n, n ≠ m → (∃ e sz k cs, S[n]? = some (.row e sz k cs)) → K (.row n))
    (hp : ∀ off v, CR w G S (.p (.s m) off) v → CR w' G' S' (pf off) v) (hr : ∀ v, CR w G S (.r m) v → CR w' G' S' rf v) {x : AV} {v : Value} (h : CR w G S x v) : CR w' G' S' (AV.sub m pf rf x) v :=
  match x, v, h with
  | _, _, .u v => .u v
  | _, _, .s x => .s x
  | _, _, .l n cs A c vs h1 h2 h3 h4 h5 h6 => CR.keep (x := .l n cs) k (.l n cs A c vs h1 h2 h3 h4 h5 h6) (fun o ho => by simp [AV.has] at ho)
  | _, _, .e cs a vs h1 h2 h3 => CR.keep (x := .e cs) k (.e cs a vs h1 h2 h3) (fun o ho => by simp [AV.has] at ho)
  | _, _, .p (.s n) off b h => by
    simp only [AV.sub]
    split
    · rename_i e; subst e; exact hp off _ (.p _ _ _ h)
    · rename_i e; exact .p _ _ _ (k.own _ (hb _ (fun h => e (by injection h))) _ h)
  | _, _, .p (.o n) off b h => .p _ _ _ (k.own _ (hb _ (fun h => by cases h)) _ h)
  | _, _, .r n e sz c cs vs v h1 h2 h3 h4 => by
    simp only [AV.sub]
    split
    · rename_i e; subst e; exact hr _ (.r _ _ _ _ _ _ _ h1 h2 h3 h4)
    · rename_i e; exact CR.keep k (.r _ _ _ _ _ _ _ h1 h2 h3 h4) (fun o ho => by simp [AV.has] at ho; subst ho; exact hk n e ⟨_, _, _, _, h1⟩)
  | _, _, .f fn fs cs vf vc h1 h2 => .f _ _ _ _ _ (CRs.sub2 k hb hk hp hr h1) (CRs.sub2 k hb hk hp hr h2)
  | _, _, .a cs vs h => .a _ _ (CRs.sub2 k hb hk hp hr h)
  | _, _, .t cs vs h => .t _ _ (CRs.sub2 k hb hk hp hr h)
theorem CRs.sub2 {m : Nat} {pf : Nat → AV} {rf : AV} {K : Owner → Prop} (k : Keep w G S w' G' S' K) (hb : ∀ id, id ≠ .s m → K (.box id)) (hk : ∀ n, n ≠ m → (∃ e sz k cs, S[n]? = some (.row e sz k cs)) → K (.row n))
    (hp : ∀ off v, CR w G S (.p (.s m) off) v → CR w' G' S' (pf off) v) (hr : ∀ v, CR w G S (.r m) v → CR w' G' S' rf v) {xs : List AV} {vs : List Value} (h : CRs w G S xs vs) : CRs w' G' S' (AV.subL m pf rf xs) vs :=
  match xs, vs, h with
  | _, _, .nil => .nil
  | _, _, .cons x v xs vs h1 h2 => .cons _ _ _ _ (CR.sub2 k hb hk hp hr h1) (CRs.sub2 k hb hk hp hr h2)
end


theorem CR.subR {m : Nat} {pf : Nat → AV} {rf : AV} (k : Keep w G S w' G' S' (fun o => o.at m = false ∧ ∀ n, o = .row n → ∃ e sz k cs, S[n]? = some (.row e sz k cs)))
    (hp : ∀ off v, CR w G S (.p (.s m) off) v → CR w' G' S' (pf off) v) (hr : ∀ v, CR w G S (.r m) v → CR w' G' S' rf v) {x : AV} {v : Value} (h : CR w G S x v) : CR w' G' S' (AV.sub m pf rf x) v := by
  have k' : Keep w G S w' G' S' (fun o => (∃ id, o = .box id ∧ id ≠ .s m) ∨ ∃ n, o = .row n ∧ n ≠ m ∧ (∃ e sz k cs, S[n]? = some (.row e sz k cs))) :=
    k.imp fun o ho => by
      rcases ho with ⟨id, rfl, hid⟩ | ⟨n, rfl, hn, hh⟩
      · refine ⟨?_, fun n h => by cases h⟩
        cases id with
        | o n => rfl
        | s n => simp only [Owner.at, beq_eq_false_iff_ne]; intro e; exact hid (by rw [e])
      · exact ⟨by simpa [Owner.at] using hn, fun n' h => by injection h with h; subst h; exact hh⟩
  exact CR.sub2 k' (fun id hid => .inl ⟨id, rfl, hid⟩) (fun n hn hh => .inr ⟨n, rfl, hn, hh⟩) hp hr h

def Blk.sub (m : Nat) (pf : Nat → AV) (rf : AV) : Blk → Blk
  | .box T cs => .box T (AV.subL m pf rf cs)
  | b => b

/-- Place m is given up: whatever names it is something else. -/
def St.give (base m : Nat) (pf : Nat → AV) (rf : AV) (st : St) : St :=
  { st with env := AV.subL m pf rf st.env, S := (st.S.mapIdx fun n b => if n < base then b else b.sub m pf rf).set m .dead }

mutual
theorem has_row {x : AV} {v : Value} (h : CR w G S x v) {n : Nat} (hn : x.has (.row n) = true) : ∃ e sz k cs, S[n]? = some (.row e sz k cs) :=
  match x, v, h, hn with
  | _, _, .u v, hn => by simp [AV.has] at hn
  | _, _, .s x, hn => by simp [AV.has] at hn
  | _, _, .l n cs A c vs h1 h2 h3 h4 h5 h6, hn => by simp [AV.has] at hn
  | _, _, .e cs a vs h1 h2 h3, hn => by simp [AV.has] at hn
  | _, _, .p id off b h, hn => by simp [AV.has] at hn
  | _, _, .r n e sz k cs vs v h1 h2 h3 h4, hn => by simp [AV.has] at hn; subst hn; exact ⟨e, sz, k, cs, h1⟩
  | _, _, .f fn fs cs vf vc h1 h2, hn => by
    simp only [AV.has, Bool.or_eq_true] at hn
    rcases hn with hn | hn
    · exact hasL_row h1 hn
    · exact hasL_row h2 hn
  | _, _, .a cs vs h, hn => hasL_row h (by simpa [AV.has] using hn)
  | _, _, .t cs vs h, hn => hasL_row h (by simpa [AV.has] using hn)
theorem hasL_row {xs : List AV} {vs : List Value} (h : CRs w G S xs vs) {n : Nat} (hn : AV.hasL (.row n) xs = true) : ∃ e sz k cs, S[n]? = some (.row e sz k cs) :=
  match xs, vs, h, hn with
  | _, _, .nil, hn => by simp [AV.hasL] at hn
  | _, _, .cons x v xs vs h1 h2, hn => by
    simp only [AV.hasL, Bool.or_eq_true] at hn
    rcases hn with hn | hn
    · exact has_row h1 hn
    · exact hasL_row h2 hn
end

theorem release_some {m : Nat} {b : Nat} {o : Owner} (h : release m G b = some o) : G b = some o ∧ o.at m = false := by
  unfold release at h
  split at h
  · rename_i o' ho
    split at h <;> simp at h
    subst h
    rename_i hh
    exact ⟨ho, by simpa using hh⟩
  · cases h
theorem release_of {m : Nat} {b : Nat} {o : Owner} (h : G b = some o) (ho : o.at m = false) : release m G b = some o := by
  unfold release; rw [h]; simp [ho]
theorem release_none {m : Nat} {b : Nat} (h : G b = none) : release m G b = none := by unfold release; rw [h]
theorem release_idle {m : Nat} {b : Nat} (h : idle (G b) = true) : release m G b = G b := by
  unfold release
  cases hg : G b with
  | none => rfl
  | some o => rw [hg] at h; cases o <;> first | rfl | cases h
theorem release_at {m : Nat} {b : Nat} {o : Owner} (h : G b = some o) (ho : o.at m = true) : release m G b = none := by
  unfold release; rw [h]; simp [ho]

theorem give_get {st : St} {m n : Nat} {pf : Nat → AV} {rf : AV} (h : n ≠ m) : (st.give base m pf rf).S[n]? = (st.S[n]?).map fun b => if n < base then b else b.sub m pf rf := by
  simp only [St.give, List.getElem?_set]
  rw [if_neg (by omega)]
  simp [List.getElem?_mapIdx]

theorem at_box {id : Bid} {m : Nat} (h : id ≠ .s m) : (Owner.box id).at m = false := by
  cases id with
  | o n => rfl
  | s n => simp only [Owner.at, beq_eq_false_iff_ne]; intro e; exact h (by rw [e])

/-- Place m is another block now (or none); whatever named it is something else. -/
def St.giveTo (base m : Nat) (pf : Nat → AV) (rf : AV) (blk : Blk) (st : St) : St :=
  { st with env := AV.subL m pf rf st.env, S := (st.S.mapIdx fun n b => if n < base then b else b.sub m pf rf).set m blk }

theorem giveTo_get {st : St} {m n : Nat} {pf : Nat → AV} {rf : AV} {blk : Blk} (h : n ≠ m) : (st.giveTo base m pf rf blk).S[n]? = (st.S[n]?).map fun b => if n < base then b else b.sub m pf rf := by
  simp only [St.giveTo, List.getElem?_set]
  rw [if_neg (by omega)]
  simp [List.getElem?_mapIdx]

theorem giveTo_len {st : St} {m : Nat} {pf : Nat → AV} {rf : AV} {blk : Blk} : (st.giveTo base m pf rf blk).S.length = st.S.length := by simp [St.giveTo]

theorem giveTo_row {st : St} {m n : Nat} {pf : Nat → AV} {rf : AV} {blk : Blk} {e sz k : Nat} {cs : List AV} (hn : n ≠ m) (hs : st.S[n]? = some (.row e sz k cs)) : (st.giveTo base m pf rf blk).S[n]? = some (.row e sz k cs) := by
  rw [giveTo_get hn, hs]; simp only [Option.map_some]; split <;> rfl

/-- What the values other than those that name m lean on. -/
def offM (S : List Blk) (m : Nat) (o : Owner) : Prop := o.at m = false ∧ ∀ n, o = .row n → ∃ e sz k cs, S[n]? = some (.row e sz k cs)

theorem Rel.giveTo {st : St} {a : Act} (h : Rel base w G st a) {m : Nat} (hm : base ≤ m) (hlt : m < st.S.length) {pf : Nat → AV} {rf : AV} {blk : Blk} (hpb : ∀ off, (pf off).bel 0 = true) (hrb : rf.bel 0 = true)
    (hk : Keep w G st.S w' G' (st.giveTo base m pf rf blk).S (offM st.S m))
    (hp : ∀ off v, CR w G st.S (.p (.s m) off) v → CR w' G' (st.giveTo base m pf rf blk).S (pf off) v) (hr : ∀ v, CR w G st.S (.r m) v → CR w' G' (st.giveTo base m pf rf blk).S rf v)
    (hheap : ∀ b o, G b = some o → o.at m = false → w'.heap[b]? = w.heap[b]?)
    (hG : ∀ b o, G' b = some o → (G b = some o ∧ o.at m = false) ∨ (o.at m = true ∧ b < w'.heap.size ∧ aliveO (st.giveTo base m pf rf blk).S st.O o ∧ ∀ b' , G' b' = some o → b' = b))
    (hbox : ∀ T cs, blk = .box T cs → AV.belL st.S.length cs = true ∧ ∃ b vs, G' b = some (.box (.s m)) ∧ w'.heap[b]? = some (.cells vs T (0, 0)) ∧ vs.size = cs.length ∧
      ∀ (j : Nat) (x : AV) (v : Value), cs[j]? = some x → vs[j]? = some v → cellR w' G' (st.giveTo base m pf rf blk).S (.s m) j x v)
    (hrow : ∀ e sz n cs b, blk = .row e sz n cs → G' b = some (.box (.s m)) → RowR w' G' (st.giveTo base m pf rf blk).S m e sz n cs b)
    (hos : w'.os = w.os ∧ w'.tape = w.tape ∧ w'.output = w.output) :
    Rel base w' G' (st.giveTo base m pf rf blk) a ∧ FEvol base w G st.S st.O w' G' (st.giveTo base m pf rf blk).S (st.giveTo base m pf rf blk).O := by
  have hlen : (st.giveTo base m pf rf blk).S.length = st.S.length := giveTo_len
  have hm' : (st.giveTo base m pf rf blk).S[m]? = some blk := by simp [St.giveTo, List.getElem?_set, hlt]
  have hCR : ∀ {x : AV} {v : Value}, CR w G st.S x v → CR w' G' (st.giveTo base m pf rf blk).S (AV.sub m pf rf x) v := fun hc => hc.subR hk hp hr
  have hgetB : ∀ id T cs, getB (st.giveTo base m pf rf blk).S st.O id = some (.box T cs) → (id = .s m ∧ blk = .box T cs) ∨ (∃ cs0, getB st.S st.O id = some (.box T cs0) ∧ cs = AV.subL m pf rf cs0 ∧ id ≠ .s m) := by
    intro id T cs hg
    cases id with
    | o n => exact .inr ⟨cs, hg, (subL_id (Nat.zero_le m) (h.scopeO n T cs hg)).symm, by simp⟩
    | s n =>
      simp only [getB] at hg ⊢
      by_cases hn : n = m
      · subst hn
        rw [hm'] at hg
        injection hg with hg
        exact .inl ⟨rfl, hg⟩
      · rw [giveTo_get hn] at hg
        simp only [Option.map_eq_some_iff] at hg
        obtain ⟨b0, hb0, hb1⟩ := hg
        by_cases hnb : n < base
        · rw [if_pos hnb] at hb1
          subst hb1
          exact .inr ⟨cs, hb0, (subL_id hm (h.scopeB n T cs hnb hb0)).symm, by simp [hn]⟩
        · rw [if_neg hnb] at hb1
          cases b0 <;> simp only [Blk.sub, reduceCtorEq, Blk.box.injEq] at hb1
          obtain ⟨rfl, rfl⟩ := hb1
          exact .inr ⟨_, hb0, rfl, by simp [hn]⟩
  have hkb : ∀ (id : Bid) (b : Nat), id ≠ .s m → G b = some (.box id) → G' b = some (.box id) := fun id b hid hb => hk.own _ ⟨at_box hid, fun n h => by cases h⟩ b hb
  refine ⟨⟨h.defers, by simp [St.giveTo, length_subL, h.size], ?_, ?_, by rw [hlen, h.len]; simp [St.giveTo, length_subL], ?_, ?_, ?_, h.scopeO⟩, ⟨?_, hos.1, hos.2.1, hos.2.2, hlen, Nat.le_refl _, ?_⟩⟩
  · refine .of (by simp [St.giveTo, length_subL, h.size]) fun j x v hx hv => ?_
    have hx' : (AV.subL m pf rf st.env)[j]? = some x := hx
    rw [subL_map, List.getElem?_map] at hx'
    simp only [Option.map_eq_some_iff] at hx'
    obtain ⟨x0, h0, rfl⟩ := hx'
    exact hCR (h.env.get' h0 hv)
  · refine ⟨fun b b' o hb hb' => ?_, fun b o hb => ?_, fun b o hb => ?_, h.inv.orow, fun m' e sz n cs b hs hb => ?_, fun id T cs hg => ?_⟩
    · rcases hG b o hb with ⟨h1, _⟩ | ⟨h1, _, _, h2⟩
      · rcases hG b' o hb' with ⟨h3, _⟩ | ⟨h3, _, _, h4⟩
        · exact h.inv.inj b b' o h1 h3
        · exact (h4 b hb)
      · exact (h2 b' hb').symm
    · rcases hG b o hb with ⟨h1, _⟩ | ⟨_, h1, _⟩
      · exact Nat.lt_of_lt_of_le (h.inv.rng b o h1) hk.size
      · exact h1
    · rcases hG b o hb with ⟨h1, h2⟩ | ⟨_, _, h1, _⟩
      · have hal := h.inv.live b o h1
        have hbx : ∀ id : Bid, id ≠ .s m → (∃ T cs, getB st.S st.O id = some (.box T cs)) → ∃ T cs, getB (st.giveTo base m pf rf blk).S (st.giveTo base m pf rf blk).O id = some (.box T cs) := by
          rintro id hid ⟨T, cs, hg⟩
          cases id with
          | o n => exact ⟨T, cs, hg⟩
          | s n =>
            have hn : n ≠ m := fun e => hid (by rw [e])
            refine ⟨T, if n < base then cs else AV.subL m pf rf cs, ?_⟩
            simp only [getB] at hg ⊢
            rw [giveTo_get hn, hg]
            simp only [Option.map_some]
            split <;> rfl
        cases o with
        | box id =>
          have hid : id ≠ .s m := fun e => by subst e; simp [Owner.at] at h2
          rcases hal with hal | ⟨e, sz, k, cs, hal⟩
          · exact .inl (hbx id hid hal)
          · refine .inr ⟨e, sz, k, cs, ?_⟩
            cases id with
            | o n => exact hal
            | s n => exact giveTo_row (fun e => hid (by rw [e])) hal
        | cell id off => exact hbx id (fun e => by subst e; simp [Owner.at] at h2) hal
        | row n =>
          obtain ⟨e, sz, k, cs, hs⟩ := hal
          exact ⟨e, sz, k, cs, giveTo_row (by simpa [Owner.at] using h2) hs⟩
        | ext n => trivial
      · exact h1
    · by_cases hne : m' = m
      · subst hne
        rw [hm'] at hs
        injection hs with hs
        exact hrow e sz n cs b hs hb
      · rw [giveTo_get hne] at hs
        simp only [Option.map_eq_some_iff] at hs
        obtain ⟨b0, hb0, hb1⟩ := hs
        have hb0' : b0 = .row e sz n cs := by
          split at hb1
          · exact hb1
          · cases b0 <;> simp only [Blk.sub, reduceCtorEq] at hb1
            exact hb1
        subst hb0'
        rcases hG b _ hb with ⟨h1, _⟩ | ⟨h1, _⟩
        · exact (h.inv.row m' e sz n cs b hb0 h1).keep hk ⟨by simpa [Owner.at] using hne, fun n' h' => by injection h' with h'; subst h'; exact ⟨_, _, _, _, hb0⟩⟩ hb0
        · simp [Owner.at] at h1; exact absurd h1 hne
    · rcases hgetB id T cs hg with ⟨rfl, hb⟩ | ⟨cs0, h0, rfl, hid⟩
      · exact (hbox T cs hb).2
      · obtain ⟨b, vs, h1, h2, h3, h4⟩ := h.inv.box id T cs0 h0
        have hatc : ∀ off, (Owner.cell id off).at m = false := fun off => by
          cases id with
          | o n => rfl
          | s n => simp only [Owner.at, beq_eq_false_iff_ne]; intro e; exact hid (by rw [e])
        refine ⟨b, vs, hkb id b hid h1, (hheap b _ h1 (at_box hid)).trans h2, by rw [length_subL]; exact h3, fun j x v hx hv => ?_⟩
        rw [subL_map, List.getElem?_map] at hx
        simp only [Option.map_eq_some_iff] at hx
        obtain ⟨x0, hx0, rfl⟩ := hx
        have h5 := h4 j x0 v hx0 hv
        cases x0 with
        | w e sz n cs =>
          obtain ⟨us, hh, hcs, hd⟩ := h5
          refine ⟨us, ⟨hh.1, hh.2.1, ?_⟩, CRs.keep hk hcs (has_data hd _), hd⟩
          rcases hh.2.2 with hh | ⟨b, cap, cur, hv, hg, hb, hrest⟩
          · exact .inl hh
          · exact .inr ⟨b, cap, cur, hv, hk.own _ ⟨hatc j, fun n h => by cases h⟩ b hg, (hheap b _ hg (hatc j)).trans hb, hrest⟩
        | _ => exact cellR.mk (hCR h5)
  · rw [hlen]; exact subL_bel hpb hrb h.scopeE
  · intro n T cs hg
    rw [hlen]
    rcases hgetB (.s n) T cs hg with ⟨_, hb⟩ | ⟨cs0, h0, rfl, _⟩
    · exact (hbox T cs hb).1
    · exact subL_bel hpb hrb (h.scopeS n T cs0 h0)
  · intro n T cs hn hg
    rcases hgetB (.s n) T cs hg with ⟨e, hb⟩ | ⟨cs0, h0, rfl, _⟩
    · injection e with e; omega
    · exact subL_bel hpb hrb (h.scopeB n T cs0 hn h0)
  · refine ⟨hk.free, hk.size, fun o ho b hb => ?_, fun n hn e sz k cs hs => ?_⟩
    · cases o with
      | box id => exact hkb id b (fun e => by subst e; simp only [outO] at ho; omega) hb
      | row n =>
        simp only [outO] at ho
        refine hk.own _ ⟨by simp only [Owner.at, beq_eq_false_iff_ne]; omega, fun n' h' => ?_⟩ b hb
        injection h' with h'; subst h'
        exact h.inv.live b _ hb
      | cell _ _ => exact ho.elim
      | ext n => exact hk.own _ ⟨rfl, fun n' h' => by cases h'⟩ b hb
    · simp only [outO] at hn
      exact ⟨giveTo_row (by omega) hs, fun b hb => ⟨hkb (.s n) b (fun e => by injection e with e; omega) hb, hheap b _ hb (by simp only [Owner.at, beq_eq_false_iff_ne]; omega)⟩⟩
  · intro n β hn hh T cs hg
    rw [giveTo_get (by omega)] at hg
    rw [show (fun b : Blk => if n < base then b else b.sub m pf rf) = id from funext fun b => by rw [if_pos hn]; rfl] at hg
    exact hh T cs (by rw [Option.map_id] at hg; exact hg)

theorem Rel.give {st : St} {a : Act} (h : Rel base w G st a) {m : Nat} (hm : base ≤ m) (hlt : m < st.S.length) {pf : Nat → AV} {rf : AV} (hpb : ∀ off, (pf off).bel 0 = true) (hrb : rf.bel 0 = true)
    (hp : ∀ off v, CR w G st.S (.p (.s m) off) v → CR w (release m G) (st.give base m pf rf).S (pf off) v) (hr : ∀ v, CR w G st.S (.r m) v → CR w (release m G) (st.give base m pf rf).S rf v) :
    Rel base w (release m G) (st.give base m pf rf) a ∧ FEvol base w G st.S st.O w (release m G) (st.give base m pf rf).S (st.give base m pf rf).O ∧ (st.give base m pf rf).S[m]? = some .dead := by
  have hk : Keep w G st.S w (release m G) (st.giveTo base m pf rf .dead).S (offM st.S m) :=
    ⟨fun b _ hg => ⟨rfl, release_idle hg⟩, Nat.le_refl _, fun o ho b hb => release_of hb ho.1, fun n hn _ _ _ _ hs => by
      have hne : n ≠ m := by simpa [Owner.at] using hn.1
      exact ⟨giveTo_row hne hs, fun _ hb => ⟨release_of hb (by simpa [Owner.at] using hne), rfl⟩⟩⟩
  obtain ⟨h1, h2⟩ := h.giveTo (blk := .dead) hm hlt hpb hrb hk hp hr (fun _ _ _ _ => rfl) (fun b o hb => .inl (release_some hb)) (fun T cs h => by cases h) (fun _ _ _ _ _ h => by cases h) ⟨rfl, rfl, rfl⟩
  exact ⟨h1, h2, by simp [St.give, List.getElem?_set, hlt]⟩

/-- Place m is given up; what named it is unknown. -/
def St.drop (base m : Nat) (st : St) : St := st.give base m (fun _ => .u) .u

theorem Rel.drop {st : St} {a : Act} (h : Rel base w G st a) {m : Nat} (hm : base ≤ m) (hlt : m < st.S.length) :
    Rel base w (release m G) (st.drop base m) a ∧ FEvol base w G st.S st.O w (release m G) (st.drop base m).S (st.drop base m).O ∧ (st.drop base m).S[m]? = some .dead :=
  h.give hm hlt (fun _ => rfl) rfl (fun _ _ _ => .u _) (fun _ _ => .u _)
end
end Go.Am
/-
  THE ABSTRACT MACHINE: new boxes and rows at a frame's places; rows and boxes that are frozen; stores.
-/
namespace Go.Am
open Go

section
variable {base : Nat} {w w' w'' : World} {G G' G'' : Ghost} {S S' S'' O O' O'' : List Blk} {P : Program}

mutual
theorem sub_same {m : Nat} {pf : Nat → AV} {rf : AV} : ∀ {x : AV}, (∀ o, x.has o = true → o.at m = false) → AV.sub m pf rf x = x
  | .u, _ => rfl
  | .s _, _ => rfl
  | .l .., _ => rfl
  | .e _, _ => rfl
  | .w .., _ => rfl
  | .p (.s n) _, h => by
    have := h (.box (.s n)) (by simp [AV.has])
    simp only [Owner.at, beq_eq_false_iff_ne] at this
    simp [AV.sub, this]
  | .p (.o n) _, _ => rfl
  | .r n, h => by
    have := h (.row n) (by simp [AV.has])
    simp only [Owner.at, beq_eq_false_iff_ne] at this
    simp [AV.sub, this]
  | .f _ fs cs, h => by simp only [AV.sub]; rw [subL_same (fun o ho => h o (by simp [AV.has, ho])), subL_same (fun o ho => h o (by simp [AV.has, ho]))]
  | .a cs, h => by simp only [AV.sub]; rw [subL_same (fun o ho => h o (by simp [AV.has, ho]))]
  | .t cs, h => by simp only [AV.sub]; rw [subL_same (fun o ho => h o (by simp [AV.has, ho]))]
theorem subL_same {m : Nat} {pf : Nat → AV} {rf : AV} : ∀ {xs : List AV}, (∀ o, AV.hasL o xs = true → o.at m = false) → AV.subL m pf rf xs = xs
  | [], _ => rfl
  | x :: xs, h => by simp only [AV.subL]; rw [sub_same (fun o ho => h o (by simp [AV.hasL, ho])), subL_same (fun o ho => h o (by simp [AV.hasL, ho]))]
end

mutual
theorem has_live (hI : InvH w G S O) {x : AV} {v : Value} (h : CR w G S x v) {o : Owner} (ho : x.has o = true) : aliveO S O o :=
  match x, v, h, ho with
  | _, _, .u v, hn => by simp [AV.has] at hn
  | _, _, .s x, hn => by simp [AV.has] at hn
  | _, _, .l n cs A c vs h1 h2 h3 h4 h5 h6, hn => by simp [AV.has] at hn
  | _, _, .e cs a vs h1 h2 h3, hn => by simp [AV.has] at hn
  | _, _, .p id off b h, hn => by simp [AV.has] at hn; subst hn; exact hI.live b _ h
  | _, _, .r n e sz k cs vs v h1 h2 h3 h4, hn => by simp [AV.has] at hn; subst hn; exact ⟨e, sz, k, cs, h1⟩
  | _, _, .f fn fs cs vf vc h1 h2, hn => by
    simp only [AV.has, Bool.or_eq_true] at hn
    rcases hn with hn | hn
    · exact hasL_live hI h1 hn
    · exact hasL_live hI h2 hn
  | _, _, .a cs vs h, hn => hasL_live hI h (by simpa [AV.has] using hn)
  | _, _, .t cs vs h, hn => hasL_live hI h (by simpa [AV.has] using hn)
theorem hasL_live (hI : InvH w G S O) {xs : List AV} {vs : List Value} (h : CRs w G S xs vs) {o : Owner} (ho : AV.hasL o xs = true) : aliveO S O o :=
  match xs, vs, h, ho with
  | _, _, .nil, hn => by simp [AV.hasL] at hn
  | _, _, .cons x v xs vs h1 h2, hn => by
    simp only [AV.hasL, Bool.or_eq_true] at hn
    rcases hn with hn | hn
    · exact has_live hI h1 hn
    · exact hasL_live hI h2 hn
end

theorem dead_at {m : Nat} (hd : S[m]? = some .dead) {o : Owner} (h : aliveO S O o) : o.at m = false := by
  cases o with
  | box id => cases id with
    | o n => rfl
    | s n =>
      simp only [Owner.at, beq_eq_false_iff_ne]
      rintro rfl
      rcases h with ⟨T, cs, h⟩ | ⟨e, sz, k, cs, h⟩ <;> (simp only [getB] at h; rw [hd] at h; cases h)
  | row n =>
    obtain ⟨e, sz, k, cs, h⟩ := h
    simp only [Owner.at, beq_eq_false_iff_ne]
    rintro rfl
    rw [hd] at h; cases h
  | ext n => rfl
  | cell id off => cases id with
    | o n => rfl
    | s n =>
      obtain ⟨T, cs, h⟩ := h
      simp only [Owner.at, beq_eq_false_iff_ne]
      rintro rfl
      simp only [getB] at h; rw [hd] at h; cases h

theorem sub_dead (hI : InvH w G S O) {m : Nat} (hd : S[m]? = some .dead) {pf : Nat → AV} {rf x : AV} {v : Value} (h : CR w G S x v) : AV.sub m pf rf x = x :=
  sub_same fun _ ho => dead_at hd (has_live hI h ho)
theorem subL_dead (hI : InvH w G S O) {m : Nat} (hd : S[m]? = some .dead) {pf : Nat → AV} {rf : AV} {xs : List AV} {vs : List Value} (h : CRs w G S xs vs) : AV.subL m pf rf xs = xs :=
  subL_same fun _ ho => dead_at hd (hasL_live hI h ho)

theorem Rel.giveTo_dead {st : St} {a : Act} (h : Rel base w G st a) {m : Nat} (hd : st.S[m]? = some .dead) (pf : Nat → AV) (rf : AV) (blk : Blk) : st.giveTo base m pf rf blk = { st with S := st.S.set m blk } := by
  have h1 : AV.subL m pf rf st.env = st.env := subL_dead h.inv hd h.env
  have h2 : (st.S.mapIdx fun n b => if n < base then b else b.sub m pf rf) = st.S := by
    apply List.ext_getElem?
    intro n
    rw [List.getElem?_mapIdx]
    cases hn : st.S[n]? with
    | none => rfl
    | some b =>
      simp only [Option.map_some]
      split
      · rfl
      · cases b with
        | box T cs =>
          obtain ⟨b, vs, _, _, hl, hc⟩ := h.inv.box (.s n) T cs hn
          have : AV.subL m pf rf cs = cs := by
            rw [subL_map]
            conv => rhs; rw [← List.map_id cs]
            apply List.map_congr_left
            intro x hx
            obtain ⟨j, hj, rfl⟩ := List.getElem_of_mem hx
            have hj' : j < vs.size := by omega
            have := hc j cs[j] vs[j] (by simp [hj]) (by simp [hj'])
            generalize cs[j] = x at this ⊢
            cases x with
            | w e sz n cs => rfl
            | _ => exact sub_dead h.inv hd this
          simp only [Blk.sub, this]
        | _ => rfl
  unfold St.giveTo
  rw [h1, h2]

/-- A new block; who owns it. -/
def upd (G : Ghost) (b : Nat) (o : Owner) : Ghost := fun b' => if b' = b then some o else G b'

theorem upd_at (G : Ghost) (b : Nat) (o : Owner) : upd G b o b = some o := by simp [upd]
theorem upd_ne (G : Ghost) {b b' : Nat} (o : Owner) (h : b' ≠ b) : upd G b o b' = G b' := by simp [upd, h]

theorem push_lt (w : World) (o : Obj) {b : Nat} (h : b < w.heap.size) : ({ w with heap := w.heap.push o } : World).heap[b]? = w.heap[b]? := by
  simp [Array.getElem?_push, Nat.ne_of_lt h]
theorem push_new (w : World) (o : Obj) : ({ w with heap := w.heap.push o } : World).heap[w.heap.size]? = some o := by simp

theorem keep_push {st : St} (hI : InvH w G st.S st.O) (o : Obj) (m : Nat) (ow : Owner) (pf : Nat → AV) (rf : AV) (blk : Blk) :
    Keep w G st.S { w with heap := w.heap.push o } (upd (release m G) w.heap.size ow) (st.giveTo base m pf rf blk).S (offM st.S m) where
  free b hb hg := ⟨push_lt w o hb, by rw [upd_ne _ _ (Nat.ne_of_lt hb)]; exact release_idle hg⟩
  size := by simp
  own ow' ho b hb := by rw [upd_ne _ _ (Nat.ne_of_lt (hI.rng b _ hb))]; exact release_of hb ho.1
  row n hn _ _ _ _ hs := by
    have hne : n ≠ m := by simpa [Owner.at] using hn.1
    exact ⟨giveTo_row hne hs, fun b hb => ⟨by rw [upd_ne _ _ (Nat.ne_of_lt (hI.rng b _ hb))]; exact release_of hb (by simpa [Owner.at] using hne), push_lt w o (hI.rng b _ hb)⟩⟩

theorem upd_owner {b b' : Nat} {o o' : Owner} {m : Nat} (h : upd (release m G) b o b' = some o') : (b' = b ∧ o' = o) ∨ (b' ≠ b ∧ G b' = some o' ∧ o'.at m = false) := by
  unfold upd at h
  split at h
  · rename_i e; injection h with h; exact .inl ⟨e, h.symm⟩
  · rename_i e; exact .inr ⟨e, release_some h⟩

/-- A box at a place of the frame. -/
theorem Rel.boxAt {st : St} {a : Act} (h : Rel base w G st a) {m : Nat} (hm : base ≤ m) (hlt : m < st.S.length) {T : TypeId} {cs : List AV} {vs : List Value} (hc : CRs w G st.S cs vs) (hb : AV.belL st.S.length cs = true) :
    ∃ G', Rel base { w with heap := w.heap.push (.cells vs.toArray T) } G' (st.giveTo base m (fun _ => .u) .u (.box T (AV.subL m (fun _ => .u) .u cs))) a ∧
      FEvol base w G st.S st.O { w with heap := w.heap.push (.cells vs.toArray T) } G' (st.giveTo base m (fun _ => .u) .u (.box T (AV.subL m (fun _ => .u) .u cs))).S (st.giveTo base m (fun _ => .u) .u (.box T (AV.subL m (fun _ => .u) .u cs))).O ∧
      CR { w with heap := w.heap.push (.cells vs.toArray T) } G' (st.giveTo base m (fun _ => .u) .u (.box T (AV.subL m (fun _ => .u) .u cs))).S (.p (.s m) 0) (.pointer (some ⟨w.heap.size, 0, none⟩)) := by
  have hk := keep_push (base := base) h.inv (.cells vs.toArray T) m (.box (.s m)) (fun _ => .u) .u (.box T (AV.subL m (fun _ => .u) .u cs))
  have hself : (st.giveTo base m (fun _ => .u) .u (.box T (AV.subL m (fun _ => .u) .u cs))).S[m]? = some (.box T (AV.subL m (fun _ => .u) .u cs)) := by simp [St.giveTo, List.getElem?_set, hlt]
  obtain ⟨h1, h2⟩ := h.giveTo hm hlt (fun _ => rfl) rfl hk (fun _ _ _ => .u _) (fun _ _ => .u _) (fun b o hb _ => push_lt w _ (h.inv.rng b o hb))
    (fun b o hb => by
      rcases upd_owner hb with ⟨rfl, rfl⟩ | ⟨_, h1, h2⟩
      · refine .inr ⟨by simp [Owner.at], by simp, .inl ⟨_, _, hself⟩, fun b' hb' => ?_⟩
        rcases upd_owner hb' with ⟨h, _⟩ | ⟨_, _, h⟩
        · exact h
        · simp [Owner.at] at h
      · exact .inl ⟨h1, h2⟩)
    (fun T' cs' he => by
      injection he with e1 e2; subst e1 e2
      refine ⟨subL_bel (fun _ => rfl) rfl hb, w.heap.size, vs.toArray, upd_at _ _ _, push_new w _, by simp [length_subL, hc.length], fun j x v hx hv => ?_⟩
      rw [subL_map, List.getElem?_map] at hx
      simp only [Option.map_eq_some_iff] at hx
      obtain ⟨x0, hx0, rfl⟩ := hx
      exact cellR.mk ((hc.get' hx0 (by simpa using hv)).subR hk (fun _ _ _ => .u _) (fun _ _ => .u _)))
    (fun _ _ _ _ _ h => by cases h) ⟨rfl, rfl, rfl⟩
  exact ⟨_, h1, h2, .p _ _ _ (upd_at _ _ _)⟩

/-- A row at a place of the frame. -/
theorem Rel.rowAt {st : St} {a : Act} (h : Rel base w G st a) {m : Nat} (hm : base ≤ m) (hlt : m < st.S.length) {e sz n cap : Nat} {cs : List AV} {vs : List Value} {cur : Array Value}
    (hc : CRs w G st.S cs vs) (hd : ∀ x ∈ cs, x.data = true) (hsz : 0 < sz) (hl : vs.length = n * sz) (hn : n ≤ cap) (hcap : cap ≤ maxLen) (hcs : cur.size = cap * sz) (ht : cur.toList.take (n * sz) = vs) :
    ∃ G', Rel base { w with heap := w.heap.push (.cells cur e) } G' (st.giveTo base m (fun _ => .u) .u (.row e sz n cs)) a ∧
      FEvol base w G st.S st.O { w with heap := w.heap.push (.cells cur e) } G' (st.giveTo base m (fun _ => .u) .u (.row e sz n cs)).S (st.giveTo base m (fun _ => .u) .u (.row e sz n cs)).O ∧
      CR { w with heap := w.heap.push (.cells cur e) } G' (st.giveTo base m (fun _ => .u) .u (.row e sz n cs)).S (.r m) (.slice (some ⟨w.heap.size, 0, none⟩) n cap) := by
  have hk := keep_push (base := base) h.inv (.cells cur e) m (.box (.s m)) (fun _ => .u) .u (.row e sz n cs)
  have hself : (st.giveTo base m (fun _ => .u) .u (.row e sz n cs)).S[m]? = some (.row e sz n cs) := by simp [St.giveTo, List.getElem?_set, hlt]
  obtain ⟨h1, h2⟩ := h.giveTo hm hlt (fun _ => rfl) rfl hk (fun _ _ _ => .u _) (fun _ _ => .u _) (fun b o hb _ => push_lt w _ (h.inv.rng b o hb))
    (fun b o hb => by
      rcases upd_owner hb with ⟨rfl, rfl⟩ | ⟨_, h1, h2⟩
      · refine .inr ⟨by simp [Owner.at], by simp, .inr ⟨_, _, _, _, hself⟩, fun b' hb' => ?_⟩
        rcases upd_owner hb' with ⟨h, _⟩ | ⟨_, _, h⟩
        · exact h
        · simp [Owner.at] at h
      · exact .inl ⟨h1, h2⟩)
    (fun T' cs' he => by cases he)
    (fun e' sz' n' cs' b he hb => by
      injection he with q1 q2 q3 q4; subst q1 q2 q3 q4
      rcases upd_owner hb with ⟨rfl, _⟩ | ⟨_, _, h⟩
      · exact ⟨cap, vs, ⟨hl, hsz, .inr ⟨w.heap.size, cap, cur, rfl, upd_at _ _ _, push_new w _, hn, hcap, hcs, ht⟩⟩, hc.keep hk (has_data hd _), hd⟩
      · simp [Owner.at] at h) ⟨rfl, rfl, rfl⟩
  refine ⟨_, h1, h2, .r m e sz n cs vs _ hself ⟨hl, hsz, .inr ⟨w.heap.size, cap, cur, rfl, upd_at _ _ _, push_new w _, hn, hcap, hcs, ht⟩⟩ (hc.keep hk (has_data hd _)) hd⟩

/-- A nil row at a place of the frame. -/
theorem Rel.nilAt {st : St} {a : Act} (h : Rel base w G st a) {m : Nat} (hm : base ≤ m) (hlt : m < st.S.length) {e sz : Nat} (hsz : 0 < sz) :
    ∃ G', Rel base w G' (st.giveTo base m (fun _ => .u) .u (.row e sz 0 [])) a ∧
      FEvol base w G st.S st.O w G' (st.giveTo base m (fun _ => .u) .u (.row e sz 0 [])).S (st.giveTo base m (fun _ => .u) .u (.row e sz 0 [])).O ∧
      CR w G' (st.giveTo base m (fun _ => .u) .u (.row e sz 0 [])).S (.r m) (.slice none 0 0) := by
  have hself : (st.giveTo base m (fun _ => .u) .u (.row e sz 0 [])).S[m]? = some (.row e sz 0 []) := by simp [St.giveTo, List.getElem?_set, hlt]
  have hk : Keep w G st.S w (release m G) (st.giveTo base m (fun _ => .u) .u (.row e sz 0 [])).S (offM st.S m) :=
    ⟨fun b _ hg => ⟨rfl, release_idle hg⟩, Nat.le_refl _, fun o ho b hb => release_of hb ho.1, fun n hn _ _ _ _ hs => by
      have hne : n ≠ m := by simpa [Owner.at] using hn.1
      exact ⟨giveTo_row hne hs, fun _ hb => ⟨release_of hb (by simpa [Owner.at] using hne), rfl⟩⟩⟩
  obtain ⟨h1, h2⟩ := h.giveTo hm hlt (fun _ => rfl) rfl hk (fun _ _ _ => .u _) (fun _ _ => .u _) (fun _ _ _ _ => rfl) (fun b o hb => .inl (release_some hb)) (fun T' cs' he => by cases he) (fun _ _ _ _ b _ hb => by have := (release_some hb).2; simp [Owner.at] at this) ⟨rfl, rfl, rfl⟩
  exact ⟨_, h1, h2, .r m e sz 0 [] [] _ hself ⟨by simp, hsz, .inl ⟨rfl, rfl⟩⟩ .nil (fun _ h => by cases h)⟩

/-- A row becomes a list: nobody writes it any more. -/
def St.freezeRow (base m : Nat) (st : St) : Option St :=
  match st.S[m]? with
  | some (.row _ _ n cs) => some (st.give base m (fun off => .e (cs.drop off)) (.l n cs))
  | _ => none

theorem Rel.freezeRow {st st' : St} {a : Act} (h : Rel base w G st a) {m : Nat} (hm : base ≤ m) (hf : st.freezeRow base m = some st') :
    ∃ G', Rel base w G' st' a ∧ FEvol base w G st.S st.O w G' st'.S st'.O := by
  unfold St.freezeRow at hf
  split at hf
  rotate_left
  · cases hf
  rename_i e sz n cs hS
  injection hf with hf; subst hf
  have hlt : m < st.S.length := (List.getElem?_eq_some_iff.1 hS).1
  have hkd : Keep w G st.S w (release m G) (st.give base m (fun off => .e (cs.drop off)) (.l n cs)).S (fun _ => False) := ⟨fun b _ hg => ⟨rfl, release_idle hg⟩, Nat.le_refl _, fun _ h => h.elim, fun _ h => h.elim⟩
  obtain ⟨h1, h2, _⟩ := h.give hm hlt (pf := fun off => .e (cs.drop off)) (rf := .l n cs) (fun _ => rfl) rfl (fun off v hv => by
    cases hv with | p _ _ b hb =>
    obtain ⟨cap, vs, q1, q2, q3⟩ := h.inv.row m e sz n cs b hS hb
    refine .e _ _ (vs.drop off) ((q2.drop off).keep hkd (has_data (data_drop q3 off) _)) (data_drop q3 off) ⟨h.inv.rng b _ hb, release_at hb (by simp [Owner.at]), rfl, fun j y hy => ?_⟩
    rw [List.getElem?_drop] at hy
    rw [add_eq rfl]
    exact q1.stable (off + j) y hy) (fun v hv => by
    cases hv with | r _ e' sz' n' cs' vs v hS' hh hc hd =>
    rw [hS] at hS'; injection hS' with hS'; injection hS' with e1 e2 e3 e4; subst e1 e2 e3 e4
    have hc' := hc.keep hkd (has_data hd _)
    have hh' := hh
    obtain ⟨q1, q0, q2⟩ := hh
    rcases q2 with ⟨rfl, rfl⟩ | ⟨b, cap, cur, rfl, hg, hb, hn, hcap, hcs, ht⟩
    · have : vs = [] := List.eq_nil_of_length_eq_zero (by simpa using q1)
      subst this
      cases hc'
      exact .l 0 [] none 0 [] .nil (Nat.le_refl _) (Nat.zero_le _) (fun _ h => by cases h) (fun h => absurd rfl h) (fun _ => rfl)
    · refine .l n cs _ cap vs hc' hn hcap hd (fun _ => ⟨⟨b, 0, none⟩, rfl, ⟨h.inv.rng b _ hg, release_at hg (by simp [Owner.at]), rfl, fun j y hy => ?_⟩⟩) (fun h0 => ?_)
      · rw [add_eq rfl]; simpa using hh'.stable j y hy
      · subst h0
        have : vs = [] := List.eq_nil_of_length_eq_zero (by simpa using q1)
        subst this
        cases hc'; rfl)
  exact ⟨_, h1, h2⟩

/-- A box becomes memory that nobody writes any more. -/
def St.freezeBox (base m : Nat) (st : St) : Option St :=
  match st.S[m]? with
  | some (.box _ cs) => if cs.all AV.data then some (st.give base m (fun off => .e (cs.drop off)) .u) else none
  | _ => none

theorem strip_data {cs : List AV} (hd : ∀ x ∈ cs, x.data = true) : cs.map strip = cs := by
  conv => rhs; rw [← List.map_id cs]
  apply List.map_congr_left
  intro x hx
  have := hd x hx
  cases x <;> simp_all [AV.data, strip]

theorem Rel.freezeBox {st st' : St} {a : Act} (h : Rel base w G st a) {m : Nat} (hm : base ≤ m) (hf : st.freezeBox base m = some st') :
    ∃ G', Rel base w G' st' a ∧ FEvol base w G st.S st.O w G' st'.S st'.O := by
  unfold St.freezeBox at hf
  split at hf
  rotate_left
  · cases hf
  rename_i T cs hS
  split at hf
  rotate_left
  · cases hf
  rename_i hd
  injection hf with hf; subst hf
  have hd' : ∀ x ∈ cs, x.data = true := by simpa using hd
  have hlt : m < st.S.length := (List.getElem?_eq_some_iff.1 hS).1
  have hkd : Keep w G st.S w (release m G) (st.give base m (fun off => .e (cs.drop off)) .u).S (fun _ => False) := ⟨fun b _ hg => ⟨rfl, release_idle hg⟩, Nat.le_refl _, fun _ h => h.elim, fun _ h => h.elim⟩
  obtain ⟨h1, h2, _⟩ := h.give hm hlt (pf := fun off => .e (cs.drop off)) (rf := .u) (fun _ => rfl) rfl (fun off v hv => by
    cases hv with | p _ _ b hb =>
    obtain ⟨vs, q1, q2, q3, q4⟩ := h.inv.cells (id := .s m) hS hb
    rw [strip_data hd'] at q3
    refine .e _ _ (vs.toList.drop off) ((q3.drop off).keep hkd (has_data (data_drop hd' off) _)) (data_drop hd' off) ⟨h.inv.rng b _ hb, release_at hb (by simp [Owner.at]), rfl, fun j y hy => ?_⟩
    rw [List.getElem?_drop] at hy
    rw [add_eq rfl]
    exact q4 _ y (by simpa using hy)) (fun _ _ => .u _)
  exact ⟨_, h1, h2⟩
end
end Go.Am
/-
  THE ABSTRACT MACHINE: stores, appends, objects.
-/
namespace Go.Am
open Go

/-- A value of one cell. -/
def AV.one : AV → Bool
  | .s _ | .l .. | .e _ | .p .. | .r _ | .f .. => true
  | _ => false

def splice (cs : List AV) (off : Nat) (xs : List AV) : List AV := cs.take off ++ xs ++ cs.drop (off + xs.length)

def notW : AV → Bool
  | .w .. => false
  | _ => true

def setB (st : St) (id : Bid) (b : Blk) : St :=
  match id with
  | .s n => { st with S := st.S.set n b }
  | .o n => { st with O := st.O.set n b }

section
variable {base : Nat} {w w' w'' : World} {G G' G'' : Ghost} {S S' S'' O O' O'' : List Blk} {P : Program}

theorem one_oneCell {x : AV} {v : Value} (h : CR w G S x v) (ho : x.one = true) : v.oneCell' = true := by
  cases h with
  | u v => simp [AV.one] at ho
  | a cs vs h => simp [AV.one] at ho
  | t cs vs h => simp [AV.one] at ho
  | s x => cases x <;> rfl
  | l => rfl
  | e => rfl
  | p => rfl
  | f => rfl
  | r m e sz n cs vs _ h1 h2 h3 h4 =>
    obtain ⟨_, _, h2⟩ := h2
    rcases h2 with ⟨rfl, _⟩ | ⟨b, cap, cur, rfl, _⟩ <;> rfl

theorem data_one {x : AV} (h : x.data = true) : x.one = true := by cases x <;> simp_all [AV.data, AV.one]

theorem keep_set {st : St} (hI : InvH w G st.S st.O) {id : Bid} {T : TypeId} {cs : List AV} (hg : getB st.S st.O id = some (.box T cs)) {b : Nat} (hb : G b = some (.box id)) (vs : Array Value) (cs' : List AV) :
    Keep w G st.S (w.setRow b vs) G (setB st id (.box T cs')).S (fun _ => True) where
  free b' hlt hn := ⟨setRow_other w b b' vs (fun e => by subst e; rw [hb] at hn; cases hn), rfl⟩
  size := by simp [World.setRow]
  own _ _ _ h := h
  row n _ e sz k c h := by
    have hne : id ≠ .s n := fun e' => by subst e'; simp only [getB] at hg; rw [hg] at h; cases h
    refine ⟨?_, fun b' h' => ⟨h', setRow_other w b b' vs (fun e => by
      subst e; rw [hb] at h'; injection h' with h'; injection h' with h'; exact hne h')⟩⟩
    cases id with
    | o k => exact h
    | s k =>
      simp only [setB, List.getElem?_set]
      rw [if_neg (fun e => hne (by rw [e]))]
      exact h

theorem Rel.store {st : St} {a : Act} (h : Rel base w G st a) {id : Bid} {off b : Nat} {T : TypeId} {cs xs : List AV} {us : List Value} (hg : getB st.S st.O id = some (.box T cs)) (hb : G b = some (.box id))
    (hc : CRs w G st.S xs us) (hle : off + xs.length ≤ cs.length) (hone : ∀ x ∈ xs, x.one = true) (hnw : ∀ x ∈ (cs.drop off).take xs.length, notW x = true)
    (hsc : match id with | .o _ => AV.belL 0 xs = true | .s n => if n < base then AV.belL 0 xs = true else AV.belL st.S.length xs = true) (i : Nat) :
    ∃ w', (storeCells ⟨b, off, none⟩ us).run P w = .ok () w' ∧ Rel base w' G (setB st id (.box T (splice cs off xs))) a ∧
      FEvol base w G st.S st.O w' G (setB st id (.box T (splice cs off xs))).S (setB st id (.box T (splice cs off xs))).O := by
  obtain ⟨b', vs, h1, h2, h3, h4⟩ := h.inv.box id T cs hg
  obtain rfl := h.inv.inj _ _ _ h1 hb
  have hul : us.length = xs.length := hc.length.symm
  have hrun := run_storeCells_at (P := P) b' off T us 0 vs w h2 (by omega) (fun v hv => by
    obtain ⟨j, hj, rfl⟩ := List.getElem_of_mem hv
    have hx : xs[j]? = some (xs[j]'(by omega)) := List.getElem?_eq_getElem _
    exact one_oneCell (hc.get' hx (List.getElem?_eq_getElem hj)) (hone _ (List.getElem_mem _)))
  refine ⟨_, hrun, ?_⟩
  simp only [Nat.add_zero]
  generalize hvs' : (vs.toList.take off ++ us ++ vs.toList.drop (off + us.length)).toArray = vs'
  have hk := keep_set h.inv hg hb vs' (splice cs off xs)
  have hlenS : (setB st id (.box T (splice cs off xs))).S.length = st.S.length := by cases id <;> simp [setB]
  have hlenO : (setB st id (.box T (splice cs off xs))).O.length = st.O.length := by cases id <;> simp [setB]
  have hCR : ∀ {x : AV} {v : Value}, CR w G st.S x v → CR (w.setRow b' vs') G (setB st id (.box T (splice cs off xs))).S x v := fun hx => hx.keep hk (fun _ _ => trivial)
  have hget : ∀ id' T' cs', getB (setB st id (.box T (splice cs off xs))).S (setB st id (.box T (splice cs off xs))).O id' = some (.box T' cs') →
      (id' = id ∧ T' = T ∧ cs' = splice cs off xs) ∨ (id' ≠ id ∧ getB st.S st.O id' = some (.box T' cs')) := by
    intro id' T' cs' hh
    cases id with
    | s n =>
      cases id' with
      | s n' =>
        simp only [setB, getB, List.getElem?_set] at hh
        split at hh
        · rename_i e; subst e
          split at hh
          · injection hh with hh; injection hh with e1 e2; exact .inl ⟨rfl, e1.symm, e2.symm⟩
          · cases hh
        · rename_i e; exact .inr ⟨fun e' => e (by injection e' with e'; exact e'.symm), hh⟩
      | o n' => exact .inr ⟨(fun e => by cases e), hh⟩
    | o n =>
      cases id' with
      | o n' =>
        simp only [setB, getB, List.getElem?_set] at hh
        split at hh
        · rename_i e; subst e
          split at hh
          · injection hh with hh; injection hh with e1 e2; exact .inl ⟨rfl, e1.symm, e2.symm⟩
          · cases hh
        · rename_i e; exact .inr ⟨fun e' => e (by injection e' with e'; exact e'.symm), hh⟩
      | s n' => exact .inr ⟨(fun e => by cases e), hh⟩
  have hget' : ∀ id', (∃ T' cs', getB st.S st.O id' = some (.box T' cs')) → ∃ T' cs', getB (setB st id (.box T (splice cs off xs))).S (setB st id (.box T (splice cs off xs))).O id' = some (.box T' cs') := by
    rintro id' ⟨T', cs', hh⟩
    cases id with
    | s n =>
      cases id' with
      | s n' =>
        simp only [setB, getB, List.getElem?_set] at hh ⊢
        split
        · rename_i e; subst e
          exact ⟨T, _, by rw [if_pos (List.getElem?_eq_some_iff.1 hh).1]⟩
        · exact ⟨T', cs', hh⟩
      | o n' => exact ⟨T', cs', hh⟩
    | o n =>
      cases id' with
      | o n' =>
        simp only [setB, getB, List.getElem?_set] at hh ⊢
        split
        · rename_i e; subst e
          exact ⟨T, _, by rw [if_pos (List.getElem?_eq_some_iff.1 hh).1]⟩
        · exact ⟨T', cs', hh⟩
      | s n' => exact ⟨T', cs', hh⟩
  have hrowsB : ∀ (k e sz n : Nat) (c : List AV), (setB st id (.box T (splice cs off xs))).O[k]? ≠ some (.row e sz n c) := by
    intro k e sz n c hh
    cases id with
    | s n' => exact h.inv.orow k _ _ _ _ hh
    | o n' =>
      simp only [setB, List.getElem?_set] at hh
      split at hh
      · split at hh <;> simp at hh
      · exact h.inv.orow k _ _ _ _ hh
  have hrowsS : ∀ (m e sz n : Nat) (c : List AV), (setB st id (.box T (splice cs off xs))).S[m]? = some (.row e sz n c) → st.S[m]? = some (.row e sz n c) := by
    intro m e sz n c hh
    cases id with
    | o n' => exact hh
    | s n' =>
      simp only [setB, List.getElem?_set] at hh
      split at hh
      · split at hh <;> simp at hh
      · exact hh
  have hspl : ∀ β, AV.belL β cs = true → AV.belL β xs = true → AV.belL β (splice cs off xs) = true := by
    intro β hcs hxs
    rw [belL_mem] at hcs hxs ⊢
    intro x hx
    simp only [splice, List.mem_append] at hx
    rcases hx with (hx | hx) | hx
    · exact hcs x (List.mem_of_mem_take hx)
    · exact hxs x hx
    · exact hcs x (List.mem_of_mem_drop hx)
  have hbel : ∀ β, AV.belL 0 xs = true → AV.belL β xs = true := fun β h => belL_mono (Nat.zero_le β) h
  refine ⟨⟨h.defers, by cases id <;> exact h.size, by cases id <;> exact h.env.keep hk (fun _ _ => trivial), ?_, by rw [hlenS]; cases id <;> exact h.len, by rw [hlenS]; cases id <;> exact h.scopeE, ?_, ?_, ?_⟩,
    ⟨hk.imp (fun _ _ => trivial), rfl, rfl, rfl, hlenS, by omega, ?_⟩⟩
  · refine ⟨h.inv.inj, fun b o hb => by have := h.inv.rng b o hb; simpa [World.setRow] using this, fun b o hb => ?_, fun k e sz n c => ?_, fun m e sz n c b hs hb => ?_, fun id' T' cs' hh => ?_⟩
    · have hal := h.inv.live b o hb
      cases o with
      | box id' =>
        rcases hal with hal | ⟨e, sz, n, c, hal⟩
        · exact .inl (hget' id' hal)
        · cases id' with
          | o k => exact absurd hal (h.inv.orow k _ _ _ _)
          | s m => exact .inr ⟨e, sz, n, c, (hk.row m trivial _ _ _ _ hal).1⟩
      | cell id' _ => exact hget' id' hal
      | ext _ => trivial
      | row m =>
        obtain ⟨e, sz, n, c, hs⟩ := hal
        exact ⟨e, sz, n, c, (hk.row m trivial _ _ _ _ hs).1⟩
    · have := hrowsB k e sz n c; exact this
    · have hs' := hrowsS m e sz n c hs
      exact (h.inv.row m e sz n c b hs' hb).keep hk trivial hs'
    · have hcell : ∀ {id'' : Bid} {j : Nat} {x : AV} {v : Value}, cellR w G st.S id'' j x v → cellR (w.setRow b' vs') G (setB st id (.box T (splice cs off xs))).S id'' j x v := fun hx =>
        hx.keep hk (fun _ _ => trivial) (fun b'' hb'' => ⟨hb'', setRow_other w b' b'' vs' (fun e => by subst e; rw [hb] at hb''; cases hb'')⟩)
      rcases hget id' T' cs' hh with ⟨rfl, rfl, rfl⟩ | ⟨hne, hh'⟩
      · refine ⟨b', vs', hb, setRow_heap w b' vs vs' _ _ h2, ?_, fun j x v hx hv => ?_⟩
        · subst hvs'; simp [splice]; omega
        · subst hvs'
          simp only [splice] at hx
          have hv' : (vs.toList.take off ++ us ++ vs.toList.drop (off + us.length))[j]? = some v := by simpa using hv
          rw [List.append_assoc, List.getElem?_append] at hx hv'
          simp only [List.length_take, Array.length_toList, h3] at hx hv'
          split at hx
          · rename_i hj
            rw [if_pos hj, List.getElem?_take] at hv'
            rw [List.getElem?_take] at hx
            have hj' : j < off := by omega
            rw [if_pos hj'] at hx hv'
            exact hcell (h4 j x v hx (by simpa using hv'))
          · rename_i hj
            rw [if_neg hj] at hv'
            have hmin : min off cs.length = off := by omega
            rw [hmin] at hx hv' hj
            rw [List.getElem?_append] at hx hv'
            rw [hul] at hv'
            split at hx
            · rename_i hj2
              rw [if_pos hj2] at hv'
              exact cellR.mk (hCR (hc.get' hx hv'))
            · rename_i hj2
              rw [if_neg hj2] at hv'
              rw [List.getElem?_drop] at hx hv'
              have e : off + xs.length + (j - off - xs.length) = j := by omega
              rw [e] at hx hv'
              exact hcell (h4 j x v hx (by simpa using hv'))
      · obtain ⟨b2, vs2, q1, q2, q3, q4⟩ := h.inv.box id' T' cs' hh'
        exact ⟨b2, vs2, q1, (setRow_other w b' b2 vs' (fun e => by subst e; rw [hb] at q1; injection q1 with q1; injection q1 with q1; exact hne q1.symm)).trans q2, q3, fun j x v hx hv => hcell (q4 j x v hx hv)⟩
  · intro n T' cs' hh
    rw [hlenS]
    rcases hget (.s n) T' cs' hh with ⟨e, rfl, rfl⟩ | ⟨_, hh'⟩
    · subst e
      refine hspl _ (h.scopeS n _ cs hg) ?_
      simp only at hsc
      split at hsc
      · exact hbel _ hsc
      · exact hsc
    · exact h.scopeS n T' cs' hh'
  · intro n T' cs' hn hh
    rcases hget (.s n) T' cs' hh with ⟨e, rfl, rfl⟩ | ⟨_, hh'⟩
    · subst e
      simp only at hsc
      rw [if_pos hn] at hsc
      exact hspl _ (h.scopeB n _ cs hn hg) (hbel _ hsc)
    · exact h.scopeB n T' cs' hn hh'
  · intro n T' cs' hh
    rcases hget (.o n) T' cs' hh with ⟨e, rfl, rfl⟩ | ⟨_, hh'⟩
    · subst e
      exact hspl _ (h.scopeO n _ cs hg) hsc
    · exact h.scopeO n T' cs' hh'
  · intro n β hn hh T' cs' hh'
    rcases hget (.s n) T' cs' hh' with ⟨e, rfl, rfl⟩ | ⟨_, hh''⟩
    · subst e
      simp only at hsc
      rw [if_pos hn] at hsc
      exact hspl _ (hh _ cs hg) (hbel _ hsc)
    · exact hh T' cs' hh''

/-- A new object. -/
theorem Rel.newObj {st : St} {a : Act} (h : Rel base w G st a) {T : TypeId} {cs : List AV} {vs : List Value} (hc : CRs w G st.S cs vs) (hb : AV.belL 0 cs = true) :
    ∃ G', Rel base { w with heap := w.heap.push (.cells vs.toArray T) } G' { st with O := st.O ++ [.box T cs] } a ∧
      FEvol base w G st.S st.O { w with heap := w.heap.push (.cells vs.toArray T) } G' st.S (st.O ++ [.box T cs]) ∧
      CR { w with heap := w.heap.push (.cells vs.toArray T) } G' st.S (.p (.o st.O.length) 0) (.pointer (some ⟨w.heap.size, 0, none⟩)) := by
  have hI := h.inv
  have hk : Keep w G st.S { w with heap := w.heap.push (.cells vs.toArray T) } (upd G w.heap.size (.box (.o st.O.length))) st.S (fun _ => True) :=
    ⟨fun b hb hg => ⟨push_lt w _ hb, by rw [upd_ne _ _ (Nat.ne_of_lt hb)]⟩, by simp, fun o _ b hb => by rw [upd_ne _ _ (Nat.ne_of_lt (hI.rng b _ hb))]; exact hb, fun n _ _ _ _ _ h => ⟨h, fun b hb => ⟨by rw [upd_ne _ _ (Nat.ne_of_lt (hI.rng b _ hb))]; exact hb, push_lt w _ (hI.rng b _ hb)⟩⟩⟩
  have hown : ∀ {b : Nat} {o : Owner}, upd G w.heap.size (.box (.o st.O.length)) b = some o → (b = w.heap.size ∧ o = .box (.o st.O.length)) ∨ (b ≠ w.heap.size ∧ G b = some o) := by
    intro b o hb
    unfold upd at hb
    split at hb
    · rename_i e; injection hb with hb; exact .inl ⟨e, hb.symm⟩
    · rename_i e; exact .inr ⟨e, hb⟩
  have hnew : ∀ b, G b ≠ some (.box (.o st.O.length)) := by
    intro b hb
    rcases hI.live b _ hb with ⟨T, cs, hh⟩ | ⟨e, sz, n, cs, hh⟩ <;> simp [getB] at hh
  have hgetO : ∀ id T' cs', getB st.S (st.O ++ [.box T cs]) id = some (.box T' cs') → (id = .o st.O.length ∧ T' = T ∧ cs' = cs) ∨ getB st.S st.O id = some (.box T' cs') := by
    intro id T' cs' hh
    cases id with
    | s n => exact .inr hh
    | o n =>
      simp only [getB, List.getElem?_append] at hh ⊢
      split at hh
      · exact .inr hh
      · rename_i hn
        have : n - st.O.length = 0 := by
          rcases Nat.eq_zero_or_pos (n - st.O.length) with h | h
          · exact h
          · rw [List.getElem?_eq_none (by simp; omega)] at hh; cases hh
        rw [this] at hh
        simp only [List.getElem?_cons_zero, Option.some.injEq, Blk.box.injEq] at hh
        exact .inl ⟨by congr 1; omega, hh.1.symm, hh.2.symm⟩
  refine ⟨_, ⟨h.defers, h.size, h.env.keep hk (fun _ _ => trivial), ?_, h.len, h.scopeE, h.scopeS, h.scopeB, ?_⟩, ⟨hk.imp (fun _ _ => trivial), rfl, rfl, rfl, rfl, by simp, fun _ _ _ h => h⟩, .p _ _ _ (upd_at _ _ _)⟩
  · refine ⟨fun b b' o hb hb' => ?_, fun b o hb => ?_, fun b o hb => ?_, fun k e sz n c hh => ?_, fun m e sz n c b hs hb => ?_, fun id T' cs' hh => ?_⟩
    · rcases hown hb with ⟨rfl, rfl⟩ | ⟨_, h1⟩
      · rcases hown hb' with ⟨rfl, _⟩ | ⟨_, h2⟩
        · rfl
        · exact absurd h2 (hnew _)
      · rcases hown hb' with ⟨rfl, rfl⟩ | ⟨_, h2⟩
        · exact absurd h1 (hnew _)
        · exact hI.inj _ _ _ h1 h2
    · rcases hown hb with ⟨rfl, _⟩ | ⟨_, h1⟩
      · simp
      · have := hI.rng b o h1; simp; omega
    · have hmono : ∀ id, (∃ T cs, getB st.S st.O id = some (.box T cs)) → ∃ T' cs', getB st.S (st.O ++ [.box T cs]) id = some (.box T' cs') := by
        rintro id ⟨T', cs', hh⟩
        cases id with
        | s n => exact ⟨T', cs', hh⟩
        | o n => exact ⟨T', cs', by simp only [getB] at hh ⊢; rw [List.getElem?_append_left (List.getElem?_eq_some_iff.1 hh).1]; exact hh⟩
      rcases hown hb with ⟨rfl, rfl⟩ | ⟨_, h1⟩
      · exact .inl ⟨T, cs, by simp [getB]⟩
      · have := hI.live b o h1
        cases o with
        | box id =>
          rcases this with this | ⟨e, sz, n, c, this⟩
          · exact .inl (hmono id this)
          · cases id with
            | o k => exact absurd this (hI.orow k _ _ _ _)
            | s m => exact .inr ⟨e, sz, n, c, this⟩
        | cell id _ => exact hmono id this
        | ext _ => trivial
        | row m => exact this
    · simp only [List.getElem?_append] at hh
      split at hh
      · exact hI.orow k _ _ _ _ hh
      · rename_i hn
        rcases Nat.eq_zero_or_pos (k - st.O.length) with h | h
        · rw [h] at hh; simp at hh
        · rw [List.getElem?_eq_none (by simp; omega)] at hh; cases hh
    · rcases hown hb with ⟨_, e'⟩ | ⟨_, h1⟩
      · cases e'
      · exact (hI.row m e sz n c b hs h1).keep hk trivial hs
    · rcases hgetO id T' cs' hh with ⟨rfl, rfl, rfl⟩ | hh'
      · exact ⟨w.heap.size, vs.toArray, upd_at _ _ _, push_new w _, by simp [hc.length], fun j x v hx hv => cellR.mk ((hc.get' hx (by simpa using hv)).keep hk (fun _ _ => trivial))⟩
      · obtain ⟨b, vs', q1, q2, q3, q4⟩ := hI.box id T' cs' hh'
        exact ⟨b, vs', hk.own _ trivial b q1, (push_lt w _ (hI.rng b _ q1)).trans q2, q3, fun j x v hx hv => (q4 j x v hx hv).keep hk (fun _ _ => trivial) (fun b' hb' => ⟨hk.own _ trivial b' hb', push_lt w _ (hI.rng b' _ hb')⟩)⟩
  · intro n T' cs' hh
    rcases hgetO (.o n) T' cs' hh with ⟨_, rfl, rfl⟩ | hh'
    · exact hb
    · exact h.scopeO n T' cs' hh'

/-! ### append -/
theorem Hdr.owns {o : Owner} {e sz n : Nat} {vs : List Value} {v : Value} (h : Hdr w G o e sz n vs v) : w.ownsRow 0 e sz v n vs := by
  obtain ⟨h1, h0, h2⟩ := h
  refine ⟨h1, ?_⟩
  rcases h2 with h2 | ⟨b, cap, cur, hv, hg, hh, hn, hc, hs, ht⟩
  · exact .inl h2
  · exact .inr ⟨b, cap, cur, hv, Nat.zero_le _, hh, hn, hc, hs, ht⟩

theorem Rel.append {st : St} {a : Act} (h : Rel base w G st a) {m : Nat} (hm : base ≤ m) {t ty e sz n k c : Nat} {i : TypeInfo} {z : Value} {cs xs : List AV} {v : Value} {us : List Value} {A : Option Addr}
    (hS : st.S[m]? = some (.row e sz n cs)) (hv : CR w G st.S (.r m) v) (hx : CRs w G st.S xs us) (hd : ∀ x ∈ xs, x.data = true) (hl : us.length = k * sz)
    (hA : k ≠ 0 → ∃ ad, A = some ad ∧ ∀ j y, us[j]? = some y → w.cell? (ad.add j) = some y)
    (ht : P.underlying t = some (.slice e)) (hi : P.info? e = some i) (hz : i.zero = some z) (hsize : i.size = sz) (hzs : z.cells.size = sz) (h63 : n + k ≤ maxLen) (hbytes : (n + k) * i.bytes ≤ 140737488355328) :
    ∃ v' w' G', (Builtin.append_ #[t, t] ty #[v, .slice A k c]).run P w = .ok v' w' ∧ Rel base w' G' (st.giveTo base m (fun _ => .u) .u (.row e sz (n + k) (cs ++ xs))) a ∧
      FEvol base w G st.S st.O w' G' (st.giveTo base m (fun _ => .u) .u (.row e sz (n + k) (cs ++ xs))).S (st.giveTo base m (fun _ => .u) .u (.row e sz (n + k) (cs ++ xs))).O ∧
      CR w' G' (st.giveTo base m (fun _ => .u) .u (.row e sz (n + k) (cs ++ xs))).S (.r m) v' := by
  have hlt : m < st.S.length := (List.getElem?_eq_some_iff.1 hS).1
  have hself : (st.giveTo base m (fun _ => .u) .u (.row e sz (n + k) (cs ++ xs))).S[m]? = some (.row e sz (n + k) (cs ++ xs)) := by simp [St.giveTo, List.getElem?_set, hlt]
  cases hv with | r _ e' sz' n' cs' vs _ hS' hh hc hcd =>
  rw [hS] at hS'; injection hS' with hS'; injection hS' with e1 e2 e3 e4; subst e1 e2 e3 e4
  have hsz : 0 < sz := hh.2.1
  -- the run
  have hrun : ∃ v' w', (Builtin.append_ #[t, t] ty #[v, .slice A k c]).run P w = .ok v' w' ∧ w'.ownsRow 0 e sz v' (n + k) (vs ++ us) ∧ w.grownBy w' v.ownBlock ∧ (v'.ownBlock = v.ownBlock ∨ v'.ownBlock = some w.heap.size) := by
    cases A with
    | some ad =>
      obtain ⟨v', w', q1, q2, q3, _, q5⟩ := run_append_own_at (P := P) w 0 t ty e i z sz i.bytes ht hi hz hsize rfl hzs hsz v n vs hh.owns ad k c us hl (fun j u hu => by
        rcases Nat.eq_zero_or_pos k with rfl | hk
        · have : us = [] := List.eq_nil_of_length_eq_zero (by simpa using hl)
          subst this; simp at hu
        · obtain ⟨ad', h1, h2⟩ := hA (by omega)
          injection h1 with h1; subst h1
          exact h2 j u hu) (fun u hu => by
          obtain ⟨j, hj, rfl⟩ := List.getElem_of_mem hu
          have hj' : j < xs.length := by rw [hx.length]; exact hj
          exact one_oneCell (hx.get' (List.getElem?_eq_getElem hj') (List.getElem?_eq_getElem hj)) (data_one (hd _ (List.getElem_mem _)))) h63 hbytes (Nat.zero_le _)
      exact ⟨v', w', q1, q2, q3, q5⟩
    | none =>
      have hk : k = 0 := by
        rcases Nat.eq_zero_or_pos k with h | h
        · exact h
        · obtain ⟨ad, h1, _⟩ := hA (by omega); cases h1
      subst hk
      have hu : us = [] := List.eq_nil_of_length_eq_zero (by simpa using hl)
      subst hu
      refine ⟨v, w, ?_, by simpa using hh.owns, World.grownBy.refl w _, .inl rfl⟩
      obtain ⟨q1, q0, q2⟩ := hh
      rcases q2 with ⟨rfl, rfl⟩ | ⟨b, cap, cur, rfl, hg, hb, hn, hcap, hcs, htk⟩
      · simp [Builtin.append_, run_underlying ht, sizeOf, typeInfo, hi, Builtin.lenOf, Builtin.firstCells]
      · simp [Builtin.append_, run_underlying ht, sizeOf, typeInfo, hi, Builtin.lenOf, Builtin.firstCells, hn, storeCells]
  obtain ⟨v', w', hrun, hown, hgr, hblk⟩ := hrun
  -- the blocks that are not this row's
  have hvb : ∀ g, v.ownBlock = some g → G g = some (.box (.s m)) := by
    intro g hg
    obtain ⟨q1, q0, q2⟩ := hh
    rcases q2 with ⟨rfl, rfl⟩ | ⟨b, cap, cur, rfl, hgb, _⟩
    · cases hg
    · simp [Value.ownBlock] at hg; subst hg; exact hgb
  have hother : ∀ b, b < w.heap.size → G b ≠ some (.box (.s m)) → w'.heap[b]? = w.heap[b]? := fun b hb hne => hgr.block b hb (fun he => hne (hvb b he.symm))
  -- the new ghost
  let G' : Ghost := fun b => if some b = v'.ownBlock then some (.box (.s m)) else release m G b
  have hG'self : ∀ b, v'.ownBlock = some b → G' b = some (.box (.s m)) := fun b hb => by simp [G', hb]
  have hvin : ∀ b, v'.ownBlock = some b → b < w'.heap.size := by
    intro b hb
    obtain ⟨_, q2⟩ := hown
    rcases q2 with ⟨rfl, _⟩ | ⟨g, cap, cur, rfl, _, hg, _⟩
    · cases hb
    · simp [Value.ownBlock] at hb; subst hb; exact (Array.getElem?_eq_some_iff.1 hg).1
  have hvold : ∀ b, v'.ownBlock = some b → b < w.heap.size → G b = some (.box (.s m)) := by
    intro b hb hlt'
    rcases hblk with e | e
    · exact hvb b (e ▸ hb)
    · rw [e] at hb; injection hb with hb; omega
  have hk : Keep w G st.S w' G' (st.giveTo base m (fun _ => .u) .u (.row e sz (n + k) (cs ++ xs))).S (offM st.S m) := by
    refine ⟨fun b hb hg => ⟨hother b hb (fun he => by rw [he] at hg; cases hg), ?_⟩, hgr.size, fun o ho b hb => ?_, fun r hr _ _ _ _ hs => ?_⟩
    · simp only [G']
      rw [if_neg (fun he => by have := hvold b he.symm hb; rw [this] at hg; cases hg)]
      exact release_idle hg
    · simp only [G']
      rw [if_neg (fun he => by
        have := hvold b he.symm (h.inv.rng b o hb)
        rw [hb] at this; injection this with this; subst this
        simp [offM, Owner.at] at ho)]
      exact release_of hb ho.1
    · have hne : r ≠ m := by simpa [Owner.at] using hr.1
      exact ⟨giveTo_row hne hs, fun b hb => ⟨by
        simp only [G']
        rw [if_neg (fun he => by
          have := hvold b he.symm (h.inv.rng b _ hb)
          rw [hb] at this; injection this with this; injection this with this; injection this with this; exact hne this)]
        exact release_of hb (by simpa [Owner.at] using hne), hother b (h.inv.rng b _ hb) (by rw [hb]; intro he; injection he with he; injection he with he; injection he with he; exact hne he)⟩⟩
  have hdd : ∀ x ∈ cs ++ xs, x.data = true := fun x hx' => by
    rcases List.mem_append.1 hx' with hx' | hx'
    · exact hcd x hx'
    · exact hd x hx'
  have hhdr : Hdr w' G' (.box (.s m)) e sz (n + k) (vs ++ us) v' := by
    obtain ⟨q1, q2⟩ := hown
    refine ⟨q1, hsz, ?_⟩
    rcases q2 with q2 | ⟨g, cap, cur, rfl, _, hg, hn, hcap, hs, htk⟩
    · exact .inl q2
    · exact .inr ⟨g, cap, cur, rfl, hG'self g (by simp [Value.ownBlock]), hg, hn, hcap, hs, htk⟩
  have hcr' : CRs w' G' (st.giveTo base m (fun _ => .u) .u (.row e sz (n + k) (cs ++ xs))).S (cs ++ xs) (vs ++ us) := (hc.append hx).keep hk (has_data hdd _)
  obtain ⟨h1, h2⟩ := h.giveTo hm hlt (fun _ => rfl) rfl hk (fun _ _ _ => .u _) (fun _ _ => .u _)
    (fun b o hb hat => hother b (h.inv.rng b o hb) (by rw [hb]; intro he; injection he with he; subst he; simp [Owner.at] at hat))
    (fun b o hb => by
      simp only [G'] at hb
      split at hb
      · rename_i he
        injection hb with hb; subst hb
        refine .inr ⟨by simp [Owner.at], hvin b he.symm, .inr ⟨_, _, _, _, hself⟩, fun b' hb' => ?_⟩
        simp only [G'] at hb'
        split at hb'
        · rename_i he'; rw [← he] at he'; injection he'
        · obtain ⟨_, q⟩ := release_some hb'; simp [Owner.at] at q
      · exact .inl (release_some hb))
    (fun T' cs' he => by cases he)
    (fun e' sz' n' cs' b he hb => by
      injection he with q1 q2 q3 q4; subst q1 q2 q3 q4
      simp only [G'] at hb
      split at hb
      · rename_i he
        obtain ⟨p1, p0, p2⟩ := hhdr
        have hhdr' : Hdr w' G' (.box (.s m)) e sz (n + k) (vs ++ us) v' := ⟨p1, p0, p2⟩
        rcases p2 with ⟨rfl, _⟩ | ⟨g, cap, cur, rfl, _⟩
        · cases he
        · simp [Value.ownBlock] at he; subst he
          exact ⟨cap, vs ++ us, hhdr', hcr', hdd⟩
      · have := (release_some hb).2; simp [Owner.at] at this)
    ⟨hgr.os, hgr.tape, hgr.output⟩
  exact ⟨v', w', G', hrun, h1, h2, .r m e sz (n + k) (cs ++ xs) (vs ++ us) v' hself hhdr hcr' hdd⟩
end
end Go.Am
/-
  THE ABSTRACT MACHINE: a store into a row's element; the operations of a region one by one.
-/
namespace Go.Am
open Go

section
variable {base : Nat} {w w' w'' : World} {G G' G'' : Ghost} {S S' S'' O O' O'' : List Blk} {P : Program}

mutual
theorem sub_refl (m : Nat) : ∀ x : AV, AV.sub m (.p (.s m)) (.r m) x = x
  | .u => rfl
  | .s _ => rfl
  | .l .. => rfl
  | .e _ => rfl
  | .w .. => rfl
  | .p (.s n) _ => by simp only [AV.sub]; split <;> simp_all
  | .p (.o n) _ => rfl
  | .r n => by simp only [AV.sub]; split <;> simp_all
  | .f _ fs cs => by simp only [AV.sub]; rw [subL_refl m fs, subL_refl m cs]
  | .a cs => by simp only [AV.sub]; rw [subL_refl m cs]
  | .t cs => by simp only [AV.sub]; rw [subL_refl m cs]
theorem subL_refl (m : Nat) : ∀ xs : List AV, AV.subL m (.p (.s m)) (.r m) xs = xs
  | [] => rfl
  | x :: xs => by simp only [AV.subL]; rw [sub_refl m x, subL_refl m xs]
end

theorem set_same {S : List Blk} {m n : Nat} {b : Blk} (h : n ≠ m) : (S.set m b)[n]? = S[n]? := by rw [List.getElem?_set, if_neg (by omega)]

theorem Rel.storeRow {st : St} {a : Act} (h : Rel base w G st a) {m off b e sz n : Nat} (hm : base ≤ m) {cs xs : List AV} {us : List Value} (hS : st.S[m]? = some (.row e sz n cs)) (hb : G b = some (.box (.s m)))
    (hc : CRs w G st.S xs us) (hle : off + xs.length ≤ cs.length) (hd : ∀ x ∈ xs, x.data = true) :
    ∃ w', (storeCells ⟨b, off, none⟩ us).run P w = .ok () w' ∧ Rel base w' G { st with S := st.S.set m (.row e sz n (splice cs off xs)) } a ∧
      FEvol base w G st.S st.O w' G (st.S.set m (.row e sz n (splice cs off xs))) st.O := by
  have hlt : m < st.S.length := (List.getElem?_eq_some_iff.1 hS).1
  obtain ⟨cap, vs, hh, hcs, hcd⟩ := h.inv.row m e sz n cs b hS hb
  have hh' := hh
  obtain ⟨q1, q0, q2⟩ := hh
  rcases q2 with ⟨q2, _⟩ | ⟨b', cap', cur, hv, hg, hbk, hn, hcap, hsz, ht⟩
  · cases q2
  injection hv with e1 e2 e3
  injection e1 with e1; injection e1 with e1; subst e1 e3
  have hul : us.length = xs.length := hc.length.symm
  have hcl : vs.length = cs.length := hcs.length.symm
  have hnc : n * sz ≤ cap * sz := Nat.mul_le_mul_right _ hn
  have hrun := run_storeCells_at (P := P) b off e us 0 cur w hbk (by omega) (fun v hv => by
    obtain ⟨j, hj, rfl⟩ := List.getElem_of_mem hv
    have hx : xs[j]? = some (xs[j]'(by omega)) := List.getElem?_eq_getElem _
    exact one_oneCell (hc.get' hx (List.getElem?_eq_getElem hj)) (data_one (hd _ (List.getElem_mem _))))
  refine ⟨_, hrun, ?_⟩
  simp only [Nat.add_zero]
  generalize hcur' : (cur.toList.take off ++ us ++ cur.toList.drop (off + us.length)).toArray = cur'
  have hself : (st.S.set m (.row e sz n (splice cs off xs)))[m]? = some (.row e sz n (splice cs off xs)) := by simp [List.getElem?_set, hlt]
  have hk : Keep w G st.S (w.setRow b cur') G (st.S.set m (.row e sz n (splice cs off xs))) (fun o => o ≠ .row m) :=
    ⟨fun b' hlt' hn' => ⟨setRow_other w b b' _ (fun e => by subst e; rw [hb] at hn'; cases hn'), rfl⟩, by simp [World.setRow], fun _ _ _ h => h, fun r hr _ _ _ _ hs => by
      have hne : r ≠ m := fun e => hr (by rw [e])
      exact ⟨by rw [set_same hne]; exact hs, fun b' hb' => ⟨hb', setRow_other w b b' _ (fun e => by subst e; rw [hb] at hb'; injection hb' with hb'; injection hb' with hb'; injection hb' with hb'; exact hne hb'.symm)⟩⟩⟩
  have hdd : ∀ x ∈ splice cs off xs, x.data = true := by
    intro x hx
    simp only [splice, List.mem_append] at hx
    rcases hx with (hx | hx) | hx
    · exact hcd x (List.mem_of_mem_take hx)
    · exact hd x hx
    · exact hcd x (List.mem_of_mem_drop hx)
  have hvs' : CRs (w.setRow b cur') G (st.S.set m (.row e sz n (splice cs off xs))) (splice cs off xs) (vs.take off ++ us ++ vs.drop (off + us.length)) := by
    have := ((hcs.take off).append hc).append (hcs.drop (off + us.length))
    rw [hul] at this ⊢
    exact this.keep hk (has_data hdd _)
  have hhdr : Hdr (w.setRow b cur') G (.box (.s m)) e sz n (vs.take off ++ us ++ vs.drop (off + us.length)) (.slice (some ⟨b, 0, none⟩) n cap) := by
    refine ⟨by simp; omega, q0, .inr ⟨b, cap, cur', rfl, hb, setRow_heap w b cur cur' _ _ hbk, hn, hcap, ?_, ?_⟩⟩
    · subst hcur'; simp; omega
    · subst hcur'
      rw [← ht]
      simp only [List.take_append, List.length_append, List.length_take, List.take_take, List.drop_take, Array.length_toList]
      congr 1
      · congr 1
        · congr 1; omega
        · rw [List.take_of_length_le (by omega)]
      · congr 1; omega
  have hr : ∀ v, CR w G st.S (.r m) v → CR (w.setRow b cur') G (st.S.set m (.row e sz n (splice cs off xs))) (.r m) v := by
    intro v hv
    cases hv with | r _ e' sz' n' cs' vs2 _ hS' hh2 hc2 hd2 =>
    rw [hS] at hS'; injection hS' with hS'; injection hS' with p1 p2 p3 p4; subst p1 p2 p3 p4
    obtain ⟨r1, r0, r2⟩ := hh2
    rcases r2 with ⟨rfl, rfl⟩ | ⟨b2, cap2, cur2, rfl, hg2, hbk2, hn2, hcap2, hsz2, ht2⟩
    · have hl0 : (splice cs off xs).length = 0 := by
        have : cs.length = 0 := by rw [← hcl, q1]; simp
        simp only [splice, List.length_append, List.length_take, List.length_drop]; omega
      have hnil : splice cs off xs = [] := List.eq_nil_of_length_eq_zero hl0
      exact .r m e sz 0 _ [] _ hself ⟨by simp, r0, .inl ⟨rfl, rfl⟩⟩ (by rw [hnil]; exact .nil) hdd
    · obtain rfl := h.inv.inj _ _ _ hg2 hb
      rw [hbk] at hbk2; injection hbk2 with hbk2; injection hbk2 with hbk2; subst hbk2
      have : cap2 = cap := Nat.eq_of_mul_eq_mul_right q0 (hsz2.symm.trans hsz)
      subst this
      exact .r m e sz n _ _ _ hself hhdr hvs' hdd
  have hCR : ∀ {x : AV} {v : Value}, CR w G st.S x v → CR (w.setRow b cur') G (st.S.set m (.row e sz n (splice cs off xs))) x v := by
    intro x v hx
    have := CR.sub2 (m := m) (pf := .p (.s m)) (rf := .r m) hk (fun id _ e => by cases e) (fun r hr _ e => hr (by injection e)) (fun off v hv => by cases hv with | p _ _ b hb => exact .p _ _ _ hb) hr hx
    rwa [sub_refl] at this
  have hlen : (st.S.set m (.row e sz n (splice cs off xs))).length = st.S.length := by simp
  have hbx : ∀ id T c, getB (st.S.set m (.row e sz n (splice cs off xs))) st.O id = some (.box T c) → getB st.S st.O id = some (.box T c) := by
    intro id T c hh
    cases id with
    | o k => exact hh
    | s k =>
      simp only [getB] at hh ⊢
      by_cases hk : k = m
      · subst hk; rw [hself] at hh; cases hh
      · rw [set_same hk] at hh; exact hh
  have hbx' : ∀ id T c, getB st.S st.O id = some (.box T c) → getB (st.S.set m (.row e sz n (splice cs off xs))) st.O id = some (.box T c) := by
    intro id T c hh
    cases id with
    | o k => exact hh
    | s k =>
      simp only [getB] at hh ⊢
      by_cases hk : k = m
      · subst hk; rw [hS] at hh; cases hh
      · rw [set_same hk]; exact hh
  refine ⟨⟨h.defers, h.size, .of h.env.length (fun j x v hx hv => hCR (h.env.get' hx hv)), ?_, by rw [hlen]; exact h.len, by rw [hlen]; exact h.scopeE, fun k T c hh => by rw [hlen]; exact h.scopeS k T c (hbx (.s k) T c hh), fun k T c hk hh => h.scopeB k T c hk (hbx (.s k) T c hh), h.scopeO⟩,
    ⟨⟨hk.free, hk.size, fun _ _ _ h => h, fun r hrr _ _ _ _ hs => hk.row r (fun e => by have hr' : r < base := hrr; injection e with e; omega) _ _ _ _ hs⟩, rfl, rfl, rfl, hlen, Nat.le_refl _, fun k β hk hh T c hc => hh T c (hbx (.s k) T c hc)⟩⟩
  refine ⟨h.inv.inj, fun b' o hb' => by have := h.inv.rng b' o hb'; simpa [World.setRow] using this, fun b' o hb' => ?_, h.inv.orow, fun m' e' sz' n' c' b' hs hb' => ?_, fun id T c hh => ?_⟩
  · have hal := h.inv.live b' o hb'
    cases o with
    | box id =>
      rcases hal with ⟨T, c, hal⟩ | ⟨e', sz', n', c', hal⟩
      · exact .inl ⟨T, c, hbx' id T c hal⟩
      · refine .inr ?_
        cases id with
        | o k => exact ⟨_, _, _, _, hal⟩
        | s k =>
          simp only [getB] at hal ⊢
          by_cases hk : k = m
          · subst hk; exact ⟨_, _, _, _, hself⟩
          · exact ⟨_, _, _, _, by rw [set_same hk]; exact hal⟩
    | cell id _ => obtain ⟨T, c, hal⟩ := hal; exact ⟨T, c, hbx' id T c hal⟩
    | ext _ => trivial
    | row k =>
      obtain ⟨e', sz', n', c', hal⟩ := hal
      by_cases hk : k = m
      · subst hk; exact ⟨_, _, _, _, hself⟩
      · exact ⟨_, _, _, _, by rw [set_same hk]; exact hal⟩
  · by_cases hne : m' = m
    · subst hne
      rw [hself] at hs; injection hs with hs; injection hs with p1 p2 p3 p4; subst p1 p2 p3 p4
      obtain rfl := h.inv.inj _ _ _ hb' hb
      exact ⟨cap, _, hhdr, hvs', hdd⟩
    · rw [set_same hne] at hs
      exact (h.inv.row m' e' sz' n' c' b' hs hb').keep hk (fun e => by injection e with e; exact hne e) hs
  · have hh0 := hbx id T c hh
    obtain ⟨b2, vs2, p1, p2, p3, p4⟩ := h.inv.box id T c hh0
    have hne : b2 ≠ b := by
      rintro rfl
      rw [hb] at p1; injection p1 with p1; injection p1 with p1; subst p1
      simp only [getB] at hh0; rw [hS] at hh0; cases hh0
    refine ⟨b2, vs2, p1, (setRow_other w b b2 _ hne).trans p2, p3, fun j x v hx hv => ?_⟩
    have h5 := p4 j x v hx hv
    cases x with
    | w e sz n cs => exact h5.keep hk (fun o ho => by cases ho) (fun b' hb' => ⟨hb', setRow_other w b b' _ (fun e => by subst e; rw [hb] at hb'; cases hb')⟩)
    | _ => exact cellR.mk (hCR h5)
end
end Go.Am
/-
  THE ABSTRACT MACHINE: the operations that change the state, and that they are sound.
-/
namespace Go.Am
open Go

def AV.cells? : AV → Option (List AV)
  | .a cs => some cs
  | .s x => some [.s x]
  | .l n cs => some [.l n cs]
  | .e cs => some [.e cs]
  | .p id off => some [.p id off]
  | .r m => some [.r m]
  | .f fn fs cs => some [.f fn fs cs]
  | _ => none

def fillAV (place : Nat → Option (Nat × Nat)) : List AV → List (Nat × AV) → Option (List AV)
  | cells, [] => some cells
  | cells, (i, v) :: rest =>
    match place i, v.cells? with
    | some (off, size), some vs => if vs.length = size ∧ off + size ≤ cells.length then fillAV place (splice cells off vs) rest else none
    | _, _ => none

def buildAV (P : Program) (t : TypeId) (parts : List (Nat × AV)) : Option AV :=
  match P.info? t, P.underlying t with
  | some it, some (.array _ e) =>
    match it.zero, P.info? e with
    | some z, some ie => (fillAV (fun i => some (i * ie.size, ie.size)) (z.cells.toList.map ofC) parts).map .a
    | _, _ => none
  | some it, some (.struct fields) =>
    match it.zero, fields.toList.mapM (fun f => (P.info? f.type).map fun i => (f.offset, i.size)) with
    | some z, some places => (fillAV (places.toArray[·]?) (z.cells.toList.map ofC) parts).map .a
    | _, _ => none
  | _, _ => none

def St.freezeIn (base : Nat) : List AV → St → St
  | [], st => st
  | .r m :: xs, st => St.freezeIn base xs (if base ≤ m then (st.freezeRow base m).getD st else st)
  | _ :: xs, st => St.freezeIn base xs st

def St.setAt (base m : Nat) (blk : Blk) (st : St) : St :=
  match st.S[m]? with
  | some .dead => { st with S := st.S.set m blk }
  | _ => st.giveTo base m (fun _ => .u) .u blk

def boxCells (st : St) (m : Nat) (cs : List AV) : List AV :=
  match st.S[m]? with
  | some .dead => cs
  | _ => AV.subL m (fun _ => .u) .u cs

/-- A new box: at the frame's place, or an object. -/
def newBox (esc : Nat → Bool) (base : Nat) (d : Option Nat) (T : TypeId) (cs : List AV) (st : St) : Option (AV × St) :=
  match d with
  | some d =>
    if esc d then
      if AV.belL 0 cs then some (.p (.o st.O.length) 0, { st with O := st.O ++ [.box T cs] }) else none
    else if d < st.env.length then some (.p (.s (base + d)) 0, st.setAt base (base + d) (.box T (boxCells st (base + d) cs)))
    else none
  | none => none

def zeroO (P : Program) (T : TypeId) : Option (List Value) := ((P.info? T).bind (·.zero)).map (·.cells.toList)

/-- A bound of a slice expression. -/
def bnd (env : List AV) (x : Option Operand) (dflt top : Nat) : Option Nat :=
  match x with
  | none => some dflt
  | some y => match rd env y with
    | .s (.i _ i) => if 0 ≤ i ∧ i ≤ top then some i.toNat else none
    | _ => none

/-- A part of a list of n elements. -/
def cutAV (env : List AV) (sz n : Nat) (cs : List AV) (lo hi mx : Option Operand) : Option AV :=
  match bnd env mx n n with
  | some m => match bnd env hi n m with
    | some h => match bnd env lo 0 h with
      | some l => some (.l (h - l) ((cs.drop (l * sz)).take ((h - l) * sz)))
      | none => none
    | none => none
  | none => none

def sliceAV (P : Program) (T : TypeId) (x : AV) (lo hi mx : Option Operand) (env : List AV) : Option AV :=
  match x with
  | .l n cs => match sliceO P T with
    | some e => match szO P e with | some sz => cutAV env sz n cs lo hi mx | none => none
    | none => none
  | .e cs => match arrO P T with
    | some (n, e) => match szO P e with | some sz => if n * sz ≤ cs.length ∧ 0 < sz ∧ n ≤ maxLen then cutAV env sz n cs lo hi mx else none | none => none
    | none => none
  | .s .sn => match sliceO P T with
    | some e => match szO P e, cutAV env 1 0 [] lo hi mx with | some _, some _ => some (.s .sn) | _, _ => none
    | none => none
  | _ => none

/-- May these cells be stored there: into older boxes and objects nothing that names a place. -/
def okScope (base : Nat) (id : Bid) (xs : List AV) : Bool :=
  match id with
  | .o _ => AV.belL 0 xs
  | .s n => decide (base ≤ n) || AV.belL 0 xs

def xStore (base : Nat) (id : Bid) (off : Nat) (xs : List AV) (st : St) : Option St :=
  match getB st.S st.O id with
  | some (.box T cs) =>
    if off + xs.length ≤ cs.length ∧ xs.all AV.one ∧ ((cs.drop off).take xs.length).all notW ∧ okScope base id xs = true then some (setB st id (.box T (splice cs off xs))) else none
  | some (.row e sz n cs) =>
    match id with
    | .s m => if base ≤ m ∧ off + xs.length ≤ cs.length ∧ xs.all AV.data then some { st with S := st.S.set m (.row e sz n (splice cs off xs)) } else none
    | .o _ => none
  | _ => none

def isOwn (base : Nat) : Bid → Bool
  | .s n => decide (base ≤ n)
  | .o _ => false

def isBox (st : St) (id : Bid) : Bool :=
  match getB st.S st.O id with
  | some (.box ..) => true
  | _ => false

section
variable {base : Nat} {w w' w'' : World} {G G' G'' : Ghost} {S S' S'' O O' O'' : List Blk} {P : Program}

mutual
theorem CR_bel (hI : InvH w G S O) {x : AV} {v : Value} (h : CR w G S x v) : x.bel S.length = true :=
  match x, v, h with
  | _, _, .u v => rfl
  | _, _, .s x => rfl
  | _, _, .l n cs A c vs h1 h2 h3 h4 h5 h6 => rfl
  | _, _, .e cs a vs h1 h2 h3 => rfl
  | _, _, .p (.o n) off b h => rfl
  | _, _, .p (.s n) off b h => by
    simp only [AV.bel, decide_eq_true_eq]
    rcases hI.live b _ h with ⟨T, cs, h⟩ | ⟨e, sz, k, cs, h⟩ <;> exact (List.getElem?_eq_some_iff.1 h).1
  | _, _, .r n e sz k cs vs v h1 h2 h3 h4 => by
    simp only [AV.bel, decide_eq_true_eq]
    exact (List.getElem?_eq_some_iff.1 h1).1
  | _, _, .f fn fs cs vf vc h1 h2 => by simp only [AV.bel, Bool.and_eq_true]; exact ⟨CRs_bel hI h1, CRs_bel hI h2⟩
  | _, _, .a cs vs h => by simp only [AV.bel]; exact CRs_bel hI h
  | _, _, .t cs vs h => by simp only [AV.bel]; exact CRs_bel hI h
theorem CRs_bel (hI : InvH w G S O) {xs : List AV} {vs : List Value} (h : CRs w G S xs vs) : AV.belL S.length xs = true :=
  match xs, vs, h with
  | _, _, .nil => rfl
  | _, _, .cons x v xs vs h1 h2 => by simp only [AV.belL, Bool.and_eq_true]; exact ⟨CR_bel hI h1, CRs_bel hI h2⟩
end

theorem cells?_CR {x : AV} {v : Value} {cs : List AV} (h : x.cells? = some cs) (hc : CR w G S x v) : CRs w G S cs v.cells.toList := by
  cases hc with
  | u v => simp [AV.cells?] at h
  | t cs vs h' => simp [AV.cells?] at h
  | a cs vs h' => simp [AV.cells?] at h; subst h; simpa [Value.cells] using h'
  | s x => simp [AV.cells?] at h; subst h; cases x <;> exact .cons _ _ _ _ (.s _) .nil
  | l n cs A c vs h1 h2 h3 h4 h5 h6 => simp [AV.cells?] at h; subst h; exact .cons _ _ _ _ (.l n cs A c vs h1 h2 h3 h4 h5 h6) .nil
  | e cs a vs h1 h2 h3 => simp [AV.cells?] at h; subst h; exact .cons _ _ _ _ (.e cs a vs h1 h2 h3) .nil
  | p id off b h1 => simp [AV.cells?] at h; subst h; exact .cons _ _ _ _ (.p id off b h1) .nil
  | r m e sz n cs vs v h1 h2 h3 h4 =>
    simp [AV.cells?] at h; subst h
    have hc : v.cells = #[v] := by
      obtain ⟨_, _, h2⟩ := h2
      rcases h2 with ⟨rfl, _⟩ | ⟨b, cap, cur, rfl, _⟩ <;> rfl
    rw [hc]
    exact .cons _ _ _ _ (.r m e sz n cs vs v h1 h2 h3 h4) .nil
  | f fn fs cs vf vc h1 h2 => simp [AV.cells?] at h; subst h; exact .cons _ _ _ _ (.f fn fs cs vf vc h1 h2) .nil

theorem foldl_set (off : Nat) : ∀ (l : List Value) (k : Nat) (cells : Array Value), off + k + l.length ≤ cells.size →
    ((l.zipIdx k).foldl (fun cs (c, j) => cs.setIfInBounds (off + j) c) cells).toList = cells.toList.take (off + k) ++ l ++ cells.toList.drop (off + k + l.length)
  | [], k, cells, _ => by simp
  | x :: l, k, cells, h => by
    simp only [List.zipIdx_cons, List.foldl_cons]
    rw [foldl_set off l (k + 1) _ (by simp at h ⊢; omega)]
    simp only [Array.toList_setIfInBounds, List.length_cons]
    have hk : off + k < cells.toList.length := by simp at h ⊢; omega
    apply List.ext_getElem?
    intro i
    simp only [List.getElem?_append, List.getElem?_take, List.length_append, List.length_take, List.length_set, List.length_cons, List.getElem?_drop, List.getElem?_set, List.getElem?_cons, Array.length_toList]
    simp only [Array.length_toList] at hk
    simp only [List.length_cons] at h
    by_cases h1 : i < off + k
    · simp only [show i < min (off + (k + 1)) cells.size + l.length by omega, show i < min (off + (k + 1)) cells.size by omega, show i < off + (k + 1) by omega, show ¬ (off + k = i) by omega, show i < min (off + k) cells.size + (l.length + 1) by omega, show i < min (off + k) cells.size by omega, h1, if_true, if_false]
    · by_cases h2 : i = off + k
      · subst h2
        simp only [show off + k < min (off + (k + 1)) cells.size + l.length by omega, show off + k < min (off + (k + 1)) cells.size by omega, show off + k < off + (k + 1) by omega, show off + k < min (off + k) cells.size + (l.length + 1) by omega, show ¬ (off + k < min (off + k) cells.size) by omega, hk, if_true, if_false]
        simp [show off + k - min (off + k) cells.size = 0 by omega]
      · by_cases h3 : i < off + (k + 1) + l.length
        · simp only [show i < min (off + (k + 1)) cells.size + l.length by omega, show ¬ (i < min (off + (k + 1)) cells.size) by omega, show i < min (off + k) cells.size + (l.length + 1) by omega, show ¬ (i < min (off + k) cells.size) by omega, show ¬ (i - min (off + k) cells.size = 0) by omega, if_true, if_false]
          congr 1; omega
        · simp only [show ¬ (i < min (off + (k + 1)) cells.size + l.length) by omega, show ¬ (i < min (off + k) cells.size + (l.length + 1)) by omega, if_false, show ¬ (off + k = off + (k + 1) + l.length + (i - (min (off + (k + 1)) cells.size + l.length))) by omega]
          congr 1; omega

theorem fill_sound (place : Nat → Option (Nat × Nat)) : ∀ (parts : List (Nat × AV)) (vparts : List (Nat × Value)) (cells : List AV) (vcells : Array Value) (cells' : List AV),
    CRs w G S cells vcells.toList → parts.length = vparts.length → (∀ (j : Nat) (p : Nat × AV) (q : Nat × Value), parts[j]? = some p → vparts[j]? = some q → p.1 = q.1 ∧ CR w G S p.2 q.2) → fillAV place cells parts = some cells' →
    ∃ vcells', Instr.fill place vcells vparts = some vcells' ∧ CRs w G S cells' vcells'.toList
  | [], vparts, cells, vcells, cells', hc, hl, hp, h => by
    cases vparts <;> simp at hl
    simp [fillAV] at h; subst h
    exact ⟨vcells, rfl, hc⟩
  | (i, x) :: parts, vparts, cells, vcells, cells', hc, hl, hp, h => by
    cases vparts with
    | nil => simp at hl
    | cons q vparts =>
      obtain ⟨i', v⟩ := q
      obtain ⟨hi, hx⟩ := hp 0 _ _ rfl rfl
      simp only at hi hx; subst hi
      simp only [fillAV] at h
      split at h
      · rename_i off size vs hpl hvs
        split at h
        · rename_i hsz
          have hcv := cells?_CR hvs hx
          have hvl : v.cells.size = vs.length := by simpa using hcv.length.symm
          have hcl : vcells.size = cells.length := by simpa using hc.length.symm
          have hfold : (v.cells.zipIdx.foldl (fun cs (c, j) => cs.setIfInBounds (off + j) c) vcells).toList = vcells.toList.take off ++ v.cells.toList ++ vcells.toList.drop (off + v.cells.toList.length) := by
            have := foldl_set off v.cells.toList 0 vcells (by simp; omega)
            rw [← Array.foldl_toList, Array.toList_zipIdx]
            simpa using this
          obtain ⟨vcells', h1, h2⟩ := fill_sound place parts vparts (splice cells off vs) (v.cells.zipIdx.foldl (fun cs (c, j) => cs.setIfInBounds (off + j) c) vcells) cells' (by
            rw [hfold]
            have := ((hc.take off).append hcv).append (hc.drop (off + vs.length))
            simpa [splice, hvl] using this) (by simpa using hl) (fun j p q hpp hq => hp (j + 1) p q (by simpa using hpp) (by simpa using hq)) h
          refine ⟨vcells', ?_, h2⟩
          simp only [Instr.fill, hpl]
          rw [if_neg (by simp; omega)]
          exact h1
        · cases h
      · cases h

theorem buildAV_sound {t : TypeId} {parts : List (Nat × AV)} {vparts : List (Nat × Value)} {r : AV} (h : buildAV P t parts = some r) (hl : parts.length = vparts.length)
    (hp : ∀ (j : Nat) (p : Nat × AV) (q : Nat × Value), parts[j]? = some p → vparts[j]? = some q → p.1 = q.1 ∧ CR w G S p.2 q.2) : ∃ v, (Instr.build t vparts.toArray).run P w = .ok v w ∧ CR w G S r v := by
  unfold buildAV at h
  split at h
  · rename_i it n e hi hu
    split at h
    · rename_i z ie hz hie
      simp only [Option.map_eq_some_iff] at h
      obtain ⟨cs, hcs, rfl⟩ := h
      obtain ⟨vc, h1, h2⟩ := fill_sound _ parts vparts _ z.cells cs (CRs_ofC _) hl hp hcs
      have hb : P.built t vparts.toArray.toList = some vc := by
        unfold Program.built; simp only [hi, hu, hz, hie]; exact h1
      exact ⟨.agg vc, run_build w t _ vc hb, by simpa using CR.a _ _ h2⟩
    · cases h
  · rename_i it fields hi hu
    split at h
    · rename_i z places hz hpl
      simp only [Option.map_eq_some_iff] at h
      obtain ⟨cs, hcs, rfl⟩ := h
      obtain ⟨vc, h1, h2⟩ := fill_sound _ parts vparts _ z.cells cs (CRs_ofC _) hl hp hcs
      have hb : P.built t vparts.toArray.toList = some vc := by
        unfold Program.built; simp only [hi, hu, hz, hpl]; exact h1
      exact ⟨.agg vc, run_build w t _ vc hb, by simpa using CR.a _ _ h2⟩
    · cases h
  · cases h

theorem Rel.freezeIn : ∀ (xs : List AV) {w : World} {G : Ghost} {st : St} {a : Act}, Rel base w G st a → ∃ G', Rel base w G' (st.freezeIn base xs) a ∧ FEvol base w G st.S st.O w G' (st.freezeIn base xs).S (st.freezeIn base xs).O
  | [], w, G, st, a, h => ⟨G, h, .refl⟩
  | x :: xs, w, G, st, a, h => by
    cases x with
    | r m =>
      simp only [St.freezeIn]
      by_cases hm : base ≤ m
      · rw [if_pos hm]
        cases hf : st.freezeRow base m with
        | none => exact Rel.freezeIn xs h
        | some st1 =>
          obtain ⟨G1, h1, h2⟩ := h.freezeRow hm hf
          obtain ⟨G2, h3, h4⟩ := Rel.freezeIn xs h1
          exact ⟨G2, h3, h2.trans h4⟩
      · rw [if_neg hm]; exact Rel.freezeIn xs h
    | _ => exact Rel.freezeIn xs h

theorem Rel.setAt_eq {st : St} {a : Act} (h : Rel base w G st a) (m : Nat) (blk : Blk) : st.setAt base m blk = st.giveTo base m (fun _ => .u) .u blk := by
  unfold St.setAt
  split
  · rename_i hd; exact (h.giveTo_dead hd _ _ _).symm
  · rfl

theorem Rel.boxCells_eq {st : St} {a : Act} (h : Rel base w G st a) (m : Nat) {cs : List AV} {vs : List Value} (hc : CRs w G st.S cs vs) : boxCells st m cs = AV.subL m (fun _ => .u) .u cs := by
  unfold boxCells
  split
  · rename_i hd; exact (subL_dead h.inv hd hc).symm
  · rfl

theorem newBox_sound {esc : Nat → Bool} {d : Option Nat} {T : TypeId} {cs : List AV} {vs : List Value} {st st' : St} {r : AV} {a : Act} (h : Rel base w G st a) (hn : newBox esc base d T cs st = some (r, st')) (hc : CRs w G st.S cs vs) :
    ∃ G', Rel base { w with heap := w.heap.push (.cells vs.toArray T) } G' st' a ∧ FEvol base w G st.S st.O { w with heap := w.heap.push (.cells vs.toArray T) } G' st'.S st'.O ∧
      CR { w with heap := w.heap.push (.cells vs.toArray T) } G' st'.S r (.pointer (some ⟨w.heap.size, 0, none⟩)) := by
  unfold newBox at hn
  split at hn
  rotate_left
  · cases hn
  rename_i d
  split at hn
  · split at hn
    · rename_i hb
      simp only [Option.some.injEq, Prod.mk.injEq] at hn
      obtain ⟨rfl, rfl⟩ := hn
      exact h.newObj hc hb
    · cases hn
  · split at hn
    · rename_i hlt
      simp only [Option.some.injEq, Prod.mk.injEq] at hn
      obtain ⟨rfl, rfl⟩ := hn
      have hlt2 : d < st.env.length := by assumption
      have hlt' : base + d < st.S.length := by have := h.len; omega
      rw [h.setAt_eq, h.boxCells_eq _ hc]
      exact h.boxAt (by omega) hlt' hc (CRs_bel h.inv hc)
    · cases hn

theorem bnd_sound {env : List AV} {a : Act} (hc : CRs w G S env a.tmps.toList) {x : Option Operand} {dflt top j : Nat} (h : bnd env x dflt top = some j) :
    (x = none ∧ j = dflt) ∨ ∃ y k i, x = some y ∧ a.eval y = .int k i ∧ 0 ≤ i ∧ i ≤ top ∧ j = i.toNat := by
  unfold bnd at h
  split at h
  · injection h with h; exact .inl ⟨rfl, h.symm⟩
  · rename_i y
    have hy := rd_sound (w := w) (G := G) (S := S) hc y
    split at h
    · rename_i k i hh
      rw [hh] at hy
      split at h <;> simp at h
      rename_i hb
      generalize hv : a.eval y = v at hy
      cases hy
      exact .inr ⟨y, k, i, rfl, hv, hb.1, hb.2, h.symm⟩
    · cases h

theorem cut_bounds {env : List AV} {a : Act} (hc : CRs w G S env a.tmps.toList) {sz n cap : Nat} {cs : List AV} {lo hi mx : Option Operand} {r : AV} (h : cutAV env sz n cs lo hi mx = some r) (hn : n ≤ cap) (isS : Bool) :
    ∃ l hh m, (Instr.sliceBounds isS n cap (lo.map a.eval) (hi.map a.eval) (mx.map a.eval)).run P w = .ok (l, hh, m) w ∧ l ≤ hh ∧ hh ≤ n ∧ hh ≤ m ∧ m ≤ cap ∧ r = .l (hh - l) ((cs.drop (l * sz)).take ((hh - l) * sz)) ∨ (mx.isSome = true ∧ hi = none) := by
  by_cases hbad : mx.isSome = true ∧ hi = none
  · exact ⟨0, 0, 0, .inr hbad⟩
  unfold cutAV at h
  split at h
  rotate_left
  · cases h
  rename_i m hm
  split at h
  rotate_left
  · cases h
  rename_i hh hhh
  split at h
  rotate_left
  · cases h
  rename_i l hl
  injection h with h
  have e1 := bnd_sound hc hm
  have e2 := bnd_sound hc hhh
  have e3 := bnd_sound hc hl
  have sb : ∀ (k : IntKind) (i : Int) (y : Nat) (c : BoundsCode), 0 ≤ i → i ≤ y → (Instr.sliceBound (.int k i) y c).run P w = .ok i.toNat w := by
    intro k i y c h0 h1
    simp [Instr.sliceBound, asIntOf, h0, h1]
  rcases e1 with ⟨rfl, rfl⟩ | ⟨ym, km, im, rfl, hvm, hm0, hm1, rfl⟩
  · rcases e2 with ⟨rfl, rfl⟩ | ⟨yh, kh, ih, rfl, hvh, hh0, hh1, rfl⟩
    · rcases e3 with ⟨rfl, rfl⟩ | ⟨yl, kl, il, rfl, hvl, hl0, hl1, rfl⟩
      · exact ⟨0, _, cap, .inl ⟨by simp [Instr.sliceBounds], by omega, by omega, by omega, by omega, h.symm⟩⟩
      · exact ⟨il.toNat, _, cap, .inl ⟨by simp [Instr.sliceBounds, hvl, sb kl il _ _ hl0 hl1], by omega, by omega, by omega, by omega, h.symm⟩⟩
    · rcases e3 with ⟨rfl, rfl⟩ | ⟨yl, kl, il, rfl, hvl, hl0, hl1, rfl⟩
      · exact ⟨0, ih.toNat, cap, .inl ⟨by simp [Instr.sliceBounds, hvh, sb kh ih cap _ hh0 (by omega)], by omega, by omega, by omega, by omega, h.symm⟩⟩
      · exact ⟨il.toNat, ih.toNat, cap, .inl ⟨by simp [Instr.sliceBounds, hvh, hvl, sb kh ih cap _ hh0 (by omega), sb kl il _ _ hl0 hl1], by omega, by omega, by omega, by omega, h.symm⟩⟩
  · rcases e2 with ⟨rfl, rfl⟩ | ⟨yh, kh, ih, rfl, hvh, hh0, hh1, rfl⟩
    · exact absurd ⟨rfl, rfl⟩ hbad
    · rcases e3 with ⟨rfl, rfl⟩ | ⟨yl, kl, il, rfl, hvl, hl0, hl1, rfl⟩
      · exact ⟨0, ih.toNat, im.toNat, .inl ⟨by simp [Instr.sliceBounds, hvm, hvh, sb km im cap _ hm0 (by omega), sb kh ih _ _ hh0 hh1], by omega, by omega, by omega, by omega, h.symm⟩⟩
      · exact ⟨il.toNat, ih.toNat, im.toNat, .inl ⟨by simp [Instr.sliceBounds, hvm, hvh, hvl, sb km im cap _ hm0 (by omega), sb kh ih _ _ hh0 hh1, sb kl il _ _ hl0 hl1], by omega, by omega, by omega, by omega, h.symm⟩⟩
end
end Go.Am
/-
  THE ABSTRACT MACHINE: one operation that is no call of a function.
-/
namespace Go.Am
open Go

def partsAV (env : List AV) (parts : Array (Nat × Operand)) : List (Nat × AV) := parts.toList.map fun q => (q.1, rd env q.2)

def partCells (env : List AV) (parts : Array (Nat × Operand)) : List AV := (parts.toList.map fun q => ((rd env q.2).cells?).getD []).flatten

def zeroCellsAV (z : List Value) (n : Nat) : List AV := (List.range n).map fun j => ofC (z.toArray[j % z.toArray.size]!)

def rowHere (base : Nat) (d : Option Nat) (e sz n : Nat) (cs : List AV) (st : St) : Option (AV × St) :=
  match d with
  | some d => if d < st.env.length then some (.r (base + d), st.setAt base (base + d) (.row e sz n cs)) else none
  | none => none

def xBuildSlice (P : Program) (base : Nat) (d : Option Nat) (t : TypeId) (len : Nat) (parts : Array (Nat × Operand)) (st : St) : Option (AV × St) :=
  match sliceO P t with
  | some e =>
    match P.info? e, zeroO P e with
    | some ie, some z =>
      if 0 < len * ie.size ∧ len * ie.size ≤ 2 ^ 24 ∧ len ≤ maxLen then
        match fillAV (fun i => some (i * ie.size, ie.size)) (zeroCellsAV z (len * ie.size)) (partsAV (st.freezeIn base (partCells st.env parts)).env parts) with
        | some cells => if cells.all AV.data ∧ cells.length = len * ie.size then rowHere base d e ie.size len cells (st.freezeIn base (partCells st.env parts)) else none
        | none => none
      else none
    | _, _ => none
  | none => none

def xMakeSlice (P : Program) (base : Nat) (d : Option Nat) (t : TypeId) (l c : AV) (st : St) : Option (AV × St) :=
  match sliceO P t, l, c with
  | some e, .s (.i _ il), .s (.i _ ic) =>
    match P.info? e, zeroO P e with
    | some ie, some z =>
      if 0 ≤ il ∧ il ≤ ic ∧ (ie.bytes : Int) * ic ≤ 281474976710656 ∧ ic ≤ 9223372036854775807 ∧ 0 < ie.size ∧ (zeroCellsAV z (il.toNat * ie.size)).all AV.data then
        rowHere base d e ie.size il.toNat (zeroCellsAV z (il.toNat * ie.size)) st
      else none
    | _, _ => none
  | _, _, _ => none

def xStoreOp (P : Program) (base : Nat) (T : TypeId) (x y : Operand) (st : St) : Option (AV × St) :=
  match rd st.env x, (rd st.env y).cells?, szO P T with
  | .p id off, some cs, some sz =>
    if cs.length = sz then
      if isOwn base id && isBox st id then (xStore base id off cs st).map (AV.u, ·)
      else
        match rd (st.freezeIn base cs).env x, (rd (st.freezeIn base cs).env y).cells? with
        | .p id off, some cs1 => if cs1.length = sz then (xStore base id off cs1 (st.freezeIn base cs)).map (AV.u, ·) else none
        | _, _ => none
    else none
  | _, _, _ => none

def xSlice (P : Program) (base : Nat) (T : TypeId) (x : Operand) (lo hi mx : Option Operand) (st : St) : Option (AV × St) :=
  if mx.isSome && hi.isNone then none else
  match rd st.env x with
  | .r m =>
    if base ≤ m then
      match st.freezeRow base m with
      | some st1 => (sliceAV P T (rd st1.env x) lo hi mx st1.env).map (·, st1)
      | none => none
    else none
  | .p (.s m) _ =>
    if base ≤ m then
      match st.freezeBox base m with
      | some st1 => (sliceAV P T (rd st1.env x) lo hi mx st1.env).map (·, st1)
      | none => none
    else none
  | v => (sliceAV P T v lo hi mx st.env).map (·, st)

/-- What is appended: how many, and these. -/
def srcAV (st : St) (m : Nat) (x : AV) : Option (Nat × List AV) :=
  match x with
  | .l k xs => some (k, xs)
  | .r m2 => if m2 = m then none else match st.S[m2]? with | some (.row _ _ k xs) => some (k, xs) | _ => none
  | .s .sn => some (0, [])
  | _ => none

def dstAV (base : Nat) (d : Option Nat) (e sz : Nat) (s : AV) (st : St) : Option (Nat × St) :=
  match s with
  | .r m => if base ≤ m then some (m, st) else none
  | .s .sn => match d with
    | some d => if d < st.env.length ∧ 0 < sz then some (base + d, st.setAt base (base + d) (.row e sz 0 [])) else none
    | none => none
  | _ => none

def xAppend (P : Program) (base : Nat) (d : Option Nat) (t t' : TypeId) (s x : Operand) (st : St) : Option (AV × St) :=
  if t = t' then
    match sliceO P t with
    | some e =>
      match P.info? e, zeroO P e with
      | some ie, some z =>
        match dstAV base d e ie.size (rd st.env s) st with
        | some (m, st1) =>
          match st1.S[m]?, srcAV st1 m (rd st1.env x) with
          | some (.row e' sz n cs), some (k, xs) =>
            if e' = e ∧ sz = ie.size ∧ z.length = ie.size ∧ xs.length = k * ie.size ∧ n + k ≤ maxLen ∧ (n + k) * ie.bytes ≤ 140737488355328 then
              some (.r m, st1.giveTo base m (fun _ => .u) .u (.row e ie.size (n + k) (cs ++ xs)))
            else none
          | _, _ => none
        | none => none
      | _, _ => none
    | none => none
  else none

/-- One operation that is no call of a function. -/
def xOp (P : Program) (esc : Nat → Bool) (base : Nat) (o : Oper) (st : St) : Option (AV × St) :=
  match o.op with
  | .alloc T => match zeroO P T with | some z => newBox esc base o.dst T (z.map ofC) st | none => none
  | .box T x =>
    match (rd st.env x).cells? with
    | some cs =>
      if o.dst.any esc then
        match (rd (st.freezeIn base cs).env x).cells? with
        | some cs1 => newBox esc base o.dst T cs1 (st.freezeIn base cs)
        | none => none
      else newBox esc base o.dst T cs st
    | none => none
  | .build t parts => (buildAV P t (partsAV st.env parts)).map (·, st)
  | .buildSlice t len parts => xBuildSlice P base o.dst t len parts st
  | .makeSlice t l c => xMakeSlice P base o.dst t (rd st.env l) (rd st.env c) st
  | .store T x y => xStoreOp P base T x y st
  | .slice T x lo hi mx => match rd st.env x with
    | .s (.str _) => (xPure P st o).map (·, st)
    | _ => xSlice P base T x lo hi mx st
  | .call { callee := .builtin .append, args, argTypes } =>
    match args.toList, argTypes.toList with
    | [s, x], [t, t'] => xAppend P base o.dst t t' s x st
    | _, _ => none
  | _ => (xPure P st o).map (·, st)

section
variable {base : Nat} {w w' w'' : World} {G G' G'' : Ghost} {S S' S'' O O' O'' : List Blk} {P : Program}

/-- What an operation comes to. -/
def OpTo (P : Program) (base : Nat) (w : World) (G : Ghost) (st : St) (a : Act) (s : Sem Next) (r : AV) (st' : St) : Prop :=
  ∃ nv val w' G', s.run P w = .ok nv w' ∧ (nv = .value val ∨ nv = .skip ∧ val = undef) ∧ Rel base w' G' st' a ∧ FEvol base w G st.S st.O w' G' st'.S st'.O ∧ CR w' G' st'.S r val

theorem parts_rel {env : List AV} {a : Act} (hc : CRs w G S env a.tmps.toList) (parts : Array (Nat × Operand)) :
    (partsAV env parts).length = (parts.toList.map fun q => (q.1, a.eval q.2)).length ∧
    ∀ (j : Nat) (p : Nat × AV) (q : Nat × Value), (partsAV env parts)[j]? = some p → (parts.toList.map fun q => (q.1, a.eval q.2))[j]? = some q → p.1 = q.1 ∧ CR w G S p.2 q.2 := by
  refine ⟨by simp [partsAV], fun j p q hp hq => ?_⟩
  simp only [partsAV, List.getElem?_map, Option.map_eq_some_iff] at hp hq
  obtain ⟨x, hx, rfl⟩ := hp
  obtain ⟨y, hy, rfl⟩ := hq
  rw [hx] at hy; injection hy with hy; subst hy
  exact ⟨rfl, rd_sound hc _⟩

theorem zeroO_run {T : TypeId} {z : List Value} (h : zeroO P T = some z) : ∃ i v, P.info? T = some i ∧ i.zero = some v ∧ v.cells.toList = z := by
  unfold zeroO at h
  simp only [Option.map_eq_some_iff, Option.bind_eq_some_iff] at h
  obtain ⟨v, ⟨i, hi, hz⟩, hv⟩ := h
  exact ⟨i, v, hi, hz, hv⟩

theorem rowHere_sound {d : Option Nat} {e sz n cap : Nat} {cs : List AV} {vs : List Value} {cur : Array Value} {st st' : St} {r : AV} {a : Act} (h : Rel base w G st a) (hn : rowHere base d e sz n cs st = some (r, st'))
    (hc : CRs w G st.S cs vs) (hd : ∀ x ∈ cs, x.data = true) (hsz : 0 < sz) (hl : vs.length = n * sz) (hnc : n ≤ cap) (hcap : cap ≤ maxLen) (hcs : cur.size = cap * sz) (ht : cur.toList.take (n * sz) = vs) :
    ∃ G', Rel base { w with heap := w.heap.push (.cells cur e) } G' st' a ∧ FEvol base w G st.S st.O { w with heap := w.heap.push (.cells cur e) } G' st'.S st'.O ∧
      CR { w with heap := w.heap.push (.cells cur e) } G' st'.S r (.slice (some ⟨w.heap.size, 0, none⟩) n cap) := by
  unfold rowHere at hn
  split at hn
  rotate_left
  · cases hn
  rename_i d
  split at hn
  rotate_left
  · cases hn
  rename_i hlt
  simp only [Option.some.injEq, Prod.mk.injEq] at hn
  obtain ⟨rfl, rfl⟩ := hn
  have hlt' : base + d < st.S.length := by have := h.len; omega
  rw [h.setAt_eq]
  exact h.rowAt (by omega) hlt' hc hd hsz hl hnc hcap hcs ht

theorem zeroCells_CR (v : Value) (n : Nat) : CRs w G S (zeroCellsAV v.cells.toList n) ((Array.range n).map (v.cells[· % v.cells.size]!)).toList := by
  refine .of (by simp [zeroCellsAV]) fun j x u hx hu => ?_
  simp only [zeroCellsAV, Array.toArray_toList, List.getElem?_map, Option.map_eq_some_iff] at hx
  obtain ⟨i, hi, rfl⟩ := hx
  simp only [Array.toList_map, Array.toList_range, List.getElem?_map, Option.map_eq_some_iff] at hu
  obtain ⟨i', hi', rfl⟩ := hu
  rw [hi] at hi'; injection hi' with hi'; subst hi'
  exact CR_ofC _

theorem sliceAV_sound {st : St} {a : Act} (h : Rel base w G st a) {T : TypeId} {x r : AV} {v : Value} {lo hi mx : Option Operand} (hbad : ¬ (mx.isSome = true ∧ hi = none)) (hs : sliceAV P T x lo hi mx st.env = some r) (hx : CR w G st.S x v) :
    ∃ q, (Instr.sliceAt T v (lo.map a.eval) (hi.map a.eval) (mx.map a.eval)).run P w = .ok q w ∧ CR w G st.S r q := by
  unfold sliceAV at hs
  split at hs
  · rename_i n cs
    split at hs
    rotate_left
    · cases hs
    rename_i e he
    split at hs
    rotate_left
    · cases hs
    rename_i sz hsz
    cases hx with | l n cs A c vs h1 h2 h3 h4 h5 h6 =>
    obtain ⟨l, hh, m, hb⟩ := cut_bounds (P := P) h.env hs h2 true
    rcases hb with ⟨hb, q1, q2, q3, q4, rfl⟩ | hb
    rotate_left
    · exact absurd hb hbad
    have hu := sliceO_run he
    refine ⟨.slice (if m = l then A else A.map (·.add (l * sz))) (hh - l) (m - l), by simp [Instr.sliceAt, Instr.slice, run_underlying hu, hb, run_szO hsz], ?_⟩
    refine .l _ _ _ _ ((vs.drop (l * sz)).take ((hh - l) * sz)) ((h1.drop _).take _) (by omega) (by omega) (data_take (data_drop h4 _) _) (fun h0 => ?_) (fun h0 => by rw [h0]; simp)
    obtain ⟨ad, rfl, hst⟩ := h5 (by omega)
    rw [if_neg (by omega)]
    refine ⟨_, rfl, ?_⟩
    obtain ⟨s1, s2, s3, s4⟩ := hst.drop (l * sz)
    exact ⟨s1, s2, s3, fun j y hy => s4 j y (by rw [List.getElem?_take] at hy; split at hy <;> simp_all)⟩
  · rename_i cs
    split at hs
    rotate_left
    · cases hs
    rename_i n e he
    split at hs
    rotate_left
    · cases hs
    rename_i sz hsz
    split at hs
    rotate_left
    · cases hs
    rename_i hlen
    cases hx with | e cs ad vs h1 h4 hst =>
    obtain ⟨l, hh, m, hb⟩ := cut_bounds (P := P) h.env hs (Nat.le_refl _) false
    rcases hb with ⟨hb, q1, q2, q3, q4, rfl⟩ | hb
    rotate_left
    · exact absurd hb hbad
    have hu := arrO_run he
    refine ⟨.slice (some (if m = l then ad else ad.add (l * sz))) (hh - l) (m - l), by simp [Instr.sliceAt, run_underlying hu, sureAddr_run, hb, run_szO hsz], ?_⟩
    refine .l _ _ _ _ ((vs.drop (l * sz)).take ((hh - l) * sz)) ((h1.drop _).take _) (by omega) (by omega) (data_take (data_drop h4 _) _) (fun h0 => ?_) (fun h0 => by rw [h0]; simp)
    rw [if_neg (by omega)]
    refine ⟨_, rfl, ?_⟩
    obtain ⟨s1, s2, s3, s4⟩ := hst.drop (l * sz)
    exact ⟨s1, s2, s3, fun j y hy => s4 j y (by rw [List.getElem?_take] at hy; split at hy <;> simp_all)⟩
  · split at hs
    rotate_left
    · cases hs
    rename_i e he
    split at hs
    rotate_left
    · cases hs
    rename_i sz cut hsz hcut
    injection hs with hs; subst hs
    cases hx
    obtain ⟨l, hh, m, hb⟩ := cut_bounds (P := P) h.env hcut (Nat.le_refl 0) true
    rcases hb with ⟨hb, q1, q2, q3, q4, rfl⟩ | hb
    rotate_left
    · exact absurd hb hbad
    have hu := sliceO_run he
    have e1 : l = 0 := by omega
    have e2 : hh = 0 := by omega
    have e3 : m = 0 := by omega
    subst e1 e2 e3
    exact ⟨.slice none 0 0, by simp [Instr.sliceAt, Instr.slice, run_underlying hu, hb, run_szO hsz, Sc.val], .s .sn⟩
  · cases hs

theorem xStore_sound {st st' : St} {a : Act} (h : Rel base w G st a) {id : Bid} {off : Nat} {xs : List AV} {us : List Value} {ad : Addr} (hx : CR w G st.S (.p id off) (.pointer (some ad))) (hc : CRs w G st.S xs us)
    (hs : xStore base id off xs st = some st') : ∃ w', (storeCells ad us).run P w = .ok () w' ∧ Rel base w' G st' a ∧ FEvol base w G st.S st.O w' G st'.S st'.O := by
  cases hx with | p _ _ b hb =>
  unfold xStore at hs
  split at hs
  · rename_i T cs hg
    split at hs <;> simp at hs
    subst hs
    rename_i hcond
    obtain ⟨c1, c2, c3, c4⟩ := hcond
    refine h.store hg hb hc c1 (by simpa using c2) (by simpa using c3) ?_ 0
    cases id with
    | o n => exact c4
    | s n =>
      simp only [okScope, Bool.or_eq_true, decide_eq_true_eq] at c4
      simp only
      split
      · rcases c4 with c4 | c4
        · omega
        · exact c4
      · exact CRs_bel h.inv hc
  · rename_i e sz n cs hg
    split at hs
    · rename_i m
      split at hs <;> simp at hs
      subst hs
      rename_i hcond
      obtain ⟨c1, c2, c3⟩ := hcond
      exact h.storeRow c1 hg hb hc c2 (by simpa using c3)
    · cases hs
  · cases hs

theorem storeVar_run {T : TypeId} {sz : Nat} {v : Value} {ad : Addr} {w' : World} (hsz : szO P T = some sz) (hv : v.cells.toList.length = sz) (hr : (storeCells ad v.cells.toList).run P w = .ok () w') :
    (Instr.storeAt T (.pointer (some ad)) v).run P w = .ok () w' := by
  have : v.cells.size = sz := by simpa using hv
  simp [Instr.storeAt, sureAddr_run, storeVar, run_szO hsz, this, hr]
end
end Go.Am
/-
  THE ABSTRACT MACHINE: one operation that is no call of a function is sound.
-/
namespace Go.Am
open Go

section
variable {base : Nat} {w w' w'' : World} {G G' G'' : Ghost} {S S' S'' O O' O'' : List Blk} {P : Program}

theorem OpTo.value {st st' : St} {a : Act} {s : Sem Next} {r : AV} {v : Value} {w' : World} {G' : Ghost} (hr : s.run P w = .ok (.value v) w') (h1 : Rel base w' G' st' a) (h2 : FEvol base w G st.S st.O w' G' st'.S st'.O) (h3 : CR w' G' st'.S r v) :
    OpTo P base w G st a s r st' := ⟨_, v, w', G', hr, .inl rfl, h1, h2, h3⟩

theorem xPure_to {st st' : St} {a : Act} (h : Rel base w G st a) {o : Oper} {r : AV} (hx : (xPure P st o).map (·, st) = some (r, st')) : OpTo P base w G st a (execOp a.eval o) r st' := by
  simp only [Option.map_eq_some_iff, Prod.mk.injEq] at hx
  obtain ⟨r', hx, rfl, rfl⟩ := hx
  obtain ⟨v, h1, h2⟩ := xPure_sound h.inv h.env hx
  exact .value h1 h .refl h2

theorem map_operand (l : Option Operand) (f : Operand → Value) : l.map f = l.map f := rfl

theorem xSlice_to {st st' : St} {a : Act} (h : Rel base w G st a) {T : TypeId} {x : Operand} {lo hi mx : Option Operand} {r : AV} (hx : xSlice P base T x lo hi mx st = some (r, st')) :
    ∃ q w' G', (Instr.sliceAt T (a.eval x) (lo.map a.eval) (hi.map a.eval) (mx.map a.eval)).run P w = .ok q w' ∧ Rel base w' G' st' a ∧ FEvol base w G st.S st.O w' G' st'.S st'.O ∧ CR w' G' st'.S r q := by
  unfold xSlice at hx
  split at hx
  · cases hx
  rename_i hbad
  have hbad' : ¬ (mx.isSome = true ∧ hi = none) := by
    rintro ⟨e1, e2⟩; subst e2; simp [e1] at hbad
  split at hx
  · split at hx
    · rename_i hm
      split at hx
      · rename_i st1 hf
        simp only [Option.map_eq_some_iff, Prod.mk.injEq] at hx
        obtain ⟨r', hs, rfl, rfl⟩ := hx
        obtain ⟨G1, h1, h2⟩ := h.freezeRow hm hf
        obtain ⟨q, q1, q2⟩ := sliceAV_sound (P := P) h1 hbad' hs (rd_sound h1.env x)
        exact ⟨q, w, G1, q1, h1, h2, q2⟩
      · cases hx
    · cases hx
  · split at hx
    · rename_i hm
      split at hx
      · rename_i st1 hf
        simp only [Option.map_eq_some_iff, Prod.mk.injEq] at hx
        obtain ⟨r', hs, rfl, rfl⟩ := hx
        obtain ⟨G1, h1, h2⟩ := h.freezeBox hm hf
        obtain ⟨q, q1, q2⟩ := sliceAV_sound (P := P) h1 hbad' hs (rd_sound h1.env x)
        exact ⟨q, w, G1, q1, h1, h2, q2⟩
      · cases hx
    · cases hx
  · simp only [Option.map_eq_some_iff, Prod.mk.injEq] at hx
    obtain ⟨r', hs, rfl, rfl⟩ := hx
    obtain ⟨q, q1, q2⟩ := sliceAV_sound (P := P) h hbad' hs (rd_sound h.env x)
    exact ⟨q, w, G, q1, h, .refl, q2⟩

theorem newVar_run (T : TypeId) (v : Value) : (newVar T v).run P w = .ok ⟨w.heap.size, 0, none⟩ { w with heap := w.heap.push (.cells v.cells T) } := by
  simp [newVar, newRow]

theorem xStoreOp_to {st st' : St} {a : Act} (h : Rel base w G st a) {T : TypeId} {x y : Operand} {r : AV} (hx : xStoreOp P base T x y st = some (r, st')) :
    ∃ w' G', (Instr.storeAt T (a.eval x) (a.eval y)).run P w = .ok () w' ∧ Rel base w' G' st' a ∧ FEvol base w G st.S st.O w' G' st'.S st'.O ∧ r = .u := by
  unfold xStoreOp at hx
  split at hx
  rotate_left
  · cases hx
  rename_i id off cs sz hid hcs hsz
  split at hx
  rotate_left
  · cases hx
  rename_i hlen
  have hax := rd_sound h.env x
  have hay := rd_sound h.env y
  split at hx
  · simp only [Option.map_eq_some_iff, Prod.mk.injEq] at hx
    obtain ⟨st1, hs, rfl, rfl⟩ := hx
    rw [hid] at hax
    have hcells := cells?_CR hcs hay
    have hax' := hax
    generalize a.eval x = v at hax hax' ⊢
    cases hax with | p _ _ b hb =>
    obtain ⟨w', h1, h2, h3⟩ := xStore_sound (P := P) h hax' hcells hs
    exact ⟨w', G, storeVar_run hsz (by rw [← hcells.length]; exact hlen) h1, h2, h3, rfl⟩
  · obtain ⟨G1, g1, g2⟩ := Rel.freezeIn cs h
    split at hx
    · rename_i id1 off1 cs1 hid1 hcs1
      split at hx
      · rename_i hlen1
        simp only [Option.map_eq_some_iff, Prod.mk.injEq] at hx
        obtain ⟨st1, hs, rfl, rfl⟩ := hx
        have hax1 := rd_sound g1.env x
        have hay1 := rd_sound g1.env y
        rw [hid1] at hax1
        have hcells := cells?_CR hcs1 hay1
        have hax' := hax1
        generalize hv : a.eval x = v at hax1 hax'
        cases hax1 with | p _ _ b hb =>
        obtain ⟨w', h1, h2, h3⟩ := xStore_sound (P := P) g1 hax' hcells hs
        exact ⟨w', G1, storeVar_run hsz (by rw [← hcells.length]; exact hlen1) h1, h2, g2.trans h3, rfl⟩
      · cases hx
    · cases hx

theorem xBuildSlice_to {st st' : St} {a : Act} (h : Rel base w G st a) {d : Option Nat} {t : TypeId} {len : Nat} {parts : Array (Nat × Operand)} {r : AV} (hx : xBuildSlice P base d t len parts st = some (r, st')) :
    ∃ q w' G', (Instr.buildSlice t len (parts.map fun (i, x) => (i, a.eval x))).run P w = .ok q w' ∧ Rel base w' G' st' a ∧ FEvol base w G st.S st.O w' G' st'.S st'.O ∧ CR w' G' st'.S r q := by
  unfold xBuildSlice at hx
  split at hx
  rotate_left
  · cases hx
  rename_i e he
  split at hx
  rotate_left
  · cases hx
  rename_i ie z hie hz
  obtain ⟨ie', zv, hie', hzv, rfl⟩ := zeroO_run hz
  rw [hie] at hie'; injection hie' with hie'; subst hie'
  split at hx
  rotate_left
  · cases hx
  rename_i hb
  obtain ⟨b1, b2, b3⟩ := hb
  split at hx
  rotate_left
  · cases hx
  rename_i cells hfill
  split at hx
  rotate_left
  · cases hx
  rename_i hd
  obtain ⟨hd1, hd2⟩ := hd
  obtain ⟨G1, g1, g2⟩ := Rel.freezeIn (partCells st.env parts) h
  obtain ⟨pl, pr⟩ := parts_rel g1.env parts
  obtain ⟨vc, f1, f2⟩ := fill_sound (w := w) (G := G1) _ _ _ _ ((Array.range (len * ie.size)).map (zv.cells[· % zv.cells.size]!)) cells (zeroCells_CR zv _) pl pr hfill
  have hsz : 0 < ie.size := by
    rcases Nat.eq_zero_or_pos ie.size with h0 | h0
    · rw [h0] at b1; simp at b1
    · exact h0
  have hvl : vc.size = len * ie.size := by have := f2.length; simp at this; omega
  obtain ⟨G2, k1, k2, k3⟩ := rowHere_sound (cur := vc) g1 hx f2 (by simpa using hd1) hsz (by simpa using hvl) (Nat.le_refl _) b3 hvl (List.take_of_length_le (by rw [Array.length_toList, hvl]; exact Nat.le_refl _))
  have hparts : (parts.map fun (i, x) => (i, a.eval x)).toList = parts.toList.map fun q => (q.1, a.eval q.2) := by simp
  refine ⟨_, _, G2, run_buildSlice w t e len _ vc ie zv (sliceO_run he) hie hzv (by omega) (by omega) (by rw [hparts]; exact f1), k1, g2.trans k2, k3⟩

theorem xMakeSlice_to {st st' : St} {a : Act} (h : Rel base w G st a) {d : Option Nat} {t : TypeId} {l c : AV} {vl vc : Value} {r : AV} (hx : xMakeSlice P base d t l c st = some (r, st')) (hl : CR w G st.S l vl) (hc : CR w G st.S c vc) :
    ∃ q w' G', (Instr.makeSlice t vl vc).run P w = .ok q w' ∧ Rel base w' G' st' a ∧ FEvol base w G st.S st.O w' G' st'.S st'.O ∧ CR w' G' st'.S r q := by
  unfold xMakeSlice at hx
  split at hx
  rotate_left
  · cases hx
  rename_i e kl il kc ic he
  split at hx
  rotate_left
  · cases hx
  rename_i ie z hie hz
  obtain ⟨ie', zv, hie', hzv, rfl⟩ := zeroO_run hz
  rw [hie] at hie'; injection hie' with hie'; subst hie'
  split at hx
  rotate_left
  · cases hx
  rename_i hb
  obtain ⟨b1, b2, b3, b4, b5, b6⟩ := hb
  cases hl; cases hc
  have hcr := zeroCells_CR (w := w) (G := G) (S := st.S) zv (il.toNat * ie.size)
  have hd : ∀ x ∈ zeroCellsAV zv.cells.toList (il.toNat * ie.size), x.data = true := by
    intro x hx'
    exact List.all_eq_true.1 b6 x hx'
  have hll : ((Array.range (il.toNat * ie.size)).map (zv.cells[· % zv.cells.size]!)).toList.length = il.toNat * ie.size := by simp
  obtain ⟨G2, k1, k2, k3⟩ := rowHere_sound (cap := ic.toNat) (cur := madeCells zv.cells (ic.toNat * ie.size)) h hx hcr hd b5 hll (by omega) (by simp only [maxLen]; omega) (size_madeCells _ _) (by
    have hle : il.toNat * ie.size ≤ ic.toNat * ie.size := Nat.mul_le_mul_right _ (by omega)
    simp only [madeCells]
    apply List.ext_getElem?
    intro j
    simp only [Array.toList_map, Array.toList_range, List.getElem?_take, List.getElem?_map, List.getElem?_range]
    by_cases hj : j < il.toNat * ie.size
    · rw [if_pos hj, List.getElem?_range (by omega), List.getElem?_range hj]
    · rw [if_neg hj, List.getElem?_eq_none (by simp; omega)]; rfl)
  exact ⟨_, _, G2, run_make w t e ie zv (sliceO_run he) hie hzv kl kc il ic b1 b2 b3 b4, k1, k2, k3⟩

theorem xAppend_to {st st' : St} {a : Act} (h : Rel base w G st a) {d : Option Nat} {t t' ty : TypeId} {s x : Operand} {r : AV} (hx : xAppend P base d t t' s x st = some (r, st')) :
    ∃ q w' G', (Builtin.append_ #[t, t'] ty #[a.eval s, a.eval x]).run P w = .ok q w' ∧ Rel base w' G' st' a ∧ FEvol base w G st.S st.O w' G' st'.S st'.O ∧ CR w' G' st'.S r q := by
  unfold xAppend at hx
  split at hx
  rotate_left
  · cases hx
  rename_i htt; subst htt
  split at hx
  rotate_left
  · cases hx
  rename_i e he
  split at hx
  rotate_left
  · cases hx
  rename_i ie z hie hz
  obtain ⟨ie', zv, hie', hzv, rfl⟩ := zeroO_run hz
  rw [hie] at hie'; injection hie' with hie'; subst hie'
  split at hx
  rotate_left
  · cases hx
  rename_i m st1 hdst
  split at hx
  rotate_left
  · cases hx
  rename_i e' sz n cs k xs hS hsrc
  split at hx
  rotate_left
  · cases hx
  rename_i hb
  obtain ⟨rfl, rfl, b3, b4, b5, b6⟩ := hb
  simp only [Option.some.injEq, Prod.mk.injEq] at hx
  obtain ⟨rfl, rfl⟩ := hx
  -- where it is appended to
  have hst1 : ∃ G1, Rel base w G1 st1 a ∧ FEvol base w G st.S st.O w G1 st1.S st1.O ∧ base ≤ m ∧ CR w G1 st1.S (.r m) (a.eval s) := by
    have hs := rd_sound h.env s
    unfold dstAV at hdst
    split at hdst
    · rename_i m' hm'
      split at hdst <;> simp at hdst
      obtain ⟨rfl, rfl⟩ := hdst
      rw [hm'] at hs
      exact ⟨G, h, .refl, by assumption, hs⟩
    · rename_i hnil
      rw [hnil] at hs
      split at hdst
      rotate_left
      · cases hdst
      rename_i d
      split at hdst
      rotate_left
      · cases hdst
      rename_i hd
      simp only [Option.some.injEq, Prod.mk.injEq] at hdst
      obtain ⟨rfl, rfl⟩ := hdst
      have hlt' : base + d < st.S.length := by have := h.len; omega
      obtain ⟨G1, g1, g2, g3⟩ := h.nilAt (m := base + d) (by omega) hlt' (e := e') hd.2
      rw [h.setAt_eq]
      refine ⟨G1, g1, g2, by omega, ?_⟩
      generalize a.eval s = v at hs
      cases hs
      exact g3
    · cases hdst
  obtain ⟨G1, g1, g2, hm, hr⟩ := hst1
  have hsx := rd_sound g1.env x
  have hfin : ∀ (us : List Value) (A : Option Addr) (c : Nat), a.eval x = .slice A k c → CRs w G1 st1.S xs us → (∀ x ∈ xs, x.data = true) → (k ≠ 0 → ∃ ad, A = some ad ∧ ∀ j y, us[j]? = some y → w.cell? (ad.add j) = some y) →
      ∃ q w' G', (Builtin.append_ #[t, t] ty #[a.eval s, a.eval x]).run P w = .ok q w' ∧ Rel base w' G' (st1.giveTo base m (fun _ => .u) .u (.row e' ie.size (n + k) (cs ++ xs))) a ∧
        FEvol base w G st.S st.O w' G' (st1.giveTo base m (fun _ => .u) .u (.row e' ie.size (n + k) (cs ++ xs))).S (st1.giveTo base m (fun _ => .u) .u (.row e' ie.size (n + k) (cs ++ xs))).O ∧
        CR w' G' (st1.giveTo base m (fun _ => .u) .u (.row e' ie.size (n + k) (cs ++ xs))).S (.r m) q := by
    intro us A c hv hc hd hA
    obtain ⟨v', w', G', r1, r2, r3, r4⟩ := g1.append (P := P) (ty := ty) (c := c) (A := A) hm hS hr hc hd (by rw [← hc.length]; exact b4) hA (sliceO_run he) hie hzv rfl (by simpa using b3) b5 b6
    rw [hv]
    exact ⟨v', w', G', r1, r2, g2.trans r3, r4⟩
  unfold srcAV at hsrc
  split at hsrc
  · rename_i k' xs' hh
    simp only [Option.some.injEq, Prod.mk.injEq] at hsrc
    obtain ⟨rfl, rfl⟩ := hsrc
    rw [hh] at hsx
    generalize hv : a.eval x = v at hsx hfin ⊢
    cases hsx with | l _ _ A c vs h1 h2 h3 h4 h5 h6 =>
    exact hfin vs A c rfl h1 h4 (fun h0 => by obtain ⟨ad, q1, q2⟩ := h5 h0; exact ⟨ad, q1, q2.2.2.2⟩)
  · rename_i m2 hh
    split at hsrc
    · cases hsrc
    rename_i hne
    split at hsrc
    · rename_i e2 sz2 k' xs' hS2
      simp only [Option.some.injEq, Prod.mk.injEq] at hsrc
      obtain ⟨rfl, rfl⟩ := hsrc
      rw [hh] at hsx
      generalize hv : a.eval x = v at hsx hfin ⊢
      cases hsx with | r _ e3 sz3 n3 cs3 vs v h1 h2 h3 h4 =>
      rw [hS2] at h1; injection h1 with h1; injection h1 with p1 p2 p3 p4; subst p1 p2 p3 p4
      have hh2 := h2
      obtain ⟨q1, q0, q2⟩ := h2
      rcases q2 with ⟨rfl, rfl⟩ | ⟨b, cap, cur, rfl, hg, hbk, hn, hcap, hcs, htk⟩
      · exact hfin vs none 0 rfl h3 h4 (fun h0 => absurd rfl h0)
      · exact hfin vs _ cap rfl h3 h4 (fun _ => ⟨⟨b, 0, none⟩, rfl, fun j y hy => by rw [add_eq rfl]; simpa using hh2.stable j y hy⟩)
    · cases hsrc
  · rename_i hh
    simp only [Option.some.injEq, Prod.mk.injEq] at hsrc
    obtain ⟨rfl, rfl⟩ := hsrc
    rw [hh] at hsx
    generalize hv : a.eval x = v at hsx hfin ⊢
    cases hsx
    exact hfin [] none 0 rfl .nil (fun _ h => by cases h) (fun h0 => absurd rfl h0)
  · cases hsrc

theorem xOp_sound {esc : Nat → Bool} {st st' : St} {a : Act} (h : Rel base w G st a) {o : Oper} {r : AV} (hx : xOp P esc base o st = some (r, st')) : OpTo P base w G st a (execOp a.eval o) r st' := by
  obtain ⟨dst, op, ty, pos, after, guard⟩ := o
  cases op <;> simp only [xOp] at hx <;> try exact xPure_to h hx
  case alloc T =>
    split at hx
    rotate_left
    · cases hx
    rename_i z hz
    obtain ⟨i, v, hi, hzv, rfl⟩ := zeroO_run hz
    obtain ⟨G', h1, h2, h3⟩ := newBox_sound h hx (CRs_ofC _)
    refine .value ?_ h1 h2 h3
    simp [execOp, Instr.alloc, zeroValue, typeInfo, hi, hzv, newVar_run]
  case box T x =>
    split at hx
    rotate_left
    · cases hx
    rename_i cs hcs
    split at hx
    · split at hx
      rotate_left
      · cases hx
      rename_i cs1 hcs1
      obtain ⟨G1, g1, g2⟩ := Rel.freezeIn cs h
      have hc := cells?_CR hcs1 (rd_sound g1.env x)
      obtain ⟨G', h1, h2, h3⟩ := newBox_sound g1 hx hc
      refine .value ?_ h1 (g2.trans h2) h3
      simp [execOp, Instr.box, newVar_run]
    · have hc := cells?_CR hcs (rd_sound h.env x)
      obtain ⟨G', h1, h2, h3⟩ := newBox_sound h hx hc
      refine .value ?_ h1 h2 h3
      simp [execOp, Instr.box, newVar_run]
  case build t parts =>
    simp only [Option.map_eq_some_iff, Prod.mk.injEq] at hx
    obtain ⟨r', hb, rfl, rfl⟩ := hx
    obtain ⟨pl, pr⟩ := parts_rel h.env parts
    obtain ⟨v, h1, h2⟩ := buildAV_sound (P := P) hb pl pr
    refine .value ?_ h .refl h2
    have hparts : (parts.toList.map fun q => (q.1, a.eval q.2)).toArray = parts.map fun (i, x) => (i, a.eval x) := by
      simp [← Array.toList_map]
    rw [hparts] at h1
    simp [execOp, h1]
  case buildSlice t len parts =>
    obtain ⟨q, w', G', h1, h2, h3, h4⟩ := xBuildSlice_to h hx
    exact .value (by simp [execOp, h1]) h2 h3 h4
  case makeSlice t l c =>
    obtain ⟨q, w', G', h1, h2, h3, h4⟩ := xMakeSlice_to h hx (rd_sound h.env l) (rd_sound h.env c)
    exact .value (by simp [execOp, h1]) h2 h3 h4
  case store T x y =>
    obtain ⟨w', G', h1, h2, h3, rfl⟩ := xStoreOp_to h hx
    exact ⟨.skip, undef, w', G', by simp [execOp, h1], .inr ⟨rfl, rfl⟩, h2, h3, .u _⟩
  case slice T x lo hi mx =>
    split at hx
    · exact xPure_to h hx
    · obtain ⟨q, w', G', h1, h2, h3, h4⟩ := xSlice_to h hx
      exact .value (by simp [execOp, h1]) h2 h3 h4
  case call c =>
    obtain ⟨callee, args, tys⟩ := c
    cases callee with
    | value f => exact xPure_to h hx
    | invoke r m => exact xPure_to h hx
    | builtin b =>
      cases b <;> try exact xPure_to h hx
      obtain ⟨args⟩ := args
      obtain ⟨tys⟩ := tys
      simp only at hx
      split at hx
      · rename_i s x t t' 
        obtain ⟨q, w', G', h1, h2, h3, h4⟩ := xAppend_to (ty := ty) h hx
        exact .value (by simp [execOp, resolve, invoke, builtin, h1]) h2 h3 h4
      · cases hx
end
end Go.Am
/-
  THE ABSTRACT MACHINE: calls by what the callees come to; a region in the order of its text; the code's rules.
-/
namespace Go.Am
open Go

def Scoped (S O : List Blk) : Prop :=
  (∀ (n : Nat) (T : TypeId) (cs : List AV), S[n]? = some (.box T cs) → AV.belL S.length cs = true) ∧ ∀ (n : Nat) (T : TypeId) (cs : List AV), O[n]? = some (.box T cs) → AV.belL 0 cs = true

/-- Called so, a function comes to that. -/
def ValidAt (P : Program) (f : FuncId) (args : List AV) (S O : List Blk) (r : AV) (S' O' : List Blk) : Prop :=
  ∀ (w : World) (G : Ghost) (vargs : List Value), InvH w G S O → Scoped S O → CRs w G S args vargs →
    Calls P f vargs.toArray w fun e w' => ∃ v G', e = .returned v ∧ InvH w' G' S' O' ∧ Scoped S' O' ∧ CR w' G' S' r v ∧ FEvol S.length w G S O w' G' S' O'

/-- What the functions that are called come to. -/
abbrev Tab := FuncId → List AV → List Blk → List Blk → Option (AV × List Blk × List Blk)

def Tab.valid (P : Program) (F : Tab) : Prop := ∀ f args S O r S' O', F f args S O = some (r, S', O') → ValidAt P f args S O r S' O'

mutual
def AV.nrm : AV → AV
  | .s .sn => .l 0 []
  | .a cs => .a (AV.nrmL cs)
  | .t cs => .t (AV.nrmL cs)
  | x => x
def AV.nrmL : List AV → List AV
  | [] => []
  | x :: xs => AV.nrm x :: AV.nrmL xs
end

def argCells (xs : List AV) : List AV := (xs.map fun x => x.cells?.getD []).flatten

/-- The function that a callee's value is, what stands ahead of its arguments, and behind. -/
def calleeAV (env : List AV) : Operand → Option (FuncId × List AV × List AV)
  | .func f => some (f, [], [])
  | .tmp t => match env.getD t .u with | .f f fs cs => some (f, fs, cs) | _ => none
  | _ => none

def hasBody (P : Program) (f : FuncId) : Bool :=
  match P.funcs[f]? with
  | some fn => fn.body.isSome && fn.name != "runtime.NumGoroutine"
  | none => false

def extVal (P : Program) (f : FuncId) (vs : List Value) : Option Value :=
  match evalPure P (callFunc f vs.toArray) with
  | some (.value v) => some v
  | _ => none

def toVs : List AV → Option (List Value)
  | [] => some []
  | x :: xs => match toV x, toVs xs with | some v, some vs => some (v :: vs) | _, _ => none

/-- A call of a function. -/
def xCall (P : Program) (F : Tab) (base : Nat) (callee : Operand) (args : Array Operand) (st : St) : Option (AV × St) :=
  let st1 := st.freezeIn base (argCells (args.toList.map (rd st.env)))
  match calleeAV st1.env callee with
  | some (f, fs, cs) =>
    let xs := AV.nrmL (fs ++ args.toList.map (rd st1.env) ++ cs)
    if hasBody P f then
      match F f xs st1.S st1.O with
      | some (r, S', O') => some (r, { st1 with S := S', O := O' })
      | none => none
    else match toVs xs with
      | some vs => match extVal P f vs with | some v => some (ofV v, st1) | none => none
      | none => none
  | none => none

def aWant (ops : Array Oper) (o : Oper) (env : List AV) : Option Bool :=
  match o.guard with
  | none => some true
  | some (j, want) =>
    match (ops[j]?).bind (·.dst) with
    | some d => match env[d]? with | some (.s (.b x)) => some (x == want) | some (.t []) => some false | _ => none
    | none => none

/-- One operation. -/
def xStep (P : Program) (F : Tab) (esc : Nat → Bool) (base : Nat) (ops : Array Oper) (o : Oper) (st : St) : Option St :=
  match aWant ops o st.env with
  | none => none
  | some false => some (st.put o.dst (.t []))
  | some true =>
    match o.op with
    | .call { callee := .value f, args, .. } => (xCall P F base f args st).map fun q => q.2.put o.dst q.1
    | _ => (xOp P esc base o st).map fun q => q.2.put o.dst q.1

def xOps (P : Program) (F : Tab) (esc : Nat → Bool) (base : Nat) (ops : Array Oper) : List Oper → St → Option St
  | [], st => some st
  | o :: os, st => (xStep P F esc base ops o st).bind (xOps P F esc base ops os)

section
variable {base : Nat} {w w' w'' : World} {G G' G'' : Ghost} {S S' S'' O O' O'' : List Blk} {P : Program}

mutual
theorem CR.nrm {x : AV} {v : Value} (h : CR w G S x v) : CR w G S x.nrm v :=
  match x, v, h with
  | _, _, .u v => .u v
  | _, _, .s .sn => .l 0 [] none 0 [] .nil (Nat.le_refl _) (Nat.zero_le _) (fun _ h => by cases h) (fun h => absurd rfl h) (fun _ => rfl)
  | _, _, .s (.b x) => .s (.b x)
  | _, _, .s (.i k n) => .s (.i k n)
  | _, _, .s (.fl k n) => .s (.fl k n)
  | _, _, .s (.cx k a b) => .s (.cx k a b)
  | _, _, .s (.str x) => .s (.str x)
  | _, _, .s .pn => .s .pn
  | _, _, .s .fz => .s .fz
  | _, _, .l n cs A c vs h1 h2 h3 h4 h5 h6 => .l n cs A c vs h1 h2 h3 h4 h5 h6
  | _, _, .e cs a vs h1 h2 h3 => .e cs a vs h1 h2 h3
  | _, _, .p id off b h => .p id off b h
  | _, _, .r n e sz k cs vs v h1 h2 h3 h4 => .r n e sz k cs vs v h1 h2 h3 h4
  | _, _, .f fn fs cs vf vc h1 h2 => .f fn fs cs vf vc h1 h2
  | _, _, .a cs vs h => .a _ _ (CRs.nrm h)
  | _, _, .t cs vs h => .t _ _ (CRs.nrm h)
theorem CRs.nrm {xs : List AV} {vs : List Value} (h : CRs w G S xs vs) : CRs w G S (AV.nrmL xs) vs :=
  match xs, vs, h with
  | _, _, .nil => .nil
  | _, _, .cons x v xs vs h1 h2 => .cons _ _ _ _ (CR.nrm h1) (CRs.nrm h2)
end

theorem toVs_CR : ∀ {xs : List AV} {vs us : List Value}, toVs xs = some vs → CRs w G S xs us → us = vs
  | [], vs, us, h, hc => by cases hc; simp [toVs] at h; exact h.symm
  | x :: xs, vs, us, h, hc => by
    cases hc with
    | cons _ v _ us' h1 h2 =>
      simp only [toVs] at h
      split at h
      · rename_i v' vs' e1 e2
        injection h with h; subst h
        rw [toV_CR e1 h1, toVs_CR e2 h2]
      · cases h

theorem calleeAV_sound {env : List AV} {a : Act} (hc : CRs w G S env a.tmps.toList) {x : Operand} {f : FuncId} {fs cs : List AV} (h : calleeAV env x = some (f, fs, cs)) :
    ∃ vf vc, a.eval x = .func (.func f) vf.toArray vc.toArray ∧ CRs w G S fs vf ∧ CRs w G S cs vc := by
  unfold calleeAV at h
  split at h
  · simp only [Option.some.injEq, Prod.mk.injEq] at h
    obtain ⟨rfl, rfl, rfl⟩ := h
    exact ⟨[], [], rfl, .nil, .nil⟩
  · rename_i t
    have ht := rd_sound (w := w) (G := G) (S := S) hc (.tmp t)
    simp only [rd] at ht
    split at h
    · rename_i f' fs' cs' hh
      simp only [Option.some.injEq, Prod.mk.injEq] at h
      obtain ⟨rfl, rfl, rfl⟩ := h
      rw [hh] at ht
      generalize a.eval (.tmp t) = v at ht
      cases ht with | f _ _ _ vf vc h1 h2 => exact ⟨vf, vc, rfl, h1, h2⟩
    · cases h
  · cases h

theorem Rel.scp {st : St} {a : Act} (h : Rel base w G st a) : Scoped st.S st.O := ⟨h.scopeS, h.scopeO⟩

/-- Behind a call. -/
theorem Rel.after {st : St} {a : Act} (h : Rel base w G st a) (hI : InvH w' G' S' O') (hs : Scoped S' O') (hev : FEvol st.S.length w G st.S st.O w' G' S' O') : Rel base w' G' { st with S := S', O := O' } a := by
  refine ⟨h.defers, h.size, h.env.keep hev.keep (fun o ho => belL_has h.scopeE o ho), hI, ?_, ?_, hs.1, ?_, hs.2⟩
  · rw [hev.lenS]; exact h.len
  · rw [hev.lenS]; exact h.scopeE
  · intro n T cs hn hh
    have hl := h.len
    exact hev.shr n base (by omega) (fun T cs hh => h.scopeB n T cs hn hh) T cs hh

theorem FEvol.wider {st : St} {a : Act} (h : Rel base w G st a) (hev : FEvol st.S.length w G st.S st.O w' G' S' O') : FEvol base w G st.S st.O w' G' S' O' := by
  have hl := h.len
  refine ⟨hev.keep.imp (fun o ho => ?_), hev.os, hev.tape, hev.output, hev.lenS, hev.lenO, fun n β hn => hev.shr n β (by omega)⟩
  cases o with
  | box id => cases id with
    | o n => trivial
    | s n => simp only [outO] at ho ⊢; omega
  | row m => simp only [outO] at ho ⊢; omega
  | cell _ _ => exact ho
  | ext _ => trivial

theorem evalPure_bind {α β : Type} {s : Sem α} {f : α → Sem β} {x : α} (h : evalPure P s = some x) : evalPure P (s >>= f) = evalPure P (f x) := by
  show evalPure P (s.bind f) = _
  induction s with
  | pure a => simp only [evalPure, Option.some.injEq] at h; subst h; rfl
  | program k ih => simp only [evalPure] at h; simp only [Sem.bind, evalPure]; exact ih P h
  | mark m k ih => simp only [evalPure] at h; simp only [Sem.bind, evalPure]; exact ih h
  | _ => simp [evalPure] at h

theorem callFunc_body {f : FuncId} {vs : Array Value} (h : hasBody P f = true) (w : World) : (callFunc f vs).run P w = .ok (.enter f vs) w := by
  unfold hasBody at h
  split at h
  · rename_i fn hf
    simp only [Bool.and_eq_true, bne_iff_ne, ne_eq] at h
    obtain ⟨h1, h2⟩ := h
    have h3 : fn.body.isNone = false := by cases hb : fn.body <;> simp_all
    simp [callFunc, hf, h2]
    intro hn; rw [hn] at h1; cases h1
  · cases h

theorem xStep_sound {F : Tab} (hF : F.valid P) {esc : Nat → Bool} {ops : Array Oper} {o : Oper} {st st' : St} {a : Act} (h : Rel base w G st a) (hx : xStep P F esc base ops o st = some st')
    {K : Act → World → Prop} {Q : Exit → Act → World → Prop} (hK : ∀ w' G' a', Rel base w' G' st' a' → FEvol base w G st.S st.O w' G' st'.S st'.O → K a' w') :
    if Region.wanted o (yielded ops a.tmps) then o.wp P a w K Q ∨ (o.asks P a w ∧ LetsOut Q) else K (a.put o.dst undef) w := by
  unfold xStep at hx
  have hwant : ∀ b, aWant ops o st.env = some b → Region.wanted o (yielded ops a.tmps) = b := by
    intro b hb
    unfold aWant at hb
    unfold Region.wanted
    split at hb
    · rename_i hg; rw [hg]; simpa using hb
    · rename_i j want hg
      rw [hg]
      split at hb
      · rename_i d hd
        split at hb
        · rename_i x hx'
          injection hb with hb
          obtain ⟨v, hv, hcr⟩ := h.env.get hx'
          cases hcr
          have hv' : a.tmps[d]? = some (.bool x) := by simpa [Sc.val] using hv
          simp only [yielded, hd, Option.bind_some, hv']
          rw [← hb]
          cases x <;> cases want <;> rfl
        · rename_i hx'
          injection hb with hb
          obtain ⟨v, hv, hcr⟩ := h.env.get hx'
          cases hcr with | t _ vs hvs =>
          cases hvs
          have hv' : a.tmps[d]? = some (.tuple #[]) := by simpa using hv
          simp only [yielded, hd, Option.bind_some, hv']
          rw [← hb]
          cases want <;> rfl
        · cases hb
      · cases hb
  split at hx
  · cases hx
  · rename_i hw
    rw [hwant _ hw]
    injection hx with hx; subst hx
    simp only [Bool.false_eq_true, if_false]
    exact hK w G _ (h.put o.dst (.t [] [] .nil) rfl) (by cases hd : o.dst <;> exact .refl)
  · rename_i hw
    rw [hwant _ hw]
    simp only [if_true]
    refine .inl ?_
    split at hx
    · -- a call
      rename_i callee args tys hop
      simp only [Option.map_eq_some_iff] at hx
      obtain ⟨⟨r, st2⟩, hcall, rfl⟩ := hx
      obtain ⟨G1, g1, g2⟩ := Rel.freezeIn (argCells (args.toList.map (rd st.env))) h
      unfold xCall at hcall
      simp only at hcall
      split at hcall
      rotate_left
      · cases hcall
      rename_i f fs cs hcal
      obtain ⟨vf, vc, hv, hfs, hcs⟩ := calleeAV_sound g1.env hcal
      have hargs : CRs w G1 (st.freezeIn base (argCells (args.toList.map (rd st.env)))).S (AV.nrmL (fs ++ args.toList.map (rd (st.freezeIn base (argCells (args.toList.map (rd st.env)))).env) ++ cs)) (vf ++ args.toList.map a.eval ++ vc) :=
        CRs.nrm ((hfs.append (rds_sound g1.env _)).append hcs)
      have hexec : ∀ n w1, (callFunc f (vf ++ args.toList.map a.eval ++ vc).toArray).run P w = .ok n w1 → (execOp a.eval o).run P w = .ok n w1 := by
        intro n w1 hn
        obtain ⟨dst, op, ty, pos, after, guard⟩ := o
        simp only at hop; subst hop
        have e : vf.toArray ++ args.map a.eval ++ vc.toArray = (vf ++ args.toList.map a.eval ++ vc).toArray := by
          simp [← Array.toList_map]
        simp only [execOp, resolve, hv, Deferred.ofValue, Sem.run_bind, Sem.run_pure, Result.andThen_ok, invoke]
        rw [e]
        exact hn
      split at hcall
      · rename_i hb
        split at hcall
        rotate_left
        · cases hcall
        rename_i r' S' O' hF'
        simp only [Option.some.injEq, Prod.mk.injEq] at hcall
        obtain ⟨rfl, rfl⟩ := hcall
        have hval := hF _ _ _ _ _ _ _ hF' w G1 _ g1.inv g1.scp hargs
        unfold Oper.wp
        rw [hexec _ _ (callFunc_body hb w)]
        simp only [Oper.upon]
        refine hval.mono ?_
        rintro e w' ⟨v, G', rfl, hI, hs, hcr, hev⟩
        have hrel := g1.after hI hs hev
        refine hK w' G' _ (hrel.put o.dst hcr (CR_bel hI hcr)) ?_
        have := g2.trans (hev.wider g1)
        cases hd : o.dst <;> simpa [St.put, hd] using this
      · split at hcall
        rotate_left
        · cases hcall
        rename_i vs hvs
        split at hcall
        rotate_left
        · cases hcall
        rename_i v hext
        simp only [Option.some.injEq, Prod.mk.injEq] at hcall
        obtain ⟨rfl, rfl⟩ := hcall
        have hus := toVs_CR hvs hargs
        unfold extVal at hext
        split at hext
        · rename_i v' hev
          injection hext with hext; subst hext
          rw [← hus] at hev
          unfold Oper.wp
          rw [hexec _ _ (evalPure_run hev w)]
          simp only [Oper.upon]
          refine hK w G1 _ (g1.put o.dst (CR_ofV _) (CR_bel g1.inv (CR_ofV v'))) ?_
          cases hd : o.dst <;> simpa [St.put, hd] using g2
        · cases hext
    · simp only [Option.map_eq_some_iff] at hx
      obtain ⟨⟨r, st2⟩, hop, rfl⟩ := hx
      obtain ⟨nv, val, w', G', hr, hnv, h1, h2, h3⟩ := xOp_sound h hop
      unfold Oper.wp
      rw [hr]
      have hfin : K (a.put o.dst val) w' := by
        refine hK w' G' _ (h1.put o.dst h3 (CR_bel h1.inv h3)) ?_
        cases hd : o.dst <;> simpa [St.put, hd] using h2
      rcases hnv with rfl | ⟨rfl, rfl⟩
      · exact hfin
      · exact hfin

theorem xOps_sound {F : Tab} (hF : F.valid P) {esc : Nat → Bool} {ops : Array Oper} {Q : Exit → Act → World → Prop} : ∀ (os : List Oper) (k : Nat), (∀ j, os[j]? = ops[k + j]?) → ∀ {w : World} {G : Ghost} {st st' : St} {a : Act}, Rel base w G st a → xOps P F esc base ops os st = some st' →
    (∀ w' G' a', Rel base w' G' st' a' → FEvol base w G st.S st.O w' G' st'.S st'.O → Q .normal a' w') → wpOps P ops Q ((List.range os.length).map (k + ·)) a w
  | [], k, _, w, G, st, st', a, h, hx, hQ => by
    simp only [xOps, Option.some.injEq] at hx; subst hx
    exact hQ w G a h .refl
  | o :: os, k, hos, w, G, st, st', a, h, hx, hQ => by
    simp only [xOps, Option.bind_eq_some_iff] at hx
    obtain ⟨st1, h1, h2⟩ := hx
    have ho : ops[k]? = some o := by have := hos 0; simpa using this.symm
    rw [List.length_cons, List.range_succ_eq_map, List.map_cons, List.map_map]
    simp only [wpOps, Nat.add_zero, ho]
    have hcongr : (List.range os.length).map ((k + ·) ∘ Nat.succ) = (List.range os.length).map (k + 1 + ·) := by
      apply List.map_congr_left; intro x _; simp only [Function.comp]; omega
    rw [hcongr]
    exact xStep_sound hF h h1 (fun w' G' a' hr hev => xOps_sound hF os (k + 1) (fun j => by have := hos (j + 1); simp only [List.getElem?_cons_succ] at this; rw [this]; congr 1; omega) hr h2 (fun w'' G'' a'' hr' hev' => hQ w'' G'' a'' hr' (hev.trans hev')))
end

/-! ### The rules of the code -/
/-- From that state on, the code ends so. -/
def AWP (P : Program) (base : Nat) (c : Code) (Q : Exit → St → Prop) (st : St) : Prop :=
  ∀ (w : World) (G : Ghost) (a : Act), Rel base w G st a → c.wp P (fun e a' w' => ∃ st' G', Q e st' ∧ Rel base w' G' st' a' ∧ FEvol base w G st.S st.O w' G' st'.S st'.O) a w

def thenA (K : St → Prop) (Q : Exit → St → Prop) : Exit → St → Prop
  | .normal, st => K st
  | e, st => Q e st

def inBlockA (id : Nat) (Q : Exit → St → Prop) : Exit → St → Prop
  | .exit id', st => if id' = id then Q .normal st else Q (.exit id') st
  | e, st => Q e st

section
variable {base : Nat} {P : Program} {Q : Exit → St → Prop} {st : St}

theorem AWP.mono {c : Code} {Q' : Exit → St → Prop} (h : AWP P base c Q st) (hq : ∀ e st, Q e st → Q' e st) : AWP P base c Q' st :=
  fun w G a hr => wp_mono (h w G a hr) fun _ _ _ ⟨st', G', h1, h2, h3⟩ => ⟨st', G', hq _ _ h1, h2, h3⟩

theorem AWP.skip (h : Q .normal st) : AWP P base .skip Q st := fun w G a hr => wp_skip ⟨st, G, h, hr, .refl⟩
theorem AWP.exit_ {id : Nat} (h : Q (.exit id) st) : AWP P base (.exit id) Q st := fun w G a hr => wp_exit ⟨st, G, h, hr, .refl⟩
theorem AWP.ret (h : Q .ret st) : AWP P base .ret Q st := fun w G a hr => wp_ret ⟨st, G, h, hr, .refl⟩

theorem AWP.seq {x y : Code} (h : AWP P base x (thenA (AWP P base y Q) Q) st) : AWP P base (.seq x y) Q st := fun w G a hr => by
  refine wp_seq (wp_mono (h w G a hr) ?_)
  rintro e a' w' ⟨st', G', h1, h2, h3⟩
  cases e <;> first
    | exact ⟨st', G', h1, h2, h3⟩
    | exact wp_mono (h1 w' G' a' h2) fun _ _ _ ⟨st'', G'', q1, q2, q3⟩ => ⟨st'', G'', q1, q2, h3.trans q3⟩

theorem AWP.cond {c : Operand} {x y : Code} {t : Bool} (hc : rd st.env c = .s (.b t)) (h : AWP P base (if t then x else y) Q st) : AWP P base (.cond c x y) Q st := fun w G a hr => by
  have hv := rd_sound hr.env c
  rw [hc] at hv
  generalize he : a.eval c = v at hv
  cases hv
  exact wp_cond he (h w G a hr)

theorem AWP.block {id : Nat} {c : Code} (h : AWP P base c (inBlockA id Q) st) : AWP P base (.block id c) Q st := fun w G a hr => by
  refine wp_block (wp_mono (h w G a hr) ?_)
  rintro e a' w' ⟨st', G', h1, h2, h3⟩
  cases e <;> try exact ⟨st', G', h1, h2, h3⟩
  rename_i id'
  simp only [inBlockA] at h1
  simp only [Exit.inBlock]
  split
  · rename_i e; rw [if_pos e] at h1; exact ⟨st', G', h1, h2, h3⟩
  · rename_i e; rw [if_neg e] at h1; exact ⟨st', G', h1, h2, h3⟩

theorem AWP.region {F : Tab} (hF : F.valid P) (esc : Nat → Bool) {id : Nat} {ops : Array Oper} {st' : St} (h : xOps P F esc base ops ops.toList st = some st') (hq : Q .normal st') : AWP P base (.region id ops false) Q st := fun w G a hr => by
  have := xOps_sound (P := P) hF (ops := ops) (Q := fun e a' w' => ∃ st' G', Q e st' ∧ Rel base w' G' st' a' ∧ FEvol base w G st.S st.O w' G' st'.S st'.O) ops.toList 0 (fun j => by simp) hr h (fun w' G' a' h1 h2 => ⟨st', G', hq, h1, h2⟩)
  refine wp_region ?_
  simpa using this

/-- A loop, by a measure that each round lowers. -/
theorem wp_loopN {P : Program} {Q : Exit → Act → World → Prop} {c : Code} {a : Act} {w : World} (J : Nat → Act → World → Prop) (n₀ : Nat) (h₀ : J n₀ a w)
    (round : ∀ n a w, J n a w → c.wp P (Exit.then (fun a' w' => ∃ m, m < n ∧ J m a' w') Q) a w) : (Code.loop c).wp P Q a w := by
  intro b k cs
  have key : ∀ n a w, J n a w → ∃ e a' w', Q e a' w' ∧ Arrives P (lone (b.at a (.code c :: .inLoop c :: k)) cs w) b k cs e a' w' := by
    intro n
    induction n using Nat.strongRecOn with
    | _ n ih =>
      intro a w hI
      obtain ⟨e, a₁, w₁, hq, harr⟩ := round n a w hI b (.inLoop c :: k) cs
      cases e with
      | normal =>
        obtain ⟨m, hlt, hI₁⟩ := hq
        obtain ⟨e₂, a₂, w₂, hq₂, harr₂⟩ := ih m hlt a₁ w₁ hI₁
        exact ⟨e₂, a₂, w₂, hq₂, .of_steps (Steps.trans harr (.one step_inLoop)) harr₂⟩
      | exit id => exact ⟨_, a₁, w₁, hq, .pass (x := .inLoop c) rfl (fun _ _ => .inl (by simp)) harr⟩
      | goto l => exact ⟨_, a₁, w₁, hq, .pass (x := .inLoop c) rfl (fun _ _ => .inl (by simp)) harr⟩
      | ret => exact ⟨_, a₁, w₁, hq, .pass (x := .inLoop c) rfl (fun _ _ => .inl (by simp)) harr⟩
      | panic ch => exact ⟨_, a₁, w₁, hq, .pass (x := .inLoop c) rfl (fun _ _ => .inl (by simp)) harr⟩
      | outgrown => exact ⟨_, a₁, w₁, hq, .pass (x := .inLoop c) rfl (fun _ _ => .inl (by simp)) harr⟩
  obtain ⟨e, a', w', hq, harr⟩ := key n₀ a w h₀
  exact ⟨e, a', w', hq, .of_steps (.one step_loop) harr⟩

theorem AWP.loop {c : Code} (I : Nat → St → Prop) (n₀ : Nat) (h₀ : I n₀ st) (round : ∀ n st, I n st → AWP P base c (thenA (fun st' => ∃ m, m < n ∧ I m st') Q) st) : AWP P base (.loop c) Q st := fun w G a hr => by
  refine wp_loopN (fun n a' w' => ∃ st' G', I n st' ∧ Rel base w' G' st' a' ∧ FEvol base w G st.S st.O w' G' st'.S st'.O) n₀ ⟨st, G, h₀, hr, .refl⟩ ?_
  rintro n a1 w1 ⟨st1, G1, hI, hr1, hev1⟩
  refine wp_mono (round n st1 hI w1 G1 a1 hr1) ?_
  rintro e a' w' ⟨st', G', h1, h2, h3⟩
  cases e <;> try exact ⟨st', G', h1, h2, hev1.trans h3⟩
  obtain ⟨m, hm, hI'⟩ := h1
  exact ⟨m, hm, st', G', hI', h2, hev1.trans h3⟩
end
end Go.Am
/-
  THE ABSTRACT MACHINE: a function's contract out of its body.
-/
namespace Go.Am
open Go

def loadAV (P : Program) (st : St) (T : TypeId) (x : AV) : Option AV :=
  match x with
  | .p id off => match getB st.S st.O id with | some (.box _ cs) => partAV P T ((cs.map strip).drop off) 0 | some (.row _ _ _ cs) => partAV P T (cs.drop off) 0 | _ => none
  | .e cs => partAV P T cs 0
  | _ => none

def resOne (P : Program) (st : St) : ResultVar → Option AV
  | .tmp t => some (st.env.getD t .u)
  | .cell t T => loadAV P st T (st.env.getD t .u)

def resList (P : Program) (st : St) : List ResultVar → Option (List AV)
  | [] => some []
  | v :: vs => match resOne P st v, resList P st vs with | some x, some xs => some (x :: xs) | _, _ => none

def single : List AV → AV
  | [x] => x
  | xs => .t xs

/-- What a frame leaves. -/
def finAV (P : Program) (base : Nat) (fn : Func) (st : St) : Option (AV × List Blk × List Blk) :=
  match resList P st fn.results.toList with
  | some xs =>
    match resList P (st.freezeIn base (argCells xs)) fn.results.toList with
    | some ys => if (single ys).nrm.bel base then some ((single ys).nrm, (st.freezeIn base (argCells xs)).S.take base, (st.freezeIn base (argCells xs)).O) else none
    | none => none
  | none => none

/-- A frame as it begins. -/
def frame0 (args : List AV) (S O : List Blk) (n : Nat) : St := ⟨args ++ List.replicate (n - args.length) .u, S ++ List.replicate n .dead, O⟩

def outB (base : Nat) : Owner → Bool
  | .box (.s n) => decide (n < base)
  | .box (.o _) => true
  | .row m => decide (m < base)
  | .cell (.s n) _ => decide (n < base)
  | .cell (.o _) _ => true
  | .ext _ => true

def cutG (base : Nat) (G : Ghost) : Ghost := fun b => match G b with
  | some o => if outB base o then some o else none
  | none => none

section
variable {base : Nat} {w w' w'' : World} {G G' G'' : Ghost} {S S' S'' O O' O'' : List Blk} {P : Program}

theorem cutG_some {b : Nat} {o : Owner} (h : cutG base G b = some o) : G b = some o ∧ outB base o = true := by
  unfold cutG at h
  split at h
  · split at h <;> simp at h
    subst h
    exact ⟨by assumption, by assumption⟩
  · cases h
theorem cutG_of {b : Nat} {o : Owner} (h : G b = some o) (ho : outB base o = true) : cutG base G b = some o := by unfold cutG; rw [h]; simp [ho]
theorem cutG_none {b : Nat} (h : G b = none) : cutG base G b = none := by unfold cutG; rw [h]

theorem cutG_idle {b : Nat} (h : idle (G b) = true) : cutG base G b = G b := by
  unfold cutG
  cases hg : G b with
  | none => rfl
  | some o => rw [hg] at h; cases o <;> first | rfl | cases h

theorem resOne_sound {st : St} {a : Act} (h : Rel base w G st a) {v : ResultVar} {x : AV} (hx : resOne P st v = some x) :
    ∃ u, (match v with | .tmp t => pure (a.tmps.getD t undef) | .cell t T => do loadVar T (← asAddr (a.tmps.getD t undef)) : Sem Value).run P w = .ok u w ∧ CR w G st.S x u := by
  cases v with
  | tmp t =>
    simp only [resOne, Option.some.injEq] at hx; subst hx
    exact ⟨_, rfl, rd_sound h.env (.tmp t)⟩
  | cell t T =>
    simp only [resOne, loadAV] at hx
    obtain ⟨q, h1, h2⟩ := load_sound (P := P) h.inv (T := T) hx (rd_sound h.env (.tmp t))
    refine ⟨q, ?_, h2⟩
    have hv : (a.eval (.tmp t)) = a.tmps.getD t undef := rfl
    rw [hv] at h1
    unfold Instr.loadAt Instr.sureAddr at h1
    split at h1
    · rename_i ad hp
      show Sem.run P (asAddr (a.tmps.getD t undef) >>= fun y => loadVar T y) w = _
      rw [hp]
      exact h1
    · simp at h1

theorem resList_sound {st : St} {a : Act} (h : Rel base w G st a) : ∀ (l : List ResultVar) {xs : List AV}, resList P st l = some xs →
    ∃ us, (l.mapM fun | ResultVar.tmp t => pure (a.tmps.getD t undef) | ResultVar.cell t T => do loadVar T (← asAddr (a.tmps.getD t undef)) : Sem (List Value)).run P w = .ok us w ∧ CRs w G st.S xs us
  | [], xs, hx => by simp only [resList, Option.some.injEq] at hx; subst hx; exact ⟨[], rfl, .nil⟩
  | v :: l, xs, hx => by
    simp only [resList] at hx
    split at hx
    · rename_i x ys hx1 hx2
      injection hx with hx; subst hx
      obtain ⟨u, q1, q2⟩ := resOne_sound (P := P) h hx1
      obtain ⟨us, q3, q4⟩ := resList_sound h l hx2
      refine ⟨u :: us, ?_, .cons _ _ _ _ q2 q4⟩
      simp only [List.mapM_cons, Sem.run_bind, q1, Result.andThen_ok, q3, Sem.run_pure]
    · cases hx

theorem results_sound {st : St} {a : Act} (h : Rel base w G st a) {fn : Func} {xs : List AV} (hx : resList P st fn.results.toList = some xs) : ∃ u, (results fn a.tmps).run P w = .ok u w ∧ CR w G st.S (single xs) u := by
  obtain ⟨us, h1, h2⟩ := resList_sound (P := P) h _ hx
  have hm : (fn.results.mapM (m := Sem) fun | ResultVar.tmp t => pure (a.tmps.getD t undef) | ResultVar.cell t T => do loadVar T (← asAddr (a.tmps.getD t undef))).run P w = .ok us.toArray w := by
    rw [Array.mapM_eq_mapM_toList]
    simp only [Sem.run_map]
    rw [h1]; rfl
  have hr : (results fn a.tmps).run P w = .ok (if hsz : us.toArray.size = 1 then us.toArray[0] else .tuple us.toArray) w := by
    have this : (results fn a.tmps).run P w = ((fn.results.mapM (m := Sem) fun | ResultVar.tmp t => pure (a.tmps.getD t undef) | ResultVar.cell t T => do loadVar T (← asAddr (a.tmps.getD t undef))).run P w).andThen (fun vs w' => (pure (if hsz : vs.size = 1 then vs[0] else .tuple vs) : Sem Value).run P w') := by
      unfold results; simp only [Sem.run_bind]; rfl
    rw [this, hm]; rfl
  refine ⟨_, hr, ?_⟩
  cases h2 with
  | nil => exact .t _ _ .nil
  | cons x v xs' us' h3 h4 =>
    cases h4 with
    | nil => exact h3
    | cons x' v' xs'' us'' h5 h6 => exact .t _ _ (.cons _ _ _ _ h3 (.cons _ _ _ _ h5 h6))

theorem dead_get {S : List Blk} {n k : Nat} {b : Blk} (h : (S ++ List.replicate n Blk.dead)[k]? = some b) (hb : b ≠ .dead) : S[k]? = some b := by
  rw [List.getElem?_append] at h
  split at h
  · exact h
  · rw [List.getElem?_replicate] at h
    split at h <;> simp at h
    exact absurd h.symm hb

theorem get_dead {S : List Blk} {n k : Nat} {b : Blk} (h : S[k]? = some b) : (S ++ List.replicate n Blk.dead)[k]? = some b := by
  rw [List.getElem?_append_left (List.getElem?_eq_some_iff.1 h).1]; exact h

theorem frame0_rel {args : List AV} {vargs : List Value} {n : Nat} (hI : InvH w G S O) (hs : Scoped S O) (hc : CRs w G S args vargs) (hn : args.length ≤ n) :
    Rel S.length w G (frame0 args S O n) { tmps := vargs.toArray ++ Array.replicate (n - vargs.toArray.size) undef, defers := [] } ∧ Keep w G S w G (S ++ List.replicate n .dead) (fun _ => True) := by
  have hk : Keep w G S w G (S ++ List.replicate n .dead) (fun _ => True) := ⟨fun _ _ _ => ⟨rfl, rfl⟩, Nat.le_refl _, fun _ _ _ h => h, fun m _ e sz k cs h => ⟨get_dead h, fun _ h => ⟨h, rfl⟩⟩⟩
  have hl : vargs.length = args.length := hc.length.symm
  have hgb : ∀ id T cs, getB (S ++ List.replicate n .dead) O id = some (.box T cs) → getB S O id = some (.box T cs) := by
    intro id T cs h
    cases id with
    | o k => exact h
    | s k => exact dead_get h (by simp)
  have hgb' : ∀ id b, getB S O id = some b → getB (S ++ List.replicate n .dead) O id = some b := by
    intro id b h
    cases id with
    | o k => exact h
    | s k => exact get_dead h
  refine ⟨⟨rfl, by simp [frame0, hl], ?_, ?_, by simp [frame0]; omega, ?_, ?_, ?_, hs.2⟩, hk⟩
  · have := (hc.keep hk (fun _ _ => trivial)).append (CRs.replicate_u (w := w) (G := G) (S := S ++ List.replicate n .dead) (n - args.length) (List.replicate (n - vargs.length) undef) (by simp [hl]))
    simpa [frame0] using this
  · refine ⟨hI.inj, hI.rng, fun b o hb => ?_, hI.orow, fun m e sz k cs b hm hb => ?_, fun id T cs h => ?_⟩
    · have := hI.live b o hb
      cases o with
      | box id =>
        rcases this with ⟨T, cs, h⟩ | ⟨e, sz, k, cs, h⟩
        · exact .inl ⟨T, cs, hgb' id _ h⟩
        · exact .inr ⟨e, sz, k, cs, hgb' id _ h⟩
      | cell id _ => obtain ⟨T, cs, h⟩ := this; exact ⟨T, cs, hgb' id _ h⟩
      | ext _ => trivial
      | row m => obtain ⟨e, sz, k, cs, h⟩ := this; exact ⟨e, sz, k, cs, get_dead h⟩
    · have hm' := dead_get hm (by simp)
      exact (hI.row m e sz k cs b hm' hb).keep hk trivial hm'
    · obtain ⟨b, vs, h1, h2, h3, h4⟩ := hI.box id T cs (hgb id T cs h)
      exact ⟨b, vs, h1, h2, h3, fun j x v hx hv => (h4 j x v hx hv).keep hk (fun _ _ => trivial) (fun b' h' => ⟨h', rfl⟩)⟩
  · have h1 := CRs_bel hI hc
    rw [belL_mem] at h1 ⊢
    intro x hx
    simp only [frame0, List.mem_append] at hx
    rcases hx with hx | hx
    · exact bel_mono (by simp [frame0]) (h1 x hx)
    · rw [List.mem_replicate] at hx; rw [hx.2]; rfl
  · intro k T cs h
    exact belL_mono (by simp [frame0]) (hs.1 k T cs (dead_get h (by simp)))
  · intro k T cs hk' h
    exact hs.1 k T cs (dead_get h (by simp))

theorem take_get {S : List Blk} {n k : Nat} {b : Blk} (h : (S.take n)[k]? = some b) : k < n ∧ S[k]? = some b := by
  rw [List.getElem?_take] at h
  split at h
  · exact ⟨by assumption, h⟩
  · cases h

/-- A function's contract out of its body. -/
theorem valid_of_awp {f : FuncId} {fn : Func} {c : Code} {args : List AV} {r : AV} (hf : P.funcs[f]? = some fn) (hb : fn.body = some c) (hn : args.length ≤ fn.ntmps)
    (h : AWP P S.length c (fun e st => (e = .normal ∨ e = .ret) ∧ finAV P S.length fn st = some (r, S', O')) (frame0 args S O fn.ntmps)) : ValidAt P f args S O r S' O' := by
  intro w G vargs hI hs hc
  obtain ⟨hrel, hk0⟩ := frame0_rel hI hs hc hn
  refine calls_of_wp hf hb (wp_mono (h w G _ hrel) ?_)
  rintro e a' w' ⟨st, G1, ⟨he, hfin⟩, hr, hev⟩
  unfold finAV at hfin
  split at hfin
  rotate_left
  · cases hfin
  rename_i xs hxs
  split at hfin
  rotate_left
  · cases hfin
  rename_i ys hys
  split at hfin
  rotate_left
  · cases hfin
  rename_i hbel
  simp only [Option.some.injEq, Prod.mk.injEq] at hfin
  obtain ⟨rfl, rfl, rfl⟩ := hfin
  obtain ⟨G2, g1, g2⟩ := Rel.freezeIn (argCells xs) hr
  obtain ⟨u, u1, u2⟩ := results_sound (P := P) g1 hys
  generalize hst2 : st.freezeIn S.length (argCells xs) = st2 at *
  have hev2 := hev.trans g2
  have hlen2 : st2.S.length = S.length + fn.ntmps := by rw [hev2.lenS]; simp [frame0]
  -- what is cut off
  have hkc : Keep w' G2 st2.S w' (cutG S.length G2) (st2.S.take S.length) (outO S.length) := by
    refine ⟨fun b _ hg => ⟨rfl, cutG_idle hg⟩, Nat.le_refl _, fun o ho b hb => cutG_of hb ?_, fun m hm e sz k cs hS => ⟨?_, fun b hb => ⟨cutG_of hb (by simpa [outB, outO] using hm), rfl⟩⟩⟩
    · cases o with
      | box id => cases id with
        | o n => rfl
        | s n => simpa [outB, outO] using ho
      | row m => simpa [outB, outO] using ho
      | cell _ _ => exact ho.elim
      | ext _ => rfl
    · rw [List.getElem?_take, if_pos (show m < S.length from hm)]; exact hS
  have hgb : ∀ id T cs, getB (st2.S.take S.length) st2.O id = some (.box T cs) → getB st2.S st2.O id = some (.box T cs) ∧ outO S.length (.box id) ∧ AV.belL S.length cs = true := by
    intro id T cs hh
    cases id with
    | o k => exact ⟨hh, trivial, belL_mono (Nat.zero_le _) (g1.scopeO k T cs hh)⟩
    | s k => obtain ⟨q1, q2⟩ := take_get hh; exact ⟨q2, q1, g1.scopeB k T cs q1 q2⟩
  have hInv : InvH w' (cutG S.length G2) (st2.S.take S.length) st2.O := by
    refine ⟨fun b b' o hb hb' => g1.inv.inj b b' o (cutG_some hb).1 (cutG_some hb').1, fun b o hb => g1.inv.rng b o (cutG_some hb).1, fun b o hb => ?_, g1.inv.orow, fun m e sz k cs b hm hb => ?_, fun id T cs hh => ?_⟩
    · obtain ⟨q1, q2⟩ := cutG_some hb
      have hal := g1.inv.live b o q1
      have htk : ∀ id b, (∀ n, id = .s n → n < S.length) → getB st2.S st2.O id = some b → getB (st2.S.take S.length) st2.O id = some b := by
        intro id b hid hh
        cases id with
        | o k => exact hh
        | s k => simp only [getB] at hh ⊢; rw [List.getElem?_take, if_pos (hid k rfl)]; exact hh
      cases o with
      | box id =>
        have hid : ∀ n, id = .s n → n < S.length := fun n e => by subst e; simpa [outB, outO] using q2
        rcases hal with ⟨T, cs, hh⟩ | ⟨e, sz, k, cs, hh⟩
        · exact .inl ⟨T, cs, htk id _ hid hh⟩
        · exact .inr ⟨e, sz, k, cs, htk id _ hid hh⟩
      | cell id _ =>
        have hid : ∀ n, id = .s n → n < S.length := fun n e => by subst e; simpa [outB, outO] using q2
        obtain ⟨T, cs, hh⟩ := hal
        exact ⟨T, cs, htk id _ hid hh⟩
      | ext _ => trivial
      | row m =>
        obtain ⟨e, sz, k, cs, hh⟩ := hal
        exact ⟨e, sz, k, cs, by rw [List.getElem?_take, if_pos (by simpa [outB, outO] using q2)]; exact hh⟩
    · obtain ⟨q1, q2⟩ := take_get hm
      exact (g1.inv.row m e sz k cs b q2 (cutG_some hb).1).keep hkc q1 q2
    · obtain ⟨q1, q2, q3⟩ := hgb id T cs hh
      obtain ⟨b, vs, p1, p2, p3, p4⟩ := g1.inv.box id T cs q1
      refine ⟨b, vs, hkc.own _ q2 b p1, p2, p3, fun j x v hx hv => ?_⟩
      refine (p4 j x v hx hv).keep hkc (fun o ho => bel_has (belL_mem.1 q3 x (List.mem_of_getElem? hx)) o ho) (fun b' hb' => ⟨cutG_of hb' ?_, rfl⟩)
      cases id with
      | o k => rfl
      | s k => simpa [outB, outO] using q2
  have hcr : CR w' (cutG S.length G2) (st2.S.take S.length) (single ys).nrm u := (u2.nrm).keep hkc (fun o ho => bel_has hbel o ho)
  have hsc : Scoped (st2.S.take S.length) st2.O := by
    refine ⟨fun n T cs hh => ?_, g1.scopeO⟩
    obtain ⟨q1, q2⟩ := take_get hh
    have : (st2.S.take S.length).length = S.length := by simp [hlen2]
    rw [this]
    exact g1.scopeB n T cs q1 q2
  have hevf : FEvol S.length w G S O w' (cutG S.length G2) (st2.S.take S.length) st2.O := by
    refine ⟨((hk0.imp (fun _ _ => trivial)).trans hev2.keep).trans hkc, hev2.os, hev2.tape, hev2.output, by simp [hlen2], hev2.lenO, fun n β hlt hh T cs hc' => ?_⟩
    obtain ⟨q1, q2⟩ := take_get hc'
    exact hev2.shr n β hlt (fun T cs h' => hh T cs (dead_get h' (by simp))) T cs q2
  have hpost : ∃ v, (results fn a'.tmps).run P w' = .ok v w' ∧ ∃ v' G', Ending.returned v = .returned v' ∧ InvH w' G' (st2.S.take S.length) st2.O ∧ Scoped (st2.S.take S.length) st2.O ∧ CR w' G' (st2.S.take S.length) (single ys).nrm v' ∧ FEvol S.length w G S O w' G' (st2.S.take S.length) st2.O :=
    ⟨u, u1, u, _, rfl, hInv, hsc, hcr, hevf⟩
  rcases he with rfl | rfl
  · exact ⟨g1.defers, hpost⟩
  · exact ⟨g1.defers, hpost⟩
end
end Go.Am
