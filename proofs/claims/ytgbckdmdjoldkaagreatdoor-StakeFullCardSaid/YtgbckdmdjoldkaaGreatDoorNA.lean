import Derived.Test.YtgbckdmdjoldkaaGreatDoorMA
import Derived.Laws.BytesString
import Derived.ArgAppend
import Derived.Maps.AppendAt
import Derived.Laws.CopyRow
import Derived.Great.BuildSlice
import Derived.Laws.MakeOwn
import Derived.Laws.IdiomCopy
set_option linter.unusedSimpArgs false
set_option linter.unusedVariables false
/-
  THE SECOND MACHINE (for closed runs): names of blocks are numbers; what stands behind a name is told by a map into the model's memory, which need not be defined yet.
-/
namespace Go.Bm
open Go
open Go.Am (Sc)

/-! ### A tree of places -/
inductive Tr (α : Type)
  | e | n (v : Option α) (l r : Tr α)

def Tr.get {α : Type} : Tr α → Nat → Option α
  | .e, _ => none
  | .n v l r, k => match k with
    | 0 => v
    | k + 1 => bif Nat.beq (k % 2) 0 then l.get (k / 2) else r.get (k / 2)

/-- Work a tree's head out first. -/
def seqT {α β : Type} (t : Tr α) (f : Tr α → β) : β :=
  match t with
  | .e => f .e
  | .n a b c => f (.n a b c)

theorem seqT_eq {α β : Type} (t : Tr α) (f : Tr α → β) : seqT t f = f t := by cases t <;> rfl

def Tr.set {α : Type} (v : α) : Nat → Tr α → Nat → Tr α
  | 0, t, _ => t
  | f + 1, .e, k => match k with
    | 0 => .n (some v) .e .e
    | k + 1 => bif Nat.beq (k % 2) 0 then seqT (Tr.set v f .e (k / 2)) (fun s => .n none s .e) else seqT (Tr.set v f .e (k / 2)) (fun s => .n none .e s)
  | f + 1, .n x l r, k => match k with
    | 0 => .n (some v) l r
    | k + 1 => bif Nat.beq (k % 2) 0 then seqT (Tr.set v f l (k / 2)) (fun s => .n x s r) else seqT (Tr.set v f r (k / 2)) (fun s => .n x l s)

theorem half_lt {f k : Nat} (h : k + 1 + 1 < 2 ^ (f + 1)) : k / 2 + 1 < 2 ^ f := by
  rw [Nat.pow_succ] at h; omega

theorem half_inj {k k' : Nat} (h1 : k % 2 = k' % 2) : (k / 2 = k' / 2) ↔ k = k' := by omega

theorem get_e {α : Type} (k : Nat) : (Tr.e : Tr α).get k = none := by cases k <;> rfl

theorem Tr.get_set {α : Type} (v : α) : ∀ (f : Nat) (t : Tr α) (k k' : Nat), k + 1 < 2 ^ f → (Tr.set v f t k).get k' = if k' = k then some v else t.get k'
  | 0, t, k, k', h => by simp at h
  | f + 1, t, k, k', h => by
    cases k with
    | zero =>
      cases t with
      | e => cases k' with | zero => rfl | succ k' => simp only [Tr.set, Tr.get, get_e, cond_eq_ite, ite_self]; rw [if_neg (by omega)]
      | n x l r => cases k' with | zero => rfl | succ k' => simp only [Tr.set, Tr.get]; rw [if_neg (by omega)]
    | succ k =>
      have hk := half_lt h
      cases t with
      | e =>
        simp only [Tr.set]
        cases hp : Nat.beq (k % 2) 0 with
        | true =>
          have hp' : k % 2 = 0 := Nat.eq_of_beq_eq_true hp
          simp only [cond_true, seqT_eq]
          cases k' with
          | zero => simp [Tr.get]
          | succ k' =>
            simp only [Tr.get]
            cases hq : Nat.beq (k' % 2) 0 with
            | true =>
              have hq' : k' % 2 = 0 := Nat.eq_of_beq_eq_true hq
              simp only [cond_true]
              rw [Tr.get_set v f .e _ _ hk, get_e]
              simp only [half_inj (show k' % 2 = k % 2 by omega), Nat.succ_eq_add_one, Nat.add_right_cancel_iff]
            | false =>
              have hq' : ¬ k' % 2 = 0 := fun h' => by rw [h'] at hq; cases hq
              simp only [cond_false, get_e]
              rw [if_neg (by omega)]
        | false =>
          have hp' : ¬ k % 2 = 0 := fun h' => by rw [h'] at hp; cases hp
          simp only [cond_false, seqT_eq]
          cases k' with
          | zero => simp [Tr.get]
          | succ k' =>
            simp only [Tr.get]
            cases hq : Nat.beq (k' % 2) 0 with
            | true =>
              have hq' : k' % 2 = 0 := Nat.eq_of_beq_eq_true hq
              simp only [cond_true, get_e]
              rw [if_neg (by omega)]
            | false =>
              have hq' : ¬ k' % 2 = 0 := fun h' => by rw [h'] at hq; cases hq
              simp only [cond_false]
              rw [Tr.get_set v f .e _ _ hk, get_e]
              simp only [half_inj (show k' % 2 = k % 2 by omega), Nat.succ_eq_add_one, Nat.add_right_cancel_iff]
      | n x l r =>
        simp only [Tr.set]
        cases hp : Nat.beq (k % 2) 0 with
        | true =>
          have hp' : k % 2 = 0 := Nat.eq_of_beq_eq_true hp
          simp only [cond_true, seqT_eq]
          cases k' with
          | zero => simp [Tr.get]
          | succ k' =>
            simp only [Tr.get]
            cases hq : Nat.beq (k' % 2) 0 with
            | true =>
              have hq' : k' % 2 = 0 := Nat.eq_of_beq_eq_true hq
              simp only [cond_true]
              rw [Tr.get_set v f l _ _ hk]
              simp only [half_inj (show k' % 2 = k % 2 by omega), Nat.succ_eq_add_one, Nat.add_right_cancel_iff]
            | false =>
              have hq' : ¬ k' % 2 = 0 := fun h' => by rw [h'] at hq; cases hq
              simp only [cond_false]
              rw [if_neg (by omega)]
        | false =>
          have hp' : ¬ k % 2 = 0 := fun h' => by rw [h'] at hp; cases hp
          simp only [cond_false, seqT_eq]
          cases k' with
          | zero => simp [Tr.get]
          | succ k' =>
            simp only [Tr.get]
            cases hq : Nat.beq (k' % 2) 0 with
            | true =>
              have hq' : k' % 2 = 0 := Nat.eq_of_beq_eq_true hq
              simp only [cond_true]
              rw [if_neg (by omega)]
            | false =>
              have hq' : ¬ k' % 2 = 0 := fun h' => by rw [h'] at hq; cases hq
              simp only [cond_false]
              rw [Tr.get_set v f r _ _ hk]
              simp only [half_inj (show k' % 2 = k % 2 by omega), Nat.succ_eq_add_one, Nat.add_right_cancel_iff]

/-! The same by bare recursors: few steps for the kernel. -/
noncomputable def Tr.getR {α : Type} (t : Tr α) : Nat → Option α :=
  Tr.rec (motive := fun _ => Nat → Option α) (fun _ => none) (fun v _ _ gl gr k => Nat.rec (motive := fun _ => Option α) v (fun j _ => Bool.rec (motive := fun _ => Option α) (gr (Nat.div j (nat_lit 2))) (gl (Nat.div j (nat_lit 2))) (Nat.beq (Nat.mod j (nat_lit 2)) (nat_lit 0))) k) t

noncomputable def Tr.setR {α : Type} (v : α) (f : Nat) : Tr α → Nat → Tr α :=
  Nat.rec (motive := fun _ => Tr α → Nat → Tr α) (fun t _ => t)
    (fun _ ih t k => Tr.rec (motive := fun _ => Tr α)
      (Nat.rec (motive := fun _ => Tr α) (.n (some v) .e .e) (fun j _ => Bool.rec (motive := fun _ => Tr α) (Tr.rec (motive := fun _ => Tr α) (.n none .e .e) (fun a b c _ _ => .n none .e (.n a b c)) (ih .e (Nat.div j (nat_lit 2)))) (Tr.rec (motive := fun _ => Tr α) (.n none .e .e) (fun a b c _ _ => .n none (.n a b c) .e) (ih .e (Nat.div j (nat_lit 2)))) (Nat.beq (Nat.mod j (nat_lit 2)) (nat_lit 0))) k)
      (fun x l r _ _ => Nat.rec (motive := fun _ => Tr α) (.n (some v) l r) (fun j _ => Bool.rec (motive := fun _ => Tr α) (Tr.rec (motive := fun _ => Tr α) (.n x l .e) (fun a b c _ _ => .n x l (.n a b c)) (ih r (Nat.div j (nat_lit 2)))) (Tr.rec (motive := fun _ => Tr α) (.n x .e r) (fun a b c _ _ => .n x (.n a b c) r) (ih l (Nat.div j (nat_lit 2)))) (Nat.beq (Nat.mod j (nat_lit 2)) (nat_lit 0))) k) t) f

theorem getR_eq {α : Type} (t : Tr α) (k : Nat) : t.getR k = t.get k := by
  induction t generalizing k with
  | e => cases k <;> rfl
  | n v l r hl hr =>
    cases k with
    | zero => rfl
    | succ k =>
      show Bool.rec (motive := fun _ => Option α) (r.getR (k / 2)) (l.getR (k / 2)) (Nat.beq (k % 2) 0) = _
      simp only [Tr.get]
      cases Nat.beq (k % 2) 0
      · exact hr _
      · exact hl _

theorem setR_eq {α : Type} (v : α) : ∀ (f : Nat) (t : Tr α) (k : Nat), Tr.setR v f t k = Tr.set v f t k
  | 0, t, k => rfl
  | f + 1, .e, 0 => rfl
  | f + 1, .n x l r, 0 => rfl
  | f + 1, .e, k + 1 => by
    show Bool.rec (motive := fun _ => Tr α) (Tr.rec (motive := fun _ => Tr α) (.n none .e .e) (fun a b c _ _ => .n none .e (.n a b c)) (Tr.setR v f .e (k / 2))) (Tr.rec (motive := fun _ => Tr α) (.n none .e .e) (fun a b c _ _ => .n none (.n a b c) .e) (Tr.setR v f .e (k / 2))) (Nat.beq (k % 2) 0) = _
    simp only [Tr.set]
    rw [setR_eq v f .e (k / 2)]
    cases Nat.beq (k % 2) 0 <;> (simp only [cond_true, cond_false]; cases Tr.set v f .e (k / 2) <;> rfl)
  | f + 1, .n x l r, k + 1 => by
    show Bool.rec (motive := fun _ => Tr α) (Tr.rec (motive := fun _ => Tr α) (.n x l .e) (fun a b c _ _ => .n x l (.n a b c)) (Tr.setR v f r (k / 2))) (Tr.rec (motive := fun _ => Tr α) (.n x .e r) (fun a b c _ _ => .n x (.n a b c) r) (Tr.setR v f l (k / 2))) (Nat.beq (k % 2) 0) = _
    simp only [Tr.set]
    rw [setR_eq v f l (k / 2), setR_eq v f r (k / 2)]
    cases Nat.beq (k % 2) 0
    · simp only [cond_false]; cases Tr.set v f r (k / 2) <;> rfl
    · simp only [cond_true]; cases Tr.set v f l (k / 2) <;> rfl

/-! ### Values and memory -/
inductive AV
  | u | s (x : Sc) | p (id off : Nat) | sl (id off sz n c : Nat) (ex : Bool) | z (ex : Bool)
  | f (fn : FuncId) (fs cs : List AV) | a (cs : List AV) | t (vs : List AV) | g (n : Nat) | yl (id : Nat) | w (i : Nat) (k : IntKind) (l : List Int)

inductive Blk
  | dead | row (T : TypeId) (cs : List AV)

abbrev Heap := Tr Blk
noncomputable def Heap.at (H : Heap) (i : Nat) : Blk := Option.rec (motive := fun _ => Blk) .dead (fun b => b) (Tr.getR H i)
noncomputable def Heap.put (H : Heap) (i : Nat) (b : Blk) : Heap := Tr.setR b (nat_lit 40) H i

theorem Heap.at_put {H : Heap} {i j : Nat} {b : Blk} (h : i < 1073741824) : (H.put i b).at j = if j = i then b else H.at j := by
  unfold Heap.at Heap.put
  rw [getR_eq, getR_eq, setR_eq, Tr.get_set b 40 H i j (by omega)]
  split <;> rfl

/-- Where a name's block lies. -/
inductive Loc
  | no | dead | far (b size : Nat) | at (b size : Nat)

/-- There it lies, be it ours or not. -/
def Loc.is (l : Loc) (b s : Nat) : Prop := l = .at b s ∨ l = .far b s

abbrev Map := Nat → Loc

mutual
inductive CR (ρ : Map) : AV → Value → Prop
  | u (v : Value) : CR ρ .u v
  | s (x : Sc) : CR ρ (.s x) x.val
  | g (n : Nat) (x : Int) : (n : Int) ≤ x → CR ρ (.g n) (.int .i64 x)
  | p (id off b sz : Nat) : (ρ id).is b sz → CR ρ (.p id off) (.pointer (some ⟨b, off, none⟩))
  | pd (id off : Nat) (v : Value) : ρ id = .dead → v.oneCell' = true → CR ρ (.p id off) v
  | sl (id off sz n c : Nat) (ex : Bool) (b bs cap : Nat) : (ρ id).is b bs → n ≤ c → c ≤ cap → (ex = true → cap = c) → cap ≤ maxLen → off + cap * sz ≤ bs → 0 < sz → CR ρ (.sl id off sz n c ex) (.slice (some ⟨b, off, none⟩) n cap)
  | sld (id off sz n c : Nat) (ex : Bool) (v : Value) : ρ id = .dead → v.oneCell' = true → CR ρ (.sl id off sz n c ex) v
  | z (ex : Bool) (a : Addr) (cap : Nat) : (ex = true → cap = 0) → cap ≤ maxLen → CR ρ (.z ex) (.slice (some a) 0 cap)
  | f (fn : FuncId) (fs cs : List AV) (vf vc : List Value) : CRs ρ fs vf → CRs ρ cs vc → CR ρ (.f fn fs cs) (.func (.func fn) vf.toArray vc.toArray)
  | a (cs : List AV) (vs : List Value) : CRs ρ cs vs → CR ρ (.a cs) (.agg vs.toArray)
  | yl (id l : Nat) : ρ id = .far l 0 → CR ρ (.yl id) (.func (.yield l) #[] #[])
  | w (i : Nat) (k : IntKind) (l : List Int) (L : Nat) (x : Int) : 13 ≤ i → i < 16 → ρ i = .far i L → l[L]? = some x → CR ρ (.w i k l) (.int k x)
  | t (cs : List AV) (vs : List Value) : CRs ρ cs vs → CR ρ (.t cs) (.tuple vs.toArray)
inductive CRs (ρ : Map) : List AV → List Value → Prop
  | nil : CRs ρ [] []
  | cons (x : AV) (v : Value) (xs : List AV) (vs : List Value) : CR ρ x v → CRs ρ xs vs → CRs ρ (x :: xs) (v :: vs)
end

/-- What a map may become. -/
structure Ext (ρ ρ' : Map) : Prop where
  at_ : ∀ i b s, ρ i = .at b s → ρ' i = .at b s ∨ ρ' i = .dead
  dead : ∀ i, ρ i = .dead → ρ' i = .dead
  far : ∀ i b s, ρ i = .far b s → ρ' i = .far b s

theorem Ext.is {ρ ρ' : Map} (k : Ext ρ ρ') {i b s : Nat} (h : (ρ i).is b s) : (ρ' i).is b s ∨ ρ' i = .dead := by
  rcases h with h | h
  · rcases k.at_ i b s h with h | h
    · exact .inl (.inl h)
    · exact .inr h
  · exact .inl (.inr (k.far i b s h))

theorem Ext.refl {ρ : Map} : Ext ρ ρ := ⟨fun _ _ _ h => .inl h, fun _ h => h, fun _ _ _ h => h⟩
theorem Ext.trans {ρ ρ' ρ'' : Map} (h : Ext ρ ρ') (k : Ext ρ' ρ'') : Ext ρ ρ'' :=
  ⟨fun i b s hi => (h.at_ i b s hi).elim (fun h => k.at_ i b s h) (fun h => .inr (k.dead i h)), fun i hi => k.dead i (h.dead i hi), fun i b s hi => k.far i b s (h.far i b s hi)⟩

mutual
theorem CR.ext {ρ ρ' : Map} (k : Ext ρ ρ') {x : AV} {v : Value} (h : CR ρ x v) : CR ρ' x v :=
  match x, v, h with
  | _, _, .u v => .u v
  | _, _, .s x => .s x
  | _, _, .g n x h => .g n x h
  | _, _, .p id off b sz h => (k.is h).elim (fun h' => .p id off b sz h') (fun h' => .pd id off _ h' rfl)
  | _, _, .pd id off v h h' => .pd id off v (k.dead id h) h'
  | _, _, .sl id off sz n c ex b bs cap h h1 h2 h3 h4 h5 h6 => (k.is h).elim (fun h' => .sl id off sz n c ex b bs cap h' h1 h2 h3 h4 h5 h6) (fun h' => .sld id off sz n c ex _ h' rfl)
  | _, _, .sld id off sz n c ex v h h' => .sld id off sz n c ex v (k.dead id h) h'
  | _, _, .z ex a cap h h' => .z ex a cap h h'
  | _, _, .f fn fs cs vf vc h1 h2 => .f fn fs cs vf vc (CRs.ext k h1) (CRs.ext k h2)
  | _, _, .a cs vs h => .a cs vs (CRs.ext k h)
  | _, _, .yl id l h => .yl id l (k.far id l 0 h)
  | _, _, .w i kk l L x h1 h2 h3 h4 => .w i kk l L x h1 h2 (k.far i i L h3) h4
  | _, _, .t cs vs h => .t cs vs (CRs.ext k h)
theorem CRs.ext {ρ ρ' : Map} (k : Ext ρ ρ') {xs : List AV} {vs : List Value} (h : CRs ρ xs vs) : CRs ρ' xs vs :=
  match xs, vs, h with
  | _, _, .nil => .nil
  | _, _, .cons x v xs vs h1 h2 => .cons x v xs vs (CR.ext k h1) (CRs.ext k h2)
end

section
variable {ρ : Map}
theorem CRs.length {xs : List AV} {vs : List Value} (h : CRs ρ xs vs) : xs.length = vs.length := by
  induction xs generalizing vs with
  | nil => cases h; rfl
  | cons x xs ih => cases h with | cons _ v _ vs h1 h2 => simp [ih h2]

theorem CRs.get {xs : List AV} {vs : List Value} (h : CRs ρ xs vs) {j : Nat} {x : AV} (hx : xs[j]? = some x) : ∃ v, vs[j]? = some v ∧ CR ρ x v := by
  induction xs generalizing vs j with
  | nil => simp at hx
  | cons y xs ih =>
    cases h with
    | cons _ v _ vs h1 h2 =>
      cases j with
      | zero => simp at hx; subst hx; exact ⟨v, rfl, h1⟩
      | succ j => simp at hx; simpa using ih h2 hx

theorem CRs.of {xs : List AV} {vs : List Value} (hl : xs.length = vs.length) (h : ∀ (j : Nat) (x : AV) (v : Value), xs[j]? = some x → vs[j]? = some v → CR ρ x v) : CRs ρ xs vs := by
  induction xs generalizing vs with
  | nil => cases vs <;> simp at hl; exact .nil
  | cons x xs ih =>
    cases vs with
    | nil => simp at hl
    | cons v vs =>
      exact .cons _ _ _ _ (h 0 x v rfl rfl) (ih (by simpa using hl) fun j y u hy hu => h (j + 1) y u (by simpa using hy) (by simpa using hu))

theorem CRs.get' {xs : List AV} {vs : List Value} (h : CRs ρ xs vs) {j : Nat} {x : AV} {v : Value} (hx : xs[j]? = some x) (hv : vs[j]? = some v) : CR ρ x v := by
  obtain ⟨v', h1, h2⟩ := h.get hx
  rw [hv] at h1; injection h1 with h1; subst h1; exact h2

theorem CRs.take {xs : List AV} {vs : List Value} (h : CRs ρ xs vs) (n : Nat) : CRs ρ (xs.take n) (vs.take n) := by
  refine .of (by simp [h.length]) fun j x v hx hv => ?_
  rw [List.getElem?_take] at hx hv
  split at hx
  · rename_i hj; rw [if_pos hj] at hv; exact h.get' hx hv
  · simp at hx

theorem CRs.drop {xs : List AV} {vs : List Value} (h : CRs ρ xs vs) (n : Nat) : CRs ρ (xs.drop n) (vs.drop n) := by
  refine .of (by simp [h.length]) fun j x v hx hv => ?_
  rw [List.getElem?_drop] at hx hv
  exact h.get' hx hv

theorem CRs.append {xs ys : List AV} {vs us : List Value} (h : CRs ρ xs vs) (k : CRs ρ ys us) : CRs ρ (xs ++ ys) (vs ++ us) := by
  induction xs generalizing vs with
  | nil => cases h; exact k
  | cons x xs ih => cases h with | cons _ v _ vs h1 h2 => exact .cons _ _ _ _ h1 (ih h2)

theorem CRs.map_same {α : Type} (f : α → AV) (g : α → Value) (h : ∀ x, CR ρ (f x) (g x)) : ∀ l : List α, CRs ρ (l.map f) (l.map g)
  | [] => .nil
  | x :: l => .cons _ _ _ _ (h x) (CRs.map_same f g h l)
end

/-- The first names are the package variables'. -/
def Glob (ρ : Map) : Prop := (∀ g, g < 16 → (∃ s, (ρ g).is g s) ∨ ρ g = .dead) ∧ ∀ g, 13 ≤ g → g < 16 → ∃ s, ρ g = .far g s

theorem Glob.ext {ρ ρ' : Map} (h : Glob ρ) (k : Ext ρ ρ') : Glob ρ' := by
  refine ⟨fun g hg => ?_, fun g h1 h2 => (h.2 g h1 h2).imp fun s hs => k.far g g s hs⟩
  rcases h.1 g hg with ⟨s, h⟩ | h
  · rcases k.is h with h | h
    · exact .inl ⟨s, h⟩
    · exact .inr h
  · exact .inr (k.dead g h)

/-- The memory behind the names. -/
structure InvH (w : World) (ρ : Map) (H : Heap) (nx : Nat) : Prop where
  glob : Glob ρ
  inj : ∀ i j b s s', ρ i = .at b s → ρ j = .at b s' → i = j
  row : ∀ i b s, ρ i = .at b s → i < nx ∧ ∃ T cs vs, H.at i = .row T cs ∧ w.heap[b]? = some (.cells vs T (0, 0)) ∧ vs.size = s ∧ cs.length ≤ s ∧ CRs ρ cs (vs.toList.take cs.length)
  dead : ∀ i, ρ i = .dead → i < nx ∧ H.at i = .dead
  far : ∀ i b s, ρ i = .far b s → i < nx ∧ H.at i = .dead

/-- What a call (or an operation) may have done. -/
structure FE (w : World) (ρ : Map) (H : Heap) (nx : Nat) (w' : World) (ρ' : Map) (H' : Heap) (nx' : Nat) : Prop where
  ext : Ext ρ ρ'
  no : ∀ i, i < nx → ρ i = .no → ρ' i = .no ∧ H'.at i = H.at i
  nx : nx ≤ nx'
  old : ∀ b, b < w.heap.size → (∀ i s, ρ i ≠ .at b s) → w'.heap[b]? = w.heap[b]? ∧ ∀ i s, ρ' i ≠ .at b s
  size : w.heap.size ≤ w'.heap.size
  os : w'.os = w.os
  tape : w'.tape = w.tape
  output : w'.output = w.output

section
variable {w w' w'' : World} {ρ ρ' ρ'' : Map} {H H' H'' : Heap} {nx nx' nx'' : Nat}

theorem FE.refl : FE w ρ H nx w ρ H nx := ⟨.refl, fun _ _ h => ⟨h, rfl⟩, Nat.le_refl _, fun _ _ h => ⟨rfl, h⟩, Nat.le_refl _, rfl, rfl, rfl⟩

theorem FE.trans (h : FE w ρ H nx w' ρ' H' nx') (k : FE w' ρ' H' nx' w'' ρ'' H'' nx'') : FE w ρ H nx w'' ρ'' H'' nx'' := by
  refine ⟨h.ext.trans k.ext, fun i hi hn => ?_, Nat.le_trans h.nx k.nx, fun b hb hn => ?_, Nat.le_trans h.size k.size, k.os.trans h.os, k.tape.trans h.tape, k.output.trans h.output⟩
  · obtain ⟨h1, h2⟩ := h.no i hi hn
    obtain ⟨k1, k2⟩ := k.no i (Nat.lt_of_lt_of_le hi h.nx) h1
    exact ⟨k1, k2.trans h2⟩
  · obtain ⟨h1, h2⟩ := h.old b hb hn
    obtain ⟨k1, k2⟩ := k.old b (Nat.lt_of_lt_of_le hb h.size) h2
    exact ⟨k1.trans h1, k2⟩

theorem InvH.lt (hI : InvH w ρ H nx) {i b s : Nat} (h : ρ i = .at b s) : b < w.heap.size := by
  obtain ⟨_, T, cs, vs, _, h2, _⟩ := hI.row i b s h
  exact (Array.getElem?_eq_some_iff.1 h2).1

/-- Nothing but the package variables, and nothing is known of them. -/
def baseMap : Map := fun i => if i < 16 then .far i 0 else .no

theorem baseMap_at {i b s : Nat} : baseMap i ≠ .at b s := fun h => by
  unfold baseMap at h
  split at h <;> cases h
theorem baseMap_dead {i : Nat} : baseMap i ≠ .dead := fun h => by
  unfold baseMap at h
  split at h <;> cases h
theorem baseMap_no {i : Nat} (h : i < 16) : baseMap i ≠ .no := fun e => by
  unfold baseMap at e
  rw [if_pos h] at e; cases e

theorem InvH.base (w : World) : InvH w baseMap .e 16 :=
  ⟨⟨fun g hg => .inl ⟨0, by unfold baseMap; rw [if_pos hg]; exact .inr rfl⟩, fun g _ hg => ⟨0, by unfold baseMap; rw [if_pos hg]⟩⟩, fun i j b s s' hi hj => absurd hi baseMap_at, fun i b s hi => absurd hi baseMap_at, fun i hi => absurd hi baseMap_dead, fun i b s hi => by
    unfold baseMap at hi
    split at hi
    · exact ⟨by assumption, rfl⟩
    · cases hi⟩

/-- A block that lives has a place, or none yet. -/
theorem InvH.alive (hI : InvH w ρ H nx) {i : Nat} {T : TypeId} {cs : List AV} (h : H.at i = .row T cs) : ρ i ≠ .dead := fun hd => by
  have := (hI.dead i hd).2
  rw [h] at this; cases this

theorem InvH.alive' (hI : InvH w ρ H nx) {i b s : Nat} {T : TypeId} {cs : List AV} (h : H.at i = .row T cs) (hi : (ρ i).is b s) : ρ i = .at b s := by
  rcases hi with hi | hi
  · exact hi
  · have := (hI.far i b s hi).2
    rw [h] at this; cases this

theorem InvH.cells (hI : InvH w ρ H nx) {i b s : Nat} {T : TypeId} {cs : List AV} (h : H.at i = .row T cs) (hb : ρ i = .at b s) :
    ∃ vs : Array Value, w.heap[b]? = some (.cells vs T (0, 0)) ∧ vs.size = s ∧ cs.length ≤ s ∧ CRs ρ cs (vs.toList.take cs.length) ∧ ∀ j y, (vs.toList.take cs.length)[j]? = some y → w.cell? ⟨b, j, none⟩ = some y := by
  obtain ⟨_, T', cs', vs, h1, h2, h3, h4, h5⟩ := hI.row i b s hb
  rw [h] at h1; injection h1 with e1 e2; subst e1 e2
  refine ⟨vs, h2, h3, h4, h5, fun j y hy => ?_⟩
  rw [List.getElem?_take] at hy
  split at hy
  · simp only [World.cell?, h2]; simpa using hy
  · cases hy

/-- More names, none of them made yet. -/
theorem InvH.more (hI : InvH w ρ H nx) (h : nx ≤ nx') : InvH w ρ H nx' :=
  ⟨hI.glob, hI.inj, fun i b s hi => ⟨Nat.lt_of_lt_of_le (hI.row i b s hi).1 h, (hI.row i b s hi).2⟩, fun i hi => ⟨Nat.lt_of_lt_of_le (hI.dead i hi).1 h, (hI.dead i hi).2⟩, fun i b s hi => ⟨Nat.lt_of_lt_of_le (hI.far i b s hi).1 h, (hI.far i b s hi).2⟩⟩

theorem FE.more (h : nx ≤ nx') : FE w ρ H nx w ρ H nx' := ⟨.refl, fun _ _ h => ⟨h, rfl⟩, h, fun _ _ h => ⟨rfl, h⟩, Nat.le_refl _, rfl, rfl, rfl⟩

/-- A block that is not made yet may hold anything. -/
theorem InvH.put_no (hI : InvH w ρ H nx) {i : Nat} {b : Blk} (hi : i < 1073741824) (hn : ρ i = .no) : InvH w ρ (H.put i b) nx := by
  refine ⟨hI.glob, hI.inj, fun j c s hj => ?_, fun j hj => ?_, fun j c s hj => ?_⟩
  rotate_left 2
  · have hne : j ≠ i := fun e => by subst e; rw [hn] at hj; cases hj
    rw [Heap.at_put hi, if_neg hne]; exact hI.far j c s hj
  · obtain ⟨h1, T, cs, vs, h2, h3⟩ := hI.row j c s hj
    have hne : j ≠ i := fun e => by subst e; rw [hn] at hj; cases hj
    exact ⟨h1, T, cs, vs, by rw [Heap.at_put hi, if_neg hne]; exact h2, h3⟩
  · have hne : j ≠ i := fun e => by subst e; rw [hn] at hj; cases hj
    rw [Heap.at_put hi, if_neg hne]; exact hI.dead j hj

def Map.put (ρ : Map) (i : Nat) (l : Loc) : Map := fun j => if j = i then l else ρ j
theorem Map.put_at (ρ : Map) (i : Nat) (l : Loc) : (ρ.put i l) i = l := by simp [Map.put]
theorem Map.put_ne (ρ : Map) {i j : Nat} (l : Loc) (h : j ≠ i) : (ρ.put i l) j = ρ j := by simp [Map.put, h]

theorem Ext.put_no {i : Nat} {l : Loc} (hn : ρ i = .no) : Ext ρ (ρ.put i l) :=
  ⟨fun j b s hj => .inl (by rw [Map.put_ne ρ l (fun e => by subst e; rw [hn] at hj; cases hj)]; exact hj), fun j hj => by rw [Map.put_ne ρ l (fun e => by subst e; rw [hn] at hj; cases hj)]; exact hj, fun j b s hj => by rw [Map.put_ne ρ l (fun e => by subst e; rw [hn] at hj; cases hj)]; exact hj⟩

/-- A new block for a name that has none yet: what it holds is what the name says. -/
theorem InvH.make (hI : InvH w ρ H nx) {i : Nat} {T : TypeId} {cs : List AV} {vs : Array Value} (hi : i < nx) (hn : ρ i = .no) (hH : H.at i = .row T cs) (hl : cs.length ≤ vs.size) (hc : CRs ρ cs (vs.toList.take cs.length)) :
    InvH { w with heap := w.heap.push (.cells vs T (0, 0)) } (ρ.put i (.at w.heap.size vs.size)) H nx := by
  have hx : Ext ρ (ρ.put i (.at w.heap.size vs.size)) := .put_no hn
  refine ⟨hI.glob.ext hx, fun j k b s s' hj hk => ?_, fun j b s hj => ?_, fun j hj => ?_, fun j b s hj => ?_⟩
  rotate_left 3
  · have e1 : j ≠ i := fun e => by subst e; rw [Map.put_at] at hj; cases hj
    rw [Map.put_ne ρ _ e1] at hj
    exact hI.far j b s hj
  · by_cases e1 : j = i
    · by_cases e2 : k = i
      · rw [e1, e2]
      · subst e1
        rw [Map.put_at] at hj; rw [Map.put_ne ρ _ e2] at hk
        injection hj with hj _; subst hj
        have := hI.lt hk; omega
    · by_cases e2 : k = i
      · subst e2
        rw [Map.put_at] at hk; rw [Map.put_ne ρ _ e1] at hj
        injection hk with hk _; subst hk
        have := hI.lt hj; omega
      · rw [Map.put_ne ρ _ e1] at hj; rw [Map.put_ne ρ _ e2] at hk
        exact hI.inj j k b s s' hj hk
  · by_cases e1 : j = i
    · subst e1
      rw [Map.put_at] at hj
      injection hj with h1 h2; subst h1 h2
      exact ⟨hi, T, cs, vs, hH, by simp, rfl, hl, hc.ext hx⟩
    · rw [Map.put_ne ρ _ e1] at hj
      have hlt := hI.lt hj
      obtain ⟨h1, T', cs', vs', h2, h3, h4, h5, h6⟩ := hI.row j b s hj
      exact ⟨h1, T', cs', vs', h2, by simp only [Array.getElem?_push]; rw [if_neg (by omega)]; exact h3, h4, h5, h6.ext hx⟩
  · have e1 : j ≠ i := fun e => by subst e; rw [Map.put_at] at hj; cases hj
    rw [Map.put_ne ρ _ e1] at hj
    exact hI.dead j hj

/-- The old memory and what a new block does to it. -/
theorem FE.make {w0 : World} {ρ0 : Map} {H0 : Heap} {nx0 : Nat} (h : FE w0 ρ0 H0 nx0 w ρ H nx) {i : Nat} {T : TypeId} {vs : Array Value} (hi : nx0 ≤ i) (hn : ρ i = .no) :
    FE w0 ρ0 H0 nx0 { w with heap := w.heap.push (.cells vs T (0, 0)) } (ρ.put i (.at w.heap.size vs.size)) H nx := by
  refine ⟨h.ext.trans (.put_no hn), fun j hj hjn => ?_, h.nx, fun b hb hbn => ?_, by simp; have := h.size; omega, h.os, h.tape, h.output⟩
  · obtain ⟨h1, h2⟩ := h.no j hj hjn
    exact ⟨by rw [Map.put_ne ρ _ (by omega)]; exact h1, h2⟩
  · obtain ⟨h1, h2⟩ := h.old b hb hbn
    have hs := h.size
    refine ⟨by simp only [Array.getElem?_push]; rw [if_neg (by omega)]; exact h1, fun j s => ?_⟩
    by_cases e1 : j = i
    · subst e1; rw [Map.put_at]; intro e; injection e with e _; omega
    · rw [Map.put_ne ρ _ e1]; exact h2 j s
end
end Go.Bm
/-
  THE SECOND MACHINE: tables of the program; operations that change nothing, as a program.
-/
namespace Go.Bm
open Go
open Go.Am (Sc evalPure evalPure_run szO aggO zeroO fieldO arrO sliceO intBin shiftBin isShift run_szO run_aggO intBin_sound shiftBin_sound)

/-- The program's tables, quick to look into. -/
structure Tbl where
  und : TypeId → Option TypeDesc
  size : TypeId → Option Nat
  bytes : TypeId → Option Nat
  zero : TypeId → Option (List Value)
  fn : FuncId → Option Func

structure Tbl.ok (K : Tbl) (P : Program) : Prop where
  und : ∀ T d, K.und T = some d → P.underlying T = some d
  size : ∀ T n, K.size T = some n → szO P T = some n
  bytes : ∀ T n, K.bytes T = some n → (P.info? T).map (·.bytes) = some n
  zero : ∀ T z, K.zero T = some z → zeroO P T = some z
  fn : ∀ f x, K.fn f = some x → P.funcs[f]? = some x ∧ x.name ≠ "runtime.NumGoroutine"

/-- A frame's slots: those that were written in this region, the newest first; the others. Of the others only those that the mask has. -/
structure Env where
  mask : Nat
  log : List (Nat × AV)
  base : Tr AV

noncomputable def tb (m t : Nat) : Bool := Nat.beq (Nat.land (Nat.shiftRight m t) (nat_lit 1)) (nat_lit 1)

noncomputable def look (t : Nat) (l : List (Nat × AV)) (d : Option AV) : Option AV :=
  List.rec (motive := fun _ => Option AV) d (fun q _ ih => Bool.rec (motive := fun _ => Option AV) ih (some q.2) (Nat.beq q.1 t)) l

noncomputable def Env.get (e : Env) (t : Nat) : Option AV :=
  Env.rec (motive := fun _ => Option AV) (fun m l b => look t l (Bool.rec (motive := fun _ => Option AV) none (b.getR t) (tb m t))) e

noncomputable def Env.put (e : Env) (t : Nat) (v : AV) : Env := Env.rec (motive := fun _ => Env) (fun m l b => ⟨m, (t, v) :: l, b⟩) e

theorem Env.get_put (e : Env) (t t' : Nat) (v : AV) : (e.put t v).get t' = if t' = t then some v else e.get t' := by
  show Bool.rec (motive := fun _ => Option AV) (e.get t') (some v) (Nat.beq t t') = _
  by_cases h : t' = t
  · subst h; rw [Nat.beq_refl, if_pos rfl]
  · rw [if_neg h]
    cases hb : Nat.beq t t' with
    | false => rfl
    | true => exact absurd (Nat.eq_of_beq_eq_true hb).symm h

/-- What was written goes to the others (what the mask has not is forgotten). -/
noncomputable def flushL (mask : Nat) (l : List (Nat × AV)) (b : Tr AV) : Tr AV :=
  List.rec (motive := fun _ => Tr AV) b (fun q _ ih => Bool.rec (motive := fun _ => Tr AV) ih (Tr.setR q.2 (nat_lit 40) ih q.1) (tb mask q.1)) l

noncomputable def Env.flush (e : Env) : Env :=
  Env.rec (motive := fun _ => Env) (fun m l b0 => Tr.rec (motive := fun _ => Env) ⟨m, [], .e⟩ (fun a b c _ _ => ⟨m, [], .n a b c⟩) (flushL m l b0)) e

theorem flush_eq (e : Env) : e.flush = ⟨e.mask, [], flushL e.mask e.log e.base⟩ := by
  cases e with | mk m l b0 =>
  show Tr.rec (motive := fun _ => Env) ⟨m, [], .e⟩ (fun a b c _ _ => ⟨m, [], .n a b c⟩) (flushL m l b0) = _
  cases h : flushL m l b0 <;> rfl

theorem flush_get (e : Env) (hs : ∀ q ∈ e.log, q.1 < 1073741824) (t : Nat) : e.flush.get t = none ∨ e.flush.get t = e.get t := by
  rw [flush_eq]
  obtain ⟨mask, log, base⟩ := e
  show Bool.rec (motive := fun _ => Option AV) none ((flushL mask log base).getR t) (tb mask t) = none ∨ Bool.rec (motive := fun _ => Option AV) none ((flushL mask log base).getR t) (tb mask t) = look t log (Bool.rec (motive := fun _ => Option AV) none (base.getR t) (tb mask t))
  cases hm : tb mask t with
  | false => exact .inl rfl
  | true =>
    right
    show (flushL mask log base).getR t = look t log (base.getR t)
    simp only at hs
    induction log with
    | nil => rfl
    | cons q l ih =>
      have ih := ih (fun x hx => hs x (by simp [hx]))
      show (Bool.rec (motive := fun _ => Tr AV) (flushL mask l base) (Tr.setR q.2 40 (flushL mask l base) q.1) (tb mask q.1)).getR t = Bool.rec (motive := fun _ => Option AV) (look t l (base.getR t)) (some q.2) (Nat.beq q.1 t)
      have hq := hs q (by simp)
      by_cases hqt : q.1 = t
      · subst hqt
        rw [hm, Nat.beq_refl]
        show (Tr.setR q.2 40 _ q.1).getR q.1 = some q.2
        rw [getR_eq, setR_eq, Tr.get_set q.2 40 _ _ _ (by omega), if_pos rfl]
      · have hb : Nat.beq q.1 t = false := by
          cases hb : Nat.beq q.1 t with
          | false => rfl
          | true => exact absurd (Nat.eq_of_beq_eq_true hb) hqt
        rw [hb]
        cases tb mask q.1 with
        | false => exact ih
        | true =>
          show (Tr.setR q.2 40 _ q.1).getR t = _
          rw [getR_eq, setR_eq, Tr.get_set q.2 40 _ _ _ (by omega), if_neg (fun e => hqt e.symm), ← getR_eq]
          exact ih

noncomputable def ofC : Value → AV
  | .bool x => .s (.b x)
  | .int k n => .s (.i k n)
  | .float k n => .s (.fl k n)
  | .complex k re im => .s (.cx k re im)
  | .string x => .s (.str x)
  | .pointer none => .s .pn
  | .slice none 0 0 => .s .sn
  | .nilFunc => .s .fz
  | _ => .u

noncomputable def ofV : Value → AV
  | .agg cs => .a (cs.toList.map ofC)
  | .tuple cs => .t (cs.toList.map ofC)
  | v => ofC v

section
variable {ρ : Map}
theorem CR_ofC (v : Value) : CR ρ (ofC v) v := by
  unfold ofC
  split <;> first | exact .s (.b _) | exact .s (.i _ _) | exact .s (.fl _ _) | exact .s (.cx _ _ _) | exact .s (.str _) | exact .s .pn | exact .s .sn | exact .s .fz | exact .u _
theorem CRs_ofC : ∀ vs : List Value, CRs ρ (vs.map ofC) vs
  | [] => .nil
  | v :: vs => .cons _ _ _ _ (CR_ofC v) (CRs_ofC vs)
theorem CR_ofV (v : Value) : CR ρ (ofV v) v := by
  unfold ofV
  split
  · exact .a _ _ (CRs_ofC _)
  · exact .t _ _ (CRs_ofC _)
  · exact CR_ofC _
end

noncomputable def toSc : List AV → Option (List Value)
  | [] => some []
  | .s x :: xs => (toSc xs).map (x.val :: ·)
  | _ => none

noncomputable def toV : AV → Option Value
  | .s x => some x.val
  | .a cs => (toSc cs).map fun l => .agg l.toArray
  | _ => none

section
variable {ρ : Map}
theorem toSc_CR {xs : List AV} {l vs : List Value} (h : toSc xs = some l) (hc : CRs ρ xs vs) : vs = l := by
  induction xs generalizing l vs with
  | nil => cases hc; simp [toSc] at h; exact h.symm
  | cons x xs ih =>
    cases hc with
    | cons _ v _ vs h1 h2 =>
      cases x <;> simp only [toSc, Option.map_eq_some_iff, reduceCtorEq] at h
      obtain ⟨l', hl, rfl⟩ := h
      cases h1
      rw [ih hl h2]
theorem toV_CR {x : AV} {v v' : Value} (h : toV x = some v) (hc : CR ρ x v') : v' = v := by
  cases x <;> simp only [toV, Option.some.injEq, Option.map_eq_some_iff, reduceCtorEq] at h
  · subst h; cases hc; rfl
  · obtain ⟨l, hl, rfl⟩ := h
    cases hc with | a cs vs hcs => rw [toSc_CR hl hcs]
end

noncomputable def aggK (K : Tbl) (T : TypeId) : Option Bool :=
  match K.und T with
  | some (.struct _) | some (.array ..) => some true
  | some _ => some false
  | none => none
noncomputable def fieldK (K : Tbl) (T : TypeId) (f : Nat) : Option Field :=
  match K.und T with
  | some (.struct fs) => fs[f]?
  | _ => none
noncomputable def arrK (K : Tbl) (T : TypeId) : Option (Nat × TypeId) :=
  match K.und T with
  | some (.array n e) => some (n, e)
  | _ => none
noncomputable def sliceK (K : Tbl) (T : TypeId) : Option TypeId :=
  match K.und T with
  | some (.slice e) => some e
  | _ => none

section
variable {K : Tbl} {P : Program} (hK : K.ok P)
include hK
theorem aggK_ok {T : TypeId} {b : Bool} (h : aggK K T = some b) : aggO P T = some b := by
  unfold aggK at h
  unfold aggO
  split at h
  · rename_i fs hu; rw [hK.und _ _ hu]; exact h
  · rename_i n e hu; rw [hK.und _ _ hu]; exact h
  · rename_i d h1 h2 hu
    rw [hK.und _ _ hu]
    cases d <;> first | exact h | (exact absurd rfl (h1 _)) | (exact absurd rfl (h2 _ _))
  · cases h
theorem fieldK_ok {T : TypeId} {f : Nat} {fd : Field} (h : fieldK K T f = some fd) : ∃ fs, P.underlying T = some (.struct fs) ∧ fs[f]? = some fd := by
  unfold fieldK at h
  split at h
  · rename_i fs hu; exact ⟨fs, hK.und _ _ hu, h⟩
  · cases h
theorem arrK_ok {T : TypeId} {n : Nat} {e : TypeId} (h : arrK K T = some (n, e)) : P.underlying T = some (.array n e) := by
  unfold arrK at h
  split at h
  · rename_i n e hu; simp at h; obtain ⟨rfl, rfl⟩ := h; exact hK.und _ _ hu
  · cases h
theorem sliceK_ok {T : TypeId} {e : TypeId} (h : sliceK K T = some e) : P.underlying T = some (.slice e) := by
  unfold sliceK at h
  split at h
  · rename_i e hu; simp at h; subst h; exact hK.und _ _ hu
  · cases h
end

/-- A part of some cells, as a value of a type. -/
noncomputable def partK (K : Tbl) (T : TypeId) (cs : List AV) (off : Nat) : Option AV :=
  match aggK K T with
  | some true => match K.size T with
    | some n => if off + n ≤ cs.length then some (.a ((cs.drop off).take n)) else none
    | none => none
  | some false => cs[off]?
  | none => none

section
variable {K : Tbl} {P : Program} (hK : K.ok P) {w : World} {ρ : Map}
include hK
theorem partK_sound {T : TypeId} {cs : List AV} {vs : List Value} {off : Nat} {x : AV} (h : partK K T cs off = some x) (hc : CRs ρ cs vs) :
    ∃ v, (part T vs.toArray off).run P w = .ok v w ∧ CR ρ x v := by
  unfold partK at h
  split at h
  · rename_i ha
    split at h
    rotate_left
    · cases h
    rename_i n hs
    split at h <;> simp at h
    subst h
    refine ⟨.agg (vs.toArray.extract off (off + n)), by simp [part, run_aggO (aggK_ok hK ha), run_szO (hK.size _ _ hs)], ?_⟩
    have e : (vs.toArray.extract off (off + n)) = ((vs.drop off).take n).toArray := by
      rw [List.extract_toArray, List.extract_eq_take_drop]
      congr 2
      omega
    rw [e]; exact .a _ _ ((hc.drop off).take n)
  · rename_i ha
    obtain ⟨v, hv, hcr⟩ := hc.get h
    exact ⟨v, by simp [part, run_aggO (aggK_ok hK ha), hv], hcr⟩
  · cases h

theorem loadVar_sound {T : TypeId} {ad : Addr} {cs : List AV} {vs : List Value} {x : AV} (h : partK K T cs 0 = some x) (hc : CRs ρ cs vs)
    (hm : ∀ j y, vs[j]? = some y → w.cell? (ad.add j) = some y) : ∃ v, (loadVar T ad).run P w = .ok v w ∧ CR ρ x v := by
  unfold partK at h
  split at h
  · rename_i ha
    split at h
    rotate_left
    · cases h
    rename_i n hs
    split at h <;> simp at h
    subst h
    rename_i hle
    have hl : (vs.take n).length = n := by have := hc.length; simp; omega
    have h1 := run_loadCells_list (P := P) (w := w) ad (vs.take n) (fun j v hv => hm j v (by
      rw [List.getElem?_take] at hv; split at hv <;> simp_all))
    rw [hl] at h1
    exact ⟨.agg (vs.take n).toArray, by simp [loadVar, run_aggO (aggK_ok hK ha), run_szO (hK.size _ _ hs), h1], .a _ _ (hc.take n)⟩
  · rename_i ha
    obtain ⟨v, hv, hcr⟩ := hc.get h
    refine ⟨v, ?_, hcr⟩
    have := hm 0 v hv
    have e : ad.add 0 = ad := by simp [Addr.add]
    rw [e] at this
    simp [loadVar, run_aggO (aggK_ok hK ha), this]
  · cases h
end

noncomputable def rd (env : Env) : Operand → AV
  | .tmp t => Option.rec (motive := fun _ => AV) .u (fun v => v) (env.get t)
  | .const v => ofV v
  | .global g => bif Nat.blt g 16 then .p g 0 else .u
  | .func f => .f f [] []

noncomputable def idx (x : AV) (n : Nat) : Option Nat :=
  match x with
  | .s (.i _ (.ofNat i)) => bif Nat.blt i n then some i else none
  | _ => none

noncomputable def scVal (P : Program) (s : Sem Value) : Option AV := (evalPure P s).map ofV

noncomputable def lim : IntKind → Nat
  | .i8 => 128 | .i16 => 32768 | .i32 => 2147483648 | .i64 => 9223372036854775808 | .u8 => 256 | .u16 => 65536 | .u32 => 4294967296 | .u64 => 18446744073709551616

theorem wrap_lim {k : IntKind} {m : Nat} (h : m < lim k) : k.wrap (Int.ofNat m) = Int.ofNat m := by
  cases k <;> simp only [lim] at h <;> simp only [IntKind.wrap, IntKind.bits, IntKind.signed, Int.ofNat_eq_natCast] <;> (first | (simp; omega) | (rw [if_neg]; omega; simp; omega))

noncomputable def wrapF (k : IntKind) (n : Int) : Int :=
  match n with
  | .ofNat m => bif Nat.blt m (lim k) then .ofNat m else k.wrap (.ofNat m)
  | n => k.wrap n

theorem wrapF_eq (k : IntKind) (n : Int) : wrapF k n = k.wrap n := by
  unfold wrapF
  split
  · rename_i m
    cases h : Nat.blt m (lim k) with
    | false => rfl
    | true => exact (wrap_lim (by simpa [Nat.blt_eq] using h)).symm
  · rfl

noncomputable def kidx : IntKind → Nat
  | .i8 => 0 | .i16 => 1 | .i32 => 2 | .i64 => 3 | .u8 => 4 | .u16 => 5 | .u32 => 6 | .u64 => 7

theorem kidx_inj {k k' : IntKind} (h : Nat.beq (kidx k) (kidx k') = true) : k = k' := by cases k <;> cases k' <;> first | rfl | (simp [kidx, Nat.beq] at h)

noncomputable def okN (k : IntKind) (r : Nat) : Option Sc := bif Nat.blt r (lim k) then some (.i k (.ofNat r)) else none
noncomputable def okB (b : Bool) : Option Sc := some (.b b)

/-- Two small numbers, quick. -/
noncomputable def fastB (op : BinOp) (k : IntKind) (m n : Nat) : Option Sc :=
  match op with
  | .add => okN k (Nat.add m n)
  | .sub => bif Nat.ble n m then okN k (Nat.sub m n) else none
  | .mul => okN k (Nat.mul m n)
  | .eql => okB (Nat.beq m n)
  | .neq => okB (Bool.not (Nat.beq m n))
  | .lss => okB (Nat.blt m n)
  | .leq => okB (Nat.ble m n)
  | .gtr => okB (Nat.blt n m)
  | .geq => okB (Nat.ble n m)
  | _ => none

theorem okN_spec {k : IntKind} {r : Nat} {s : Sc} (h : okN k r = some s) : s = .i k (k.wrap (Int.ofNat r)) := by
  unfold okN at h
  cases hb : Nat.blt r (lim k) with
  | false => rw [hb] at h; cases h
  | true =>
    rw [hb] at h
    simp only [cond_true, Option.some.injEq] at h
    rw [wrap_lim (by simpa [Nat.blt_eq] using hb)]; exact h.symm

theorem blt_dec (m n : Nat) : Nat.blt m n = decide ((m : Int) < (n : Int)) := by
  cases h : Nat.blt m n with
  | true => have h : m < n := by simpa [Nat.blt_eq] using h
            simp [h]
  | false => have h : ¬ m < n := fun h' => by rw [show Nat.blt m n = true by simpa [Nat.blt_eq] using h'] at h; cases h
             simp; omega
theorem ble_dec (m n : Nat) : Nat.ble m n = decide ((m : Int) ≤ (n : Int)) := by
  cases h : Nat.ble m n with
  | true => have h := Nat.le_of_ble_eq_true h
            simp [h]
  | false => have h : ¬ m ≤ n := fun h' => by rw [Nat.ble_eq_true_of_le h'] at h; cases h
             simp; omega
theorem beq_dec (m n : Nat) : Nat.beq m n = ((m : Int) == (n : Int)) := by
  cases h : Nat.beq m n with
  | true => have h := Nat.eq_of_beq_eq_true h
            simp [h]
  | false => have h : ¬ m = n := fun h' => by rw [h', Nat.beq_refl] at h; cases h
             simp; omega

theorem fastB_spec {op : BinOp} {k : IntKind} {m n : Nat} {s : Sc} (h : fastB op k m n = some s) : isShift op = false ∧ intBin op k (Int.ofNat m) (Int.ofNat n) = some s := by
  unfold fastB at h
  split at h
  · exact ⟨rfl, by rw [okN_spec h]; rfl⟩
  · cases hb : Nat.ble n m with
    | false => rw [hb] at h; cases h
    | true =>
      rw [hb] at h
      simp only [cond_true] at h
      have := Nat.le_of_ble_eq_true hb
      refine ⟨rfl, ?_⟩
      rw [okN_spec h]
      show some (Sc.i k (k.wrap (Int.ofNat m - Int.ofNat n))) = some (Sc.i k (k.wrap (Int.ofNat (m - n))))
      congr 3
      simp only [Int.ofNat_eq_natCast]; omega
  · refine ⟨rfl, ?_⟩
    rw [okN_spec h]
    rfl
  · simp only [okB, Option.some.injEq] at h; subst h; exact ⟨rfl, by simp only [intBin, Int.ofNat_eq_natCast, beq_dec]⟩
  · simp only [okB, Option.some.injEq] at h; subst h; exact ⟨rfl, by simp only [intBin, Int.ofNat_eq_natCast, beq_dec, bne]⟩
  · simp only [okB, Option.some.injEq] at h; subst h; exact ⟨rfl, by simp only [intBin, Int.ofNat_eq_natCast, blt_dec]⟩
  · simp only [okB, Option.some.injEq] at h; subst h; exact ⟨rfl, by simp only [intBin, Int.ofNat_eq_natCast, ble_dec]⟩
  · simp only [okB, Option.some.injEq] at h; subst h; exact ⟨rfl, by simp only [intBin, Int.ofNat_eq_natCast, blt_dec, gt_iff_lt]⟩
  · simp only [okB, Option.some.injEq] at h; subst h; exact ⟨rfl, by simp only [intBin, Int.ofNat_eq_natCast, ble_dec, ge_iff_le]⟩
  · cases h

/-- Shifts of small numbers, quick. -/
noncomputable def fastS (op : BinOp) (k : IntKind) (m n : Nat) : Option Sc :=
  match op with
  | .shl => bif Nat.blt n k.bits then okN k (Nat.mul m (Nat.pow (nat_lit 2) n)) else none
  | .shr => bif Nat.blt n k.bits then some (.i k (.ofNat (Nat.div m (Nat.pow (nat_lit 2) n)))) else none
  | _ => none

theorem fastS_spec {op : BinOp} {k : IntKind} {m n : Nat} {s : Sc} (h : fastS op k m n = some s) : isShift op = true ∧ shiftBin op k (Int.ofNat m) (Int.ofNat n) = some s := by
  unfold fastS at h
  have hneg : ¬ (Int.ofNat n < 0) := by simp only [Int.ofNat_eq_natCast]; omega
  split at h
  · cases hb : Nat.blt n k.bits with
    | false => rw [hb] at h; cases h
    | true =>
      rw [hb] at h
      simp only [cond_true] at h
      have hlt : n < k.bits := by simpa [Nat.blt_eq] using hb
      refine ⟨rfl, ?_⟩
      rw [okN_spec h]
      unfold shiftBin
      rw [if_neg hneg]
      simp only [Int.ofNat_eq_natCast, Int.toNat_natCast, Nat.min_eq_left (Nat.le_of_lt hlt)]
      have e : (m : Int) * 2 ^ n = ((m * 2 ^ n : Nat) : Int) := by rw [Int.natCast_mul, Int.natCast_pow]; rfl
      rw [e]; rfl
  · cases hb : Nat.blt n k.bits with
    | false => rw [hb] at h; cases h
    | true =>
      rw [hb] at h
      simp only [cond_true, Option.some.injEq] at h
      have hlt : n < k.bits := by simpa [Nat.blt_eq] using hb
      refine ⟨rfl, ?_⟩
      subst h
      unfold shiftBin
      rw [if_neg hneg]
      simp only [Int.ofNat_eq_natCast, Int.toNat_natCast, Nat.min_eq_left (Nat.le_of_lt hlt)]
      congr 2
      show (m : Int).fdiv (2 ^ n) = ((m / 2 ^ n : Nat) : Int)
      rw [Int.fdiv_eq_ediv_of_nonneg _ (by exact_mod_cast Nat.zero_le (2 ^ n))]
      rfl
  · cases h

def nilCmp (op : BinOp) : Option AV :=
  match op with
  | .eql => some (.s (.b false))
  | .neq => some (.s (.b true))
  | _ => none

noncomputable def binI0 (op : BinOp) (k : IntKind) (m : Int) (k' : IntKind) (n : Int) : Option AV :=
  if isShift op then (shiftBin op k m n).map .s
  else if k = k' then (intBin op k m n).map .s else none

noncomputable def binN (op : BinOp) (k : IntKind) (m : Nat) (k' : IntKind) (n : Nat) : Option AV :=
  match fastS op k m n with
  | some s => some (.s s)
  | none => bif Nat.beq (kidx k) (kidx k') then (match fastB op k m n with
    | some s => some (.s s)
    | none => binI0 op k (.ofNat m) k' (.ofNat n)) else binI0 op k (.ofNat m) k' (.ofNat n)

noncomputable def binI (op : BinOp) (k : IntKind) (m : Int) (k' : IntKind) (n : Int) : Option AV :=
  match m, n with
  | .ofNat m, .ofNat n => binN op k m k' n
  | m, n => binI0 op k m k' n

theorem binI_eq {op : BinOp} {k k' : IntKind} {m n : Int} {r : AV} (h : binI op k m k' n = some r) : binI0 op k m k' n = some r := by
  unfold binI at h
  split at h
  · rename_i m n
    unfold binN at h
    split at h
    · rename_i s hs
      obtain ⟨h1, h2⟩ := fastS_spec hs
      unfold binI0
      rw [if_pos h1, h2]; exact h
    · cases hk : Nat.beq (kidx k) (kidx k') with
      | false => rw [hk] at h; exact h
      | true =>
        rw [hk] at h
        simp only [cond_true] at h
        split at h
        · rename_i s hs
          obtain ⟨h1, h2⟩ := fastB_spec hs
          unfold binI0
          rw [if_neg (by rw [h1]; simp), if_pos (kidx_inj hk), h2]; exact h
        · exact h
  · exact h

/-- A number and one that is at least so much. -/
noncomputable def gtG (op : BinOp) (k : IntKind) (m L : Nat) : Option AV :=
  match op, k with
  | .gtr, .i64 => bif Nat.ble m L then some (.s (.b false)) else none
  | _, _ => none

/-! ### A scalar in many lanes -/
noncomputable def laneI (k : IntKind) : List (Option AV) → Option (List Int)
  | [] => some []
  | some (.s (.i k' x)) :: r => bif Nat.beq (kidx k') (kidx k) then (match laneI k r with | some xs => some (x :: xs) | none => none) else none
  | _ => none
noncomputable def laneT (t : Bool) : List (Option AV) → Bool
  | [] => true
  | some (.s (.b t')) :: r => (t == t') && laneT t r
  | _ => false
/-- What comes out: one scalar where all lanes agree. -/
noncomputable def laneR (i : Nat) (l : List (Option AV)) : Option AV :=
  match l with
  | some (.s (.b t)) :: r => bif laneT t r then some (.s (.b t)) else none
  | some (.s (.i k x)) :: r => match laneI k r with
    | some xs => some (bif xs.all (fun y => decide (y = x)) then .s (.i k x) else .w i k (x :: xs))
    | none => none
  | _ => none
noncomputable def zipL (f : Int → Int → Option AV) : List Int → List Int → List (Option AV)
  | x :: xs, y :: ys => f x y :: zipL f xs ys
  | _, _ => []

noncomputable def binAV (K : Tbl) (P : Program) (H : Heap) (op : BinOp) (T : TypeId) (x y : Operand) (a b : AV) : Option AV :=
  match a, b with
  | .s (.i k m), .s (.i k' n) => binI op k m k' n
  | .p id _, .s .pn =>
    match H.at id, K.und T with
    | .row .., some (.pointer _) => nilCmp op
    | _, _ => none
  | .sl id _ _ _ _ _, .s .sn =>
    match H.at id, K.und T with
    | .row .., some (.slice _) => nilCmp op
    | _, _ => none
  | .z _, .s .sn =>
    match K.und T with
    | some (.slice _) => nilCmp op
    | _ => none
  | .s (.i k (.ofNat m)), .g L => gtG op k m L
  | .w i k l, .s (.i k' n) => laneR i (l.map fun m => binI op k m k' n)
  | .s (.i k m), .w i k' l => laneR i (l.map fun n => binI op k m k' n)
  | .w i k l, .w i' k' l' => bif Nat.beq i i' then laneR i (zipL (fun m n => binI op k m k' n) l l') else none
  | a, b =>
    match toV a, toV b with
    | some v, some u => scVal P (do eqGuard op T x y v u; binOp op T v u)
    | _, _ => none

noncomputable def lenAV (K : Tbl) (T : TypeId) (x : AV) : Option AV :=
  match K.und T, x with
  | some (.slice _), .s .sn => some (.s (.i .i64 0))
  | some (.slice _), .sl _ _ _ n _ _ => some (.s (.i .i64 n))
  | some (.slice _), .z _ => some (.s (.i .i64 0))
  | some .string, .s (.str s) => some (.s (.i .i64 s.size))
  | some (.array n _), _ => some (.s (.i .i64 n))
  | _, _ => none

noncomputable def capAV (K : Tbl) (T : TypeId) (x : AV) : Option AV :=
  match K.und T, x with
  | some (.slice _), .s .sn => some (.s (.i .i64 0))
  | some (.slice _), .sl _ _ _ _ c true => some (.s (.i .i64 c))
  | some (.slice _), .sl _ _ _ _ c false => some (.g c)
  | some (.slice _), .z true => some (.s (.i .i64 0))
  | _, _ => none

/-- A bound of a slice expression. -/
noncomputable def bnd (env : Env) (x : Option Operand) (dflt top : Nat) : Option Nat :=
  match x with
  | none => some dflt
  | some y => match rd env y with
    | .s (.i _ (.ofNat i)) => bif Nat.ble i top then some i else none
    | _ => none

/-- A part of a slice. -/
noncomputable def cutAV (env : Env) (id off sz n c : Nat) (ex : Bool) (lo hi mx : Option Operand) : Option AV :=
  match mx, hi with
  | some _, none => none
  | _, _ =>
    match bnd env mx c c with
    | some m => match bnd env hi n m with
      | some h => match bnd env lo 0 h with
        | some l =>
          if l < m then some (.sl id (off + l * sz) sz (h - l) (m - l) (ex || mx.isSome))
          else some (.z (ex || mx.isSome))
        | none => none
      | none => none
    | none => none

/-- A part of what is empty: were there three bounds? -/
noncomputable def zcut (env : Env) (lo hi mx : Option Operand) : Option Bool :=
  match mx, hi with
  | some _, none => none
  | _, _ =>
    match bnd env mx 0 0 with
    | some m => match bnd env hi 0 m with
      | some h => match bnd env lo 0 h with
        | some _ => some mx.isSome
        | none => none
      | none => none
    | none => none

noncomputable def sliceAV (K : Tbl) (T : TypeId) (x : AV) (lo hi mx : Option Operand) (env : Env) : Option AV :=
  match x with
  | .sl id off sz n c ex => match sliceK K T with
    | some e => match K.size e with | some sz' => bif Nat.beq sz' sz then cutAV env id off sz n c ex lo hi mx else none | none => none
    | none => none
  | _ => none

structure Fill where
  place : Nat → Option (Nat × Nat)

noncomputable def AV.cells? : AV → Option (List AV)
  | .a cs => some cs
  | .s x => some [.s x]
  | .p id off => some [.p id off]
  | .sl id off sz n c ex => some [.sl id off sz n c ex]
  | .z ex => some [.z ex]
  | .f fn fs cs => some [.f fn fs cs]
  | .w i k l => some [.w i k l]
  | _ => none

noncomputable def splice (cs : List AV) (off : Nat) (xs : List AV) : List AV := cs.take off ++ xs ++ cs.drop (off + xs.length)

noncomputable def fillAV (place : Nat → Option (Nat × Nat)) : List AV → List (Nat × AV) → Option (List AV)
  | cells, [] => some cells
  | cells, (i, v) :: rest =>
    match place i, v.cells? with
    | some (off, size), some vs => if vs.length = size ∧ off + size ≤ cells.length then fillAV place (splice cells off vs) rest else none
    | _, _ => none

noncomputable def placesK (K : Tbl) : List Field → Option (List (Nat × Nat))
  | [] => some []
  | f :: fs => match K.size f.type, placesK K fs with
    | some n, some l => some ((f.offset, n) :: l)
    | _, _ => none

noncomputable def buildAV (K : Tbl) (t : TypeId) (parts : List (Nat × AV)) : Option AV :=
  match K.und t, K.zero t with
  | some (.array _ e), some z =>
    match K.size e with
    | some n => (fillAV (fun i => some (i * n, n)) (z.map ofC) parts).map .a
    | none => none
  | some (.struct fields), some z =>
    match placesK K fields.toList with
    | some places => (fillAV (places[·]?) (z.map ofC) parts).map .a
    | none => none
  | _, _ => none

noncomputable def partsAV (env : Env) (parts : Array (Nat × Operand)) : List (Nat × AV) := parts.toList.map fun q => (q.1, rd env q.2)

noncomputable def loadAV (K : Tbl) (H : Heap) (T : TypeId) (x : AV) : Option AV :=
  match x with
  | .p id off => match H.at id with | .row _ cs => partK K T (cs.drop off) 0 | .dead => none
  | _ => none

/-- The cells of what is appended, or copied: how many elements, and these. -/
noncomputable def srcCells (H : Heap) (sz : Nat) (x : AV) : Option (Nat × List AV) :=
  match x with
  | .sl id off sz' n _ _ => match H.at id with
    | .row _ cs => if sz' = sz ∧ off + n * sz ≤ cs.length then some (n, (cs.drop off).take (n * sz)) else none
    | .dead => none
  | .s .sn => some (0, [])
  | .z _ => some (0, [])
  | _ => none

/-- Bytes. -/
noncomputable def u8s : List AV → Option (List Int)
  | [] => some []
  | .s (.i .u8 n) :: xs => match u8s xs with | some l => some (n :: l) | none => none
  | _ => none

/-- What bytes are as a string. -/
noncomputable def strOf (ns : List Int) : ByteArray := ns.foldl (fun r n => r.push (UInt8.ofNat n.toNat)) ByteArray.empty

noncomputable def convBytes (K : Tbl) (H : Heap) (T T' : TypeId) (x : AV) : Option AV :=
  match K.und T, K.und T' with
  | some (.slice e), some .string => match K.und e, srcCells H 1 x with
    | some (.int .u8), some (_, cs) => match u8s cs with
      | some ns => some (.s (.str (strOf ns)))
      | none => none
    | _, _ => none
  | _, _ => none

noncomputable def oPick (K : Tbl) (P : Program) (env : Env) (H : Heap) (c a b : Operand) : Option AV :=
  match rd env c with | .s (.b t) => some (if t then rd env a else rd env b) | _ => none

noncomputable def oNilCheck (K : Tbl) (P : Program) (env : Env) (H : Heap) (x : Operand) : Option AV :=
  match rd env x with
  | .p id off => match H.at id with | .row .. => some (.p id off) | .dead => none
  | .f fn fs cs => some (.f fn fs cs)
  | _ => none

noncomputable def oFieldAddr (K : Tbl) (P : Program) (env : Env) (H : Heap) (T : TypeId) (x : Operand) (f : Nat) : Option AV :=
  
  match fieldK K T f with
  | some fd => match K.size fd.type with
    | some (_ + 1) => match rd env x with
      | .p id off => match H.at id with | .row .. => some (.p id (off + fd.offset)) | .dead => none
      | _ => none
    | _ => none
  | none => none

noncomputable def oField (K : Tbl) (P : Program) (env : Env) (H : Heap) (T : TypeId) (x : Operand) (f : Nat) : Option AV :=
  
  match fieldK K T f, rd env x with
  | some fd, .a cs => partK K fd.type cs fd.offset
  | _, _ => none

noncomputable def oIndexAddr (K : Tbl) (P : Program) (env : Env) (H : Heap) (T : TypeId) (x i : Operand) : Option AV :=
  
  match rd env x with
  | .p id off => match arrK K T with
    | some (n, e) => match K.size e, idx (rd env i) n, H.at id with | some sz, some j, .row .. => some (.p id (off + j * sz)) | _, _, _ => none
    | none => none
  | .sl id off sz n c ex => match sliceK K T with
    | some e => match idx (rd env i) n, H.at id, K.size e with | some j, .row .., some sz' => bif Nat.beq sz' sz then some (.p id (off + j * sz)) else none | _, _, _ => none
    | none => none
  | _ => none

noncomputable def oIndex (K : Tbl) (P : Program) (env : Env) (H : Heap) (T : TypeId) (x i : Operand) : Option AV :=
  
  match rd env x with
  | .a cs => match arrK K T with
    | some (n, e) => match K.size e, idx (rd env i) n with | some sz, some j => partK K e cs (j * sz) | _, _ => none
    | none => none
  | .s (.str s) => match toV (rd env i) with | some v => scVal P (Instr.index T (.string s) v) | none => none
  | _ => none

noncomputable def oExtract (K : Tbl) (P : Program) (env : Env) (H : Heap) (x : Operand) (k : Nat) : Option AV :=
  match rd env x with | .t vs => vs[k]? | _ => none

noncomputable def oUnOp (K : Tbl) (P : Program) (env : Env) (H : Heap) (op : UnOp) (x : Operand) : Option AV :=
  match rd env x with
  | .s (.b t) => match op with | .not => some (.s (.b !t)) | _ => none
  | x => match toV x with | some v => scVal P (Op.unary op v) | none => none

noncomputable def oConvert (K : Tbl) (P : Program) (env : Env) (H : Heap) (T T' : TypeId) (x : Operand) : Option AV :=
  match rd env x with
  | .s (.i k n) => match K.und T, K.und T' with
    | some (.int _), some (.int k') => some (.s (.i k' (wrapF k' n)))
    | _, _ => scVal P (convert T T' (.int k n))
  | .sl id off sz n c ex => convBytes K H T T' (.sl id off sz n c ex)
  | .z ex => convBytes K H T T' (.z ex)
  | .w i k l => match K.und T, K.und T' with
    | some (.int _), some (.int k') => laneR i (l.map fun n => some (.s (.i k' (wrapF k' n))))
    | _, _ => none
  | x => match toV x with | some v => scVal P (convert T T' v) | none => none

noncomputable def oSliceToArrayPointer (K : Tbl) (P : Program) (env : Env) (H : Heap) (arr : TypeId) (x : Operand) : Option AV :=
  match rd env x, arrK K arr with
  | .sl id off sz n c ex, some (m, _) => match H.at id with
    | .row .. => if m ≤ n then some (.p id off) else none
    | .dead => none
  | _, _ => none

noncomputable def oSlice (K : Tbl) (P : Program) (env : Env) (H : Heap) (T : TypeId) (x : Operand) (lo hi mx : Option Operand) : Option AV :=
  
  match rd env x with
  | .s (.str s) => match mx with
    | some _ => none
    | none => match (lo.map fun y => toV (rd env y)), (hi.map fun y => toV (rd env y)) with
      | some none, _ => none
      | _, some none => none
      | lo', hi' => scVal P (Instr.sliceAt T (.string s) (lo'.bind id) (hi'.bind id) none)
  | .sl id off sz n c ex => match H.at id with
    | .row .. => sliceAV K T (.sl id off sz n c ex) lo hi mx env
    | .dead => none
  | .z ex => match sliceK K T with
    | some e => match K.size e, zcut env lo hi mx with
      | some _, some b => some (.z (ex || b))
      | _, _ => none
    | none => none
  | .s .sn => match sliceK K T with
    | some e => match K.size e, zcut env lo hi mx with
      | some _, some _ => some (.s .sn)
      | _, _ => none
    | none => none
  | .p id off => match arrK K T with
    | some (n, e) => match K.size e, H.at id with
      | some (sz + 1), .row T' cs => if off + n * (sz + 1) ≤ cs.length ∧ 0 < n ∧ n ≤ maxLen then cutAV env id off (sz + 1) n n true lo hi mx else none
      | _, _ => none
    | none => none
  | _ => none

noncomputable def oBuiltin (K : Tbl) (P : Program) (env : Env) (H : Heap) (b : Builtin) (args : Array Operand) (argTypes : Array TypeId) : Option AV :=
  match b, args.toList, argTypes.toList with
  | .len, [x], [T] => match rd env x with
    | .sl id off sz n c ex => match H.at id with | .row .. => lenAV K T (.sl id off sz n c ex) | .dead => none
    | v => lenAV K T v
  | .cap, [x], [T] => match rd env x with
    | .sl id off sz n c ex => match H.at id with | .row .. => capAV K T (.sl id off sz n c ex) | .dead => none
    | v => capAV K T v
  | .min, [x, y], _ => match rd env x, rd env y with
    | .s (.i k a), .s (.i k' b) => some (.s (.i k (if b < a then b else a)))
    | _, _ => none
  | _, _, _ => none

/-- The operations that change nothing. -/
noncomputable def opL (K : Tbl) (P : Program) (env : Env) (H : Heap) (o : Op) : Option AV :=
  match o with
  | .move x | .assign x => some (rd env x)
  | .pick c a b => oPick K P env H c a b
  | .nilCheck x => oNilCheck K P env H x
  | .load T x => loadAV K H T (rd env x)
  | .fieldAddr T x f => oFieldAddr K P env H T x f
  | .field T x f => oField K P env H T x f
  | .indexAddr T x i => oIndexAddr K P env H T x i
  | .index T x i => oIndex K P env H T x i
  | .extract x k => oExtract K P env H x k
  | .binOp op T x y _ => binAV K P H op T x y (rd env x) (rd env y)
  | .unOp op _ x => oUnOp K P env H op x
  | .convert T T' x => oConvert K P env H T T' x
  | .makeFunc (.func f) fs cs => some (.f f (fs.toList.map (rd env)) (cs.toList.map (rd env)))
  | .build t parts => buildAV K t (partsAV env parts)
  | .sliceToArrayPointer arr x => oSliceToArrayPointer K P env H arr x
  | .slice T x lo hi mx => oSlice K P env H T x lo hi mx
  | .call { callee := .builtin b, args, argTypes } => oBuiltin K P env H b args argTypes
  | _ => none

end Go.Bm
/-
  THE SECOND MACHINE: the operations that change nothing are sound.
-/
namespace Go.Bm
open Go
open Go.Am (Sc evalPure evalPure_run szO aggO zeroO intBin shiftBin isShift run_szO run_aggO intBin_sound shiftBin_sound sureAddr_run fieldPlace_run indexAt_arr indexAt_slice foldl_set zeroO_run add_eq)

section
variable {K : Tbl} {P : Program} (hK : K.ok P) {w : World} {ρ : Map} {H : Heap} {nx : Nat}

theorem p_inv (hI : InvH w ρ H nx) {id off : Nat} {T : TypeId} {cs : List AV} (hH : H.at id = .row T cs) {v : Value} (h : CR ρ (.p id off) v) : ∃ b s, ρ id = .at b s ∧ v = .pointer (some ⟨b, off, none⟩) := by
  cases h with
  | p _ _ b s h => exact ⟨b, s, hI.alive' hH h, rfl⟩
  | pd _ _ _ h _ => exact absurd h (hI.alive hH)

theorem sl_inv (hI : InvH w ρ H nx) {id off sz n c : Nat} {ex : Bool} {T : TypeId} {cs : List AV} (hH : H.at id = .row T cs) {v : Value} (h : CR ρ (.sl id off sz n c ex) v) :
    ∃ b bs cap, ρ id = .at b bs ∧ v = .slice (some ⟨b, off, none⟩) n cap ∧ n ≤ c ∧ c ≤ cap ∧ (ex = true → cap = c) ∧ cap ≤ maxLen ∧ off + cap * sz ≤ bs ∧ 0 < sz := by
  cases h with
  | sl _ _ _ _ _ _ b bs cap h h1 h2 h3 h4 h5 h6 => exact ⟨b, bs, cap, hI.alive' hH h, rfl, h1, h2, h3, h4, h5, h6⟩
  | sld _ _ _ _ _ _ _ h _ => exact absurd h (hI.alive hH)

theorem scVal_sound {s : Sem Value} {x : AV} (h : scVal P s = some x) : ∃ v, s.run P w = .ok v w ∧ CR ρ x v := by
  unfold scVal at h
  simp only [Option.map_eq_some_iff] at h
  obtain ⟨v, hv, rfl⟩ := h
  exact ⟨v, evalPure_run hv w, CR_ofV v⟩

theorem idx_sound {x : AV} {v : Value} {n j : Nat} (h : idx x n = some j) (hx : CR ρ x v) : ∃ k i, v = .int k i ∧ 0 ≤ i ∧ i < n ∧ j = i.toNat := by
  unfold idx at h
  split at h
  · rename_i k i
    cases hb : Nat.blt i n with
    | false => rw [hb] at h; cases h
    | true =>
      rw [hb] at h
      simp only [cond_true, Option.some.injEq] at h
      cases hx
      have : i < n := by simpa [Nat.blt_eq] using hb
      exact ⟨k, i, rfl, Int.natCast_nonneg i, by simpa using this, by simpa using h.symm⟩
  · cases h

theorem nilCmp_slice {op : BinOp} {T e : TypeId} {r : AV} (hu : P.underlying T = some (.slice e)) (h : nilCmp op = some r) (x y : Operand) (ad : Addr) (n c : Nat) :
    ∃ q, (do eqGuard op T x y (.slice (some ad) n c) (.slice none 0 0); binOp op T (.slice (some ad) n c) (.slice none 0 0) : Sem Value).run P w = .ok q w ∧ CR ρ r q := by
  have h0 : (Op.equal T (.slice (some ad) n c) (.slice none 0 0)).run P w = .ok false w := by
    show (Op.equalIn (9999 + 1) T _ _).run P w = _
    unfold Op.equalIn
    simp [run_underlying hu]
  unfold nilCmp at h
  split at h <;> simp at h <;> subst h
  · refine ⟨.bool false, ?_, .s (.b false)⟩
    have hg : (eqGuard .eql T x y (.slice (some ad) n c) (.slice none 0 0)).run P w = .ok () w := by simp [eqGuard]
    rw [Sem.run_bind, hg, Result.andThen_ok]
    simp only [binOp, Sem.run_bind, h0, Result.andThen_ok, Sem.run_pure]
  · refine ⟨.bool true, ?_, .s (.b true)⟩
    have hg : (eqGuard .neq T x y (.slice (some ad) n c) (.slice none 0 0)).run P w = .ok () w := by simp [eqGuard]
    rw [Sem.run_bind, hg, Result.andThen_ok]
    simp only [binOp, Sem.run_bind, h0, Result.andThen_ok, Sem.run_pure, Bool.not_false]

theorem nilCmp_ptr {op : BinOp} {T e : TypeId} {r : AV} (hu : P.underlying T = some (.pointer e)) (h : nilCmp op = some r) (x y : Operand) (ad : Addr) :
    ∃ q, (do eqGuard op T x y (.pointer (some ad)) (.pointer none); binOp op T (.pointer (some ad)) (.pointer none) : Sem Value).run P w = .ok q w ∧ CR ρ r q := by
  unfold nilCmp at h
  split at h <;> simp at h <;> subst h
  · exact ⟨.bool false, Am.eq_ptr_nil hu ad x y, .s (.b false)⟩
  · exact ⟨.bool true, Am.neq_ptr_nil hu ad x y, .s (.b true)⟩

theorem laneI_get {k : IntKind} : ∀ {l : List (Option AV)} {xs : List Int}, laneI k l = some xs → ∀ (L : Nat) q, l[L]? = some q → ∃ x, xs[L]? = some x ∧ q = some (.s (.i k x))
  | [], xs, h, L, q, hq => by simp at hq
  | o :: r, xs, h, L, q, hq => by
    unfold laneI at h
    split at h
    · rename_i he; cases he
    · rename_i k' x r' he
      injection he with e1 e2; subst e1; subst e2
      cases hk : Nat.beq (kidx k') (kidx k) with
      | false => rw [hk] at h; cases h
      | true =>
        rw [hk] at h
        simp only [cond_true] at h
        split at h
        · rename_i ys hys
          injection h with h; subst h
          have hkk := kidx_inj hk; subst hkk
          cases L with
          | zero => simp only [List.getElem?_cons_zero, Option.some.injEq] at hq; subst hq; exact ⟨x, rfl, rfl⟩
          | succ L => exact laneI_get hys L q (by simpa using hq)
        · cases h
    · cases h

theorem laneT_get {t : Bool} : ∀ {l : List (Option AV)}, laneT t l = true → ∀ (L : Nat) q, l[L]? = some q → q = some (.s (.b t))
  | [], h, L, q, hq => by simp at hq
  | o :: r, h, L, q, hq => by
    unfold laneT at h
    split at h
    · rename_i he; cases he
    · rename_i t' r' he
      injection he with e1 e2; subst e1; subst e2
      simp only [Bool.and_eq_true, beq_iff_eq] at h
      obtain ⟨rfl, h⟩ := h
      cases L with
      | zero => simp only [List.getElem?_cons_zero, Option.some.injEq] at hq; exact hq.symm
      | succ L => exact laneT_get h L q (by simpa using hq)
    · cases h

theorem laneR_sound {ρ : Map} {i L : Nat} {l : List (Option AV)} {r : AV} {q : Option AV} (h : laneR i l = some r) (h1 : 13 ≤ i) (h2 : i < 16) (hr : ρ i = .far i L) (hq : l[L]? = some q) : ∃ sc, q = some (.s sc) ∧ CR ρ r sc.val := by
  unfold laneR at h
  split at h
  · rename_i t rr
    cases ht : laneT t rr with
    | false => rw [ht] at h; cases h
    | true =>
      rw [ht] at h
      simp only [cond_true, Option.some.injEq] at h
      subst h
      cases L with
      | zero => simp only [List.getElem?_cons_zero, Option.some.injEq] at hq; subst hq; exact ⟨_, rfl, .s _⟩
      | succ L => rw [laneT_get ht L q (by simpa using hq)]; exact ⟨_, rfl, .s _⟩
  · rename_i k x rr
    split at h
    · rename_i xs hxs
      injection h with h
      obtain ⟨y, hy, rfl⟩ : ∃ y, (x :: xs)[L]? = some y ∧ q = some (.s (.i k y)) := by
        cases L with
        | zero => simp only [List.getElem?_cons_zero, Option.some.injEq] at hq; subst hq; exact ⟨x, rfl, rfl⟩
        | succ L =>
          obtain ⟨y, hy, rfl⟩ := laneI_get hxs L q (by simpa using hq)
          exact ⟨y, by simpa using hy, rfl⟩
      refine ⟨_, rfl, ?_⟩
      cases ha : xs.all (fun y => decide (y = x)) with
      | true =>
        rw [ha] at h
        simp only [cond_true] at h
        subst h
        have hyx : y = x := by
          cases L with
          | zero => simp only [List.getElem?_cons_zero, Option.some.injEq] at hy; exact hy.symm
          | succ L =>
            have := List.all_eq_true.1 ha y (List.mem_of_getElem? (by simpa using hy))
            simpa using this
        subst hyx
        exact .s _
      | false =>
        rw [ha] at h
        simp only [cond_false] at h
        subst h
        exact .w i k (x :: xs) L y h1 h2 hr hy
    · cases h
  · cases h

theorem binI_sound {op : BinOp} {k k' : IntKind} {m n : Int} {r : AV} (h : binI op k m k' n = some r) (T : TypeId) (x y : Operand) :
    ∃ s : Sc, r = .s s ∧ (do eqGuard op T x y (.int k m) (.int k' n); binOp op T (.int k m) (.int k' n) : Sem Value).run P w = .ok s.val w := by
  replace h := binI_eq h
  unfold binI0 at h
  split at h
  · simp only [Option.map_eq_some_iff] at h
    obtain ⟨s, hs, rfl⟩ := h
    exact ⟨s, rfl, shiftBin_sound hs T x y⟩
  · rename_i hsh
    split at h
    · rename_i hk; subst hk
      simp only [Option.map_eq_some_iff] at h
      obtain ⟨s, hs, rfl⟩ := h
      exact ⟨s, rfl, intBin_sound hs (by simpa using hsh) T x y⟩
    · cases h

theorem zipL_get {f : Int → Int → Option AV} : ∀ {xs ys : List Int} {L : Nat} {x y : Int}, xs[L]? = some x → ys[L]? = some y → (zipL f xs ys)[L]? = some (f x y)
  | [], _, L, x, y, h, _ => by simp at h
  | _ :: _, [], L, x, y, _, h => by simp at h
  | a :: xs, b :: ys, 0, x, y, h, h' => by simp at h h'; subst h; subst h'; rfl
  | a :: xs, b :: ys, L + 1, x, y, h, h' => by
    have := zipL_get (f := f) (xs := xs) (ys := ys) (L := L) (by simpa using h) (by simpa using h')
    simpa [zipL] using this

include hK
theorem binAV_sound (hI : InvH w ρ H nx) {op : BinOp} {T : TypeId} {x y : Operand} {a b r : AV} {v u : Value} (h : binAV K P H op T x y a b = some r) (ha : CR ρ a v) (hb : CR ρ b u) :
    ∃ q, (do eqGuard op T x y v u; binOp op T v u : Sem Value).run P w = .ok q w ∧ CR ρ r q := by
  unfold binAV at h
  split at h
  · rename_i k m k' n
    cases ha; cases hb
    replace h := binI_eq h
    unfold binI0 at h
    split at h
    · simp only [Option.map_eq_some_iff] at h
      obtain ⟨s, hs, rfl⟩ := h
      exact ⟨_, shiftBin_sound hs T x y, .s s⟩
    · rename_i hsh
      split at h
      · rename_i hk; subst hk
        simp only [Option.map_eq_some_iff] at h
        obtain ⟨s, hs, rfl⟩ := h
        exact ⟨_, intBin_sound hs (by simpa using hsh) T x y, .s s⟩
      · cases h
  · rename_i id off
    split at h
    rotate_left
    · cases h
    rename_i T' cs e hH hu
    obtain ⟨b, s, hb', rfl⟩ := p_inv hI hH ha
    cases hb
    exact nilCmp_ptr (hK.und _ _ hu) h x y _
  · rename_i id off sz n c ex
    split at h
    rotate_left
    · cases h
    rename_i T' cs e hH hu
    obtain ⟨b, s, cap, hb', rfl, _⟩ := sl_inv hI hH ha
    cases hb
    exact nilCmp_slice (hK.und _ _ hu) h x y _ _ _
  · rename_i ex
    split at h
    rotate_left
    · cases h
    rename_i e hu
    cases ha; cases hb
    exact nilCmp_slice (hK.und _ _ hu) h x y _ _ _
  · rename_i k m L
    unfold gtG at h
    split at h
    · cases hm : Nat.ble m L with
      | false => rw [hm] at h; cases h
      | true =>
        rw [hm] at h
        simp only [cond_true, Option.some.injEq] at h
        subst h
        have hml := Nat.le_of_ble_eq_true hm
        cases ha
        cases hb with | g _ x' hx' =>
        refine ⟨.bool false, ?_, .s (.b false)⟩
        have hi : intBin .gtr .i64 (Int.ofNat m) x' = some (.b false) := by
          simp only [intBin, Int.ofNat_eq_natCast]
          congr 2
          simp only [decide_eq_false_iff_not]
          omega
        exact intBin_sound hi rfl T x y
    · cases h
  · rename_i i k l k' n
    cases ha with | w _ _ _ L m h1 h2 h3 h4 =>
    cases hb
    obtain ⟨sc, e1, e2⟩ := laneR_sound h h1 h2 h3 (q := binI op k m k' n) (by rw [List.getElem?_map, h4]; rfl)
    obtain ⟨s, e3, e4⟩ := binI_sound (P := P) (w := w) e1 T x y
    injection e3 with e3; subst e3
    exact ⟨_, e4, e2⟩
  · rename_i k m i k' l
    cases hb with | w _ _ _ L n h1 h2 h3 h4 =>
    cases ha
    obtain ⟨sc, e1, e2⟩ := laneR_sound h h1 h2 h3 (q := binI op k m k' n) (by rw [List.getElem?_map, h4]; rfl)
    obtain ⟨s, e3, e4⟩ := binI_sound (P := P) (w := w) e1 T x y
    injection e3 with e3; subst e3
    exact ⟨_, e4, e2⟩
  · rename_i i k l i' k' l'
    cases hii : Nat.beq i i' with
    | false => rw [hii] at h; cases h
    | true =>
      rw [hii] at h
      simp only [cond_true] at h
      obtain rfl := Nat.eq_of_beq_eq_true hii
      cases ha with | w _ _ _ L m h1 h2 h3 h4 =>
      cases hb with | w _ _ _ L' n _ _ h3' h4' =>
      rw [h3] at h3'
      injection h3' with _ eL; subst eL
      obtain ⟨sc, e1, e2⟩ := laneR_sound h h1 h2 h3 (q := binI op k m k' n) (zipL_get h4 h4')
      obtain ⟨s, e3, e4⟩ := binI_sound (P := P) (w := w) e1 T x y
      injection e3 with e3; subst e3
      exact ⟨_, e4, e2⟩
  · split at h
    · rename_i v' u' hv hu
      rw [toV_CR hv ha, toV_CR hu hb]
      exact scVal_sound h
    · cases h

theorem lenAV_sound {T : TypeId} {x r : AV} {v : Value} (h : lenAV K T x = some r) (hx : CR ρ x v) (hal : ∀ id off sz n c ex, x = .sl id off sz n c ex → ∃ A cap, v = .slice A n cap) (ty : TypeId) :
    ∃ q, (Builtin.len_ #[T] ty #[v]).run P w = .ok q w ∧ CR ρ r q := by
  unfold lenAV at h
  split at h
  · rename_i e hu; simp at h; subst h; cases hx
    exact ⟨.int .i64 0, by simp [Builtin.len_, run_underlying (hK.und _ _ hu), Sc.val, goInt], .s (.i .i64 0)⟩
  · rename_i e id off sz n c ex hu; simp at h; subst h
    obtain ⟨A, cap, rfl⟩ := hal _ _ _ _ _ _ rfl
    exact ⟨.int .i64 n, by simp [Builtin.len_, run_underlying (hK.und _ _ hu), goInt], .s (.i .i64 n)⟩
  · rename_i e ex hu; simp at h; subst h; cases hx
    exact ⟨.int .i64 0, by simp [Builtin.len_, run_underlying (hK.und _ _ hu), goInt], .s (.i .i64 0)⟩
  · rename_i s hu; simp at h; subst h; cases hx
    exact ⟨.int .i64 s.size, by simp [Builtin.len_, run_underlying (hK.und _ _ hu), Sc.val, goInt], .s (.i .i64 s.size)⟩
  · rename_i n e hu; simp at h; subst h
    exact ⟨.int .i64 n, by simp [Builtin.len_, run_underlying (hK.und _ _ hu), goInt], .s (.i .i64 n)⟩
  · cases h

theorem capAV_sound {T : TypeId} {x r : AV} {v : Value} (h : capAV K T x = some r) (hx : CR ρ x v) (hal : ∀ id off sz n c ex, x = .sl id off sz n c ex → ∃ A cap, v = .slice A n cap ∧ (ex = true → cap = c) ∧ c ≤ cap) (ty : TypeId) :
    ∃ q, (Builtin.cap_ #[T] ty #[v]).run P w = .ok q w ∧ CR ρ r q := by
  unfold capAV at h
  split at h
  · rename_i e hu; simp at h; subst h; cases hx
    exact ⟨.int .i64 0, by simp [Builtin.cap_, run_underlying (hK.und _ _ hu), Sc.val, goInt], .s (.i .i64 0)⟩
  · rename_i e id off sz n c hu; simp at h; subst h
    obtain ⟨A, cap, rfl, hc, _⟩ := hal _ _ _ _ _ _ rfl
    obtain rfl := hc rfl
    exact ⟨.int .i64 cap, by simp [Builtin.cap_, run_underlying (hK.und _ _ hu), goInt], .s (.i .i64 cap)⟩
  · rename_i e id off sz n c hu; simp at h; subst h
    obtain ⟨A, cap, rfl, hc, hle⟩ := hal _ _ _ _ _ _ rfl
    exact ⟨.int .i64 cap, by simp [Builtin.cap_, run_underlying (hK.und _ _ hu), goInt], .g c cap (by omega)⟩
  · rename_i e hu; simp at h; subst h
    cases hx with | z _ a cap h1 h2 =>
    obtain rfl := h1 rfl
    exact ⟨.int .i64 0, by simp [Builtin.cap_, run_underlying (hK.und _ _ hu), goInt], .s (.i .i64 0)⟩
  · cases h
omit hK

/-! ### Slices -/
theorem bnd_sound {env : Env} {ev : Operand → Value} {x : Option Operand} {dflt top j : Nat} (hx : ∀ y, x = some y → CR ρ (rd env y) (ev y)) (h : bnd env x dflt top = some j) :
    (x = none ∧ j = dflt) ∨ ∃ y k i, x = some y ∧ ev y = .int k i ∧ 0 ≤ i ∧ i ≤ top ∧ j = i.toNat := by
  unfold bnd at h
  split at h
  · injection h with h; exact .inl ⟨rfl, h.symm⟩
  · rename_i y
    have hy := hx y rfl
    split at h
    · rename_i k i hh
      rw [hh] at hy
      cases hb : Nat.ble i top with
      | false => rw [hb] at h; cases h
      | true =>
        rw [hb] at h
        simp only [cond_true, Option.some.injEq] at h
        generalize hv : ev y = v at hy
        cases hy
        have := Nat.le_of_ble_eq_true hb
        exact .inr ⟨y, k, i, rfl, hv, Int.natCast_nonneg i, by simpa using this, by simpa using h.symm⟩
    · cases h

/-- The bounds, where the capacity is at least what is known. -/
theorem bounds_sound {env : Env} {ev : Operand → Value} {lo hi mx : Option Operand} {n c cap m hh l : Nat} (hlo : ∀ y, lo = some y → CR ρ (rd env y) (ev y)) (hhi : ∀ y, hi = some y → CR ρ (rd env y) (ev y)) (hmx : ∀ y, mx = some y → CR ρ (rd env y) (ev y))
    (hbad : ¬ (mx.isSome = true ∧ hi = none)) (h1 : bnd env mx c c = some m) (h2 : bnd env hi n m = some hh) (h3 : bnd env lo 0 hh = some l) (hnc : n ≤ c) (hc : c ≤ cap) (isS : Bool) :
    l ≤ hh ∧ hh ≤ m ∧ m ≤ c ∧ (Instr.sliceBounds isS n cap (lo.map ev) (hi.map ev) (mx.map ev)).run P w = .ok (l, hh, if mx.isSome then m else cap) w ∧ (mx = none → m = c) := by
  have e1 := bnd_sound hmx h1
  have e2 := bnd_sound hhi h2
  have e3 := bnd_sound hlo h3
  have sb : ∀ (k : IntKind) (i : Int) (y : Nat) (c : BoundsCode), 0 ≤ i → i ≤ y → (Instr.sliceBound (.int k i) y c).run P w = .ok i.toNat w := by
    intro k i y c h0 h1
    simp [Instr.sliceBound, asIntOf, h0, h1]
  rcases e1 with ⟨rfl, rfl⟩ | ⟨ym, km, im, rfl, hvm, hm0, hm1, rfl⟩
  · rcases e2 with ⟨rfl, rfl⟩ | ⟨yh, kh, ih, rfl, hvh, hh0, hh1, rfl⟩
    · rcases e3 with ⟨rfl, rfl⟩ | ⟨yl, kl, il, rfl, hvl, hl0, hl1, rfl⟩
      · exact ⟨by omega, by omega, by omega, by simp [Instr.sliceBounds], fun _ => rfl⟩
      · exact ⟨by omega, by omega, by omega, by simp [Instr.sliceBounds, hvl, sb kl il _ _ hl0 hl1], fun _ => rfl⟩
    · rcases e3 with ⟨rfl, rfl⟩ | ⟨yl, kl, il, rfl, hvl, hl0, hl1, rfl⟩
      · exact ⟨by omega, by omega, by omega, by simp [Instr.sliceBounds, hvh, sb kh ih cap _ hh0 (by omega)], fun _ => rfl⟩
      · exact ⟨by omega, by omega, by omega, by simp [Instr.sliceBounds, hvh, hvl, sb kh ih cap _ hh0 (by omega), sb kl il _ _ hl0 hl1], fun _ => rfl⟩
  · rcases e2 with ⟨rfl, rfl⟩ | ⟨yh, kh, ih, rfl, hvh, hh0, hh1, rfl⟩
    · exact absurd ⟨rfl, rfl⟩ hbad
    · rcases e3 with ⟨rfl, rfl⟩ | ⟨yl, kl, il, rfl, hvl, hl0, hl1, rfl⟩
      · exact ⟨by omega, by omega, by omega, by simp [Instr.sliceBounds, hvm, hvh, sb km im cap _ hm0 (by omega), sb kh ih _ _ hh0 hh1], fun h => by cases h⟩
      · exact ⟨by omega, by omega, by omega, by simp [Instr.sliceBounds, hvm, hvh, hvl, sb km im cap _ hm0 (by omega), sb kh ih _ _ hh0 hh1, sb kl il _ _ hl0 hl1], fun h => by cases h⟩

theorem cut_parts {env : Env} {id off sz n c : Nat} {ex : Bool} {lo hi mx : Option Operand} {r : AV} (h : cutAV env id off sz n c ex lo hi mx = some r) :
    ¬ (mx.isSome = true ∧ hi = none) ∧ ∃ m hh l, bnd env mx c c = some m ∧ bnd env hi n m = some hh ∧ bnd env lo 0 hh = some l ∧
      r = if l < m then .sl id (off + l * sz) sz (hh - l) (m - l) (ex || mx.isSome) else .z (ex || mx.isSome) := by
  unfold cutAV at h
  split at h
  · cases h
  rename_i hb
  split at h
  rotate_left
  · cases h
  rename_i m hm
  split at h
  rotate_left
  · cases h
  rename_i hh hhh
  split at h
  rotate_left
  · cases h
  rename_i l hl
  refine ⟨?_, m, hh, l, hm, hhh, hl, ?_⟩
  · rintro ⟨h1, h2⟩
    cases mx with
    | none => cases h1
    | some x => exact hb x rfl h2
  · split at h
    · rename_i hlt; injection h with h; rw [if_pos hlt]; exact h.symm
    · rename_i hlt; injection h with h; rw [if_neg hlt]; exact h.symm

/-- What a part is, told of any slice (or array) that has at least so much. -/
theorem cut_CR {env : Env} {ev : Operand → Value} {id off sz n c cap b bs : Nat} {ex : Bool} {lo hi mx : Option Operand} {r : AV} (hlo : ∀ y, lo = some y → CR ρ (rd env y) (ev y)) (hhi : ∀ y, hi = some y → CR ρ (rd env y) (ev y)) (hmx : ∀ y, mx = some y → CR ρ (rd env y) (ev y))
    (h : cutAV env id off sz n c ex lo hi mx = some r) (hb : ρ id = .at b bs) (hnc : n ≤ c) (hc : c ≤ cap) (hex : ex = true → cap = c) (hcap : cap ≤ maxLen) (hsz : off + cap * sz ≤ bs) (h0 : 0 < sz) (isS : Bool) :
    ∃ l hh m, (Instr.sliceBounds isS n cap (lo.map ev) (hi.map ev) (mx.map ev)).run P w = .ok (l, hh, m) w ∧
      CR ρ r (.slice (some (if m = l then ⟨b, off, none⟩ else (⟨b, off, none⟩ : Addr).add (l * sz))) (hh - l) (m - l)) := by
  obtain ⟨hbad, m, hh, l, h1, h2, h3, rfl⟩ := cut_parts h
  obtain ⟨q1, q2, q3, q4, q5⟩ := bounds_sound (P := P) (w := w) hlo hhi hmx hbad h1 h2 h3 hnc hc isS
  refine ⟨l, hh, _, q4, ?_⟩
  have hM : m ≤ (if mx.isSome = true then m else cap) ∧ (if mx.isSome = true then m else cap) ≤ cap ∧ ((ex || mx.isSome) = true → (if mx.isSome = true then m else cap) = m) := by
    cases mx with
    | none =>
      have := q5 rfl
      refine ⟨by simp; omega, by simp, fun he => ?_⟩
      have : ex = true := by simpa using he
      have := hex this
      simp; omega
    | some y => refine ⟨by simp, by simp; omega, fun _ => by simp⟩
  obtain ⟨m1, m2, m3⟩ := hM
  generalize (if mx.isSome = true then m else cap) = M at *
  split
  · rename_i hlt
    rw [if_neg (by omega), add_eq rfl]
    refine .sl _ _ _ _ _ _ b bs _ (.inl hb) (by omega) (by omega) (fun he => by have := m3 he; omega) (by omega) ?_ h0
    have : l * sz + (M - l) * sz = M * sz := by rw [← Nat.add_mul]; congr 1; omega
    have h2 : M * sz ≤ cap * sz := Nat.mul_le_mul_right _ m2
    omega
  · rename_i hlt
    have : hh - l = 0 := by omega
    rw [this]
    exact .z _ _ _ (fun he => by have := m3 he; omega) (by omega)
end
end Go.Bm
/-
  THE SECOND MACHINE: the operations that change nothing are sound (whole).
-/
namespace Go.Bm
open Go
open Go.Am (Sc evalPure evalPure_run szO aggO zeroO intBin shiftBin isShift run_szO run_aggO intBin_sound shiftBin_sound sureAddr_run fieldPlace_run indexAt_arr indexAt_slice foldl_set zeroO_run add_eq)

section
variable {K : Tbl} {P : Program} (hK : K.ok P) {w : World} {ρ : Map} {H : Heap} {nx : Nat}

theorem one_cells {v : Value} (h : v.oneCell' = true) : v.cells = #[v] := by cases v <;> first | rfl | cases h

theorem cells?_CR {x : AV} {v : Value} {cs : List AV} (h : x.cells? = some cs) (hc : CR ρ x v) : CRs ρ cs v.cells.toList := by
  cases hc with
  | u v => simp [AV.cells?] at h
  | g n x h' => simp [AV.cells?] at h
  | yl id l h' => simp [AV.cells?] at h
  | w i k l L x h1 h2 h3 h4 => simp [AV.cells?] at h; subst h; exact .cons _ _ _ _ (.w i k l L x h1 h2 h3 h4) .nil
  | t cs vs h' => simp [AV.cells?] at h
  | a cs vs h' => simp [AV.cells?] at h; subst h; simpa [Value.cells] using h'
  | s x => simp [AV.cells?] at h; subst h; cases x <;> exact .cons _ _ _ _ (.s _) .nil
  | p id off b s h1 => simp [AV.cells?] at h; subst h; exact .cons _ _ _ _ (.p id off b s h1) .nil
  | pd id off v h1 h2 => simp [AV.cells?] at h; subst h; rw [one_cells h2]; exact .cons _ _ _ _ (.pd id off v h1 h2) .nil
  | sl id off sz n c ex b bs cap h1 h2 h3 h4 h5 h6 h7 => simp [AV.cells?] at h; subst h; exact .cons _ _ _ _ (.sl id off sz n c ex b bs cap h1 h2 h3 h4 h5 h6 h7) .nil
  | sld id off sz n c ex v h1 h2 => simp [AV.cells?] at h; subst h; rw [one_cells h2]; exact .cons _ _ _ _ (.sld id off sz n c ex v h1 h2) .nil
  | z ex a cap h1 h2 => simp [AV.cells?] at h; subst h; exact .cons _ _ _ _ (.z ex a cap h1 h2) .nil
  | f fn fs cs vf vc h1 h2 => simp [AV.cells?] at h; subst h; exact .cons _ _ _ _ (.f fn fs cs vf vc h1 h2) .nil

theorem fill_sound (place : Nat → Option (Nat × Nat)) : ∀ (parts : List (Nat × AV)) (vparts : List (Nat × Value)) (cells : List AV) (vcells : Array Value) (cells' : List AV),
    CRs ρ cells vcells.toList → parts.length = vparts.length → (∀ (j : Nat) (p : Nat × AV) (q : Nat × Value), parts[j]? = some p → vparts[j]? = some q → p.1 = q.1 ∧ CR ρ p.2 q.2) → fillAV place cells parts = some cells' →
    ∃ vcells', Instr.fill place vcells vparts = some vcells' ∧ CRs ρ cells' vcells'.toList
  | [], vparts, cells, vcells, cells', hc, hl, hp, h => by
    cases vparts <;> simp at hl
    simp [fillAV] at h; subst h
    exact ⟨vcells, rfl, hc⟩
  | (i, x) :: parts, vparts, cells, vcells, cells', hc, hl, hp, h => by
    cases vparts with
    | nil => simp at hl
    | cons q vparts =>
      obtain ⟨i', v⟩ := q
      obtain ⟨hi, hx⟩ := hp 0 _ _ rfl rfl
      simp only at hi hx; subst hi
      simp only [fillAV] at h
      split at h
      · rename_i off size vs hpl hvs
        split at h
        · rename_i hsz
          have hcv := cells?_CR hvs hx
          have hvl : v.cells.size = vs.length := by simpa using hcv.length.symm
          have hcl : vcells.size = cells.length := by simpa using hc.length.symm
          have hfold : (v.cells.zipIdx.foldl (fun cs (c, j) => cs.setIfInBounds (off + j) c) vcells).toList = vcells.toList.take off ++ v.cells.toList ++ vcells.toList.drop (off + v.cells.toList.length) := by
            have := foldl_set off v.cells.toList 0 vcells (by simp; omega)
            rw [← Array.foldl_toList, Array.toList_zipIdx]
            simpa using this
          obtain ⟨vcells', h1, h2⟩ := fill_sound place parts vparts (splice cells off vs) (v.cells.zipIdx.foldl (fun cs (c, j) => cs.setIfInBounds (off + j) c) vcells) cells' (by
            rw [hfold]
            have := ((hc.take off).append hcv).append (hc.drop (off + vs.length))
            simpa [splice, hvl] using this) (by simpa using hl) (fun j p q hpp hq => hp (j + 1) p q (by simpa using hpp) (by simpa using hq)) h
          refine ⟨vcells', ?_, h2⟩
          simp only [Instr.fill, hpl]
          rw [if_neg (by simp; omega)]
          exact h1
        · cases h
      · cases h

theorem szO_info {T : TypeId} {n : Nat} (h : szO P T = some n) : ∃ i, P.info? T = some i ∧ i.size = n := by
  unfold szO at h
  simpa [Option.map_eq_some_iff] using h

include hK in
theorem placesK_ok : ∀ {fs : List Field} {l : List (Nat × Nat)}, placesK K fs = some l → fs.mapM (fun f => (P.info? f.type).map fun i => (f.offset, i.size)) = some l
  | [], l, h => by simp [placesK] at h; subst h; rfl
  | f :: fs, l, h => by
    simp only [placesK] at h
    split at h
    · rename_i n l' h1 h2
      injection h with h; subst h
      obtain ⟨i, hi, rfl⟩ := szO_info (hK.size _ _ h1)
      rw [List.mapM_cons, hi, placesK_ok h2]; rfl
    · cases h

include hK in
theorem buildAV_sound {t : TypeId} {parts : List (Nat × AV)} {vparts : List (Nat × Value)} {r : AV} (h : buildAV K t parts = some r) (hl : parts.length = vparts.length)
    (hp : ∀ (j : Nat) (p : Nat × AV) (q : Nat × Value), parts[j]? = some p → vparts[j]? = some q → p.1 = q.1 ∧ CR ρ p.2 q.2) : ∃ v, (Instr.build t vparts.toArray).run P w = .ok v w ∧ CR ρ r v := by
  unfold buildAV at h
  split at h
  · rename_i n e z hu hz
    split at h
    rotate_left
    · cases h
    rename_i n' hn
    obtain ⟨i, zv, hi, hzv, rfl⟩ := zeroO_run (hK.zero _ _ hz)
    obtain ⟨ie, hie, rfl⟩ := szO_info (hK.size _ _ hn)
    simp only [Option.map_eq_some_iff] at h
    obtain ⟨cs, hcs, rfl⟩ := h
    obtain ⟨vc, h1, h2⟩ := fill_sound _ parts vparts _ zv.cells cs (CRs_ofC _) hl hp hcs
    have hb : P.built t vparts.toArray.toList = some vc := by
      unfold Program.built; simp only [hi, hK.und _ _ hu, hzv, hie]; exact h1
    exact ⟨.agg vc, run_build w t _ vc hb, by simpa using CR.a _ _ h2⟩
  · rename_i fields z hu hz
    split at h
    rotate_left
    · cases h
    rename_i places hpl
    obtain ⟨i, zv, hi, hzv, rfl⟩ := zeroO_run (hK.zero _ _ hz)
    simp only [Option.map_eq_some_iff] at h
    obtain ⟨cs, hcs, rfl⟩ := h
    have hpl' := placesK_ok hK hpl
    obtain ⟨vc, h1, h2⟩ := fill_sound _ parts vparts _ zv.cells cs (CRs_ofC _) hl hp hcs
    have hb : P.built t vparts.toArray.toList = some vc := by
      unfold Program.built; simp only [hi, hK.und _ _ hu, hzv, hpl']
      rw [← h1]
      congr 1
      funext j
      simp
    exact ⟨.agg vc, run_build w t _ vc hb, by simpa using CR.a _ _ h2⟩
  · cases h

theorem parts_rel {env : Env} {ev : Operand → Value} {parts : Array (Nat × Operand)} (hc : ∀ q ∈ parts.toList, CR ρ (rd env q.2) (ev q.2)) :
    (partsAV env parts).length = (parts.toList.map fun q => (q.1, ev q.2)).length ∧
    ∀ (j : Nat) (p : Nat × AV) (q : Nat × Value), (partsAV env parts)[j]? = some p → (parts.toList.map fun q => (q.1, ev q.2))[j]? = some q → p.1 = q.1 ∧ CR ρ p.2 q.2 := by
  refine ⟨by simp [partsAV], fun j p q hp hq => ?_⟩
  simp only [partsAV, List.getElem?_map, Option.map_eq_some_iff] at hp hq
  obtain ⟨x, hx, rfl⟩ := hp
  obtain ⟨y, hy, rfl⟩ := hq
  rw [hx] at hy; injection hy with hy; subst hy
  exact ⟨rfl, hc _ (List.mem_of_getElem? hx)⟩

include hK in
theorem loadAV_sound (hI : InvH w ρ H nx) {T : TypeId} {x r : AV} {v : Value} (h : loadAV K H T x = some r) (hx : CR ρ x v) : ∃ q, (Instr.loadAt T v).run P w = .ok q w ∧ CR ρ r q := by
  unfold loadAV at h
  split at h
  rotate_left
  · cases h
  rename_i id off
  split at h
  rotate_left
  · cases h
  rename_i T' cs hH
  obtain ⟨b, s, hb, rfl⟩ := p_inv hI hH hx
  obtain ⟨vs, h1, h2, h3, h4, h5⟩ := hI.cells hH hb
  obtain ⟨q, hq, hcr⟩ := loadVar_sound hK (w := w) (ad := ⟨b, off, none⟩) h (h4.drop off) (fun j y hy => by
    rw [List.getElem?_drop] at hy
    have := h5 (off + j) y hy
    rw [add_eq rfl]; exact this)
  exact ⟨q, by simp [Instr.loadAt, sureAddr_run, hq], hcr⟩

theorem zcut_run {env : Env} {ev : Operand → Value} {lo hi mx : Option Operand} {b : Bool} (hlo : ∀ y, lo = some y → CR ρ (rd env y) (ev y)) (hhi : ∀ y, hi = some y → CR ρ (rd env y) (ev y)) (hmx : ∀ y, mx = some y → CR ρ (rd env y) (ev y))
    (h : zcut env lo hi mx = some b) (cap : Nat) : b = mx.isSome ∧ (Instr.sliceBounds true 0 cap (lo.map ev) (hi.map ev) (mx.map ev)).run P w = .ok (0, 0, if mx.isSome then 0 else cap) w := by
  unfold zcut at h
  split at h
  · cases h
  rename_i hbad
  split at h
  rotate_left
  · cases h
  rename_i m hm
  split at h
  rotate_left
  · cases h
  rename_i hh hhh
  split at h
  rotate_left
  · cases h
  rename_i l hl
  injection h with h
  have hb : ¬ (mx.isSome = true ∧ hi = none) := by
    rintro ⟨h1, h2⟩
    cases mx with
    | none => cases h1
    | some x => exact hbad x rfl h2
  obtain ⟨q1, q2, q3, q4, q5⟩ := bounds_sound (P := P) (w := w) hlo hhi hmx hb hm hhh hl (Nat.le_refl 0) (Nat.zero_le cap) true
  have e1 : l = 0 := by omega
  have e2 : hh = 0 := by omega
  have e3 : m = 0 := by omega
  subst e1 e2 e3
  exact ⟨h.symm, q4⟩

theorem u8s_CR : ∀ {cs : List AV} {ns : List Int} {vs : List Value}, u8s cs = some ns → CRs ρ cs vs → vs = ns.map (Value.int .u8)
  | [], ns, vs, h, hc => by cases hc; simp [u8s] at h; subst h; rfl
  | x :: cs, ns, vs, h, hc => by
    cases hc with | cons _ v _ vs h1 h2 =>
    unfold u8s at h
    split at h
    · rename_i e; cases e
    · rename_i n xs e
      injection e with e1 e2; subst e1 e2
      split at h
      · rename_i l hl
        injection h with h; subst h
        cases h1
        rw [u8s_CR hl h2]; rfl
      · cases h
    · cases h

/-- What is appended, in the model. -/
theorem src_sound (hI : InvH w ρ H nx) {sz k : Nat} {x : AV} {xs : List AV} {v : Value} (h : srcCells H sz x = some (k, xs)) (hx : CR ρ x v) :
    ∃ A c us, v = .slice A k c ∧ CRs ρ xs us ∧ us.length = k * sz ∧ (k ≠ 0 → ∃ ad, A = some ad ∧ ∀ j y, us[j]? = some y → w.cell? (ad.add j) = some y) := by
  unfold srcCells at h
  split at h
  · rename_i id off sz' n c ex
    split at h
    rotate_left
    · cases h
    rename_i T cs hH
    split at h
    rotate_left
    · cases h
    rename_i hb
    obtain ⟨rfl, hle⟩ := hb
    simp only [Option.some.injEq, Prod.mk.injEq] at h
    obtain ⟨rfl, rfl⟩ := h
    obtain ⟨b, bs, cap, hb, rfl, _⟩ := sl_inv hI hH hx
    obtain ⟨vs, h1, h2, h3, h4, h5⟩ := hI.cells hH hb
    refine ⟨_, cap, _, rfl, (h4.drop off).take _, ?_, fun _ => ⟨⟨b, off, none⟩, rfl, fun j y hy => ?_⟩⟩
    · have := h4.length; simp at this ⊢; omega
    · rw [List.getElem?_take] at hy
      split at hy
      · rw [List.getElem?_drop] at hy
        rw [add_eq rfl]; exact h5 _ _ hy
      · cases hy
  · simp only [Option.some.injEq, Prod.mk.injEq] at h
    obtain ⟨rfl, rfl⟩ := h
    cases hx
    exact ⟨none, 0, [], rfl, .nil, by simp, fun h => absurd rfl h⟩
  · simp only [Option.some.injEq, Prod.mk.injEq] at h
    obtain ⟨rfl, rfl⟩ := h
    cases hx with | z _ a cap =>
    exact ⟨some a, cap, [], rfl, .nil, by simp, fun h => absurd rfl h⟩
  · cases h

include hK in
theorem convBytes_sound (hI : InvH w ρ H nx) {T T' : TypeId} {x r : AV} {v : Value} (h : convBytes K H T T' x = some r) (hx : CR ρ x v) : ∃ q, (convert T T' v).run P w = .ok q w ∧ CR ρ r q := by
  unfold convBytes at h
  split at h
  rotate_left
  · cases h
  rename_i e hu hu'
  split at h
  rotate_left
  · cases h
  rename_i k cs he hsrc
  split at h
  rotate_left
  · cases h
  rename_i ns hns
  injection h with h; subst h
  obtain ⟨A, c, us, rfl, hcs, hl, hA⟩ := src_sound hI hsrc hx
  obtain rfl := u8s_CR hns hcs
  refine ⟨.string (strOf ns), ?_, .s (.str _)⟩
  rw [run_convert_bytes_string w T T' e A k c (hK.und _ _ hu) (hK.und _ _ he) (hK.und _ _ hu')]
  cases A with
  | none =>
    have hk : k = 0 := by
      rcases Nat.eq_zero_or_pos k with h | h
      · exact h
      · obtain ⟨ad, h1, _⟩ := hA (by omega); cases h1
    subst hk
    have : ns = [] := List.eq_nil_of_length_eq_zero (by simpa using hl)
    subst this
    rfl
  | some ad =>
    have hlo : (loadCells ad k).run P w = .ok (ns.map (Value.int .u8)).toArray w := by
      rcases Nat.eq_zero_or_pos k with h0 | h0
      · subst h0
        have : ns = [] := List.eq_nil_of_length_eq_zero (by simpa using hl)
        subst this
        exact run_loadCells_list (P := P) w ad [] (fun j v h => by simp at h)
      · obtain ⟨ad', h1, h2⟩ := hA (by omega)
        injection h1 with h1; subst h1
        have := run_loadCells_list (P := P) w ad (ns.map (Value.int .u8)) h2
        rw [hl, Nat.mul_one] at this
        exact this
    exact run_bytesToString (P := P) w ad k c ns hlo

include hK in
theorem opL_sound (hI : InvH w ρ H nx) {env : Env} {a : Act} {o : Oper} {r : AV} (hrd : ∀ x ∈ o.op.operands.toList, CR ρ (rd env x) (a.eval x)) (h : opL K P env H o.op = some r) :
    ∃ v, (execOp a.eval o).run P w = .ok (.value v) w ∧ CR ρ r v := by
  obtain ⟨dst, op, ty, pos, after, guard⟩ := o
  cases op <;> simp only [opL, oPick, oNilCheck, oFieldAddr, oField, oIndexAddr, oIndex, oExtract, oUnOp, oConvert, oSliceToArrayPointer, oSlice, oBuiltin, reduceCtorEq] at h <;> simp only [Op.operands] at hrd
  case move x => injection h with h; subst h; exact ⟨_, rfl, hrd x (by simp)⟩
  case assign x => injection h with h; subst h; exact ⟨_, rfl, hrd x (by simp)⟩
  case pick c x y =>
    have hcc := hrd c (by simp)
    split at h <;> simp at h
    rename_i t ht
    rw [ht] at hcc
    generalize hv : a.eval c = v at hcc
    cases hcc
    subst h
    refine ⟨if t then a.eval x else a.eval y, by simp [execOp, hv, Sc.val, asBool], ?_⟩
    cases t
    · exact hrd y (by simp)
    · exact hrd x (by simp)
  case nilCheck x =>
    have hx := hrd x (by simp)
    generalize hv : a.eval x = v at hx
    split at h
    · rename_i id off hh
      rw [hh] at hx
      split at h
      rotate_left
      · cases h
      rename_i T cs hH
      injection h with h; subst h
      obtain ⟨b, s, hb, rfl⟩ := p_inv hI hH hx
      exact ⟨_, by simp [execOp, hv], hx⟩
    · rename_i fn fs cs hh
      rw [hh] at hx; injection h with h; subst h
      refine ⟨v, ?_, hx⟩
      cases hx; simp [execOp, hv]
    · cases h
  case load T x =>
    obtain ⟨q, h1, h2⟩ := loadAV_sound hK hI (T := T) h (hrd x (by simp))
    exact ⟨q, by simp [execOp, h1], h2⟩
  case fieldAddr T x f =>
    split at h; rotate_left
    · cases h
    rename_i fd hf
    obtain ⟨fs, hu, hfs⟩ := fieldK_ok hK hf
    split at h; rotate_left
    · cases h
    rename_i n hn
    have hn := hK.size _ _ hn
    have hx := hrd x (by simp)
    generalize hv : a.eval x = v at hx
    split at h
    rotate_left
    · cases h
    rename_i id off hh
    rw [hh] at hx
    split at h
    rotate_left
    · cases h
    rename_i T' cs hH
    injection h with h; subst h
    obtain ⟨b, s, hb, rfl⟩ := p_inv hI hH hx
    refine ⟨.pointer (some ⟨b, off + fd.offset, none⟩), ?_, .p _ _ _ _ (.inl hb)⟩
    have e : (⟨b, off, none⟩ : Addr).add fd.offset = ⟨b, off + fd.offset, none⟩ := add_eq rfl _
    simp [execOp, hv, Instr.fieldAt, run_underlying hu, hfs, sureAddr_run, fieldPlace_run hn, e]
  case field T x f =>
    split at h; rotate_left
    · cases h
    rename_i fd cs hf hh
    obtain ⟨fs, hu, hfs⟩ := fieldK_ok hK hf
    have hx := hrd x (by simp)
    generalize hv : a.eval x = v at hx
    rw [hh] at hx
    cases hx with | a cs vs hcs =>
    obtain ⟨q, h1, h2⟩ := partK_sound hK (w := w) h hcs
    exact ⟨q, by simp [execOp, hv, Instr.field, run_underlying hu, hfs, asAgg, h1], h2⟩
  case indexAddr T x i =>
    have hx := hrd x (by simp)
    have hi := hrd i (by simp)
    generalize hv : a.eval x = v at hx
    generalize hw : a.eval i = u at hi
    split at h
    · rename_i id off hh
      rw [hh] at hx
      split at h; rotate_left
      · cases h
      rename_i n e ha
      split at h; rotate_left
      · cases h
      rename_i sz j T' cs hs hj hH
      obtain ⟨k, ii, rfl, h0, h1, rfl⟩ := idx_sound hj hi
      injection h with h; subst h
      obtain ⟨b, s, hb, rfl⟩ := p_inv hI hH hx
      refine ⟨.pointer (some ⟨b, off + ii.toNat * sz, none⟩), ?_, .p _ _ _ _ (.inl hb)⟩
      have e : (⟨b, off, none⟩ : Addr).add (ii.toNat * sz) = ⟨b, off + ii.toNat * sz, none⟩ := add_eq rfl _
      simp [execOp, hv, hw, indexAt_arr (arrK_ok hK ha) (hK.size _ _ hs) h0 h1, e]
    · rename_i id off sz n c ex hh
      rw [hh] at hx
      split at h; rotate_left
      · cases h
      rename_i e ha
      split at h; rotate_left
      · cases h
      rename_i j T' cs sz' hj hH hs
      cases hsb : Nat.beq sz' sz with
      | false => rw [hsb] at h; cases h
      | true =>
      rw [hsb] at h
      have esz := (Nat.eq_of_beq_eq_true hsb).symm; subst esz
      obtain ⟨k, ii, rfl, h0, h1, rfl⟩ := idx_sound hj hi
      injection h with h; subst h
      obtain ⟨b, s, cap, hb, rfl, _⟩ := sl_inv hI hH hx
      refine ⟨.pointer (some ⟨b, off + ii.toNat * sz, none⟩), ?_, .p _ _ _ _ (.inl hb)⟩
      have e : (⟨b, off, none⟩ : Addr).add (ii.toNat * sz) = ⟨b, off + ii.toNat * sz, none⟩ := add_eq rfl _
      simp [execOp, hv, hw, indexAt_slice (sliceK_ok hK ha) (hK.size _ _ hs) h0 h1, e]
    · cases h
  case index T x i =>
    have hx := hrd x (by simp)
    have hi := hrd i (by simp)
    generalize hv : a.eval x = v at hx
    generalize hw : a.eval i = u at hi
    split at h
    · rename_i cs hh
      rw [hh] at hx
      split at h; rotate_left
      · cases h
      rename_i n e ha
      split at h; rotate_left
      · cases h
      rename_i sz j hs hj
      obtain ⟨k, ii, rfl, h0, h1, rfl⟩ := idx_sound hj hi
      cases hx with | a cs vs hcs =>
      obtain ⟨q, h2, h3⟩ := partK_sound hK (w := w) h hcs
      exact ⟨q, by simp [execOp, hv, hw, Instr.index, asIntOf, run_underlying (arrK_ok hK ha), h0, h1, run_szO (hK.size _ _ hs), h2], h3⟩
    · rename_i s hh
      rw [hh] at hx
      split at h; rotate_left
      · cases h
      rename_i v' hv'
      cases hx
      rw [toV_CR hv' hi] at hw
      obtain ⟨q, h2, h3⟩ := scVal_sound (P := P) (w := w) (ρ := ρ) h
      exact ⟨q, by simp [execOp, hv, hw, Sc.val, h2], h3⟩
    · cases h
  case extract x k =>
    have hx := hrd x (by simp)
    generalize hv : a.eval x = v at hx
    split at h; rotate_left
    · cases h
    rename_i vs hh
    rw [hh] at hx
    cases hx with | t cs us hcs =>
    obtain ⟨q, h1, h2⟩ := hcs.get h
    exact ⟨q, by simp [execOp, hv, Instr.extract, h1], h2⟩
  case binOp op T x y ty' =>
    obtain ⟨q, h1, h2⟩ := binAV_sound hK hI h (hrd x (by simp)) (hrd y (by simp))
    refine ⟨q, ?_, h2⟩
    simp only [execOp]
    rw [Sem.run_bind, h1]; rfl
  case unOp op T x =>
    have hx := hrd x (by simp)
    generalize hv : a.eval x = v at hx
    split at h
    · rename_i t hh
      rw [hh] at hx
      split at h <;> simp at h
      subst h
      cases hx
      exact ⟨.bool !t, by simp [execOp, hv, Op.unary, Sc.val], .s (.b !t)⟩
    · split at h; rotate_left
      · cases h
      rename_i v' hv'
      rw [toV_CR hv' hx] at hv
      obtain ⟨q, h2, h3⟩ := scVal_sound (P := P) (w := w) (ρ := ρ) h
      exact ⟨q, by simp [execOp, hv, h2], h3⟩
  case convert T T' x =>
    have hx := hrd x (by simp)
    generalize hv : a.eval x = v at hx
    split at h
    · rename_i k n hh
      rw [hh] at hx
      cases hx
      split at h
      · rename_i k1 k2 hu hu'
        simp at h; subst h
        rw [wrapF_eq]
        refine ⟨.int k2 (k2.wrap n), ?_, .s (.i k2 (k2.wrap n))⟩
        simp [execOp, hv, convert, run_underlying (hK.und _ _ hu), run_underlying (hK.und _ _ hu'), Conv.intToInt, Sc.val]
      · obtain ⟨q, h2, h3⟩ := scVal_sound (P := P) (w := w) (ρ := ρ) h
        exact ⟨q, by simp [execOp, hv, h2, Sc.val], h3⟩
    · rename_i id off sz n c ex hh
      rw [hh] at hx
      obtain ⟨q, h2, h3⟩ := convBytes_sound hK hI h hx
      exact ⟨q, by simp [execOp, hv, h2], h3⟩
    · rename_i ex hh
      rw [hh] at hx
      obtain ⟨q, h2, h3⟩ := convBytes_sound hK hI h hx
      exact ⟨q, by simp [execOp, hv, h2], h3⟩
    · rename_i i k l hh
      rw [hh] at hx
      split at h
      · rename_i k1 k2 hu hu'
        cases hx with | w _ _ _ L n h1 h2 h3 h4 =>
        obtain ⟨sc, e1, e2⟩ := laneR_sound h h1 h2 h3 (q := some (.s (.i k2 (wrapF k2 n)))) (by rw [List.getElem?_map, h4]; rfl)
        injection e1 with e1; injection e1 with e1; subst e1
        rw [wrapF_eq] at e2
        refine ⟨.int k2 (k2.wrap n), ?_, e2⟩
        simp [execOp, hv, convert, run_underlying (hK.und _ _ hu), run_underlying (hK.und _ _ hu'), Conv.intToInt]
      · cases h
    · split at h; rotate_left
      · cases h
      rename_i v' hv'
      rw [toV_CR hv' hx] at hv
      obtain ⟨q, h2, h3⟩ := scVal_sound (P := P) (w := w) (ρ := ρ) h
      exact ⟨q, by simp [execOp, hv, h2], h3⟩
  case sliceToArrayPointer arr x =>
    have hx := hrd x (by simp)
    generalize hv : a.eval x = v at hx
    split at h; rotate_left
    · cases h
    rename_i id off sz n c ex m e hh ha
    rw [hh] at hx
    split at h; rotate_left
    · cases h
    rename_i T' cs hH
    split at h; rotate_left
    · cases h
    rename_i hle
    injection h with h; subst h
    obtain ⟨b, s, cap, hb, rfl, _⟩ := sl_inv hI hH hx
    refine ⟨.pointer (some ⟨b, off, none⟩), ?_, .p _ _ _ _ (.inl hb)⟩
    simp [execOp, hv, Instr.arrayAt, run_underlying (arrK_ok hK ha), Nat.not_lt.2 hle]
  case makeFunc fn fs cs =>
    cases fn <;> simp only [reduceCtorEq] at h
    rename_i f
    injection h with h; subst h
    refine ⟨.func (.func f) (fs.map a.eval) (cs.map a.eval), by simp [execOp, Instr.makeFunc], ?_⟩
    have hl : ∀ l : List Operand, (∀ x ∈ l, CR ρ (rd env x) (a.eval x)) → CRs ρ (l.map (rd env)) (l.map a.eval) := by
      intro l
      induction l with
      | nil => intro _; exact .nil
      | cons x l ih => intro hx; exact .cons _ _ _ _ (hx x (by simp)) (ih fun y hy => hx y (by simp [hy]))
    have h1 := hl fs.toList (fun x hx => hrd x (by simp; exact .inl (by simpa using hx)))
    have h2 := hl cs.toList (fun x hx => hrd x (by simp; exact .inr (by simpa using hx)))
    have := CR.f f _ _ _ _ h1 h2
    simp only [← Array.toList_map, Array.toArray_toList] at this ⊢
    exact this
  case build t parts =>
    obtain ⟨pl, pr⟩ := parts_rel (ρ := ρ) (env := env) (ev := a.eval) (parts := parts) (fun q hq => hrd q.2 (by simp; exact ⟨q.1, by simpa using hq⟩))
    obtain ⟨v, h1, h2⟩ := buildAV_sound hK (w := w) h pl pr
    have hparts : (parts.toList.map fun q => (q.1, a.eval q.2)).toArray = parts.map fun (i, x) => (i, a.eval x) := by
      simp [← Array.toList_map]
    rw [hparts] at h1
    exact ⟨v, by simp [execOp, h1], h2⟩
  case slice T x lo hi mx =>
    have hx := hrd x (by simp)
    have hlo : ∀ y, lo = some y → CR ρ (rd env y) (a.eval y) := fun y hy => hrd y (by subst hy; simp)
    have hhi : ∀ y, hi = some y → CR ρ (rd env y) (a.eval y) := fun y hy => hrd y (by subst hy; simp)
    have hmx : ∀ y, mx = some y → CR ρ (rd env y) (a.eval y) := fun y hy => hrd y (by subst hy; simp)
    generalize hv : a.eval x = v at hx
    split at h
    · rename_i s hh
      rw [hh] at hx
      cases hx
      split at h
      · cases h
      have ho : ∀ y : Option Operand, (∀ z, y = some z → CR ρ (rd env z) (a.eval z)) → y.map (fun y => toV (rd env y)) ≠ some none → (y.map (fun y => toV (rd env y))).bind id = y.map a.eval := by
        intro y hz hy
        cases y with
        | none => rfl
        | some y =>
          simp only [Option.map_some] at hy ⊢
          cases ht : toV (rd env y) with
          | none => rw [ht] at hy; exact absurd rfl hy
          | some u => simp [toV_CR ht (hz y rfl)]
      split at h
      · cases h
      · cases h
      · rename_i n1 n2
        rw [ho lo hlo (fun e => n1 e), ho hi hhi (fun e => n2 e)] at h
        obtain ⟨q, h2, h3⟩ := scVal_sound (P := P) (w := w) (ρ := ρ) h
        exact ⟨q, by simp [execOp, hv, Sc.val, h2], h3⟩
    · rename_i id off sz n c ex hh
      rw [hh] at hx
      split at h; rotate_left
      · cases h
      rename_i T' cs hH
      simp only [sliceAV] at h
      split at h; rotate_left
      · cases h
      rename_i e he
      split at h; rotate_left
      · cases h
      rename_i sz' hs
      cases hsb : Nat.beq sz' sz with
      | false => rw [hsb] at h; cases h
      | true =>
      rw [hsb] at h
      have esz := (Nat.eq_of_beq_eq_true hsb).symm; subst esz
      obtain ⟨b, bs, cap, hb, rfl, q1, q2, q3, q4, q5, q6⟩ := sl_inv hI hH hx
      obtain ⟨l, hh', m, r1, r2⟩ := cut_CR (P := P) (w := w) hlo hhi hmx h hb q1 q2 q3 q4 q5 q6 true
      have hu := sliceK_ok hK he
      refine ⟨_, ?_, r2⟩
      simp only [execOp, hv, Instr.sliceAt, Instr.slice, Sem.run_bind, run_underlying hu, Result.andThen_ok, r1, run_szO (hK.size _ _ hs), Sem.run_pure]
      split <;> rfl
    · rename_i ex hh
      rw [hh] at hx
      split at h; rotate_left
      · cases h
      rename_i e he
      split at h; rotate_left
      · cases h
      rename_i sz b hs hz
      injection h with h; subst h
      have hu := sliceK_ok hK he
      cases hx with | z _ ad cap z1 z2 =>
      obtain ⟨rfl, hb⟩ := zcut_run (P := P) (w := w) hlo hhi hmx hz cap
      refine ⟨_, by simp only [execOp, hv, Instr.sliceAt, Instr.slice, Sem.run_bind, run_underlying hu, Result.andThen_ok, hb, run_szO (hK.size _ _ hs), Sem.run_pure]; rfl, ?_⟩
      simp only [Nat.sub_zero, Nat.sub_self, Nat.zero_mul]
      have hadd : ad.add 0 = ad := by simp [Addr.add]
      simp only [Option.map_some, hadd, ite_self]
      refine .z _ _ _ (fun he => ?_) ?_
      · cases mx <;> simp_all
      · cases mx <;> simp_all
    · rename_i hh
      rw [hh] at hx
      cases hx
      split at h; rotate_left
      · cases h
      rename_i e he
      split at h; rotate_left
      · cases h
      rename_i sz b hs hz
      injection h with h; subst h
      have hu := sliceK_ok hK he
      obtain ⟨rfl, hb⟩ := zcut_run (P := P) (w := w) hlo hhi hmx hz 0
      refine ⟨.slice none 0 0, ?_, .s .sn⟩
      simp only [execOp, hv, Sc.val, Instr.sliceAt, Instr.slice, Sem.run_bind, run_underlying hu, Result.andThen_ok, hb, run_szO (hK.size _ _ hs), Sem.run_pure]
      cases mx <;> simp
    · rename_i id off hh
      rw [hh] at hx
      split at h; rotate_left
      · cases h
      rename_i n e ha
      split at h; rotate_left
      · cases h
      rename_i sz T' cs hs hH
      split at h; rotate_left
      · cases h
      rename_i hcond
      obtain ⟨b, bs, hb, rfl⟩ := p_inv hI hH hx
      obtain ⟨vs, g1, g2, g3, g4, g5⟩ := hI.cells hH hb
      obtain ⟨l, hh', m, r1, r2⟩ := cut_CR (P := P) (w := w) (cap := n) hlo hhi hmx h hb (Nat.le_refl _) (Nat.le_refl _) (fun _ => rfl) hcond.2.2 (by omega) (by omega) false
      have hu := arrK_ok hK ha
      refine ⟨_, ?_, r2⟩
      simp only [execOp, hv, Instr.sliceAt, Sem.run_bind, run_underlying hu, Result.andThen_ok, sureAddr_run, r1, run_szO (hK.size _ _ hs), Sem.run_pure]
    · cases h
  case call c =>
    obtain ⟨callee, args, tys⟩ := c
    cases callee <;> simp only [reduceCtorEq] at h
    rename_i b
    obtain ⟨args⟩ := args
    obtain ⟨tys⟩ := tys
    split at h <;> try (exact absurd h (by simp))
    · rename_i x T e1 e2
      simp only at e1 e2; subst e1 e2
      have hx := hrd x (by simp [Call.operands])
      have hfin : lenAV K T (rd env x) = some r ∧ (∀ id off sz n c ex, rd env x = .sl id off sz n c ex → ∃ A cap, a.eval x = .slice A n cap) := by
        split at h
        · rename_i id off sz n c ex hh
          split at h
          rotate_left
          · cases h
          rename_i T' cs hH
          refine ⟨by rw [hh]; exact h, fun id' off' sz' n' c' ex' he => ?_⟩
          rw [hh] at he; injection he with q1 q2 q3 q4 q5 q6; subst q1 q2 q3 q4 q5 q6
          rw [hh] at hx
          obtain ⟨b, s, cap, hb, hv, _⟩ := sl_inv hI hH hx
          exact ⟨_, cap, hv⟩
        · rename_i v hne
          exact ⟨h, fun id' off' sz' n' c' ex' he => absurd he (hne _ _ _ _ _ _)⟩
      obtain ⟨q, h1, h2⟩ := lenAV_sound hK (w := w) hfin.1 hx hfin.2 ty
      exact ⟨q, by simp [execOp, resolve, invoke, builtin, h1], h2⟩
    · rename_i x T e1 e2
      simp only at e1 e2; subst e1 e2
      have hx := hrd x (by simp [Call.operands])
      have hfin : capAV K T (rd env x) = some r ∧ (∀ id off sz n c ex, rd env x = .sl id off sz n c ex → ∃ A cap, a.eval x = .slice A n cap ∧ (ex = true → cap = c) ∧ c ≤ cap) := by
        split at h
        · rename_i id off sz n c ex hh
          split at h
          rotate_left
          · cases h
          rename_i T' cs hH
          refine ⟨by rw [hh]; exact h, fun id' off' sz' n' c' ex' he => ?_⟩
          rw [hh] at he; injection he with q1 q2 q3 q4 q5 q6; subst q1 q2 q3 q4 q5 q6
          rw [hh] at hx
          obtain ⟨b, s, cap, hb, hv, _, hle, hex, _⟩ := sl_inv hI hH hx
          exact ⟨_, cap, hv, hex, hle⟩
        · rename_i v hne
          exact ⟨h, fun id' off' sz' n' c' ex' he => absurd he (hne _ _ _ _ _ _)⟩
      obtain ⟨q, h1, h2⟩ := capAV_sound hK (w := w) hfin.1 hx hfin.2 ty
      exact ⟨q, by simp [execOp, resolve, invoke, builtin, h1], h2⟩
    · rename_i x y e1
      simp only at e1; subst e1
      have hx := hrd x (by simp [Call.operands])
      have hy := hrd y (by simp [Call.operands])
      split at h; rotate_left
      · cases h
      rename_i k m k' m' q1 q2
      injection h with h; subst h
      rw [q1] at hx; rw [q2] at hy
      generalize hvx : a.eval x = vx at hx
      generalize hvy : a.eval y = vy at hy
      cases hx; cases hy
      exact ⟨_, by simp [execOp, resolve, invoke, builtin, Builtin.min_, Builtin.min2, hvx, hvy, Sc.val], .s (.i k _)⟩
end
end Go.Bm
/-
  THE SECOND MACHINE: what the memory may become; new blocks; writing.
-/
namespace Go.Bm
open Go
open Go.Am (Sc evalPure evalPure_run szO aggO zeroO intBin shiftBin isShift run_szO run_aggO sureAddr_run foldl_set zeroO_run add_eq)

section
variable {w w' : World} {ρ ρ' : Map} {H H' : Heap} {nx nx' : Nat}

theorem InvH.congr (hI : InvH w ρ H nx) (h : ∀ i, H'.at i = H.at i) : InvH w ρ H' nx :=
  ⟨hI.glob, hI.inj, fun i b s hi => by rw [h i]; exact hI.row i b s hi, fun i hi => by rw [h i]; exact hI.dead i hi, fun i b s hi => by rw [h i]; exact hI.far i b s hi⟩
theorem FE.congr (hf : FE w ρ H nx w' ρ' H' nx') {H2 : Heap} (h : ∀ i, H2.at i = H'.at i) : FE w ρ H nx w' ρ' H2 nx' :=
  ⟨hf.ext, fun i hi hn => ⟨(hf.no i hi hn).1, by rw [h i]; exact (hf.no i hi hn).2⟩, hf.nx, hf.old, hf.size, hf.os, hf.tape, hf.output⟩

/-- A block is written. -/
theorem InvH.write (hI : InvH w ρ H nx) {id b s : Nat} {T : TypeId} {cs cs' : List AV} (hid : id < 1073741824) (hb : ρ id = .at b s) (hH : H.at id = .row T cs) {vs' : Array Value} (hs : vs'.size = s) (hl : cs'.length ≤ s) (hc : CRs ρ cs' (vs'.toList.take cs'.length)) :
    InvH (w.setRow b vs') ρ (H.put id (.row T cs')) nx ∧ FE w ρ H nx (w.setRow b vs') ρ (H.put id (.row T cs')) nx := by
  obtain ⟨vs, h1, h2, h3, h4, _⟩ := hI.cells hH hb
  refine ⟨⟨hI.glob, hI.inj, fun i b' s' hi => ?_, fun i hi => ?_, fun i b' s' hi => ?_⟩, ⟨.refl, fun i hi hn => ?_, Nat.le_refl _, fun b' hb' hn => ?_, by simp, rfl, rfl, rfl⟩⟩
  rotate_left 2
  · have e : i ≠ id := fun e => by subst e; rw [hb] at hi; cases hi
    rw [Heap.at_put hid, if_neg e]; exact hI.far i b' s' hi
  rotate_left 2
  · by_cases e : i = id
    · subst e
      rw [hb] at hi; injection hi with e1 e2; subst e1 e2
      exact ⟨(hI.row _ _ _ hb).1, T, cs', vs', by rw [Heap.at_put hid]; simp, setRow_heap w b vs vs' T _ h1, hs, hl, hc⟩
    · obtain ⟨q1, T', cs1, vs1, q2, q3, q4⟩ := hI.row i b' s' hi
      have hne : b' ≠ b := fun e' => e (hI.inj i id b' s' s hi (by rw [e']; exact hb))
      exact ⟨q1, T', cs1, vs1, by rw [Heap.at_put hid, if_neg e]; exact q2, by rw [setRow_other w b b' vs' hne]; exact q3, q4⟩
  · have e : i ≠ id := fun e => by subst e; rw [hb] at hi; cases hi
    rw [Heap.at_put hid, if_neg e]; exact hI.dead i hi
  · have e : i ≠ id := fun e => by subst e; rw [hb] at hn; cases hn
    exact ⟨hn, by rw [Heap.at_put hid, if_neg e]⟩
  · have hne : b' ≠ b := fun e => hn id s (by rw [e]; exact hb)
    exact ⟨setRow_other w b b' vs' hne, hn⟩

theorem InvH.fresh (hI : InvH w ρ H nx) : ρ nx = .no := by
  cases h : ρ nx with
  | no => rfl
  | dead => exact absurd (hI.dead nx h).1 (Nat.lt_irrefl _)
  | «at» b s => exact absurd (hI.row nx b s h).1 (Nat.lt_irrefl _)
  | far b s => exact absurd (hI.far nx b s h).1 (Nat.lt_irrefl _)

/-- The world has a new block; the next name is its. -/
theorem InvH.grow (hI : InvH w ρ H nx) (hnx : nx < 1073741823) (hg : w.grownBy w' none) {g : Nat} {T : TypeId} {cs : List AV} {cur : Array Value} (hgs : w.heap.size ≤ g) (hb : w'.heap[g]? = some (.cells cur T (0, 0))) (hl : cs.length ≤ cur.size) (hc : CRs ρ cs (cur.toList.take cs.length)) :
    InvH w' (ρ.put nx (.at g cur.size)) (H.put nx (.row T cs)) (nx + 1) ∧ FE w ρ H nx w' (ρ.put nx (.at g cur.size)) (H.put nx (.row T cs)) (nx + 1) := by
  have hn := hI.fresh
  have hid : nx < 1073741824 := by omega
  have hx : Ext ρ (ρ.put nx (.at g cur.size)) := .put_no hn
  have hsame : ∀ b, b < w.heap.size → w'.heap[b]? = w.heap[b]? := fun b hb => hg.block b hb (by simp)
  refine ⟨⟨hI.glob.ext hx, fun i j b s s' hi hj => ?_, fun i b s hi => ?_, fun i hi => ?_, fun i b s hi => ?_⟩, ⟨hx, fun i hi hin => ?_, Nat.le_succ _, fun b hb hn' => ?_, hg.size, hg.os, hg.tape, hg.output⟩⟩
  rotate_left 3
  · have e1 : i ≠ nx := fun e => by subst e; rw [Map.put_at] at hi; cases hi
    rw [Map.put_ne ρ _ e1] at hi
    obtain ⟨q1, q2⟩ := hI.far i b s hi
    exact ⟨Nat.lt_succ_of_lt q1, by rw [Heap.at_put hid, if_neg e1]; exact q2⟩
  rotate_left 2
  · by_cases e1 : i = nx
    · by_cases e2 : j = nx
      · rw [e1, e2]
      · subst e1
        rw [Map.put_at] at hi; rw [Map.put_ne ρ _ e2] at hj
        injection hi with hi _; subst hi
        have := hI.lt hj; omega
    · by_cases e2 : j = nx
      · subst e2
        rw [Map.put_at] at hj; rw [Map.put_ne ρ _ e1] at hi
        injection hj with hj _; subst hj
        have := hI.lt hi; omega
      · rw [Map.put_ne ρ _ e1] at hi; rw [Map.put_ne ρ _ e2] at hj
        exact hI.inj i j b s s' hi hj
  · by_cases e1 : i = nx
    · subst e1
      rw [Map.put_at] at hi
      injection hi with h1 h2; subst h1 h2
      exact ⟨Nat.lt_succ_self _, T, cs, cur, by rw [Heap.at_put hid]; simp, hb, rfl, hl, hc.ext hx⟩
    · rw [Map.put_ne ρ _ e1] at hi
      obtain ⟨q1, T', cs1, vs1, q2, q3, q4, q5, q6⟩ := hI.row i b s hi
      exact ⟨Nat.lt_succ_of_lt q1, T', cs1, vs1, by rw [Heap.at_put hid, if_neg e1]; exact q2, by rw [hsame b (hI.lt hi)]; exact q3, q4, q5, q6.ext hx⟩
  · have e1 : i ≠ nx := fun e => by subst e; rw [Map.put_at] at hi; cases hi
    rw [Map.put_ne ρ _ e1] at hi
    obtain ⟨q1, q2⟩ := hI.dead i hi
    exact ⟨Nat.lt_succ_of_lt q1, by rw [Heap.at_put hid, if_neg e1]; exact q2⟩
  · have e1 : i ≠ nx := by omega
    exact ⟨by rw [Map.put_ne ρ _ e1]; exact hin, by rw [Heap.at_put hid, if_neg e1]⟩
  · refine ⟨hsame b hb, fun i s => ?_⟩
    by_cases e1 : i = nx
    · subst e1; rw [Map.put_at]; intro e; injection e with e _; omega
    · rw [Map.put_ne ρ _ e1]; exact hn' i s

/-- A name is given up. -/
theorem InvH.kill (hI : InvH w ρ H nx) {id b s : Nat} (hid : id < 1073741824) (hb : ρ id = .at b s) :
    InvH w (ρ.put id .dead) (H.put id .dead) nx ∧ FE w ρ H nx w (ρ.put id .dead) (H.put id .dead) nx := by
  have hx : Ext ρ (ρ.put id .dead) := ⟨fun i b s hi => by
    by_cases e : i = id
    · subst e; exact .inr (Map.put_at _ _ _)
    · rw [Map.put_ne ρ _ e]; exact .inl hi, fun i hi => by
    by_cases e : i = id
    · subst e; exact Map.put_at _ _ _
    · rw [Map.put_ne ρ _ e]; exact hi, fun i b' s' hi => by
    have e : i ≠ id := fun e => by subst e; rw [hb] at hi; cases hi
    rw [Map.put_ne ρ _ e]; exact hi⟩
  refine ⟨⟨hI.glob.ext hx, fun i j b s s' hi hj => ?_, fun i b s hi => ?_, fun i hi => ?_, fun i b' s' hi => (by
    have e : i ≠ id := fun e => by subst e; rw [Map.put_at] at hi; cases hi
    rw [Map.put_ne ρ _ e] at hi
    rw [Heap.at_put hid, if_neg e]; exact hI.far i b' s' hi)⟩, ⟨hx, fun i hi hn => ?_, Nat.le_refl _, fun b hb hn => ⟨rfl, fun i s => ?_⟩, Nat.le_refl _, rfl, rfl, rfl⟩⟩
  · have e1 : i ≠ id := fun e => by subst e; rw [Map.put_at] at hi; cases hi
    have e2 : j ≠ id := fun e => by subst e; rw [Map.put_at] at hj; cases hj
    rw [Map.put_ne ρ _ e1] at hi; rw [Map.put_ne ρ _ e2] at hj
    exact hI.inj i j b s s' hi hj
  · have e1 : i ≠ id := fun e => by subst e; rw [Map.put_at] at hi; cases hi
    rw [Map.put_ne ρ _ e1] at hi
    obtain ⟨q1, T, cs, vs, q2, q3, q4, q5, q6⟩ := hI.row i b s hi
    exact ⟨q1, T, cs, vs, by rw [Heap.at_put hid, if_neg e1]; exact q2, q3, q4, q5, q6.ext hx⟩
  · by_cases e : i = id
    · subst e; exact ⟨(hI.row _ _ _ hb).1, by rw [Heap.at_put hid]; simp⟩
    · rw [Map.put_ne ρ _ e] at hi
      rw [Heap.at_put hid, if_neg e]; exact hI.dead i hi
  · have e : i ≠ id := fun e => by subst e; rw [hb] at hn; cases hn
    exact ⟨by rw [Map.put_ne ρ _ e]; exact hn, by rw [Heap.at_put hid, if_neg e]⟩
  · by_cases e : i = id
    · subst e; rw [Map.put_at]; intro h; cases h
    · rw [Map.put_ne ρ _ e]; exact hn i s

/-- A block gets the next name instead of its own. -/
theorem InvH.rename (hI : InvH w ρ H nx) {id b s : Nat} {T : TypeId} {cs : List AV} (hnx : nx < 1073741823) (hid : id < 1073741824) (hb : ρ id = .at b s) (hH : H.at id = .row T cs) :
    InvH w ((ρ.put id .dead).put nx (.at b s)) ((H.put nx (.row T cs)).put id .dead) (nx + 1) ∧ FE w ρ H nx w ((ρ.put id .dead).put nx (.at b s)) ((H.put nx (.row T cs)).put id .dead) (nx + 1) := by
  obtain ⟨k1, k2⟩ := hI.kill hid hb
  obtain ⟨hlt, T', cs0, vs0, g2, g3, g4, g5, g6⟩ := hI.row id b s hb
  rw [hH] at g2; injection g2 with e1 e2; subst e1 e2
  have hne : id ≠ nx := by omega
  have hnx' : nx < 1073741824 := by omega
  have hn : (ρ.put id .dead) nx = .no := k1.fresh
  have hx : Ext (ρ.put id .dead) ((ρ.put id .dead).put nx (.at b s)) := .put_no hn
  have hat : ∀ i, ((H.put nx (.row T cs)).put id .dead).at i = if i = id then .dead else if i = nx then .row T cs else H.at i := fun i => by
    rw [Heap.at_put hid, Heap.at_put hnx']
  have hold : ∀ i b' s', ((ρ.put id .dead).put nx (.at b s)) i = .at b' s' → (i = nx ∧ b' = b ∧ s' = s) ∨ (i ≠ nx ∧ i ≠ id ∧ ρ i = .at b' s') := fun i b' s' hi => by
    by_cases e1 : i = nx
    · subst e1; rw [Map.put_at] at hi; injection hi with h1 h2; exact .inl ⟨rfl, h1.symm, h2.symm⟩
    · rw [Map.put_ne _ _ e1] at hi
      have e2 : i ≠ id := fun e => by subst e; rw [Map.put_at] at hi; cases hi
      rw [Map.put_ne _ _ e2] at hi
      exact .inr ⟨e1, e2, hi⟩
  refine ⟨⟨hI.glob.ext (k2.ext.trans hx), fun i j b' s1 s2 hi hj => ?_, fun i b' s' hi => ?_, fun i hi => ?_, fun i b' s' hi => (by
    have e1 : i ≠ nx := fun e => by subst e; rw [Map.put_at] at hi; cases hi
    rw [Map.put_ne _ _ e1] at hi
    have e2 : i ≠ id := fun e => by subst e; rw [Map.put_at] at hi; cases hi
    rw [Map.put_ne _ _ e2] at hi
    exact ⟨Nat.lt_succ_of_lt (hI.far i b' s' hi).1, by rw [hat, if_neg e2, if_neg e1]; exact (hI.far i b' s' hi).2⟩)⟩, ⟨k2.ext.trans hx, fun i hi hin => ?_, Nat.le_succ _, fun b' hb' hn' => ⟨rfl, fun i s' hi => ?_⟩, Nat.le_refl _, rfl, rfl, rfl⟩⟩
  · rcases hold i b' s1 hi with ⟨rfl, rfl, rfl⟩ | ⟨p1, p2, p3⟩
    · rcases hold j _ s2 hj with ⟨rfl, _, rfl⟩ | ⟨q1, q2, q3⟩
      · rfl
      · exact absurd (hI.inj j id _ _ _ q3 hb) q2
    · rcases hold j b' s2 hj with ⟨rfl, rfl, rfl⟩ | ⟨q1, q2, q3⟩
      · exact absurd (hI.inj i id _ _ _ p3 hb) p2
      · exact hI.inj i j _ _ _ p3 q3
  · rcases hold i b' s' hi with ⟨rfl, rfl, rfl⟩ | ⟨p1, p2, p3⟩
    · exact ⟨Nat.lt_succ_self _, T, cs, vs0, by rw [hat, if_neg (Ne.symm hne), if_pos rfl], g3, g4, g5, (g6.ext k2.ext).ext hx⟩
    · obtain ⟨q1, T', cs1, vs1, q2, q3, q4, q5, q6⟩ := hI.row i b' s' p3
      exact ⟨Nat.lt_succ_of_lt q1, T', cs1, vs1, by rw [hat, if_neg p2, if_neg p1]; exact q2, q3, q4, q5, (q6.ext k2.ext).ext hx⟩
  · have e1 : i ≠ nx := fun e => by subst e; rw [Map.put_at] at hi; cases hi
    rw [Map.put_ne _ _ e1] at hi
    by_cases e2 : i = id
    · subst e2; exact ⟨Nat.lt_succ_of_lt hlt, by rw [hat, if_pos rfl]⟩
    · rw [Map.put_ne _ _ e2] at hi
      exact ⟨Nat.lt_succ_of_lt (hI.dead i hi).1, by rw [hat, if_neg e2, if_neg e1]; exact (hI.dead i hi).2⟩
  · have e1 : i ≠ nx := by omega
    have e2 : i ≠ id := fun e => by subst e; rw [hb] at hin; cases hin
    exact ⟨by rw [Map.put_ne _ _ e1, Map.put_ne _ _ e2]; exact hin, by rw [hat, if_neg e2, if_neg e1]⟩
  · rcases hold i b' s' hi with ⟨rfl, rfl, rfl⟩ | ⟨p1, p2, p3⟩
    · exact hn' id _ hb
    · exact hn' i s' p3

/-! ### Cells -/
def AV.one : AV → Bool
  | .s _ | .p .. | .sl .. | .z _ | .f .. | .w .. => true
  | _ => false

theorem one_oneCell {x : AV} {v : Value} (h : CR ρ x v) (ho : x.one = true) : v.oneCell' = true := by
  cases h with
  | s x => cases x <;> rfl
  | pd _ _ _ _ h => exact h
  | sld _ _ _ _ _ _ _ _ h => exact h
  | u => cases ho
  | g => cases ho
  | yl => cases ho
  | a => cases ho
  | t => cases ho
  | _ => rfl

theorem ones_oneCell {xs : List AV} {us : List Value} (h : CRs ρ xs us) (ho : xs.all AV.one = true) : ∀ u ∈ us, u.oneCell' = true := fun u hu => by
  obtain ⟨j, hj, rfl⟩ := List.getElem_of_mem hu
  have hj' : j < xs.length := by rw [h.length]; exact hj
  exact one_oneCell (h.get' (List.getElem?_eq_getElem hj') (List.getElem?_eq_getElem hj)) (List.all_eq_true.1 ho _ (List.getElem_mem _))

theorem splice_length {cs xs : List AV} {off : Nat} (h : off + xs.length ≤ cs.length) : (splice cs off xs).length = cs.length := by
  simp [splice]; omega

theorem take_splice {α : Type} (l us : List α) (off n : Nat) (h : off + us.length ≤ n) (h2 : n ≤ l.length) : (l.take off ++ us ++ l.drop (off + us.length)).take n = (l.take n).take off ++ us ++ (l.take n).drop (off + us.length) := by
  have e1 : (l.take off).length = off := by simp; omega
  have e2 : l.take off = (l.take n).take off := by rw [List.take_take]; congr 1; omega
  rw [List.append_assoc, List.take_append, e1, List.take_append, List.take_of_length_le (l := l.take off) (by omega), List.take_of_length_le (l := us) (by omega), ← e2, List.append_assoc, List.drop_take]
  congr 3
  omega

/-- Cells are written: the run, and what the memory is then. -/
theorem store_run {P : Program} (hI : InvH w ρ H nx) {id off b s : Nat} {T : TypeId} {cs xs : List AV} {us : List Value} (hid : id < 1073741824) (hb : ρ id = .at b s) (hH : H.at id = .row T cs) (hc : CRs ρ xs us) (ho : xs.all AV.one = true) (hle : off + xs.length ≤ cs.length) :
    ∃ vs', (storeCells ⟨b, off, none⟩ us).run P w = .ok () (w.setRow b vs') ∧ InvH (w.setRow b vs') ρ (H.put id (.row T (splice cs off xs))) nx ∧ FE w ρ H nx (w.setRow b vs') ρ (H.put id (.row T (splice cs off xs))) nx := by
  obtain ⟨vs, h1, h2, h3, h4, _⟩ := hI.cells hH hb
  have hul : us.length = xs.length := hc.length.symm
  have hrun := run_storeCells_at P b off T us 0 vs w h1 (by omega) (ones_oneCell hc ho)
  simp only [Nat.add_zero] at hrun
  refine ⟨_, hrun, ?_⟩
  refine hI.write hid hb hH ?_ (by rw [splice_length hle]; exact h3) ?_
  · simp only [List.size_toArray, List.length_append, List.length_take, List.length_drop, Array.length_toList]; omega
  · rw [splice_length hle]
    have e := take_splice vs.toList us off cs.length (by omega) (by simp; omega)
    rw [e]
    have := ((h4.take off).append hc).append (h4.drop (off + us.length))
    simpa [splice, hul] using this
end
end Go.Bm
/-
  THE SECOND MACHINE: the operations that make blocks, and those that write.
-/
namespace Go.Bm
open Go
open Go.Am (Sc evalPure evalPure_run szO aggO zeroO intBin shiftBin isShift run_szO run_aggO sureAddr_run foldl_set zeroO_run add_eq newVar_run storeVar_run)

noncomputable def zeroCellsAV (z : List Value) (n : Nat) : List AV := (List.range n).map fun j => ofC (z.toArray[j % z.toArray.size]!)

/-- What an operation makes: a block's type, its cells; and what it answers, by the block's name. -/
inductive Ans
  | ptr | slice (sz n c : Nat)

noncomputable def Ans.val (id : Nat) : Ans → AV
  | .ptr => .p id 0
  | .slice sz n c => .sl id 0 sz n c true

noncomputable def opA (K : Tbl) (env : Env) (o : Op) : Option (TypeId × List AV × Ans) :=
  match o with
  | .alloc T => match K.zero T with | some z => some (T, z.map ofC, .ptr) | none => none
  | .box T x => match (rd env x).cells? with | some cs => some (T, cs, .ptr) | none => none
  | .buildSlice t len parts => match sliceK K t with
    | some e => match K.size e, K.zero e with
      | some sz, some z =>
        if len = 0 ∧ 0 < sz ∧ parts.isEmpty = true then some (e, [], .slice sz 0 0)
        else if 0 < len * sz ∧ len * sz ≤ 2 ^ 24 ∧ len ≤ maxLen then
          match fillAV (fun i => some (i * sz, sz)) (zeroCellsAV z (len * sz)) (partsAV env parts) with
          | some cells => if cells.length = len * sz then some (e, cells, .slice sz len len) else none
          | none => none
        else none
      | _, _ => none
    | none => none
  | .makeSlice t l c => match sliceK K t, rd env l, rd env c with
    | some e, .s (.i _ il), .s (.i _ ic) =>
      match K.size e, K.bytes e, K.zero e with
      | some sz, some by_, some z =>
        if 0 ≤ il ∧ il ≤ ic ∧ (by_ : Int) * ic ≤ 281474976710656 ∧ ic ≤ 9223372036854775807 ∧ 0 < sz then some (e, zeroCellsAV z (ic.toNat * sz), .slice sz il.toNat ic.toNat) else none
      | _, _, _ => none
    | _, _, _ => none
  | _ => none

noncomputable def liveS (H : Heap) (x : AV) : Bool :=
  match x with
  | .sl id _ _ n c _ => match H.at id with | .row .. => true | .dead => false
  | .s .sn | .z _ => true
  | _ => false

noncomputable def xAppend (K : Tbl) (H : Heap) (nx : Nat) (t : TypeId) (dst src : AV) : Option (AV × Heap × Nat) :=
  match sliceK K t with
  | some e => match K.size e, K.bytes e, K.zero e with
    | some sz, some by_, some z =>
      match srcCells H sz src with
      | some (0, _) => if liveS H dst then some (dst, H, nx) else none
      | some (k + 1, xs) =>
        if 0 < sz ∧ z.length = sz ∧ xs.all AV.one ∧ nx < 1073741823 then
          match dst with
          | .s .sn => if k + 1 ≤ maxLen ∧ (k + 1) * by_ ≤ 140737488355328 then some (.sl nx 0 sz (k + 1) (k + 1) false, H.put nx (.row e xs), nx + 1) else none
          | .z true => if k + 1 ≤ maxLen ∧ (k + 1) * by_ ≤ 140737488355328 then some (.sl nx 0 sz (k + 1) (k + 1) false, H.put nx (.row e xs), nx + 1) else none
          | .sl id off sz' n c ex => match H.at id with
            | .dead => none
            | .row T cs =>
              if sz' = sz ∧ id < nx then
                if n + (k + 1) ≤ c then
                  if off + (n + (k + 1)) * sz ≤ cs.length then some (.sl id off sz (n + (k + 1)) c ex, H.put id (.row T (splice cs (off + n * sz) xs)), nx) else none
                else if n + (k + 1) ≤ maxLen ∧ (n + (k + 1)) * by_ ≤ 140737488355328 ∧ off + n * sz ≤ cs.length then
                  if ex then some (.sl nx 0 sz (n + (k + 1)) (n + (k + 1)) false, H.put nx (.row e ((cs.drop off).take (n * sz) ++ xs)), nx + 1)
                  else if off = 0 ∧ T = e then some (.sl nx 0 sz (n + (k + 1)) (n + (k + 1)) false, (H.put nx (.row e (cs.take (n * sz) ++ xs))).put id .dead, nx + 1)
                  else none
                else none
              else none
          | _ => none
        else none
      | none => none
    | _, _, _ => none
  | none => none

/-- So many zeros, behind a slice whose capacity is known and does not do. -/
noncomputable def xAppendZ (K : Tbl) (H : Heap) (nx : Nat) (t t' : TypeId) (dst x : AV) : Option (AV × Heap × Nat) :=
  match sliceK K t, K.und t', dst, x with
  | some e, some (.int _), .sl id off sz' n c true, .s (.i _ (.ofNat (k + 1))) => match K.size e, K.bytes e, K.zero e, H.at id with
    | some sz, some by_, some z, .row _ cs =>
      if 0 < sz ∧ z.length = sz ∧ nx < 1073741823 ∧ sz' = sz ∧ c < n + (k + 1) ∧ n + (k + 1) ≤ maxLen ∧ (n + (k + 1)) * by_ ≤ 140737488355328 ∧ off + n * sz ≤ cs.length then
        some (.sl nx 0 sz (n + (k + 1)) (n + (k + 1)) false, H.put nx (.row e ((cs.drop off).take (n * sz) ++ zeroCellsAV z ((k + 1) * sz))), nx + 1)
      else none
    | _, _, _, _ => none
  | _, _, _, _ => none

noncomputable def xCopy (K : Tbl) (H : Heap) (t : TypeId) (dst src : AV) : Option (AV × Heap) :=
  match sliceK K t with
  | some e => match K.size e with
    | some sz => match srcCells H sz src with
      | some (k, xs) => match dst with
        | .s .sn => some (.s (.i .i64 0), H)
        | .z _ => some (.s (.i .i64 0), H)
        | .sl id off sz' n c ex => match H.at id with
          | .dead => none
          | .row T cs => if sz' = sz ∧ id < 1073741824 ∧ off + (min k n) * sz ≤ cs.length ∧ (xs.take (min k n * sz)).all AV.one then
              some (.s (.i .i64 (min k n : Nat)), H.put id (.row T (splice cs off (xs.take (min k n * sz))))) else none
        | _ => none
      | none => none
    | none => none
  | none => none

noncomputable def xClear (K : Tbl) (H : Heap) (t : TypeId) (x : AV) : Option (AV × Heap) :=
  match sliceK K t, x with
  | some _, .s .sn => some (.t [], H)
  | some _, .z _ => some (.t [], H)
  | some e, .sl id off sz n c ex => match H.at id, K.zero e with
    | .row T cs, some z => if K.size e = some sz ∧ z.length = sz ∧ id < 1073741824 ∧ off + n * sz ≤ cs.length ∧ (zeroCellsAV z (n * sz)).all AV.one then some (.t [], H.put id (.row T (splice cs off (zeroCellsAV z (n * sz))))) else none
    | _, _ => none
  | _, _ => none

noncomputable def xStore (K : Tbl) (H : Heap) (T : TypeId) (x y : AV) : Option Heap :=
  match x, y.cells?, K.size T with
  | .p id off, some xs, some sz => match H.at id with
    | .row T' cs => if xs.length = sz ∧ off + sz ≤ cs.length ∧ xs.all AV.one ∧ id < 1073741824 then some (H.put id (.row T' (splice cs off xs))) else none
    | .dead => none
  | _, _, _ => none

/-- The operations that write, but calls of functions. -/
noncomputable def opW (K : Tbl) (env : Env) (H : Heap) (nx : Nat) (o : Op) : Option (AV × Heap × Nat) :=
  match o with
  | .store T x y => (xStore K H T (rd env x) (rd env y)).map fun H' => (.u, H', nx)
  | .call { callee := .builtin b, args, argTypes } =>
    match b, args.toList, argTypes.toList with
    | .append, [s, x], [t, t'] => if t = t' then xAppend K H nx t (rd env s) (rd env x) else xAppendZ K H nx t t' (rd env s) (rd env x)
    | .copy, [s, x], [t, t'] => (xCopy K H t (rd env s) (rd env x)).map fun q => (q.1, q.2, nx)
    | .clear, [x], [t] => (xClear K H t (rd env x)).map fun q => (q.1, q.2, nx)
    | _, _, _ => none
  | _ => none

section
variable {K : Tbl} {P : Program} (hK : K.ok P) {w w' : World} {ρ ρ' : Map} {H H' : Heap} {nx nx' : Nat}

theorem zeroCells_CR (v : Value) (n : Nat) : CRs ρ (zeroCellsAV v.cells.toList n) ((Array.range n).map (v.cells[· % v.cells.size]!)).toList := by
  refine .of (by simp [zeroCellsAV]) fun j x u hx hu => ?_
  simp only [zeroCellsAV, Array.toArray_toList, List.getElem?_map, Option.map_eq_some_iff] at hx
  obtain ⟨i, hi, rfl⟩ := hx
  simp only [Array.toList_map, Array.toList_range, List.getElem?_map, Option.map_eq_some_iff] at hu
  obtain ⟨i', hi', rfl⟩ := hu
  rw [hi] at hi'; injection hi' with hi'; subst hi'
  exact CR_ofC _

include hK in
theorem opA_sound {env : Env} {a : Act} {o : Oper} {T : TypeId} {cs : List AV} {r : Ans} (hrd : ∀ x ∈ o.op.operands.toList, CR ρ (rd env x) (a.eval x)) (h : opA K env o.op = some (T, cs, r)) :
    ∃ vs v, (execOp a.eval o).run P w = .ok (.value v) { w with heap := w.heap.push (.cells vs T (0, 0)) } ∧ CRs ρ cs vs.toList ∧ ∀ (ρ' : Map) (id : Nat), ρ' id = .at w.heap.size vs.size → CR ρ' (r.val id) v := by
  obtain ⟨dst, op, ty, pos, after, guard⟩ := o
  cases op <;> simp only [opA, reduceCtorEq] at h <;> simp only [Op.operands] at hrd
  case alloc T' =>
    split at h; rotate_left
    · cases h
    rename_i z hz
    simp only [Option.some.injEq, Prod.mk.injEq] at h
    obtain ⟨rfl, rfl, rfl⟩ := h
    obtain ⟨i, v, hi, hzv, rfl⟩ := zeroO_run (hK.zero _ _ hz)
    exact ⟨v.cells, _, by simp [execOp, Instr.alloc, zeroValue, typeInfo, hi, hzv, newVar_run], CRs_ofC _, fun ρ' id hρ => .p _ _ _ _ (.inl hρ)⟩
  case box T' x =>
    split at h; rotate_left
    · cases h
    rename_i cs' hcs
    simp only [Option.some.injEq, Prod.mk.injEq] at h
    obtain ⟨rfl, rfl, rfl⟩ := h
    exact ⟨(a.eval x).cells, _, by simp [execOp, Instr.box, newVar_run], cells?_CR hcs (hrd x (by simp)), fun ρ' id hρ => .p _ _ _ _ (.inl hρ)⟩
  case buildSlice t len parts =>
    split at h; rotate_left
    · cases h
    rename_i e he
    split at h; rotate_left
    · cases h
    rename_i sz z hs hz
    split at h
    · rename_i hb
      obtain ⟨rfl, h0, hpe⟩ := hb
      simp only [Option.some.injEq, Prod.mk.injEq] at h
      obtain ⟨rfl, rfl, rfl⟩ := h
      have hp : parts = #[] := Array.isEmpty_iff.1 hpe
      subst hp
      have hrun : (Instr.buildSlice t 0 #[]).run P w = .ok (.slice (some ⟨w.heap.size, 0, none⟩) 0 0) (w.alloc (.cells #[] e)) := by
        simp [Instr.buildSlice, run_underlying (sliceK_ok hK he), run_szO (hK.size _ _ hs), Instr.fill, newRow]
        simp [Array.range]
      refine ⟨#[], _, by simp only [execOp, Array.map_empty, Sem.run_bind, hrun, Result.andThen_ok, Sem.run_pure]; rfl, .nil, fun ρ' id hρ => ?_⟩
      exact .sl _ _ _ _ _ _ _ _ _ (.inl hρ) (Nat.le_refl _) (Nat.le_refl _) (fun _ => rfl) (Nat.zero_le _) (by simp) h0
    split at h; rotate_left
    · cases h
    rename_i hb
    split at h; rotate_left
    · cases h
    rename_i cells hfill
    split at h; rotate_left
    · cases h
    rename_i hlen
    simp only [Option.some.injEq, Prod.mk.injEq] at h
    obtain ⟨rfl, rfl, rfl⟩ := h
    obtain ⟨ie, hie, rfl⟩ := szO_info (hK.size _ _ hs)
    obtain ⟨ie', zv, hie', hzv, rfl⟩ := zeroO_run (hK.zero _ _ hz)
    rw [hie] at hie'; injection hie' with hie'; subst hie'
    obtain ⟨b1, b2, b3⟩ := hb
    obtain ⟨pl, pr⟩ := parts_rel (ρ := ρ) (env := env) (ev := a.eval) (parts := parts) (fun q hq => hrd q.2 (by simp; exact ⟨q.1, by simpa using hq⟩))
    obtain ⟨vc, f1, f2⟩ := fill_sound _ _ _ _ ((Array.range (len * ie.size)).map (zv.cells[· % zv.cells.size]!)) cells (zeroCells_CR zv _) pl pr hfill
    have hvl : vc.size = len * ie.size := by have := f2.length; simp at this; omega
    have hparts : (parts.map fun (i, x) => (i, a.eval x)).toList = parts.toList.map fun q => (q.1, a.eval q.2) := by simp
    have hrun := run_buildSlice (P := P) w t _ len (parts.map fun (i, x) => (i, a.eval x)) vc ie zv (sliceK_ok hK he) hie hzv (by omega) (by omega) (by rw [hparts]; exact f1)
    refine ⟨vc, _, by simp only [execOp, Sem.run_bind, hrun, Result.andThen_ok, Sem.run_pure]; rfl, f2, fun ρ' id hρ => ?_⟩
    have h0 : 0 < ie.size := by
      rcases Nat.eq_zero_or_pos ie.size with h0 | h0
      · rw [h0] at b1; simp at b1
      · exact h0
    exact .sl _ _ _ _ _ _ _ _ _ (.inl hρ) (Nat.le_refl _) (Nat.le_refl _) (fun _ => rfl) b3 (by omega) h0
  case makeSlice t l c =>
    split at h; rotate_left
    · cases h
    rename_i e kl il kc ic he hl hc
    split at h; rotate_left
    · cases h
    rename_i sz by_ z hs hby hz
    split at h; rotate_left
    · cases h
    rename_i hb
    simp only [Option.some.injEq, Prod.mk.injEq] at h
    obtain ⟨rfl, rfl, rfl⟩ := h
    obtain ⟨ie, hie, rfl⟩ := szO_info (hK.size _ _ hs)
    obtain ⟨ie', zv, hie', hzv, rfl⟩ := zeroO_run (hK.zero _ _ hz)
    rw [hie] at hie'; injection hie' with hie'; subst hie'
    have hby := hK.bytes _ _ hby
    rw [hie] at hby
    simp only [Option.map_some, Option.some.injEq] at hby
    subst hby
    obtain ⟨b1, b2, b3, b4, b5⟩ := hb
    have hvl := hrd l (by simp)
    have hvc := hrd c (by simp)
    rw [hl] at hvl; rw [hc] at hvc
    generalize hul : a.eval l = ul at hvl
    generalize huc : a.eval c = uc at hvc
    cases hvl; cases hvc
    have hrun := run_make (P := P) w t _ ie zv (sliceK_ok hK he) hie hzv kl kc il ic b1 b2 b3 b4
    refine ⟨madeCells zv.cells (ic.toNat * ie.size), _, by simp only [execOp, hul, huc, Sc.val, Sem.run_bind, hrun, Result.andThen_ok, Sem.run_pure]; rfl, zeroCells_CR zv _, fun ρ' id hρ => ?_⟩
    rw [size_madeCells] at hρ
    exact .sl _ _ _ _ _ _ _ _ _ (.inl hρ) (by omega) (Nat.le_refl _) (fun _ => rfl) (by simp only [maxLen]; omega) (by omega) b5

include hK in
theorem xStore_sound (hI : InvH w ρ H nx) {T : TypeId} {x y : AV} {vx vy : Value} (h : xStore K H T x y = some H') (hx : CR ρ x vx) (hy : CR ρ y vy) :
    ∃ w', (Instr.storeAt T vx vy).run P w = .ok () w' ∧ InvH w' ρ H' nx ∧ FE w ρ H nx w' ρ H' nx := by
  unfold xStore at h
  split at h
  rotate_left
  · cases h
  rename_i id off xs sz hcs hsz
  split at h
  rotate_left
  · cases h
  rename_i T' cs hH
  split at h
  rotate_left
  · cases h
  rename_i hb
  obtain ⟨b1, b2, b3, b4⟩ := hb
  injection h with h; subst h
  obtain ⟨b, s, hb, rfl⟩ := p_inv hI hH hx
  have hc := cells?_CR hcs hy
  obtain ⟨vs', r1, r2, r3⟩ := store_run (P := P) hI b4 hb hH hc b3 (off := off) (by omega)
  exact ⟨_, storeVar_run (hK.size _ _ hsz) (by rw [← hc.length]; exact b1) r1, r2, r3⟩
end
end Go.Bm
/-
  THE SECOND MACHINE: append, copy and clear are sound.
-/
namespace Go.Bm
open Go
open Go.Am (Sc evalPure evalPure_run szO aggO zeroO intBin shiftBin isShift run_szO run_aggO sureAddr_run foldl_set zeroO_run add_eq newVar_run storeVar_run)

section
variable {K : Tbl} {P : Program} (hK : K.ok P) {w w' : World} {ρ ρ' : Map} {H H' : Heap} {nx nx' : Nat}

/-- Nothing is appended. -/
theorem append_none {t e ty : TypeId} {i : TypeInfo} (ht : P.underlying t = some (.slice e)) (hi : P.info? e = some i) {B A : Option Addr} {n cap c : Nat} (hn : n ≤ cap) :
    (Builtin.append_ #[t, t] ty #[.slice B n cap, .slice A 0 c]).run P w = .ok (.slice B n cap) w := by
  have hl : (loadCells (A.getD ⟨0, 0, none⟩) 0).run P w = .ok #[] w := by
    have := run_loadCells_list (P := P) w (A.getD ⟨0, 0, none⟩) [] (fun j v h => by simp at h)
    simpa using this
  have hf : (Builtin.firstCells i.size 0 (.slice A 0 c)).run P w = .ok #[] w := by
    cases A with
    | none => rfl
    | some a => simp only [Builtin.firstCells, Nat.zero_mul]; simpa using hl
  cases B with
  | none => simp [Builtin.append_, run_underlying ht, sizeOf, typeInfo, hi, Builtin.lenOf, hn, hf]
  | some b => simp [Builtin.append_, run_underlying ht, sizeOf, typeInfo, hi, Builtin.lenOf, hn, hf, storeCells]

theorem append_room {t e ty : TypeId} {i : TypeInfo} (ht : P.underlying t = some (.slice e)) (hi : P.info? e = some i) {b off n cap k c : Nat} {A : Addr} {us : List Value} {w' : World} (hl : us.length = k * i.size) (hu : ∀ j y, us[j]? = some y → w.cell? (A.add j) = some y)
    (hroom : n + k ≤ cap) (hst : (storeCells (⟨b, off + n * i.size, none⟩ : Addr) us).run P w = .ok () w') :
    (Builtin.append_ #[t, t] ty #[.slice (some ⟨b, off, none⟩) n cap, .slice (some A) k c]).run P w = .ok (.slice (some ⟨b, off, none⟩) (n + k) cap) w' := by
  have hfc := run_firstCells_some (P := P) w i.size k A k c us hl hu
  have ha : (⟨b, off, none⟩ : Addr).add (n * i.size) = ⟨b, off + n * i.size, none⟩ := add_eq rfl _
  simp [Builtin.append_, run_underlying ht, sizeOf, typeInfo, hi, Builtin.lenOf, hroom, hfc, ha, hst]

theorem grown_CR {e sz n : Nat} {v' : Value} {vs : List Value} {xs : List AV} {g0 : Nat} (hown : w'.ownsRow g0 e sz v' n vs) (hn : n ≠ 0) (h0 : 0 < sz) :
    ∃ g cap cur, v' = .slice (some ⟨g, 0, none⟩) n cap ∧ g0 ≤ g ∧ w'.heap[g]? = some (.cells cur e (0, 0)) ∧ vs.length ≤ cur.size ∧ cur.toList.take vs.length = vs ∧ ∀ (ρ : Map) (id : Nat), ρ id = .at g cur.size → CR ρ (.sl id 0 sz n n false) v' := by
  obtain ⟨hl, h⟩ := hown
  rcases h with ⟨_, h⟩ | ⟨g, cap, cur, rfl, h1, h2, h3, h4, h5, h6⟩
  · exact absurd h hn
  have hle : n * sz ≤ cap * sz := Nat.mul_le_mul_right _ h3
  exact ⟨g, cap, cur, rfl, h1, h2, by rw [hl, h5]; exact hle, by rw [hl]; exact h6, fun ρ id hρ => .sl _ _ _ _ _ _ _ _ _ (.inl hρ) (Nat.le_refl _) h3 (fun h => by cases h) h4 (by omega) h0⟩

include hK in
theorem xAppend_sound (hI : InvH w ρ H nx) {t ty : TypeId} {dst src r : AV} {vd vs : Value} (h : xAppend K H nx t dst src = some (r, H', nx')) (hd : CR ρ dst vd) (hs : CR ρ src vs) :
    ∃ q w' ρ', (Builtin.append_ #[t, t] ty #[vd, vs]).run P w = .ok q w' ∧ InvH w' ρ' H' nx' ∧ CR ρ' r q ∧ FE w ρ H nx w' ρ' H' nx' := by
  unfold xAppend at h
  split at h; rotate_left
  · cases h
  rename_i e he
  have ht := sliceK_ok hK he
  split at h; rotate_left
  · cases h
  rename_i sz by_ z hsz hby hz
  obtain ⟨ie, hie, rfl⟩ := szO_info (hK.size _ _ hsz)
  obtain ⟨ie', zv, hie', hzv, rfl⟩ := zeroO_run (hK.zero _ _ hz)
  rw [hie] at hie'; injection hie' with hie'; subst hie'
  have hby := hK.bytes _ _ hby
  rw [hie] at hby
  simp only [Option.map_some, Option.some.injEq] at hby
  subst hby
  split at h
  · -- nothing
    rename_i xs hsrc
    split at h; rotate_left
    · cases h
    rename_i hlive
    simp only [Option.some.injEq, Prod.mk.injEq] at h
    obtain ⟨rfl, rfl, rfl⟩ := h
    obtain ⟨A, c, us, rfl, _, _, _⟩ := src_sound hI hsrc hs
    have hv : ∃ B n cap, vd = .slice B n cap ∧ n ≤ cap := by
      unfold liveS at hlive
      split at hlive
      · rename_i id off sz n c' ex
        split at hlive
        · rename_i T cs hH
          obtain ⟨b, bs, cap, _, rfl, q1, q2, _⟩ := sl_inv hI hH hd
          exact ⟨_, _, _, rfl, by omega⟩
        · cases hlive
      · cases hd; exact ⟨none, 0, 0, rfl, Nat.le_refl _⟩
      · cases hd; exact ⟨_, 0, _, rfl, Nat.zero_le _⟩
      · cases hlive
    obtain ⟨B, n, cap, rfl, hn⟩ := hv
    exact ⟨_, w, ρ, append_none ht hie hn, hI, hd, .refl⟩
  · rename_i k xs hsrc
    obtain ⟨A, c, us, rfl, hxs, hul, hA⟩ := src_sound (k := k + 1) hI hsrc hs
    obtain ⟨ad, rfl, hcell⟩ := hA (by omega)
    split at h; rotate_left
    · cases h
    rename_i hb
    obtain ⟨b1, b2, b3, b4⟩ := hb
    have hone := ones_oneCell hxs b3
    have hxl : xs.length = us.length := hxs.length
    split at h
    · -- nil
      split at h; rotate_left
      · cases h
      rename_i hb
      simp only [Option.some.injEq, Prod.mk.injEq] at h
      obtain ⟨rfl, rfl, rfl⟩ := h
      cases hd
      obtain ⟨v', w', q1, q2, q3, _, q5⟩ := run_append_own_at (P := P) w w.heap.size t ty e ie zv ie.size ie.bytes ht hie hzv rfl rfl (by simpa using b2) b1 (.slice none 0 0) 0 [] ⟨by simp, .inl ⟨rfl, rfl⟩⟩ ad (k + 1) c us hul hcell hone (by simpa using hb.1) (by simpa using hb.2) (Nat.le_refl _)
      simp only [Nat.zero_add, List.nil_append] at q2
      obtain ⟨g, cap, cur, rfl, g1, g2, g3, g4, g5⟩ := grown_CR (xs := xs) q2 (by omega) b1
      obtain ⟨k1, k2⟩ := hI.grow b4 (w' := w') (g := g) (T := e) (cs := xs) (cur := cur) q3 g1 g2 (by omega) (by rw [hxl, g4]; exact hxs)
      exact ⟨_, w', _, q1, k1, g5 _ _ (Map.put_at _ _ _), k2⟩
    · -- empty, of no capacity
      split at h; rotate_left
      · cases h
      rename_i hb
      simp only [Option.some.injEq, Prod.mk.injEq] at h
      obtain ⟨rfl, rfl, rfl⟩ := h
      cases hd with | z _ bd cap hc0 _ =>
      obtain rfl := hc0 rfl
      obtain ⟨v', w', q1, q2, q3⟩ := run_append_arg_grows (P := P) w t ty e ie zv ie.size ie.bytes ht hie hzv rfl rfl (by simpa using b2) b1 bd 0 0 [] (by simp) (fun j u h => by simp at h) ad (k + 1) c us hul hcell (by omega) (by simpa using hb.1) (by simpa using hb.2)
      simp only [Nat.zero_add, List.nil_append] at q2
      obtain ⟨g, cap, cur, rfl, g1, g2, g3, g4, g5⟩ := grown_CR (xs := xs) q2 (by omega) b1
      obtain ⟨k1, k2⟩ := hI.grow b4 (w' := w') (g := g) (T := e) (cs := xs) (cur := cur) q3 g1 g2 (by omega) (by rw [hxl, g4]; exact hxs)
      exact ⟨_, w', _, q1, k1, g5 _ _ (Map.put_at _ _ _), k2⟩
    · rename_i id off sz' n cc ex
      split at h; · cases h
      rename_i T cs hH
      split at h; rotate_left
      · cases h
      rename_i hb5
      obtain ⟨rfl, hidn⟩ := hb5
      obtain ⟨b, bs, cap, hb, rfl, p1, p2, p3, p4, p5, p6⟩ := sl_inv hI hH hd
      obtain ⟨vs0, h1, h2, h3, h4, h5⟩ := hI.cells hH hb
      split at h
      · -- in its place
        rename_i hroom
        split at h; rotate_left
        · cases h
        rename_i hle
        simp only [Option.some.injEq, Prod.mk.injEq] at h
        obtain ⟨rfl, rfl, rfl⟩ := h
        have hmul : (n + (k + 1)) * ie.size = n * ie.size + (k + 1) * ie.size := Nat.add_mul _ _ _
        have hle2 : off + n * ie.size + xs.length ≤ cs.length := by rw [hxl, hul]; omega
        obtain ⟨vs', r1, r2, r3⟩ := store_run (P := P) hI (by omega) hb hH hxs b3 (off := off + n * ie.size) hle2
        refine ⟨_, _, ρ, append_room ht hie hul hcell (by omega) r1, r2, ?_, r3⟩
        exact .sl _ _ _ _ _ _ b bs cap (.inl hb) hroom p2 p3 p4 p5 p6
      · rename_i hroom
        split at h; rotate_left
        · cases h
        rename_i hb6
        obtain ⟨c1, c2, c3⟩ := hb6
        have hold : ∀ j u, (((vs0.toList.take cs.length).drop off).take (n * ie.size))[j]? = some u → w.cell? ((⟨b, off, none⟩ : Addr).add j) = some u := fun j u hu => by
          rw [List.getElem?_take] at hu
          split at hu
          · rw [List.getElem?_drop] at hu
            rw [add_eq rfl]; exact h5 _ _ hu
          · cases hu
        have holdl : (((vs0.toList.take cs.length).drop off).take (n * ie.size)).length = n * ie.size := by have := h4.length; simp at this ⊢; omega
        have hnew : CRs ρ ((cs.drop off).take (n * ie.size) ++ xs) (((vs0.toList.take cs.length).drop off).take (n * ie.size) ++ us) := ((h4.drop off).take _).append hxs
        have hgrow : cap < n + (k + 1) → ∃ q w', (Builtin.append_ #[t, t] ty #[.slice (some ⟨b, off, none⟩) n cap, .slice (some ad) (k + 1) c]).run P w = .ok q w' ∧
            ∃ ρ', InvH w' ρ' (H.put nx (.row e ((cs.drop off).take (n * ie.size) ++ xs))) (nx + 1) ∧ FE w ρ H nx w' ρ' (H.put nx (.row e ((cs.drop off).take (n * ie.size) ++ xs))) (nx + 1) ∧ CR ρ' (.sl nx 0 ie.size (n + (k + 1)) (n + (k + 1)) false) q ∧ ρ' id = .at b bs := by
          intro hg
          obtain ⟨v', w', q1, q2, q3⟩ := run_append_arg_grows (P := P) w t ty e ie zv ie.size ie.bytes ht hie hzv rfl rfl (by simpa using b2) b1 ⟨b, off, none⟩ n cap _ holdl hold ad (k + 1) c us hul hcell hg c1 c2
          obtain ⟨g, cap', cur, rfl, g1, g2, g3, g4, g5⟩ := grown_CR (xs := xs) q2 (by omega) b1
          have hll := hnew.length
          obtain ⟨k1, k2⟩ := hI.grow b4 (w' := w') (g := g) (T := e) (cs := (cs.drop off).take (n * ie.size) ++ xs) (cur := cur) q3 g1 g2 (by rw [hll]; exact g3) (by rw [hll, g4]; exact hnew)
          exact ⟨_, w', q1, _, k1, k2, g5 _ _ (Map.put_at _ _ _), by rw [Map.put_ne _ _ (by omega)]; exact hb⟩
        split at h
        · rename_i hex
          simp only [Option.some.injEq, Prod.mk.injEq] at h
          obtain ⟨rfl, rfl, rfl⟩ := h
          obtain ⟨q, w', q1, ρ', q2, q3, q4, _⟩ := hgrow (by have := p3 hex; omega)
          exact ⟨q, w', ρ', q1, q2, q4, q3⟩
        · split at h; rotate_left
          · cases h
          rename_i hz0
          obtain ⟨rfl, rfl⟩ := hz0
          simp only [Option.some.injEq, Prod.mk.injEq] at h
          obtain ⟨rfl, rfl, rfl⟩ := h
          simp only [List.drop_zero] at hgrow hnew hold holdl
          rcases Nat.lt_or_ge cap (n + (k + 1)) with hg | hg
          · obtain ⟨q, w', q1, ρ', q2, q3, q4, q5⟩ := hgrow hg
            obtain ⟨m1, m2⟩ := q2.kill (id := id) (by omega) q5
            exact ⟨q, w', _, q1, m1, q4.ext m2.ext, q3.trans m2⟩
          · -- there is room, of which we did not know
            have hmul : (n + (k + 1)) * ie.size = n * ie.size + (k + 1) * ie.size := Nat.add_mul _ _ _
            have hcapm : (n + (k + 1)) * ie.size ≤ cap * ie.size := Nat.mul_le_mul_right _ hg
            have hrun := run_storeCells_at P b (n * ie.size) T us 0 vs0 w h1 (by rw [hul]; omega) hone
            simp only [Nat.add_zero] at hrun
            have hr2 := append_room (P := P) (ty := ty) (b := b) (off := 0) (n := n) (cap := cap) (c := c) ht hie hul hcell hg (w' := w.setRow b (vs0.toList.take (n * ie.size) ++ us ++ vs0.toList.drop (n * ie.size + us.length)).toArray) (by rw [Nat.zero_add]; exact hrun)
            have hvl : (vs0.toList.take (n * ie.size) ++ us ++ vs0.toList.drop (n * ie.size + us.length)).toArray.size = bs := by
              simp only [List.size_toArray, List.length_append, List.length_take, List.length_drop, Array.length_toList, hul]; omega
            have hnl := hnew.length
            simp only [List.length_append, holdl, hul] at hnl
            have hxl2 : (cs.take (n * ie.size) ++ xs).length = n * ie.size + us.length := by rw [List.length_append, hnl, hul]
            obtain ⟨m1, m2⟩ := hI.write (cs' := cs.take (n * ie.size) ++ xs) (by omega) hb hH hvl (by rw [hxl2, hul]; omega) (by
              rw [hxl2]
              have e1 : (vs0.toList.take (n * ie.size) ++ us ++ vs0.toList.drop (n * ie.size + us.length)).take (n * ie.size + us.length) = vs0.toList.take (n * ie.size) ++ us := by
                rw [List.take_append_of_le_length (by simp [hul]; omega), List.take_of_length_le (by simp; omega)]
              have e2 : vs0.toList.take (n * ie.size) = (vs0.toList.take cs.length).take (n * ie.size) := by rw [List.take_take]; congr 1; omega
              show CRs ρ _ ((vs0.toList.take (n * ie.size) ++ us ++ vs0.toList.drop (n * ie.size + us.length)).take (n * ie.size + us.length))
              rw [e1, e2]; exact hnew)
            obtain ⟨m3, m4⟩ := m1.rename b4 (id := id) (by omega) hb (T := T) (cs := cs.take (n * ie.size) ++ xs) (by rw [Heap.at_put (by omega)]; simp)
            have hat : ∀ i, ((H.put nx (.row T (cs.take (n * ie.size) ++ xs))).put id .dead).at i = (((H.put id (.row T (cs.take (n * ie.size) ++ xs))).put nx (.row T (cs.take (n * ie.size) ++ xs))).put id .dead).at i := fun i => by
              rw [Heap.at_put (by omega), Heap.at_put (by omega), Heap.at_put (by omega), Heap.at_put (by omega), Heap.at_put (by omega)]
              by_cases e1 : i = id
              · rw [if_pos e1, if_pos e1]
              · rw [if_neg e1, if_neg e1, if_neg e1]
            refine ⟨_, _, _, hr2, m3.congr hat, ?_, (m2.trans m4).congr hat⟩
            exact .sl _ _ _ _ _ _ b bs cap (.inl (Map.put_at _ _ _)) (Nat.le_refl _) hg (fun h => by cases h) p4 p5 p6
    · cases h
  · cases h

theorem append_zeros_grow {t tn ty e : TypeId} {i : TypeInfo} {z : Value} {k kn : IntKind} (ht : P.underlying t = some (.slice e)) (htn : P.underlying tn = some (.int kn)) (hi : P.info? e = some i) (hz : i.zero = some z)
    {b : Addr} {sLen sCap n : Nat} {olds : List Value} (hlo : olds.length = sLen * i.size) (holds : ∀ j v, olds[j]? = some v → w.cell? (b.add j) = some v)
    (h0 : 0 < n) (hs : 0 < i.size) (hg : sCap < sLen + n) (h63 : ((sLen + n : Nat) : Int) ≤ 9223372036854775807) (hbytes : (sLen + n) * i.bytes ≤ 140737488355328) :
    (Builtin.append_ #[t, tn] ty #[.slice (some b) sLen sCap, .int k n]).run P w =
      .ok (.slice (some ⟨w.heap.size, 0, none⟩) (sLen + n) (grownCap w (sLen + n) sCap e))
        (w.drew.alloc (.cells (olds.toArray ++ Builtin.zeroCells z.cells n ++ Builtin.zeroCells z.cells (grownCap w (sLen + n) sCap e - (sLen + n))) e)) := by
  have hn : ¬ (sLen + n ≤ sCap) := by omega
  have hw : IntKind.i64.wrap (n : Int) = n := by rw [IntKind.wrap_i64]; omega
  have h63' : ¬ (9223372036854775807 < ((sLen : Int) + (n : Int))) := by omega
  have h48' : ¬ (281474976710656 < Builtin.nextslicecap (sLen + n) sCap * i.bytes) := by have := growslice_fits hg hbytes; omega
  have h48i : ¬ (281474976710656 < (n : Int) * (i.bytes : Int)) := by
    rw [← Int.natCast_mul]
    have : n * i.bytes ≤ (sLen + n) * i.bytes := Nat.mul_le_mul_right _ (by omega)
    omega
  have hneg : ¬ ((n : Int) < 0) := by omega
  have hns : ¬ (n * i.size = 0) := Nat.mul_ne_zero (by omega) (by omega)
  have hfo := run_firstCells_some (P := P) w.drew i.size sLen b sLen sCap olds hlo (by simpa using holds)
  simp [Builtin.append_, run_underlying ht, run_underlying htn, sizeOf, typeInfo, zeroValue, hi, hz, asInt, asIntOf, hw, hn, hneg, hns, h63', h48', h48i, Question.forced, hfo, newRow, grownCap]

include hK in
theorem xAppendZ_sound (hI : InvH w ρ H nx) {t t' ty : TypeId} {dst x r : AV} {vd vx : Value} (h : xAppendZ K H nx t t' dst x = some (r, H', nx')) (hd : CR ρ dst vd) (hx : CR ρ x vx) :
    ∃ q w' ρ', (Builtin.append_ #[t, t'] ty #[vd, vx]).run P w = .ok q w' ∧ InvH w' ρ' H' nx' ∧ CR ρ' r q ∧ FE w ρ H nx w' ρ' H' nx' := by
  unfold xAppendZ at h
  split at h; rotate_left
  · cases h
  rename_i e kn id off sz' n c ki k he htn
  have ht := sliceK_ok hK he
  split at h; rotate_left
  · cases h
  rename_i sz by_ z T cs hsz hby hz hH
  obtain ⟨ie, hie, rfl⟩ := szO_info (hK.size _ _ hsz)
  obtain ⟨ie', zv, hie', hzv, rfl⟩ := zeroO_run (hK.zero _ _ hz)
  rw [hie] at hie'; injection hie' with hie'; subst hie'
  have hby := hK.bytes _ _ hby
  rw [hie] at hby
  simp only [Option.map_some, Option.some.injEq] at hby
  subst hby
  split at h; rotate_left
  · cases h
  rename_i hb
  obtain ⟨b1, b2, b3, rfl, b5, b6, b7, b8⟩ := hb
  simp only [Option.some.injEq, Prod.mk.injEq] at h
  obtain ⟨rfl, rfl, rfl⟩ := h
  obtain ⟨b, bs, cap, hb, rfl, p1, p2, p3, p4, p5, p6⟩ := sl_inv hI hH hd
  obtain ⟨vs0, h1, h2, h3, h4, h5⟩ := hI.cells hH hb
  obtain rfl := p3 rfl
  cases hx
  have hold : ∀ j u, (((vs0.toList.take cs.length).drop off).take (n * ie.size))[j]? = some u → w.cell? ((⟨b, off, none⟩ : Addr).add j) = some u := fun j u hu => by
    rw [List.getElem?_take] at hu
    split at hu
    · rw [List.getElem?_drop] at hu
      rw [add_eq rfl]; exact h5 _ _ hu
    · cases hu
  have holdl : (((vs0.toList.take cs.length).drop off).take (n * ie.size)).length = n * ie.size := by have := h4.length; simp at this ⊢; omega
  have hzl : zv.cells.size = ie.size := by simpa using b2
  have hrun := append_zeros_grow (P := P) (w := w) (ty := ty) (k := ki) (b := ⟨b, off, none⟩) (sLen := n) (sCap := cap) (n := k + 1) ht (hK.und _ _ htn) hie hzv holdl hold (by omega) b1 b5 (by simp only [maxLen] at b6; omega) b7
  have hge := grownCap_ge w (n + (k + 1)) cap e
  have hcm : grownCap w (n + (k + 1)) cap e ≤ maxLen := grownCap_le_maxLen w (n + (k + 1)) cap e b6
  have hzc : ∀ m, (Builtin.zeroCells zv.cells m).toList = ((Array.range (m * ie.size)).map (zv.cells[· % zv.cells.size]!)).toList := fun m => by
    unfold Builtin.zeroCells; rw [hzl]
  have hzsz : ∀ m, (Builtin.zeroCells zv.cells m).size = m * ie.size := fun m => by rw [size_zeroCells, hzl]
  have hnew : CRs ρ ((cs.drop off).take (n * ie.size) ++ zeroCellsAV zv.cells.toList ((k + 1) * ie.size)) (((vs0.toList.take cs.length).drop off).take (n * ie.size) ++ (Builtin.zeroCells zv.cells (k + 1)).toList) := by
    rw [hzc]; exact ((h4.drop off).take _).append (zeroCells_CR zv _)
  have hll := hnew.length
  have hmul : (n + (k + 1)) * ie.size = n * ie.size + (k + 1) * ie.size := Nat.add_mul _ _ _
  have hl2 : (((vs0.toList.take cs.length).drop off).take (n * ie.size) ++ (Builtin.zeroCells zv.cells (k + 1)).toList).length = (n + (k + 1)) * ie.size := by
    rw [List.length_append, holdl, Array.length_toList, hzsz, hmul]
  have hcur : ((((vs0.toList.take cs.length).drop off).take (n * ie.size)).toArray ++ Builtin.zeroCells zv.cells (k + 1) ++ Builtin.zeroCells zv.cells (grownCap w (n + (k + 1)) cap e - (n + (k + 1)))).size = grownCap w (n + (k + 1)) cap e * ie.size := by
    rw [Array.size_append, Array.size_append, List.size_toArray, holdl, hzsz, hzsz, ← Nat.add_mul, ← Nat.add_mul]
    congr 1; omega
  have hgm : (n + (k + 1)) * ie.size ≤ grownCap w (n + (k + 1)) cap e * ie.size := Nat.mul_le_mul_right _ hge
  generalize hC : (((vs0.toList.take cs.length).drop off).take (n * ie.size)).toArray ++ Builtin.zeroCells zv.cells (k + 1) ++ Builtin.zeroCells zv.cells (grownCap w (n + (k + 1)) cap e - (n + (k + 1))) = C at hrun hcur
  have htk : C.toList.take ((n + (k + 1)) * ie.size) = ((vs0.toList.take cs.length).drop off).take (n * ie.size) ++ (Builtin.zeroCells zv.cells (k + 1)).toList := by
    rw [← hC, Array.toList_append, Array.toList_append]
    exact List.take_left' hl2
  have hgrown : w.grownBy (w.drew.alloc (.cells C e)) none := ⟨rfl, rfl, rfl, by simp, fun j hj _ => by
    show (w.heap.push _)[j]? = _
    rw [Array.getElem?_push, if_neg (by omega)]⟩
  have hnewb : (w.drew.alloc (.cells C e)).heap[w.heap.size]? = some (.cells C e (0, 0)) := by
    show (w.heap.push _)[w.heap.size]? = _
    simp
  obtain ⟨k1, k2⟩ := hI.grow b3 hgrown (T := e) (cs := (cs.drop off).take (n * ie.size) ++ zeroCellsAV zv.cells.toList ((k + 1) * ie.size)) (Nat.le_refl _) hnewb (by rw [hll, hl2, hcur]; exact hgm) (by
    rw [hll, hl2, htk]
    exact hnew)
  refine ⟨_, _, _, hrun, k1, ?_, k2⟩
  exact .sl _ _ _ _ _ _ w.heap.size _ _ (.inl (by rw [Map.put_at, hcur])) (Nat.le_refl _) hge (fun h => by cases h) hcm (by omega) b1

theorem copy_run {t t' e ty : TypeId} {sz : Nat} (ht : P.underlying t = some (.slice e)) (hsz : szO P e = some sz) {B A : Option Addr} {n cap k c : Nat} {us : List Value} {w' : World} (hl : us.length = (min k n) * sz) (hu : min k n ≠ 0 → ∃ ad, A = some ad ∧ ∀ j y, us[j]? = some y → w.cell? (ad.add j) = some y)
    (hst : match (B : Option Addr) with | some b => (storeCells b us).run P w = .ok () w' | none => w' = w) :
    (Builtin.copy_ #[t, t'] ty #[.slice B n cap, .slice A k c]).run P w = .ok (.int .i64 (min k n : Nat)) w' := by
  have hf : (Builtin.firstCells sz (min k n) (.slice A k c)).run P w = .ok us.toArray w := by
    cases A with
    | none =>
      have h0 : min k n = 0 := by
        rcases Nat.eq_zero_or_pos (min k n) with h | h
        · exact h
        · obtain ⟨ad, h1, _⟩ := hu (by omega); cases h1
      have : us = [] := List.eq_nil_of_length_eq_zero (by rw [hl, h0]; simp)
      subst this; rfl
    | some a =>
      rcases Nat.eq_zero_or_pos (min k n) with h0 | h0
      · have : us = [] := List.eq_nil_of_length_eq_zero (by rw [hl, h0]; simp)
        subst this
        exact run_firstCells_some (P := P) w sz _ a k c [] (by simp [h0]) (fun j v h => by simp at h)
      · obtain ⟨ad, h1, h2⟩ := hu (by omega)
        injection h1 with h1; subst h1
        exact run_firstCells_some (P := P) w sz _ a k c us hl h2
  cases B with
  | none =>
    simp only at hst; subst hst
    simp [Builtin.copy_, run_underlying ht, Builtin.lenOf, run_szO hsz, hf, goInt]
  | some b =>
    simp only at hst
    simp [Builtin.copy_, run_underlying ht, Builtin.lenOf, run_szO hsz, hf, hst, goInt]

include hK in
theorem xCopy_sound (hI : InvH w ρ H nx) {t t' ty : TypeId} {dst src r : AV} {vd vs : Value} (h : xCopy K H t dst src = some (r, H')) (hd : CR ρ dst vd) (hs : CR ρ src vs) :
    ∃ q w', (Builtin.copy_ #[t, t'] ty #[vd, vs]).run P w = .ok q w' ∧ InvH w' ρ H' nx ∧ CR ρ r q ∧ FE w ρ H nx w' ρ H' nx := by
  unfold xCopy at h
  split at h; rotate_left
  · cases h
  rename_i e he
  have ht := sliceK_ok hK he
  split at h; rotate_left
  · cases h
  rename_i sz hsz
  have hsz' := hK.size _ _ hsz
  split at h; rotate_left
  · cases h
  rename_i k xs hsrc
  obtain ⟨A, c, us, rfl, hxs, hul, hA⟩ := src_sound (k := k) hI hsrc hs
  split at h
  · simp only [Option.some.injEq, Prod.mk.injEq] at h
    obtain ⟨rfl, rfl⟩ := h
    cases hd
    have := copy_run (P := P) (w := w) (w' := w) (t := t) (t' := t') (ty := ty) (B := none) (A := A) (n := 0) (cap := 0) (k := k) (c := c) (us := []) ht hsz' (by simp) (by simp) rfl
    exact ⟨.int .i64 0, w, by simpa [Sc.val] using this, hI, .s (.i .i64 0), .refl⟩
  · simp only [Option.some.injEq, Prod.mk.injEq] at h
    obtain ⟨rfl, rfl⟩ := h
    cases hd with | z _ bd cap =>
    have := copy_run (P := P) (w := w) (w' := w) (t := t) (t' := t') (ty := ty) (B := some bd) (A := A) (n := 0) (cap := cap) (k := k) (c := c) (us := []) ht hsz' (by simp) (by simp) rfl
    exact ⟨.int .i64 0, w, by simpa [Sc.val] using this, hI, .s (.i .i64 0), .refl⟩
  · rename_i id off sz' n cc ex
    split at h; · cases h
    rename_i T cs hH
    split at h; rotate_left
    · cases h
    rename_i hb
    obtain ⟨rfl, b2, b3, b4⟩ := hb
    simp only [Option.some.injEq, Prod.mk.injEq] at h
    obtain ⟨rfl, rfl⟩ := h
    obtain ⟨b, bs, cap, hb, rfl, p1, p2, p3, p4, p5, p6⟩ := sl_inv hI hH hd
    have hmk : min k n * sz' ≤ k * sz' := Nat.mul_le_mul_right _ (Nat.min_le_left _ _)
    have hul2 : (us.take (min k n * sz')).length = min k n * sz' := by rw [List.length_take, hul]; omega
    have hxl2 : (xs.take (min k n * sz')).length = min k n * sz' := by rw [(hxs.take _).length, hul2]
    obtain ⟨vs', r1, r2, r3⟩ := store_run (P := P) hI b2 hb hH (hxs.take (min k n * sz')) b4 (off := off) (by rw [hxl2]; exact b3)
    have := copy_run (P := P) (w := w) (w' := w.setRow b vs') (t := t) (t' := t') (ty := ty) (B := some ⟨b, off, none⟩) (A := A) (n := n) (cap := cap) (k := k) (c := c) (us := us.take (min k n * sz')) ht hsz' hul2 (fun h0 => by
      obtain ⟨ad, q1, q2⟩ := hA (by omega)
      exact ⟨ad, q1, fun j y hy => q2 j y (by rw [List.getElem?_take] at hy; split at hy <;> simp_all)⟩) r1
    exact ⟨_, _, this, r2, .s (.i .i64 _), r3⟩
  · cases h

include hK in
theorem xClear_sound (hI : InvH w ρ H nx) {t ty : TypeId} {x r : AV} {vx : Value} (h : xClear K H t x = some (r, H')) (hx : CR ρ x vx) :
    ∃ q w', (Builtin.clear_ #[t] ty #[vx]).run P w = .ok q w' ∧ InvH w' ρ H' nx ∧ CR ρ r q ∧ FE w ρ H nx w' ρ H' nx := by
  unfold xClear at h
  split at h
  · rename_i e he
    have ht := sliceK_ok hK he
    simp only [Option.some.injEq, Prod.mk.injEq] at h
    obtain ⟨rfl, rfl⟩ := h
    cases hx
    exact ⟨.tuple #[], w, by simp [Builtin.clear_, run_underlying ht, Sc.val], hI, .t [] [] .nil, .refl⟩
  · rename_i e ex he
    have ht := sliceK_ok hK he
    simp only [Option.some.injEq, Prod.mk.injEq] at h
    obtain ⟨rfl, rfl⟩ := h
    cases hx
    exact ⟨.tuple #[], w, by simp [Builtin.clear_, run_underlying ht], hI, .t [] [] .nil, .refl⟩
  · rename_i e id off sz n c ex he
    have ht := sliceK_ok hK he
    split at h; rotate_left
    · cases h
    rename_i T cs z hH hz
    split at h; rotate_left
    · cases h
    rename_i hb
    obtain ⟨b1, b2, b3, b4, b5⟩ := hb
    simp only [Option.some.injEq, Prod.mk.injEq] at h
    obtain ⟨rfl, rfl⟩ := h
    obtain ⟨ie, zv, hie, hzv, rfl⟩ := zeroO_run (hK.zero _ _ hz)
    obtain ⟨b, bs, cap, hb, rfl, p1, p2, p3, p4, p5, p6⟩ := sl_inv hI hH hx
    rcases Nat.eq_zero_or_pos n with rfl | hn
    · refine ⟨.tuple #[], w, by simp [Builtin.clear_, run_underlying ht], hI.congr fun i => ?_, .t [] [] .nil, FE.refl.congr fun i => ?_⟩ <;>
      · rw [Heap.at_put b3]
        split
        · rename_i e; subst e; rw [hH]; simp [splice, zeroCellsAV]
        · rfl
    have hc := zeroCells_CR (ρ := ρ) zv (n * sz)
    have hl : (zeroCellsAV zv.cells.toList (n * sz)).length = n * sz := by simp [zeroCellsAV]
    obtain ⟨vs', r1, r2, r3⟩ := store_run (P := P) hI b3 hb hH hc b5 (off := off) (by rw [hl]; exact b4)
    refine ⟨.tuple #[], _, ?_, r2, .t [] [] .nil, r3⟩
    have hzc : Builtin.zeroCells zv.cells n = (Array.range (n * sz)).map (zv.cells[· % zv.cells.size]!) := by
      unfold Builtin.zeroCells
      have : zv.cells.size = sz := by simpa using b2
      rw [this]
    cases n with
    | zero => omega
    | succ n =>
      simp only [Builtin.clear_, Sem.run_bind]
      have r1' := r1
      simp only [Array.toList_map, Array.toList_range] at r1'
      simp [run_underlying ht, zeroValue, typeInfo, hie, hzv, hzc, r1']
  · cases h

include hK in
/-- An operation that writes. -/
theorem opW_sound (hI : InvH w ρ H nx) {env : Env} {a : Act} {o : Oper} {r : AV} (hrd : ∀ x ∈ o.op.operands.toList, CR ρ (rd env x) (a.eval x)) (h : opW K env H nx o.op = some (r, H', nx')) :
    ∃ nv val w' ρ', (execOp a.eval o).run P w = .ok nv w' ∧ (nv = .value val ∨ nv = .skip ∧ val = undef) ∧ InvH w' ρ' H' nx' ∧ CR ρ' r val ∧ FE w ρ H nx w' ρ' H' nx' := by
  obtain ⟨dst, op, ty, pos, after, guard⟩ := o
  cases op <;> simp only [opW, reduceCtorEq] at h <;> simp only [Op.operands] at hrd
  case store T x y =>
    simp only [Option.map_eq_some_iff, Prod.mk.injEq] at h
    obtain ⟨H1, h1, rfl, rfl, rfl⟩ := h
    obtain ⟨w', r1, r2, r3⟩ := xStore_sound hK hI h1 (hrd x (by simp)) (hrd y (by simp))
    exact ⟨.skip, undef, w', ρ, by simp [execOp, r1], .inr ⟨rfl, rfl⟩, r2, .u _, r3⟩
  case call c =>
    obtain ⟨callee, args, tys⟩ := c
    cases callee <;> simp only [reduceCtorEq] at h
    rename_i b
    obtain ⟨args⟩ := args
    obtain ⟨tys⟩ := tys
    split at h <;> try (cases h; done)
    · rename_i s x t t' e1 e2
      simp only at e1 e2; subst e1 e2
      split at h; rotate_left
      · obtain ⟨q, w', ρ', r1, r2, r3, r4⟩ := xAppendZ_sound hK (ty := ty) hI h (hrd s (by simp [Call.operands])) (hrd x (by simp [Call.operands]))
        exact ⟨.value q, q, w', ρ', by simp [execOp, resolve, invoke, builtin, r1], .inl rfl, r2, r3, r4⟩
      rename_i htt; subst htt
      obtain ⟨q, w', ρ', r1, r2, r3, r4⟩ := xAppend_sound hK (ty := ty) hI h (hrd s (by simp [Call.operands])) (hrd x (by simp [Call.operands]))
      exact ⟨.value q, q, w', ρ', by simp [execOp, resolve, invoke, builtin, r1], .inl rfl, r2, r3, r4⟩
    · rename_i s x t t' e1 e2
      simp only at e1 e2; subst e1 e2
      simp only [Option.map_eq_some_iff, Prod.mk.injEq] at h
      obtain ⟨⟨q1, q2⟩, h1, rfl, rfl, rfl⟩ := h
      obtain ⟨q, w', r1, r2, r3, r4⟩ := xCopy_sound hK (ty := ty) (t' := t') hI h1 (hrd s (by simp [Call.operands])) (hrd x (by simp [Call.operands]))
      exact ⟨.value q, q, w', ρ, by simp [execOp, resolve, invoke, builtin, r1], .inl rfl, r2, r3, r4⟩
    · rename_i x t e1 e2
      simp only at e1 e2; subst e1 e2
      simp only [Option.map_eq_some_iff, Prod.mk.injEq] at h
      obtain ⟨⟨q1, q2⟩, h1, rfl, rfl, rfl⟩ := h
      obtain ⟨q, w', r1, r2, r3, r4⟩ := xClear_sound hK (ty := ty) hI h1 (hrd x (by simp [Call.operands]))
      exact ⟨.value q, q, w', ρ, by simp [execOp, resolve, invoke, builtin, r1], .inl rfl, r2, r3, r4⟩
end
end Go.Bm
