/-
  AN ABSTRACT MACHINE FOR GO FUNCTIONS THAT USE MEMORY WITH OWNERS: the values, and how they stand to the model's.
  Over any program. Lists are values (memory that nobody writes any more), boxes have names (a frame's place, or an object's number), rows that are still appended to have one owner.
-/
import Derived.WalkKit
set_option linter.unusedSimpArgs false
set_option linter.unusedVariables false
namespace Go.Am
open Go

/-- Plain values of one cell. -/
inductive Sc
  | b (x : Bool) | i (k : IntKind) (n : Int) | fl (k : FloatKind) (n : Nat) | cx (k : FloatKind) (re im : Nat) | str (x : ByteArray) | pn | sn | fz
  deriving DecidableEq

def Sc.val : Sc → Value
  | .b x => .bool x
  | .i k n => .int k n
  | .fl k n => .float k n
  | .cx k re im => .complex k re im
  | .str x => .string x
  | .pn => .pointer none
  | .sn => .slice none 0 0
  | .fz => .nilFunc

/-- The name of a box: a place of a frame, or an object. -/
inductive Bid
  | s (n : Nat) | o (n : Nat)
  deriving DecidableEq

inductive AV
  | u | s (x : Sc) | l (n : Nat) (cs : List AV) | e (cs : List AV) | p (id : Bid) (off : Nat) | r (m : Nat)
  | f (fn : FuncId) (fs cs : List AV) | a (cs : List AV) | t (vs : List AV) | w (e sz n : Nat) (cs : List AV)

/-- Who may write to a block. -/
inductive Owner
  | box (id : Bid) | row (m : Nat) | cell (id : Bid) (off : Nat) | ext (b : Nat)
  deriving DecidableEq

abbrev Ghost := Nat → Option Owner

inductive Blk
  | dead | box (T : TypeId) (cs : List AV) | row (e sz n : Nat) (cs : List AV)

/-- What may lie in a list: nothing that names a box or a row. -/
def AV.data : AV → Bool
  | .s _ | .l .. => true
  | _ => false

mutual
def AV.has (o : Owner) : AV → Bool
  | .p id _ => decide (o = .box id)
  | .r m => decide (o = .row m)
  | .f _ fs cs => AV.hasL o fs || AV.hasL o cs
  | .a cs => AV.hasL o cs
  | .t cs => AV.hasL o cs
  | _ => false
def AV.hasL (o : Owner) : List AV → Bool
  | [] => false
  | x :: xs => AV.has o x || AV.hasL o xs
end

/-- The cells from a on hold vs, and nobody writes them. -/
def Stable (w : World) (G : Ghost) (a : Addr) (vs : List Value) : Prop :=
  a.block < w.heap.size ∧ G a.block = none ∧ a.spot = none ∧ ∀ (j : Nat) (y : Value), vs[j]? = some y → w.cell? (a.add j) = some y

/-- A row's header: nil, or a block of its own, whose first cells are vs. -/
def Hdr (w : World) (G : Ghost) (o : Owner) (e sz n : Nat) (vs : List Value) (v : Value) : Prop :=
  vs.length = n * sz ∧ 0 < sz ∧
  ((v = .slice none 0 0 ∧ n = 0) ∨
   ∃ b cap cur, v = .slice (some ⟨b, 0, none⟩) n cap ∧ G b = some o ∧ w.heap[b]? = some (.cells cur e (0, 0)) ∧ n ≤ cap ∧ cap ≤ maxLen ∧ cur.size = cap * sz ∧ cur.toList.take (n * sz) = vs)

mutual
inductive CR (w : World) (G : Ghost) (S : List Blk) : AV → Value → Prop
  | u (v : Value) : CR w G S .u v
  | s (x : Sc) : CR w G S (.s x) x.val
  | l (n : Nat) (cs : List AV) (A : Option Addr) (c : Nat) (vs : List Value) : CRs w G S cs vs → n ≤ c → c ≤ maxLen → (∀ x ∈ cs, x.data = true) → (n ≠ 0 → ∃ a, A = some a ∧ Stable w G a vs) → (n = 0 → cs = []) →
      CR w G S (.l n cs) (.slice A n c)
  | e (cs : List AV) (a : Addr) (vs : List Value) : CRs w G S cs vs → (∀ x ∈ cs, x.data = true) → Stable w G a vs → CR w G S (.e cs) (.pointer (some a))
  | p (id : Bid) (off b : Nat) : G b = some (.box id) → CR w G S (.p id off) (.pointer (some ⟨b, off, none⟩))
  | r (m e sz n : Nat) (cs : List AV) (vs : List Value) (v : Value) : S[m]? = some (.row e sz n cs) → Hdr w G (.box (.s m)) e sz n vs v → CRs w G S cs vs → (∀ x ∈ cs, x.data = true) → CR w G S (.r m) v
  | f (fn : FuncId) (fs cs : List AV) (vf vc : List Value) : CRs w G S fs vf → CRs w G S cs vc → CR w G S (.f fn fs cs) (.func (.func fn) vf.toArray vc.toArray)
  | a (cs : List AV) (vs : List Value) : CRs w G S cs vs → CR w G S (.a cs) (.agg vs.toArray)
  | t (cs : List AV) (vs : List Value) : CRs w G S cs vs → CR w G S (.t cs) (.tuple vs.toArray)
inductive CRs (w : World) (G : Ghost) (S : List Blk) : List AV → List Value → Prop
  | nil : CRs w G S [] []
  | cons (x : AV) (v : Value) (xs : List AV) (vs : List Value) : CR w G S x v → CRs w G S xs vs → CRs w G S (x :: xs) (v :: vs)
end

section
variable {w w' : World} {G G' : Ghost} {S S' : List Blk}

theorem CRs.length {xs : List AV} {vs : List Value} (h : CRs w G S xs vs) : xs.length = vs.length := by
  induction xs generalizing vs with
  | nil => cases h; rfl
  | cons x xs ih => cases h with | cons _ v _ vs h1 h2 => simp [ih h2]

theorem CRs.get {xs : List AV} {vs : List Value} (h : CRs w G S xs vs) {j : Nat} {x : AV} (hx : xs[j]? = some x) : ∃ v, vs[j]? = some v ∧ CR w G S x v := by
  induction xs generalizing vs j with
  | nil => simp at hx
  | cons y xs ih =>
    cases h with
    | cons _ v _ vs h1 h2 =>
      cases j with
      | zero => simp at hx; subst hx; exact ⟨v, rfl, h1⟩
      | succ j => simp at hx; simpa using ih h2 hx

theorem CRs.of {xs : List AV} {vs : List Value} (hl : xs.length = vs.length) (h : ∀ (j : Nat) (x : AV) (v : Value), xs[j]? = some x → vs[j]? = some v → CR w G S x v) : CRs w G S xs vs := by
  induction xs generalizing vs with
  | nil => cases vs <;> simp at hl; exact .nil
  | cons x xs ih =>
    cases vs with
    | nil => simp at hl
    | cons v vs =>
      exact .cons _ _ _ _ (h 0 x v rfl rfl) (ih (by simpa using hl) fun j y u hy hu => h (j + 1) y u (by simpa using hy) (by simpa using hu))

theorem CRs.get' {xs : List AV} {vs : List Value} (h : CRs w G S xs vs) {j : Nat} {x : AV} {v : Value} (hx : xs[j]? = some x) (hv : vs[j]? = some v) : CR w G S x v := by
  obtain ⟨v', h1, h2⟩ := h.get hx
  rw [hv] at h1; injection h1 with h1; subst h1; exact h2

theorem CRs.take {xs : List AV} {vs : List Value} (h : CRs w G S xs vs) (n : Nat) : CRs w G S (xs.take n) (vs.take n) := by
  refine .of (by simp [h.length]) fun j x v hx hv => ?_
  rw [List.getElem?_take] at hx hv
  split at hx
  · rename_i hj; rw [if_pos hj] at hv; exact h.get' hx hv
  · simp at hx

theorem CRs.drop {xs : List AV} {vs : List Value} (h : CRs w G S xs vs) (n : Nat) : CRs w G S (xs.drop n) (vs.drop n) := by
  refine .of (by simp [h.length]) fun j x v hx hv => ?_
  rw [List.getElem?_drop] at hx hv
  exact h.get' hx hv

theorem CRs.append {xs ys : List AV} {vs us : List Value} (h : CRs w G S xs vs) (k : CRs w G S ys us) : CRs w G S (xs ++ ys) (vs ++ us) := by
  induction xs generalizing vs with
  | nil => cases h; exact k
  | cons x xs ih => cases h with | cons _ v _ vs h1 h2 => exact .cons _ _ _ _ h1 (ih h2)

theorem CRs.set {xs : List AV} {vs : List Value} (h : CRs w G S xs vs) (n : Nat) {x : AV} {v : Value} (hx : CR w G S x v) : CRs w G S (xs.set n x) (vs.set n v) := by
  refine .of (by simp [h.length]) fun j y u hy hu => ?_
  have hl := h.length
  rw [List.getElem?_set] at hy hu
  split at hy
  · rename_i hj
    rw [if_pos hj] at hu
    split at hy
    · split at hu
      · simp at hy hu; subst hy hu; exact hx
      · simp at hu
    · simp at hy
  · rename_i hj; rw [if_neg hj] at hu; exact h.get' hy hu

theorem CRs.replicate_u (n : Nat) (vs : List Value) (hl : vs.length = n) : CRs w G S (List.replicate n .u) vs :=
  .of (by simp [hl]) fun j x v hx hv => by
    rw [List.getElem?_replicate] at hx
    split at hx <;> simp at hx
    subst hx; exact .u v

/-- Nobody's, or somebody's whom this call does not know: such a block keeps as it is. -/
def idle : Option Owner → Bool
  | none => true
  | some (.ext _) => true
  | _ => false

/-- What is kept from one world to another: blocks that nobody owns; and, of an owner that is named, its block (and a row's content). -/
structure Keep (w : World) (G : Ghost) (S : List Blk) (w' : World) (G' : Ghost) (S' : List Blk) (K : Owner → Prop) : Prop where
  free : ∀ b, b < w.heap.size → idle (G b) = true → w'.heap[b]? = w.heap[b]? ∧ G' b = G b
  size : w.heap.size ≤ w'.heap.size
  own : ∀ o, K o → ∀ b, G b = some o → G' b = some o
  row : ∀ m, K (.row m) → ∀ (e sz n : Nat) (cs : List AV), S[m]? = some (.row e sz n cs) → S'[m]? = some (.row e sz n cs) ∧ ∀ b, G b = some (.box (.s m)) → G' b = some (.box (.s m)) ∧ w'.heap[b]? = w.heap[b]?

theorem cell?_of_heap {b : Nat} (h : w'.heap[b]? = w.heap[b]?) (j : Nat) (s : Option Nat) : w'.cell? ⟨b, j, s⟩ = w.cell? ⟨b, j, s⟩ := by
  unfold World.cell?; simp only [h]

theorem add_block (a : Addr) (n : Nat) : (a.add n).block = a.block := by unfold Addr.add; split <;> rfl
theorem add_spot {a : Addr} (h : a.spot = none) (n : Nat) : (a.add n).spot = none := by unfold Addr.add; split <;> simp [h]
theorem add_off (a : Addr) (n : Nat) : (a.add n).off = a.off + n := by unfold Addr.add; split <;> simp_all
theorem add_eq {a : Addr} (h : a.spot = none) (n : Nat) : a.add n = ⟨a.block, a.off + n, none⟩ := by
  have h1 := add_block a n; have h2 := add_spot h n; have h3 := add_off a n
  cases hh : a.add n; simp_all

theorem Stable.keep {K : Owner → Prop} (k : Keep w G S w' G' S' K) {a : Addr} {vs : List Value} (h : Stable w G a vs) : Stable w' G' a vs := by
  obtain ⟨h1, h2, h3, h4⟩ := h
  obtain ⟨k1, k2⟩ := k.free _ h1 (by rw [h2]; rfl)
  rw [h2] at k2
  refine ⟨Nat.lt_of_lt_of_le h1 k.size, k2, h3, fun j y hy => ?_⟩
  have := h4 j y hy
  rw [add_eq h3] at this ⊢
  rw [cell?_of_heap k1]; exact this

theorem Hdr.keep {m e sz n : Nat} {vs : List Value} {v : Value} (hk : ∀ b, G b = some (.box (.s m)) → G' b = some (.box (.s m)) ∧ w'.heap[b]? = w.heap[b]?) (h : Hdr w G (.box (.s m)) e sz n vs v) : Hdr w' G' (.box (.s m)) e sz n vs v := by
  obtain ⟨h1, h0, h2⟩ := h
  refine ⟨h1, h0, ?_⟩
  rcases h2 with h2 | ⟨b, cap, cur, hv, hg, hh, hrest⟩
  · exact .inl h2
  · exact .inr ⟨b, cap, cur, hv, (hk b hg).1, ((hk b hg).2).trans hh, hrest⟩

theorem hasL_data {cs : List AV} (hd : ∀ x ∈ cs, x.data = true) (o : Owner) : AV.hasL o cs = false := by
  induction cs with
  | nil => rfl
  | cons x cs ih =>
    have h1 := hd x (by simp)
    have h2 := ih fun y hy => hd y (by simp [hy])
    cases x <;> simp_all [AV.hasL, AV.has, AV.data]

theorem has_data {cs : List AV} (hd : ∀ x ∈ cs, x.data = true) (K : Owner → Prop) : ∀ o, AV.hasL o cs = true → K o := fun o ho => by
  rw [hasL_data hd o] at ho; cases ho

mutual
theorem CR.keep {K : Owner → Prop} (k : Keep w G S w' G' S' K) {x : AV} {v : Value} (h : CR w G S x v) (hk : ∀ o, x.has o = true → K o) : CR w' G' S' x v :=
  match x, v, h, hk with
  | _, _, .u v, _ => .u v
  | _, _, .s x, _ => .s x
  | _, _, .l n cs A c vs h hc hm hd hs hn, _ =>
    .l n cs A c vs (CRs.keep k h (has_data hd K)) hc hm hd (fun h0 => let ⟨a, ha, hst⟩ := hs h0; ⟨a, ha, hst.keep k⟩) hn
  | _, _, .e cs a vs h hd hs, _ => .e cs a vs (CRs.keep k h (has_data hd K)) hd (hs.keep k)
  | _, _, .p id off b h, hk => .p id off b (k.own _ (hk _ (by simp [AV.has])) _ h)
  | _, _, .r m e sz n cs vs v hS hh h hd, hk => .r m e sz n cs vs v (k.row m (hk _ (by simp [AV.has])) _ _ _ _ hS).1 (hh.keep (k.row m (hk _ (by simp [AV.has])) _ _ _ _ hS).2) (CRs.keep k h (has_data hd K)) hd
  | _, _, .f fn fs cs vf vc h1 h2, hk => .f fn fs cs vf vc (CRs.keep k h1 (fun o ho => hk o (by simp [AV.has, ho]))) (CRs.keep k h2 (fun o ho => hk o (by simp [AV.has, ho])))
  | _, _, .a cs vs h, hk => .a cs vs (CRs.keep k h (fun o ho => hk o (by simp [AV.has, ho])))
  | _, _, .t cs vs h, hk => .t cs vs (CRs.keep k h (fun o ho => hk o (by simp [AV.has, ho])))
theorem CRs.keep {K : Owner → Prop} (k : Keep w G S w' G' S' K) {xs : List AV} {vs : List Value} (h : CRs w G S xs vs) (hk : ∀ o, AV.hasL o xs = true → K o) : CRs w' G' S' xs vs :=
  match xs, vs, h, hk with
  | _, _, .nil, _ => .nil
  | _, _, .cons x v xs vs h1 h2, hk => .cons x v xs vs (CR.keep k h1 (fun o ho => hk o (by simp [AV.hasL, ho]))) (CRs.keep k h2 (fun o ho => hk o (by simp [AV.hasL, ho])))
end
end
end Go.Am
