/-
  THE ABSTRACT MACHINE: what is handed to a law, as the machine's values.
-/
import Derived.Test.YtgbkilmgmnhokaaAm20
import Derived.ProofKit
set_option linter.unusedSimpArgs false
set_option linter.unusedVariables false
namespace Go.Am
open Go Go.ChangeShapes Go.WideShapes Go.ChangeAt Go.RowKit

/-- These fields lie one behind the other and fill so many cells. -/
def tile (P : Program) : List Field → Nat → Nat → Bool
  | [], off, n => off == n
  | f :: fs, off, n => f.offset == off && tile P fs (off + P.cellsOf f.type) n

/-- Types of plain data: bools, integers, strings, slices, arrays and structs of such. -/
def okT (P : Program) : Nat → TypeId → Bool
  | 0, _ => false
  | k + 1, t =>
    match P.underlying t with
    | some .bool => true
    | some (.int _) => true
    | some .string => true
    | some (.slice e) => okT P k e && decide (0 < P.cellsOf e)
    | some (.array n e) => okT P k e && P.cellsOf t == n * P.cellsOf e
    | some (.struct fs) => fs.toList.all (fun f => okT P k f.type) && tile P fs.toList 0 (P.cellsOf t)
    | _ => false

/-- These cells are of that type. -/
def Sh (P : Program) : Nat → TypeId → List AV → Prop
  | 0, _, _ => False
  | k + 1, t, xs =>
    match P.underlying t with
    | some .bool => ∃ b, xs = [.s (.b b)]
    | some (.int i) => ∃ n, xs = [.s (.i i n)] ∧ (Lit.int i n).wf = true
    | some .string => ∃ s : ByteArray, xs = [.s (.str s)] ∧ s.size ≤ maxLen
    | some (.slice e) => xs = [.s .sn] ∨ ∃ els : List (List AV), xs = [.l els.length els.flatten] ∧ els.length ≤ maxLen ∧ ∀ l ∈ els, Sh P k e l
    | some (.array n e) => ∃ els : List (List AV), xs = els.flatten ∧ els.length = n ∧ ∀ l ∈ els, Sh P k e l
    | some (.struct fs) => ∃ els : List (List AV), xs = els.flatten ∧ els.length = fs.size ∧ ∀ (i : Nat) (f : Field) (l : List AV), fs[i]? = some f → els[i]? = some l → Sh P k f.type l
    | _ => False

def noG : Ghost := fun _ => none

section
variable {P : Program} {w w' : World} {H : Type} {enc : TypeId × Value → H} {base : Nat} {spare : Nat → Bool} {held : Bool}

def DataL (w : World) (P : Program) (k : Nat) (t : TypeId) (cs : List Value) : Prop := ∃ xs, CRs w noG [] xs cs ∧ Sh P k t xs ∧ (∀ x ∈ xs, x.data = true)

theorem pieces {α β : Type} {R : α → β → Prop} : ∀ (l : List α), (∀ x ∈ l, ∃ y, R x y) → ∃ ys : List β, ys.length = l.length ∧ ∀ (i : Nat) (x : α) (y : β), l[i]? = some x → ys[i]? = some y → R x y
  | [], _ => ⟨[], rfl, fun i x y h => by simp at h⟩
  | x :: l, h => by
    obtain ⟨y, hy⟩ := h x (by simp)
    obtain ⟨ys, h1, h2⟩ := pieces l fun z hz => h z (by simp [hz])
    refine ⟨y :: ys, by simp [h1], fun i a b ha hb => ?_⟩
    cases i with
    | zero => simp at ha hb; subst ha hb; exact hy
    | succ i => exact h2 i a b (by simpa using ha) (by simpa using hb)

theorem CRs.flatten {G : Ghost} {S : List Blk} : ∀ {els : List (List AV)} {vss : List (List Value)}, els.length = vss.length → (∀ (i : Nat) (x : List AV) (v : List Value), els[i]? = some x → vss[i]? = some v → CRs w G S x v) → CRs w G S els.flatten vss.flatten
  | [], [], _, _ => .nil
  | x :: els, v :: vss, hl, h => by
    simp only [List.flatten_cons]
    exact (h 0 x v rfl rfl).append (CRs.flatten (by simpa using hl) fun i a b ha hb => h (i + 1) a b (by simpa using ha) (by simpa using hb))

theorem chunks {α : Type} (sz : Nat) : ∀ (n : Nat) (cs : List α), cs.length = n * sz → ((List.range n).map fun i => (cs.drop (i * sz)).take sz).flatten = cs
  | 0, cs, h => by simp at h; subst h; rfl
  | n + 1, cs, h => by
    rw [List.range_succ_eq_map, List.map_cons, List.map_map, List.flatten_cons]
    have h1 := chunks sz n (cs.drop sz) (by rw [List.length_drop, h, Nat.succ_mul]; omega)
    have h2 : ((List.range n).map ((fun i => (cs.drop (i * sz)).take sz) ∘ Nat.succ)) = (List.range n).map fun i => ((cs.drop sz).drop (i * sz)).take sz := by
      apply List.map_congr_left
      intro i _
      simp only [Function.comp, List.drop_drop]
      congr 2
      rw [Nat.succ_mul]; omega
    rw [h2, h1]
    simp

theorem tiles {α : Type} : ∀ (fs : List Field) (off n : Nat) (cs : List α), tile P fs off n = true → cs.length = n → off ≤ n → (fs.map fun f => (cs.drop f.offset).take (P.cellsOf f.type)).flatten = cs.drop off
  | [], off, n, cs, h, hl, _ => by
    simp only [tile, beq_iff_eq] at h
    subst h
    simp [← hl]
  | f :: fs, off, n, cs, h, hl, hle => by
    simp only [tile, Bool.and_eq_true, beq_iff_eq] at h
    obtain ⟨h1, h2⟩ := h
    rw [List.map_cons, List.flatten_cons, h1]
    by_cases hb : off + P.cellsOf f.type ≤ n
    · rw [tiles fs _ n cs h2 hl hb, ← List.drop_drop]
      exact List.take_append_drop _ _
    · exfalso
      have key : ∀ (fs : List Field) (o : Nat), tile P fs o n = true → o ≤ n := by
        intro fs
        induction fs with
        | nil => intro o ho; simp only [tile, beq_iff_eq] at ho; omega
        | cons g gs ih => intro o ho; simp only [tile, Bool.and_eq_true, beq_iff_eq] at ho; have := ih _ ho.2; omega
      exact hb (key fs _ h2)

theorem mapM_some {α β : Type} {f : α → Option β} {l : List α} {r : List β} (h : l.mapM f = some r) : r.length = l.length ∧ ∀ (i : Nat) (x : α), l[i]? = some x → ∃ y, r[i]? = some y ∧ f x = some y := by
  induction l generalizing r with
  | nil => simp at h; subst h; exact ⟨rfl, fun i x hx => by simp at hx⟩
  | cons a l ih =>
    rw [List.mapM_cons] at h
    cases ha : f a with
    | none => rw [ha] at h; simp at h
    | some y =>
      cases hl : l.mapM f with
      | none => rw [ha, hl] at h; simp at h
      | some ys =>
        rw [ha, hl] at h
        simp at h
        subst h
        obtain ⟨h1, h2⟩ := ih hl
        refine ⟨by simp [h1], fun i x hx => ?_⟩
        cases i with
        | zero => simp at hx; subst hx; exact ⟨y, rfl, ha⟩
        | succ i => simpa using h2 i x (by simpa using hx)
end
end Go.Am
