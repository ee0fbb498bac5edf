/-
  THE ABSTRACT MACHINE: its state, and the operations that change nothing.
-/
import Derived.Test.YtgbkilmgmnhokaaAm1
import Derived.Laws.Cells
import Derived.Laws.Entries
set_option linter.unusedSimpArgs false
set_option linter.unusedVariables false
namespace Go.Am
open Go

/-- A computation that touches no memory, evaluated. -/
def evalPure (P : Program) {α : Type} : Sem α → Option α
  | .pure a => some a
  | .program k => evalPure P (k P)
  | .mark _ k => evalPure P k
  | _ => none

theorem evalPure_run {P : Program} {α : Type} {s : Sem α} {x : α} (h : evalPure P s = some x) (w : World) : s.run P w = .ok x w := by
  induction s with
  | pure a => simp only [evalPure, Option.some.injEq] at h; subst h; rfl
  | program k ih => simp only [evalPure] at h; simp only [Sem.run]; exact ih P h
  | mark m k ih => simp only [evalPure] at h; simp only [Sem.run]; exact ih h
  | _ => simp [evalPure] at h

/-- The state: a frame's slots; the places of all frames; the objects. -/
structure St where
  env : List AV
  S : List Blk
  O : List Blk

def getB (S O : List Blk) : Bid → Option Blk
  | .s n => S[n]?
  | .o n => O[n]?

def ofC : Value → AV
  | .bool x => .s (.b x)
  | .int k n => .s (.i k n)
  | .float k n => .s (.fl k n)
  | .complex k re im => .s (.cx k re im)
  | .string x => .s (.str x)
  | .pointer none => .s .pn
  | .slice none 0 0 => .s .sn
  | .nilFunc => .s .fz
  | _ => .u

def ofV : Value → AV
  | .agg cs => .a (cs.toList.map ofC)
  | .tuple cs => .t (cs.toList.map ofC)
  | v => ofC v

section
variable {w : World} {G : Ghost} {S O : List Blk}
theorem CR_ofC (v : Value) : CR w G S (ofC v) v := by
  unfold ofC
  split <;> first | exact .s (.b _) | exact .s (.i _ _) | exact .s (.fl _ _) | exact .s (.cx _ _ _) | exact .s (.str _) | exact .s .pn | exact .s .sn | exact .s .fz | exact .u _
theorem CRs_ofC (vs : List Value) : CRs w G S (vs.map ofC) vs := by
  induction vs with
  | nil => exact .nil
  | cons v vs ih => exact .cons _ _ _ _ (CR_ofC v) ih
theorem CR_ofV (v : Value) : CR w G S (ofV v) v := by
  unfold ofV
  split
  · exact .a _ _ (CRs_ofC _)
  · exact .t _ _ (CRs_ofC _)
  · exact CR_ofC _
end

def toSc : List AV → Option (List Value)
  | [] => some []
  | .s x :: xs => (toSc xs).map (x.val :: ·)
  | _ => none

def toV : AV → Option Value
  | .s x => some x.val
  | .a cs => (toSc cs).map fun l => .agg l.toArray
  | _ => none

section
variable {w : World} {G : Ghost} {S O : List Blk}
theorem toSc_CR {xs : List AV} {l vs : List Value} (h : toSc xs = some l) (hc : CRs w G S xs vs) : vs = l := by
  induction xs generalizing l vs with
  | nil => cases hc; simp [toSc] at h; exact h.symm
  | cons x xs ih =>
    cases hc with
    | cons _ v _ vs h1 h2 =>
      cases x <;> simp only [toSc, Option.map_eq_some_iff, reduceCtorEq] at h
      obtain ⟨l', hl, rfl⟩ := h
      cases h1
      rw [ih hl h2]
theorem toV_CR {x : AV} {v v' : Value} (h : toV x = some v) (hc : CR w G S x v') : v' = v := by
  cases x <;> simp only [toV, Option.some.injEq, Option.map_eq_some_iff, reduceCtorEq] at h
  · subst h; cases hc; rfl
  · obtain ⟨l, hl, rfl⟩ := h
    cases hc with | a cs vs hcs => rw [toSc_CR hl hcs]
end

def szO (P : Program) (T : TypeId) : Option Nat := (P.info? T).map (·.size)
def aggO (P : Program) (T : TypeId) : Option Bool :=
  match P.underlying T with
  | some (.struct _) | some (.array ..) => some true
  | some _ => some false
  | none => none

theorem run_szO {P : Program} {T : TypeId} {n : Nat} (h : szO P T = some n) (w : World) : (sizeOf T).run P w = .ok n w := by
  unfold szO at h
  simp only [Option.map_eq_some_iff] at h
  obtain ⟨i, hi, rfl⟩ := h
  simp [sizeOf, typeInfo, hi]

theorem run_aggO {P : Program} {T : TypeId} {b : Bool} (h : aggO P T = some b) (w : World) : (isAgg T).run P w = .ok b w := by
  unfold aggO at h
  split at h
  · rename_i fs hu; simp at h; subst h; simp [isAgg, run_underlying hu]
  · rename_i n e hu; simp at h; subst h; simp [isAgg, run_underlying hu]
  · rename_i d h1 h2 hu
    simp at h; subst h
    simp only [isAgg, Sem.run_bind, run_underlying hu, Result.andThen_ok]
    rfl
  · cases h

/-- A part of some cells, as a value of a type. -/
def partAV (P : Program) (T : TypeId) (cs : List AV) (off : Nat) : Option AV :=
  match aggO P T, szO P T with
  | some true, some n => if off + n ≤ cs.length then some (.a ((cs.drop off).take n)) else none
  | some false, some _ => cs[off]?
  | _, _ => none

section
variable {P : Program} {w : World} {G : Ghost} {S O : List Blk}
theorem partAV_sound {T : TypeId} {cs : List AV} {vs : List Value} {off : Nat} {x : AV} (h : partAV P T cs off = some x) (hc : CRs w G S cs vs) :
    ∃ v, (part T vs.toArray off).run P w = .ok v w ∧ CR w G S x v := by
  unfold partAV at h
  split at h
  · rename_i n ha hs
    split at h <;> simp at h
    subst h
    rename_i hle
    refine ⟨.agg (vs.toArray.extract off (off + n)), by simp [part, run_aggO ha, run_szO hs], ?_⟩
    have := (CR.a _ _ ((hc.drop off).take n) : CR w G S _ _)
    have e : (vs.toArray.extract off (off + n)) = ((vs.drop off).take n).toArray := by
      rw [List.extract_toArray, List.extract_eq_take_drop]
      congr 2
      omega
    rw [e]; exact this
  · rename_i n ha hs
    obtain ⟨v, hv, hcr⟩ := hc.get h
    refine ⟨v, ?_, hcr⟩
    simp [part, run_aggO ha, hv]
  · cases h

theorem run_loadVar_AV {T : TypeId} {a : Addr} {cs : List AV} {vs : List Value} {x : AV} (h : partAV P T cs 0 = some x) (hc : CRs w G S cs vs)
    (hm : ∀ j y, vs[j]? = some y → w.cell? (a.add j) = some y) : ∃ v, (loadVar T a).run P w = .ok v w ∧ CR w G S x v := by
  unfold partAV at h
  split at h
  · rename_i n ha hs
    split at h <;> simp at h
    subst h
    rename_i hle
    have hl : (vs.take n).length = n := by have := hc.length; simp; omega
    have h1 := run_loadCells_list (P := P) (w := w) a (vs.take n) (fun j v hv => hm j v (by
      rw [List.getElem?_take] at hv; split at hv <;> simp_all))
    rw [hl] at h1
    refine ⟨.agg (vs.take n).toArray, by simp [loadVar, run_aggO ha, run_szO hs, h1], .a _ _ (hc.take n)⟩
  · rename_i n ha hs
    obtain ⟨v, hv, hcr⟩ := hc.get h
    refine ⟨v, ?_, hcr⟩
    have := hm 0 v hv
    have e : a.add 0 = a := by simp [Addr.add]
    rw [e] at this
    simp [loadVar, run_aggO ha, this]
  · cases h
end
end Go.Am
