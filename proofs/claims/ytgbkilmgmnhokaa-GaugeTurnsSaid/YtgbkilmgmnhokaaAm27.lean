/-
  THE ABSTRACT MACHINE: single operations worked out, each in one step.
-/
import Derived.Test.YtgbkilmgmnhokaaAm26
set_option linter.unusedSimpArgs false
set_option linter.unusedVariables false
namespace Go.Am
open Go

section
variable {P : Program} {F : Tab} {esc : Nat → Bool} {base : Nat} {ops : Array Oper} {st : St} {d : Option Nat} {T T' : TypeId} {p : String} {af : Array Edge} {x y c : Operand} {op : BinOp} {f : Operand} {args : Array Operand} {tys : Array TypeId} {j : Nat} {w : Bool} {o : Op}

theorem sx_move : xStep P F esc base ops { dst := d, op := .move x, type := T, pos := p, after := af, guard := none } st = some (st.put d (rd st.env x)) := by cases d <;> rfl
theorem sx_assign : xStep P F esc base ops { dst := d, op := .assign x, type := T, pos := p, after := af, guard := none } st = some (st.put d (rd st.env x)) := by cases d <;> rfl
theorem sx_bin : xStep P F esc base ops { dst := d, op := .binOp op T x y T', type := T, pos := p, after := af, guard := none } st = (binAV P op T x y (rd st.env x) (rd st.env y)).map fun v => st.put d v := by
  show Option.map _ (Option.map _ _) = _
  rw [Option.map_map]; rfl
theorem sx_bin' {U : TypeId} : xStep P F esc base ops { dst := d, op := .binOp op T x y T', type := U, pos := p, after := af, guard := none } st = (binAV P op T x y (rd st.env x) (rd st.env y)).map fun v => st.put d v := by
  show Option.map _ (Option.map _ _) = _
  rw [Option.map_map]; rfl
theorem sx_call : xStep P F esc base ops { dst := d, op := .call { callee := .value f, args := args, argTypes := tys }, type := T, pos := p, after := af, guard := none } st = (xCall P F base f args st).map fun q => q.2.put d q.1 := by cases d <;> rfl
def pickAV (t x y : AV) : Option AV := match t with | .s (.b true) => some x | .s (.b false) => some y | _ => none
theorem pick_T (x y : AV) : pickAV (.s (.b true)) x y = some x := by unfold pickAV; rfl
theorem pick_F (x y : AV) : pickAV (.s (.b false)) x y = some y := by unfold pickAV; rfl
theorem sx_pick : xStep P F esc base ops { dst := d, op := .pick c x y, type := T, pos := p, after := af, guard := none } st = (pickAV (rd st.env c) (rd st.env x) (rd st.env y)).map fun v => st.put d v := by
  show Option.map _ (Option.map _ (match rd st.env c with | .s (.b t) => some (if t then rd st.env x else rd st.env y) | _ => none)) = _
  rw [Option.map_map]
  unfold pickAV
  cases rd st.env c with
  | s sc => cases sc with
    | b t => cases t <;> rfl
    | _ => rfl
  | _ => rfl
theorem sx_guard : xStep P F esc base ops { dst := d, op := o, type := T, pos := p, after := af, guard := some (j, w) } st =
    match aWant ops { dst := d, op := o, type := T, pos := p, after := af, guard := some (j, w) } st.env with
    | none => none
    | some false => some (st.put d (.t []))
    | some true => xStep P F esc base ops { dst := d, op := o, type := T, pos := p, after := af, guard := none } st := by cases d <;> rfl
/-- One operation, then the others. -/
theorem sx_cons {o : Oper} {os : List Oper} {s : St} (h : xStep P F esc base ops o st = some s) : xOps P F esc base ops (o :: os) st = xOps P F esc base ops os s := by
  show (xStep P F esc base ops o st).bind _ = _
  rw [h]; rfl
theorem xo_step {o : Oper} {os : List Oper} {s s' : St} (h : xStep P F esc base ops o st = some s) (h2 : xOps P F esc base ops os s = some s') : xOps P F esc base ops (o :: os) st = some s' := by
  rw [sx_cons h]; exact h2
theorem sx_nil : xOps P F esc base ops [] st = some st := by cases st; rfl
end
end Go.Am
