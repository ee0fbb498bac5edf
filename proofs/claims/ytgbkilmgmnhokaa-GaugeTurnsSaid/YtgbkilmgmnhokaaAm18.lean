/-
  THE ABSTRACT MACHINE: laws by which an operation is worked out.
-/
import Derived.Test.YtgbkilmgmnhokaaAm17
set_option linter.unusedSimpArgs false
set_option linter.unusedVariables false
namespace Go.Am
open Go

section
variable {P : Program} {T : TypeId} {x y : Operand} {k : FloatKind} {a b c d : Nat}
theorem evalPure_pure {α : Type} (v : α) : evalPure P (pure v : Sem α) = some v := rfl
theorem evalPure_stuck {α : Type} (m : String) : evalPure P (stuck m : Sem α) = none := rfl

theorem evalPure_bind' {α β : Type} (s : Sem α) (f : α → Sem β) : evalPure P (s >>= f) = (evalPure P s).bind fun x => evalPure P (f x) := by
  show evalPure P (s.bind f) = _
  induction s with
  | pure a => rfl
  | program k ih => simp only [evalPure, Sem.bind]; exact ih P
  | mark m k ih => simp only [evalPure, Sem.bind]; exact ih
  | _ => rfl

theorem bin_fl (op : BinOp) (k : FloatKind) (a b : Nat) : binAV P op T x y (.s (.fl k a)) (.s (.fl k b)) =
    match op with
    | .add => (k.format.add a b).map fun r => .s (.fl k r)
    | .sub => (k.format.sub a b).map fun r => .s (.fl k r)
    | .mul => (k.format.mul a b).map fun r => .s (.fl k r)
    | .quo => (k.format.div a b).map fun r => .s (.fl k r)
    | .eql => some (.s (.b (k.format.order a b == some .eq)))
    | .neq => some (.s (.b (k.format.order a b != some .eq)))
    | .lss => some (.s (.b (k.format.order a b == some .lt)))
    | .leq => some (.s (.b (k.format.order a b == some .lt || k.format.order a b == some .eq)))
    | .gtr => some (.s (.b (k.format.order a b == some .gt)))
    | .geq => some (.s (.b (k.format.order a b == some .gt || k.format.order a b == some .eq)))
    | _ => none := by
  have h1 : eqGuard op T x y (.float k a) (.float k b) = pure () := by cases op <;> rfl
  simp only [binAV, toV, Sc.val, scVal, h1, pure_bind, binOp, ne_eq, not_true_eq_false, if_false]
  cases op <;> simp only [Op.floatArith, Op.floatCmp, evalPure_bind', evalPure_pure, evalPure_stuck, Option.bind_some, Option.map_none, Option.map_some, Option.bind_none] <;> try rfl
  · cases k.format.add a b <;> rfl
  · cases k.format.sub a b <;> rfl
  · cases k.format.mul a b <;> rfl
  · cases k.format.div a b <;> rfl

theorem ar_add : evalPure P (Op.Complex.arith .add .f64 a b) = Ieee.double.add a b := by
  simp only [Op.Complex.arith, Op.floatArith, evalPure_bind', evalPure_pure, show FloatKind.format .f64 = Ieee.double from rfl]
  cases Ieee.double.add a b <;> rfl
theorem ar_sub : evalPure P (Op.Complex.arith .sub .f64 a b) = Ieee.double.sub a b := by
  simp only [Op.Complex.arith, Op.floatArith, evalPure_bind', evalPure_pure, show FloatKind.format .f64 = Ieee.double from rfl]
  cases Ieee.double.sub a b <;> rfl
theorem ar_mul : evalPure P (Op.Complex.arith .mul .f64 a b) = Ieee.double.mul a b := by
  simp only [Op.Complex.arith, Op.floatArith, evalPure_bind', evalPure_pure, show FloatKind.format .f64 = Ieee.double from rfl]
  cases Ieee.double.mul a b <;> rfl

/-- Two integers. -/
theorem bin_i (op : BinOp) (k k' : IntKind) (m n : Int) : binAV P op T x y (.s (.i k m)) (.s (.i k' n)) = if isShift op then (shiftBin op k m n).map .s else if k = k' then (intBin op k m n).map .s else none := rfl

/-- Two complex numbers. -/
theorem bin_cadd : binAV P .add T x y (.s (.cx .f64 a b)) (.s (.cx .f64 c d)) = (Ieee.double.add a c).bind fun r => (Ieee.double.add b d).bind fun i => some (.s (.cx .f64 r i)) := by
  have h1 : eqGuard .add T x y (.complex .f64 a b) (.complex .f64 c d) = pure () := rfl
  simp only [binAV, toV, Sc.val, scVal, h1, pure_bind, binOp, ne_eq, not_true_eq_false, if_false, Op.complexOp, evalPure_bind', ar_add, evalPure_pure]
  cases Ieee.double.add a c <;> cases Ieee.double.add b d <;> rfl
theorem bin_csub : binAV P .sub T x y (.s (.cx .f64 a b)) (.s (.cx .f64 c d)) = (Ieee.double.sub a c).bind fun r => (Ieee.double.sub b d).bind fun i => some (.s (.cx .f64 r i)) := by
  have h1 : eqGuard .sub T x y (.complex .f64 a b) (.complex .f64 c d) = pure () := rfl
  simp only [binAV, toV, Sc.val, scVal, h1, pure_bind, binOp, ne_eq, not_true_eq_false, if_false, Op.complexOp, evalPure_bind', ar_sub, evalPure_pure]
  cases Ieee.double.sub a c <;> cases Ieee.double.sub b d <;> rfl
theorem bin_cmul : binAV P .mul T x y (.s (.cx .f64 a b)) (.s (.cx .f64 c d)) =
    (Ieee.double.mul a c).bind fun ac => (Ieee.double.mul b d).bind fun bd => (Ieee.double.sub ac bd).bind fun r =>
      (Ieee.double.mul a d).bind fun ad => (Ieee.double.mul b c).bind fun bc => (Ieee.double.add ad bc).bind fun i => some (.s (.cx .f64 r i)) := by
  have h1 : eqGuard .mul T x y (.complex .f64 a b) (.complex .f64 c d) = pure () := rfl
  have h2 : ∀ z, Op.Complex.conv .f64 z .f64 = pure z := fun z => rfl
  simp only [binAV, toV, Sc.val, scVal, h1, pure_bind, binOp, ne_eq, not_true_eq_false, if_false, Op.complexOp, h2, Op.Complex.product, Op.Complex.mul, Op.Complex.sub, Op.Complex.add, evalPure_bind', ar_add, ar_sub, ar_mul, evalPure_pure, beq_self_eq_true, if_true]
  cases Ieee.double.mul a c with
  | none => rfl
  | some ac => cases Ieee.double.mul b d with
    | none => rfl
    | some bd =>
      simp only [Option.bind_some]
      cases Ieee.double.sub ac bd with
      | none => rfl
      | some r => cases Ieee.double.mul a d with
        | none => rfl
        | some ad => cases Ieee.double.mul b c with
          | none => rfl
          | some bc =>
            simp only [Option.bind_some]
            cases Ieee.double.add ad bc <;> rfl
theorem bin_ceql : binAV P .eql T x y (.s (.cx .f64 a b)) (.s (.cx .f64 c d)) = some (.s (.b (Ieee.double.order a c == some .eq && Ieee.double.order b d == some .eq))) := by
  have h1 : eqGuard .eql T x y (.complex .f64 a b) (.complex .f64 c d) = pure () := rfl
  have h2 : ∀ p q, evalPure P (Op.Complex.cmp .eql .f64 p q) = some (Ieee.double.order p q == some .eq) := fun p q => rfl
  simp only [binAV, toV, Sc.val, scVal, h1, pure_bind, binOp, ne_eq, not_true_eq_false, if_false, Op.complexOp, evalPure_bind', evalPure_pure, h2, Option.bind_some]
  cases Ieee.double.order a c == some .eq <;> rfl
end
end Go.Am
