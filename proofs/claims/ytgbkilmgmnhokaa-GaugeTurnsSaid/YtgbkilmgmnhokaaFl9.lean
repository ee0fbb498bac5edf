/-
  PLAIN LAW OF DOUBLES: twice a double.
-/
import Derived.Test.YtgbkilmgmnhokaaFl8
set_option linter.unusedSimpArgs false
set_option linter.unusedVariables false
namespace Go.Fl
open Go
open Ieee

theorem sv_low {x : Nat} (h : x < 2047 * 2 ^ 52) : sv x = (iv x : Int) := by
  unfold sv; rw [if_pos (by omega)]
theorem sg_low {x : Nat} (h : x < 2047 * 2 ^ 52) : sg x = false := by
  unfold sg; rw [decide_eq_true (by omega)]; rfl
theorem fin_low {x : Nat} (h : x < 2047 * 2 ^ 52) : fin x := .inl ⟨by omega, h⟩

theorem iv_two {x : Nat} (h : 2 ^ 52 ≤ x) : iv (x + 2 ^ 52) = 2 * iv x := by
  unfold iv
  rw [if_neg (by omega), if_neg (by omega)]
  have e1 : (x + 2 ^ 52) % 2 ^ 52 = x % 2 ^ 52 := by omega
  have e2 : (x + 2 ^ 52) / 2 ^ 52 - 1 = (x / 2 ^ 52 - 1) + 1 := by omega
  rw [e1, e2, Nat.pow_succ (n := 2) (m := x / 2 ^ 52 - 1), ← Nat.mul_assoc, Nat.mul_comm]

theorem iv_TWO : iv TWO = 2 * 2 ^ 1074 := by decide +kernel

set_option exponentiation.threshold 2000 in
theorem mul_two {x : Nat} (h : 2 ^ 52 ≤ x) (hx : x + 2 ^ 52 < 2047 * 2 ^ 52) : double.mul x TWO = some (x + 2 ^ 52) := by
  have hT : TWO < 2047 * 2 ^ 52 := by decide
  have hx' : x < 2047 * 2 ^ 52 := by omega
  rw [mul_fin (fin_low hx') (fin_low hT), sg_low hx', sg_low hT, sv_low hx', sv_low hT, Int.natAbs_natCast, Int.natAbs_natCast, iv_TWO]
  have e : iv x * (2 * 2 ^ 1074) = iv (x + 2 ^ 52) * 2 ^ 1074 := by
    rw [iv_two h, ← Nat.mul_assoc, Nat.mul_comm (iv x)]
  rw [e]
  have sc := nearest_scale false (iv (x + 2 ^ 52)) 1074 (-1074)
  have e : (-1074 : Int) - (1074 : Nat) = -2148 := by decide
  rw [e] at sc
  show some (double.nearest false _ _) = _
  rw [sc, write_iv _ hx]
  rfl

theorem two_mul {x : Nat} (h : 2 ^ 52 ≤ x) (hx : x + 2 ^ 52 < 2047 * 2 ^ 52) : double.mul TWO x = some (x + 2 ^ 52) := by
  have hT : TWO < 2047 * 2 ^ 52 := by decide
  have hx' : x < 2047 * 2 ^ 52 := by omega
  have h1 := mul_two h hx
  rw [mul_fin (fin_low hx') (fin_low hT)] at h1
  rw [mul_fin (fin_low hT) (fin_low hx'), Nat.mul_comm, Bool.xor_comm]
  exact h1
end Go.Fl
