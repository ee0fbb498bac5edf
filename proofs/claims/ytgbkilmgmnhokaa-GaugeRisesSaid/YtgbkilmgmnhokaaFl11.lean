/-
  PLAIN LAW OF DOUBLES: a small whole number's double, and back.
-/
import Derived.Test.YtgbkilmgmnhokaaFl10
set_option linter.unusedSimpArgs false
set_option linter.unusedVariables false
namespace Go.Fl
open Ieee

theorem cut_zero_exact (neg : Bool) {n d : Nat} (h0 : n ≠ 0) : Toward.zero.cut neg (n * 2 ^ d) d = n := by
  unfold Toward.cut
  have hl : d ≤ (n * 2 ^ d).log2 + 2 := by rw [log2_shift h0]; omega
  simp only [Nat.min_eq_left hl, shl, Nat.one_mul, Nat.mul_div_cancel _ (Nat.two_pow_pos d)]
  rfl

theorem toInt_nr {n : Nat} (h : n < 2 ^ 53) : (double.read (nr n)).toInt .zero = some (n : Int) := by
  by_cases h0 : n = 0
  · subst h0; rw [nr_zero]; decide +kernel
  have hl : n.log2 < 53 := (Nat.log2_lt h0).2 h
  have h1 : 2 ^ n.log2 ≤ n := Nat.log2_self_le h0
  have h2 : n < 2 ^ (n.log2 + 1) := Nat.lt_log2_self
  have hd : dg n = n * 2 ^ (52 - n.log2) := by unfold dg; rw [if_pos (by omega)]
  have hb := dg_le h0
  have hb2 : dg n < 2 ^ 53 := by
    rw [hd]
    have : 2 ^ 53 = 2 ^ (n.log2 + 1) * 2 ^ (52 - n.log2) := by rw [← Nat.pow_add]; congr 1; omega
    rw [this]
    exact Nat.mul_lt_mul_of_pos_right h2 (Nat.two_pow_pos _)
  have hr := nr_dg h0 (by omega)
  have e1 : nr n % 2 ^ 52 = dg n - 2 ^ 52 := by omega
  have e2 : nr n / 2 ^ 52 - 1 = 1022 + n.log2 := by omega
  rw [read_big (by omega) (by omega), e1, e2, show 2 ^ 52 + (dg n - 2 ^ 52) = dg n by omega, hd]
  have e3 : (-1074 + ((1022 + n.log2 : Nat) : Int)).toNat = 0 := by omega
  have e4 : (-(-1074 + ((1022 + n.log2 : Nat) : Int))).toNat = 52 - n.log2 := by omega
  simp only [Datum.toInt, Datum.integral, e3, e4, shl, Nat.pow_zero, Nat.mul_one, cut_zero_exact _ h0, signed, Bool.false_eq_true, if_false]
end Go.Fl
