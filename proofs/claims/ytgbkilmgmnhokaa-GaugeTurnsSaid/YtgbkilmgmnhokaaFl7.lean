/-
  PLAIN LAW: how far two points are apart, squared.
-/
import Derived.Test.YtgbkilmgmnhokaaFl6
set_option linter.unusedSimpArgs false
set_option linter.unusedVariables false
namespace Go.Fl
open Ieee

theorem rn_lt {M : Nat} (h : M < 2 ^ 1800) : rn M (-1074) < 2047 * 2 ^ 52 := by
  unfold rn Format.nearest
  by_cases h0 : M = 0
  · rw [if_pos h0, word_false]; exact Nat.mul_pos (by decide) (Nat.two_pow_pos _)
  rw [if_neg h0]
  rw [word_false]
  simp only [show double.fractionBits = 52 from rfl, lp, bi, ir]
  have hl : M.log2 < 1800 := (Nat.log2_lt h0).2 h
  clear h
  apply Nat.lt_of_le_of_lt (Nat.min_le_left _ _)
  by_cases h52 : M.log2 < 52
  · have e1 : max (-1074 + (M.log2 : Int) - (52 : Nat)) (-1074) = -1074 := by omega
    rw [e1]
    have e2 : ((-1074 : Int) - -1074).toNat = 0 := by decide
    rw [e2, shl, Nat.pow_zero, Nat.mul_one, cut_eq (Nat.zero_le _), rnd_zero]
    have := (Nat.log2_lt h0).1 h52
    omega
  · have e1 : max (-1074 + (M.log2 : Int) - (52 : Nat)) (-1074) = -1074 + ((M.log2 - 52 : Nat) : Int) := by omega
    rw [e1]
    have e2 : (-1074 - (-1074 + ((M.log2 - 52 : Nat) : Int))).toNat = 0 := by omega
    have e3 : (-1074 + ((M.log2 - 52 : Nat) : Int) - -1074).toNat = M.log2 - 52 := by omega
    rw [e2, e3, shl, Nat.pow_zero, Nat.mul_one, cut_eq (by omega)]
    have h1 := rnd_le M (M.log2 - 52)
    have h2 := (div_log h0 rfl (d := M.log2 - 52) (by omega)).2
    rw [show M.log2 - (M.log2 - 52) + 1 = 53 by omega] at h2
    omega

def sqw (M : Nat) : Nat := rn (iv (rn M (-1074)) * iv (rn M (-1074))) (-2148)
/-- How far, squared, of two differences. -/
def apv (M N : Nat) : Nat := (double.add (sqw M) (sqw N)).getD 0

theorem sqw_le (M : Nat) : sqw M ≤ 2047 * 2 ^ 52 := rn_le _ _

theorem apv_spec (M N : Nat) : double.add (sqw M) (sqw N) = some (apv M N) ∧ apv M N ≤ 2047 * 2 ^ 52 := by
  obtain ⟨z, h1, h2, _⟩ := add_le (sqw_le M) (sqw_le N)
  unfold apv
  rw [h1]
  exact ⟨rfl, h2⟩

theorem apv_comm (M N : Nat) : apv M N = apv N M := by
  obtain ⟨z, h1, _, h3⟩ := add_le (sqw_le M) (sqw_le N)
  unfold apv
  rw [h1, h3]

theorem apv_zero : apv 0 0 = 0 := by decide +kernel

theorem sub_word {w v : Nat} (hw : fin w) (hv : fin v) (h : (sv w - sv v).natAbs < 2 ^ 1800) : ∃ s, double.sub w v = some (double.word s (rn (sv w - sv v).natAbs (-1074))) := by
  obtain ⟨s, h1, _⟩ := add_fin hw (fin_ng hv)
  rw [sv_ng hv, ← Int.sub_eq_add_neg] at h1
  exact ⟨s, by rw [sub_eq hv, h1, nearest_word]⟩

theorem sq_word (s : Bool) {r : Nat} (hr : r < 2047 * 2 ^ 52) : double.mul (double.word s r) (double.word s r) = some (rn (iv r * iv r) (-2148)) := by
  obtain ⟨q1, q2, q3⟩ := fin_word s hr
  rw [mul_fin q1 q1, q2]
  have e : (if s = true then -(iv r : Int) else (iv r : Int)).natAbs = iv r := by split <;> simp
  rw [e, Bool.xor_self]
  rfl

/-- The whole of it. -/
theorem apart_chain {a b c d : Nat} (ha : fin a) (hb : fin b) (hc : fin c) (hd : fin d) (h1 : (sv a - sv c).natAbs < 2 ^ 1800) (h2 : (sv b - sv d).natAbs < 2 ^ 1800) :
    ∃ x y xx yy, double.sub a c = some x ∧ double.sub b d = some y ∧ double.mul x x = some xx ∧ double.mul y y = some yy ∧ double.add xx yy = some (apv (sv a - sv c).natAbs (sv b - sv d).natAbs) := by
  obtain ⟨s, p1⟩ := sub_word ha hc h1
  obtain ⟨t, p2⟩ := sub_word hb hd h2
  exact ⟨_, _, _, _, p1, p2, sq_word s (rn_lt h1), sq_word t (rn_lt h2), (apv_spec _ _).1⟩

/-- What the floats of our numbers are: small enough. -/
theorem nr_fin {n : Nat} (h : n < 2 ^ 256) : fin (nr n) ∧ nr n < 1300 * 2 ^ 52 ∧ (sv (nr n)).natAbs < 2 ^ 1400 ∧ 0 ≤ sv (nr n) := by
  have hb : nr n < 1300 * 2 ^ 52 := by
    by_cases h0 : n = 0
    · subst h0; rw [nr_zero]; omega
    · have hl : n.log2 < 256 := (Nat.log2_lt h0).2 h
      rw [nr_dg h0 (by omega)]
      have := (dg_le h0).2
      omega
  have hs : sv (nr n) = (iv (nr n) : Int) := by unfold sv; rw [if_pos (by omega)]
  refine ⟨.inl ⟨by omega, by omega⟩, hb, ?_, ?_⟩
  · rw [hs, Int.natAbs_natCast]
    have h1 : iv (nr n) ≤ iv (1300 * 2 ^ 52) := iv_le (Nat.le_of_lt hb)
    have h2 : iv (1300 * 2 ^ 52) < 2 ^ 1400 := by decide +kernel
    exact Nat.lt_of_le_of_lt h1 h2
  · rw [hs]; exact Int.natCast_nonneg _

theorem diff_lt {x y : Int} (hx : x.natAbs < 2 ^ 1400) (hy : y.natAbs < 2 ^ 1400) : (x - y).natAbs < 2 ^ 1800 := by
  have h : (x - y).natAbs ≤ x.natAbs + y.natAbs := by
    clear hx hy
    omega
  have e : 2 ^ 1400 + 2 ^ 1400 ≤ 2 ^ 1800 := by decide +kernel
  exact Nat.lt_of_le_of_lt h (Nat.lt_of_lt_of_le (Nat.add_lt_add hx hy) e)
end Go.Fl
