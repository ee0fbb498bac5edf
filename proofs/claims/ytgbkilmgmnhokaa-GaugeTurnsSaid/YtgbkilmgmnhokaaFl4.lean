/-
  PLAIN LAW: what is written back; sums and products of words.
-/
import Derived.Test.YtgbkilmgmnhokaaFl3
set_option linter.unusedSimpArgs false
set_option linter.unusedVariables false
namespace Go.Fl
open Ieee

theorem log2_shift {m : Nat} (h : m ≠ 0) (k : Nat) : (m * 2 ^ k).log2 = m.log2 + k := by
  apply log2_of
  · rw [Nat.pow_add]; exact Nat.mul_le_mul_right _ (Nat.log2_self_le h)
  · rw [show m.log2 + k + 1 = (m.log2 + 1) + k by omega, Nat.pow_add]
    exact Nat.mul_lt_mul_of_pos_right Nat.lt_log2_self (Nat.two_pow_pos _)

theorem rnd_exact (m d : Nat) : rnd (m * 2 ^ d) d = m := by
  unfold rnd
  rw [Nat.mul_div_cancel _ (Nat.two_pow_pos d), Nat.mul_mod_left]
  have : 0 < 2 ^ d := Nat.two_pow_pos d
  rw [if_neg (by omega)]; rfl

theorem cut_neg (neg : Bool) (n d : Nat) : Toward.even.cut neg n d = Toward.even.cut false n d := rfl

/-- What a word stands for, written back. -/
theorem write_iv (neg : Bool) {x : Nat} (h : x < 2047 * 2 ^ 52) : double.nearest neg (iv x) (-1074) = double.word neg x := by
  unfold Format.nearest
  by_cases h0 : x = 0
  · subst h0; rfl
  have hiv0 : iv x ≠ 0 := by
    have := iv_mono (Nat.pos_of_ne_zero h0)
    have e : iv 0 = 0 := rfl
    omega
  rw [if_neg hiv0]
  simp only [show double.fractionBits = 52 from rfl, lp, bi, ir]
  by_cases hx : x < 2 ^ 52
  · have hiv : iv x = x := by simp [iv, hx]
    rw [hiv]
    have hl : x.log2 < 52 := (Nat.log2_lt h0).2 hx
    have e1 : max (-1074 + (x.log2 : Int) - (52 : Nat)) (-1074) = -1074 := by omega
    rw [e1]
    have e2 : ((-1074 : Int) - -1074).toNat = 0 := by decide
    rw [e2, shl, Nat.pow_zero, Nat.mul_one, cut_neg, cut_eq (Nat.zero_le _), rnd_zero, Nat.zero_mul, Nat.zero_add, Nat.min_eq_left (Nat.le_of_lt h)]
  · have hiv : iv x = (2 ^ 52 + x % 2 ^ 52) * 2 ^ (x / 2 ^ 52 - 1) := by simp [iv, hx]
    rw [hiv]
    generalize hp : x / 2 ^ 52 - 1 = p
    generalize hm : 2 ^ 52 + x % 2 ^ 52 = m
    have hml : m.log2 = 52 := log2_of (by omega) (by omega)
    have hm0 : m ≠ 0 := by omega
    rw [log2_shift hm0, hml]
    have e1 : max (-1074 + ((52 + p : Nat) : Int) - (52 : Nat)) (-1074) = -1074 + (p : Int) := by omega
    rw [e1]
    have e2 : ((-1074 : Int) - (-1074 + (p : Int))).toNat = 0 := by omega
    have e3 : ((-1074 + (p : Int)) - -1074).toNat = p := by omega
    rw [e2, e3, shl, Nat.pow_zero, Nat.mul_one, cut_neg, cut_eq (by rw [log2_shift hm0, hml]; omega), rnd_exact]
    have hfin : p * 2 ^ 52 + m = x := by omega
    rw [hfin, Nat.min_eq_left (Nat.le_of_lt h)]

/-- A number's word does not hang on how it is spelt. -/
theorem nearest_scale (neg : Bool) (m k : Nat) (p : Int) : double.nearest neg (m * 2 ^ k) (p - k) = double.nearest neg m p := by
  unfold Format.nearest
  by_cases h0 : m = 0
  · subst h0; simp
  have h1 : m * 2 ^ k ≠ 0 := Nat.mul_ne_zero h0 (by have := Nat.two_pow_pos k; omega)
  rw [if_neg h0, if_neg h1, log2_shift h0]
  simp only [show double.fractionBits = 52 from rfl, lp, bi, ir]
  have e1 : p - (k : Int) + ((m.log2 + k : Nat) : Int) - (52 : Nat) = p + (m.log2 : Int) - (52 : Nat) := by omega
  rw [e1]
  generalize hL : max (p + (m.log2 : Int) - (52 : Nat)) (-1074) = L
  have key : Toward.even.cut neg ((m * 2 ^ k) <<< (p - k - L).toNat) (L - (p - k)).toNat = Toward.even.cut neg (m <<< (p - L).toNat) (L - p).toNat := by
    rw [cut_neg, cut_neg (neg := neg) (n := m <<< _)]
    simp only [shl]
    by_cases hpl : L ≤ p
    · obtain ⟨s, hs⟩ : ∃ s : Nat, p = L + s := ⟨(p - L).toNat, by omega⟩
      subst hs
      have f1 : (L + (s : Int) - L).toNat = s := by omega
      have f2 : (L - (L + (s : Int))).toNat = 0 := by omega
      rw [f1, f2, cut_eq (Nat.zero_le _), rnd_zero]
      by_cases hks : k ≤ s
      · have f3 : (L + (s : Int) - k - L).toNat = s - k := by omega
        have f4 : (L - (L + (s : Int) - k)).toNat = 0 := by omega
        rw [f3, f4, cut_eq (Nat.zero_le _), rnd_zero, Nat.mul_assoc, ← Nat.pow_add]
        congr 2; omega
      · have f3 : (L + (s : Int) - k - L).toNat = 0 := by omega
        have f4 : (L - (L + (s : Int) - k)).toNat = k - s := by omega
        rw [f3, f4, Nat.pow_zero, Nat.mul_one, cut_eq (by rw [log2_shift h0]; omega)]
        have : m * 2 ^ k = m * 2 ^ s * 2 ^ (k - s) := by rw [Nat.mul_assoc, ← Nat.pow_add]; congr 2; omega
        rw [this, rnd_exact]
    · obtain ⟨t, ht⟩ : ∃ t : Nat, L = p + t := ⟨(L - p).toNat, by omega⟩
      subst ht
      have f1 : (p - (p + (t : Int))).toNat = 0 := by omega
      have f2 : (p + (t : Int) - p).toNat = t := by omega
      have f3 : (p - (k : Int) - (p + (t : Int))).toNat = 0 := by omega
      have f4 : (p + (t : Int) - (p - (k : Int))).toNat = t + k := by omega
      rw [f1, f2, f3, f4, Nat.pow_zero, Nat.mul_one, Nat.mul_one]
      unfold Toward.cut
      simp only [log2_shift h0, shl, Nat.one_mul]
      have g : min (t + k) (m.log2 + k + 2) = min t (m.log2 + 2) + k := by omega
      rw [g, Nat.pow_add]
      generalize 2 ^ min t (m.log2 + 2) = A
      have hk : 0 < 2 ^ k := Nat.two_pow_pos k
      generalize 2 ^ k = K at hk
      rw [Nat.mul_div_mul_right _ _ hk, Nat.mul_mod_mul_right]
      congr 2
      have c1 : (A * K < 2 * (m % A * K)) ↔ A < 2 * (m % A) := by rw [← Nat.mul_assoc]; exact Nat.mul_lt_mul_right hk
      have c2 : (A * K = 2 * (m % A * K)) ↔ A = 2 * (m % A) := by rw [← Nat.mul_assoc]; exact Nat.mul_left_inj (by omega)
      have d1 : decide (A * K < 2 * (m % A * K)) = decide (A < 2 * (m % A)) := by simp only [c1]
      have d2 : (A * K == 2 * (m % A * K)) = (A == 2 * (m % A)) := by
        rw [Bool.eq_iff_iff, beq_iff_eq, beq_iff_eq]; exact c2
      rw [d1, d2]
  rw [key]
end Go.Fl
