/-
  PLAIN LAW: the double that is nearest to a number.
-/
import Derived.Test.YtgbkilmgmnhokaaFl1
set_option linter.unusedSimpArgs false
set_option linter.unusedVariables false
namespace Go.Fl
open Ieee

/-- The double nearest to a number. -/
def nr (n : Nat) : Nat := double.nearest false n 0

/-- A number without its last digits, rounded to the nearest, of two the even one. -/
def rnd (n d : Nat) : Nat := n / 2 ^ d + (if 2 ^ d < 2 * (n % 2 ^ d) ∨ (2 ^ d = 2 * (n % 2 ^ d) ∧ n / 2 ^ d % 2 = 1) then 1 else 0)

theorem cut_eq {n d : Nat} (h : d ≤ n.log2 + 2) : Toward.even.cut false n d = rnd n d := by
  unfold Toward.cut rnd
  simp only [Nat.min_eq_left h, shl, Nat.one_mul]
  congr 1
  by_cases h1 : 2 ^ d < 2 * (n % 2 ^ d)
  · simp [h1]
  · by_cases h2 : 2 ^ d = 2 * (n % 2 ^ d) ∧ n / 2 ^ d % 2 = 1
    · have e : (decide (2 ^ d < 2 * (n % 2 ^ d)) || 2 ^ d == 2 * (n % 2 ^ d) && n / 2 ^ d % 2 == 1) = true := by
        simp only [Bool.or_eq_true, Bool.and_eq_true, beq_iff_eq]
        exact .inr h2
      rw [if_pos (.inr h2), e]; rfl
    · rw [if_neg (fun hh => hh.elim h1 h2)]
      have : (decide (2 ^ d < 2 * (n % 2 ^ d)) || 2 ^ d == 2 * (n % 2 ^ d) && n / 2 ^ d % 2 == 1) = false := by
        simp only [Bool.or_eq_false_iff, decide_eq_false_iff_not, Bool.and_eq_false_iff, beq_eq_false_iff_ne]
        refine ⟨h1, ?_⟩
        by_cases h3 : 2 ^ d = 2 * (n % 2 ^ d)
        · exact .inr fun h4 => h2 ⟨h3, h4⟩
        · exact .inl h3
      rw [this]; rfl

theorem rnd_zero (n : Nat) : rnd n 0 = n := by simp [rnd, Nat.mod_one]

theorem rnd_le (n d : Nat) : rnd n d ≤ n / 2 ^ d + 1 := by unfold rnd; split <;> omega
theorem le_rnd (n d : Nat) : n / 2 ^ d ≤ rnd n d := by unfold rnd; split <;> omega

theorem div_log {n l d : Nat} (h0 : n ≠ 0) (hl : n.log2 = l) (hd : d ≤ l) : 2 ^ (l - d) ≤ n / 2 ^ d ∧ n / 2 ^ d < 2 ^ (l - d + 1) := by
  have h1 : 2 ^ l ≤ n := by rw [← hl]; exact Nat.log2_self_le h0
  have h2 : n < 2 ^ (l + 1) := by rw [← hl]; exact Nat.lt_log2_self
  constructor
  · rw [Nat.le_div_iff_mul_le (Nat.two_pow_pos _), ← Nat.pow_add]
    rwa [Nat.sub_add_cancel hd]
  · rw [Nat.div_lt_iff_lt_mul (Nat.two_pow_pos _), ← Nat.pow_add]
    rwa [show l - d + 1 + d = l + 1 by omega]

theorem nr_zero : nr 0 = 0 := rfl

theorem nr_big {n l : Nat} (h0 : n ≠ 0) (hl : n.log2 = l) (h52 : 52 ≤ l) (h256 : l < 1000) : nr n = (l - 52 + 1074) * 2 ^ 52 + rnd n (l - 52) := by
  unfold nr Format.nearest
  rw [if_neg h0]
  simp only [hl, show double.fractionBits = 52 from rfl, lp, bi, ir]
  have e1 : max (0 + (l : Int) - (52 : Nat)) (-1074) = (l - 52 : Nat) := by omega
  rw [e1]
  have e2 : (0 - ((l - 52 : Nat) : Int)).toNat = 0 := by omega
  have e3 : (((l - 52 : Nat) : Int) - 0).toNat = l - 52 := by omega
  have e4 : (((l - 52 : Nat) : Int) - -1074).toNat = l - 52 + 1074 := by omega
  rw [e2, e3, e4, shl, Nat.pow_zero, Nat.mul_one, cut_eq (by omega)]
  have h1 := rnd_le n (l - 52)
  have h2 := (div_log h0 hl (d := l - 52) (by omega)).2
  rw [show l - (l - 52) + 1 = 53 by omega] at h2
  have h3 : (l - 52 + 1074) * 2 ^ 52 + rnd n (l - 52) ≤ 2047 * 2 ^ 52 := by omega
  rw [Nat.min_eq_left h3]
  rfl

theorem nr_small {n l : Nat} (h0 : n ≠ 0) (hl : n.log2 = l) (h52 : l ≤ 52) : nr n = (1022 + l) * 2 ^ 52 + n * 2 ^ (52 - l) := by
  unfold nr Format.nearest
  rw [if_neg h0]
  simp only [hl, show double.fractionBits = 52 from rfl, lp, bi, ir]
  have e1 : max (0 + (l : Int) - (52 : Nat)) (-1074) = (l : Int) - 52 := by omega
  rw [e1]
  have e2 : (0 - ((l : Int) - 52)).toNat = 52 - l := by omega
  have e3 : ((l : Int) - 52 - 0).toNat = 0 := by omega
  have e4 : ((l : Int) - 52 - -1074).toNat = 1022 + l := by omega
  rw [e2, e3, e4, shl, cut_eq (Nat.zero_le _), rnd_zero]
  have h1 : n * 2 ^ (52 - l) < 2 ^ 53 := by
    have : n < 2 ^ (l + 1) := by rw [← hl]; exact Nat.lt_log2_self
    calc n * 2 ^ (52 - l) < 2 ^ (l + 1) * 2 ^ (52 - l) := Nat.mul_lt_mul_of_pos_right this (Nat.two_pow_pos _)
      _ = 2 ^ 53 := by rw [← Nat.pow_add]; congr 1; omega
  have h3 : (1022 + l) * 2 ^ 52 + n * 2 ^ (52 - l) ≤ 2047 * 2 ^ 52 := by omega
  rw [Nat.min_eq_left h3]
  rfl

theorem or_one (x : Nat) : x ||| 1 = x / 2 * 2 + 1 := by
  have h1 : (x ||| 1) / 2 = x / 2 := by rw [Nat.or_div_two]; simp
  have h2 : (x ||| 1) % 2 = 1 := by
    have h : (x ||| 1).testBit 0 = true := by rw [Nat.testBit_or]; simp
    rw [Nat.testBit_zero] at h
    exact of_decide_eq_true h
  omega

/-- The highest digits, and one that tells whether anything is below them. -/
theorem sticky {n e d : Nat} (hd : 2 ≤ d) : rnd (n / 2 ^ e ||| (if n % 2 ^ e ≠ 0 then 1 else 0)) d = rnd n (e + d) := by
  obtain ⟨k, rfl⟩ : ∃ k, d = k + 2 := ⟨d - 2, by omega⟩
  have hE : 0 < 2 ^ e := Nat.two_pow_pos _
  have hdiv : n / 2 ^ (e + (k + 2)) = n / 2 ^ e / 2 ^ (k + 2) := by rw [Nat.pow_add, Nat.div_div_eq_div_mul]
  have hmod : n % 2 ^ (e + (k + 2)) = n / 2 ^ e % 2 ^ (k + 2) * 2 ^ e + n % 2 ^ e := by
    rw [Nat.pow_add, Nat.mod_mul, Nat.add_comm, Nat.mul_comm]
  have hpow : 2 ^ (e + (k + 2)) = 2 ^ (k + 2) * 2 ^ e := by rw [Nat.pow_add, Nat.mul_comm]
  generalize hx : n / 2 ^ e = x at *
  generalize hs : n % 2 ^ e = s at *
  have hslt : s < 2 ^ e := by rw [← hs]; exact Nat.mod_lt _ hE
  unfold rnd
  rw [hdiv, hmod, hpow]
  have hp : 2 ^ (k + 2) = 2 * (2 * 2 ^ k) := by rw [Nat.pow_succ, Nat.pow_succ]; omega
  generalize hE' : 2 ^ e = E at *
  generalize hK : 2 ^ k = K at *
  have hKp : 0 < K := by rw [← hK]; exact Nat.two_pow_pos _
  by_cases h0 : s = 0
  · subst h0
    simp only [ne_eq, not_true_eq_false, if_false, Nat.or_zero, Nat.add_zero]
    generalize x % 2 ^ (k + 2) = r
    generalize 2 ^ (k + 2) = D
    have a1 : D * E < 2 * (r * E) ↔ D < 2 * r := by
      rw [← Nat.mul_assoc]; exact Nat.mul_lt_mul_right hE
    have a2 : D * E = 2 * (r * E) ↔ D = 2 * r := by
      rw [← Nat.mul_assoc]; exact Nat.mul_left_inj (by omega)
    simp only [a1, a2]
  · simp only [ne_eq, h0, not_false_eq_true, if_true, or_one]
    have hq : (x / 2 * 2 + 1) / 2 ^ (k + 2) = x / 2 ^ (k + 2) := by
      rw [hp, ← Nat.div_div_eq_div_mul, ← Nat.div_div_eq_div_mul x]
      congr 1; omega
    have hr : (x / 2 * 2 + 1) % 2 ^ (k + 2) = x % 2 ^ (k + 2) / 2 * 2 + 1 := by
      rw [hp, Nat.mod_mul, Nat.mod_mul (x := x)]
      have : (x / 2 * 2 + 1) / 2 = x / 2 := by omega
      rw [this]; omega
    rw [hq, hr]
    have hrlt : x % 2 ^ (k + 2) < 2 ^ (k + 2) := Nat.mod_lt _ (Nat.two_pow_pos _)
    generalize x % 2 ^ (k + 2) = r at *
    rw [hp] at *
    have b1 : 2 * (2 * K) < 2 * (r / 2 * 2 + 1) ↔ 2 * K ≤ r := by omega
    have b2 : ¬ (2 * (2 * K) = 2 * (r / 2 * 2 + 1)) := by omega
    have b3 : 2 * (2 * K) * E < 2 * (r * E + s) ↔ 2 * K ≤ r := by
      constructor
      · intro h
        apply Nat.le_of_not_lt
        intro hlt
        have : (r + 1) * E ≤ 2 * K * E := Nat.mul_le_mul_right _ hlt
        rw [Nat.succ_mul] at this
        rw [Nat.mul_assoc] at h
        omega
      · intro h
        have : 2 * K * E ≤ r * E := Nat.mul_le_mul_right _ h
        rw [Nat.mul_assoc]
        omega
    have b4 : ¬ (2 * (2 * K) * E = 2 * (r * E + s)) := by
      intro h
      rw [Nat.mul_assoc] at h
      have h' : 2 * K * E = r * E + s := by omega
      have h2 : (2 * K * E) % E = (r * E + s) % E := by rw [h']
      rw [Nat.mul_mod_left, Nat.add_comm, Nat.add_mul_mod_self_right, Nat.mod_eq_of_lt hslt] at h2
      exact h0 h2.symm
    simp only [b1, b2, b3, b4, false_and, or_false]
end Go.Fl
