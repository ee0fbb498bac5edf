import Ieee.Arith
set_option linter.unusedSimpArgs false
set_option linter.unusedVariables false
/-
  PLAIN LAW: doubles as words. No program in sight.
-/
namespace Go.Fl
open Ieee

def B : Nat := 2 ^ 52
def INF : Nat := 2047 * 2 ^ 52
def SGN : Nat := 2 ^ 63

theorem lp : double.leastPlace = -1074 := rfl
theorem bi : double.binade = 2 ^ 52 := rfl
theorem ir : double.infRung = 2047 * 2 ^ 52 := by decide
theorem sw : double.signWeight = 2 ^ 63 := by decide

/-- What a word above no sign stands for, in units of the least place. -/
def iv (x : Nat) : Nat := if x < 2 ^ 52 then x else (2 ^ 52 + x % 2 ^ 52) * 2 ^ (x / 2 ^ 52 - 1)

theorem read_small {x : Nat} (h : x < 2 ^ 52) : double.read x = .number false x (-1074) := by
  have h1 : x / 2 ^ 63 % 2 = 0 := by omega
  have h2 : x % 2 ^ 63 = x := by omega
  simp [Format.read, sw, bi, lp, h1, h2, h]

theorem read_big {x : Nat} (h : 2 ^ 52 ≤ x) (h2 : x < 2047 * 2 ^ 52) : double.read x = .number false (2 ^ 52 + x % 2 ^ 52) (-1074 + (x / 2 ^ 52 - 1 : Nat)) := by
  have h1 : x / 2 ^ 63 % 2 = 0 := by omega
  have h3 : x % 2 ^ 63 = x := by omega
  simp only [Format.read, sw, bi, lp, ir, h1, h3]
  rw [if_neg (by omega), if_pos h2]
  rfl

theorem read_neg {x : Nat} (h : x < 2 ^ 63) : double.read (2 ^ 63 + x) = (double.read x).opposite := by
  have h1 : (2 ^ 63 + x) / 2 ^ 63 % 2 = 1 := by omega
  have h2 : (2 ^ 63 + x) % 2 ^ 63 = x := by omega
  have h3 : x / 2 ^ 63 % 2 = 0 := by omega
  have h4 : x % 2 ^ 63 = x := by omega
  simp only [Format.read, sw, h1, h2, h3, h4]
  split
  · rfl
  · split
    · rfl
    · split <;> rfl

/-- A finite word's datum, at the least place. -/
theorem read_iv {x : Nat} (h : x < 2047 * 2 ^ 52) : ∃ m p, double.read x = .number false m (-1074 + (p : Nat)) ∧ iv x = m * 2 ^ p := by
  by_cases hx : x < 2 ^ 52
  · exact ⟨x, 0, by rw [read_small hx]; rfl, by simp [iv, hx]⟩
  · exact ⟨_, _, read_big (by omega) h, by simp [iv, hx]⟩

theorem iv_mono {x y : Nat} (h : x < y) : iv x < iv y := by
  unfold iv
  split
  · split
    · exact h
    · have : 1 ≤ 2 ^ (y / 2 ^ 52 - 1) := Nat.one_le_two_pow
      calc x < 2 ^ 52 + y % 2 ^ 52 := by omega
        _ = (2 ^ 52 + y % 2 ^ 52) * 1 := by omega
        _ ≤ _ := Nat.mul_le_mul_left _ this
  · rename_i hx
    rw [if_neg (by omega)]
    have hd : x / 2 ^ 52 ≤ y / 2 ^ 52 := Nat.div_le_div_right (Nat.le_of_lt h)
    by_cases he : x / 2 ^ 52 = y / 2 ^ 52
    · rw [he]
      refine Nat.mul_lt_mul_of_pos_right (by omega) (Nat.two_pow_pos _)
    · have hlt : x / 2 ^ 52 - 1 + 1 ≤ y / 2 ^ 52 - 1 := by omega
      calc (2 ^ 52 + x % 2 ^ 52) * 2 ^ (x / 2 ^ 52 - 1) < 2 ^ 52 * 2 * 2 ^ (x / 2 ^ 52 - 1) := Nat.mul_lt_mul_of_pos_right (by omega) (Nat.two_pow_pos _)
        _ = 2 ^ 52 * 2 ^ (x / 2 ^ 52 - 1 + 1) := by
          generalize x / 2 ^ 52 - 1 = k
          rw [Nat.pow_succ 2 k]; omega
        _ ≤ 2 ^ 52 * 2 ^ (y / 2 ^ 52 - 1) := Nat.mul_le_mul_left _ (Nat.pow_le_pow_right (by omega) hlt)
        _ ≤ _ := Nat.mul_le_mul_right _ (by omega)

theorem iv_le {x y : Nat} (h : x ≤ y) : iv x ≤ iv y := by
  rcases Nat.lt_or_eq_of_le h with h | rfl
  · exact Nat.le_of_lt (iv_mono h)
  · exact Nat.le_refl _

theorem iv_inj {x y : Nat} (h : iv x = iv y) : x = y := by
  rcases Nat.lt_trichotomy x y with h1 | h1 | h1
  · have := iv_mono h1; omega
  · exact h1
  · have := iv_mono h1; omega

theorem shl (m p : Nat) : m <<< p = m * 2 ^ p := Nat.shiftLeft_eq m p

theorem cmp_lt {a b : Int} (h : a < b) : compare a b = .lt := by simp [compare, compareOfLessAndEq, h]
theorem cmp_gt {a b : Int} (h : b < a) : compare a b = .gt := by
  have h1 : ¬ a < b := by omega
  have h2 : a ≠ b := by omega
  simp [compare, compareOfLessAndEq, h1, h2]
theorem cmp_eq {a b : Int} (h : a = b) : compare a b = .eq := by subst h; simp [compare, compareOfLessAndEq]
theorem ncmp_lt {a b : Nat} (h : a < b) : compare a b = .lt := by simp [compare, compareOfLessAndEq, h]
theorem ncmp_gt {a b : Nat} (h : b < a) : compare a b = .gt := by
  have h1 : ¬ a < b := by omega
  have h2 : a ≠ b := by omega
  simp [compare, compareOfLessAndEq, h1, h2]
theorem ncmp_eq {a : Nat} : compare a a = .eq := by simp [compare, compareOfLessAndEq]

/-- Two finite words that bear no sign stand to each other as numbers do. -/
theorem order_words {x y : Nat} (hx : x < 2047 * 2 ^ 52) (hy : y < 2047 * 2 ^ 52) : double.order x y = some (compare x y) := by
  obtain ⟨m, p, h1, h2⟩ := read_iv hx
  obtain ⟨n, q, h3, h4⟩ := read_iv hy
  simp only [Format.order, h1, h3, Datum.order, signed, Bool.false_eq_true, if_false, shl]
  have e1 : ((-1074 + (p : Int)) - min (-1074 + (p : Int)) (-1074 + (q : Int))).toNat = p - min p q := by omega
  have e2 : ((-1074 + (q : Int)) - min (-1074 + (p : Int)) (-1074 + (q : Int))).toNat = q - min p q := by omega
  rw [e1, e2]
  have f1 : iv x = m * 2 ^ (p - min p q) * 2 ^ min p q := by rw [Nat.mul_assoc, ← Nat.pow_add, h2]; congr 2; omega
  have f2 : iv y = n * 2 ^ (q - min p q) * 2 ^ min p q := by rw [Nat.mul_assoc, ← Nat.pow_add, h4]; congr 2; omega
  congr 1
  rcases Nat.lt_trichotomy x y with h | rfl | h
  · rw [ncmp_lt h, cmp_lt]
    have := iv_mono h
    rw [f1, f2] at this
    have := Nat.lt_of_mul_lt_mul_right this
    exact_mod_cast this
  · rw [ncmp_eq, cmp_eq]
    rw [f1] at f2
    have := Nat.eq_of_mul_eq_mul_right (Nat.two_pow_pos _) f2
    exact_mod_cast this
  · rw [ncmp_gt h, cmp_gt]
    have := iv_mono h
    rw [f1, f2] at this
    have := Nat.lt_of_mul_lt_mul_right this
    exact_mod_cast this
end Go.Fl
/-
  PLAIN LAW: the double that is nearest to a number.
-/
namespace Go.Fl
open Ieee

/-- The double nearest to a number. -/
def nr (n : Nat) : Nat := double.nearest false n 0

/-- A number without its last digits, rounded to the nearest, of two the even one. -/
def rnd (n d : Nat) : Nat := n / 2 ^ d + (if 2 ^ d < 2 * (n % 2 ^ d) ∨ (2 ^ d = 2 * (n % 2 ^ d) ∧ n / 2 ^ d % 2 = 1) then 1 else 0)

theorem cut_eq {n d : Nat} (h : d ≤ n.log2 + 2) : Toward.even.cut false n d = rnd n d := by
  unfold Toward.cut rnd
  simp only [Nat.min_eq_left h, shl, Nat.one_mul]
  congr 1
  by_cases h1 : 2 ^ d < 2 * (n % 2 ^ d)
  · simp [h1]
  · by_cases h2 : 2 ^ d = 2 * (n % 2 ^ d) ∧ n / 2 ^ d % 2 = 1
    · have e : (decide (2 ^ d < 2 * (n % 2 ^ d)) || 2 ^ d == 2 * (n % 2 ^ d) && n / 2 ^ d % 2 == 1) = true := by
        simp only [Bool.or_eq_true, Bool.and_eq_true, beq_iff_eq]
        exact .inr h2
      rw [if_pos (.inr h2), e]; rfl
    · rw [if_neg (fun hh => hh.elim h1 h2)]
      have : (decide (2 ^ d < 2 * (n % 2 ^ d)) || 2 ^ d == 2 * (n % 2 ^ d) && n / 2 ^ d % 2 == 1) = false := by
        simp only [Bool.or_eq_false_iff, decide_eq_false_iff_not, Bool.and_eq_false_iff, beq_eq_false_iff_ne]
        refine ⟨h1, ?_⟩
        by_cases h3 : 2 ^ d = 2 * (n % 2 ^ d)
        · exact .inr fun h4 => h2 ⟨h3, h4⟩
        · exact .inl h3
      rw [this]; rfl

theorem rnd_zero (n : Nat) : rnd n 0 = n := by simp [rnd, Nat.mod_one]

theorem rnd_le (n d : Nat) : rnd n d ≤ n / 2 ^ d + 1 := by unfold rnd; split <;> omega
theorem le_rnd (n d : Nat) : n / 2 ^ d ≤ rnd n d := by unfold rnd; split <;> omega

theorem div_log {n l d : Nat} (h0 : n ≠ 0) (hl : n.log2 = l) (hd : d ≤ l) : 2 ^ (l - d) ≤ n / 2 ^ d ∧ n / 2 ^ d < 2 ^ (l - d + 1) := by
  have h1 : 2 ^ l ≤ n := by rw [← hl]; exact Nat.log2_self_le h0
  have h2 : n < 2 ^ (l + 1) := by rw [← hl]; exact Nat.lt_log2_self
  constructor
  · rw [Nat.le_div_iff_mul_le (Nat.two_pow_pos _), ← Nat.pow_add]
    rwa [Nat.sub_add_cancel hd]
  · rw [Nat.div_lt_iff_lt_mul (Nat.two_pow_pos _), ← Nat.pow_add]
    rwa [show l - d + 1 + d = l + 1 by omega]

theorem nr_zero : nr 0 = 0 := rfl

theorem nr_big {n l : Nat} (h0 : n ≠ 0) (hl : n.log2 = l) (h52 : 52 ≤ l) (h256 : l < 1000) : nr n = (l - 52 + 1074) * 2 ^ 52 + rnd n (l - 52) := by
  unfold nr Format.nearest
  rw [if_neg h0]
  simp only [hl, show double.fractionBits = 52 from rfl, lp, bi, ir]
  have e1 : max (0 + (l : Int) - (52 : Nat)) (-1074) = (l - 52 : Nat) := by omega
  rw [e1]
  have e2 : (0 - ((l - 52 : Nat) : Int)).toNat = 0 := by omega
  have e3 : (((l - 52 : Nat) : Int) - 0).toNat = l - 52 := by omega
  have e4 : (((l - 52 : Nat) : Int) - -1074).toNat = l - 52 + 1074 := by omega
  rw [e2, e3, e4, shl, Nat.pow_zero, Nat.mul_one, cut_eq (by omega)]
  have h1 := rnd_le n (l - 52)
  have h2 := (div_log h0 hl (d := l - 52) (by omega)).2
  rw [show l - (l - 52) + 1 = 53 by omega] at h2
  have h3 : (l - 52 + 1074) * 2 ^ 52 + rnd n (l - 52) ≤ 2047 * 2 ^ 52 := by omega
  rw [Nat.min_eq_left h3]
  rfl

theorem nr_small {n l : Nat} (h0 : n ≠ 0) (hl : n.log2 = l) (h52 : l ≤ 52) : nr n = (1022 + l) * 2 ^ 52 + n * 2 ^ (52 - l) := by
  unfold nr Format.nearest
  rw [if_neg h0]
  simp only [hl, show double.fractionBits = 52 from rfl, lp, bi, ir]
  have e1 : max (0 + (l : Int) - (52 : Nat)) (-1074) = (l : Int) - 52 := by omega
  rw [e1]
  have e2 : (0 - ((l : Int) - 52)).toNat = 52 - l := by omega
  have e3 : ((l : Int) - 52 - 0).toNat = 0 := by omega
  have e4 : ((l : Int) - 52 - -1074).toNat = 1022 + l := by omega
  rw [e2, e3, e4, shl, cut_eq (Nat.zero_le _), rnd_zero]
  have h1 : n * 2 ^ (52 - l) < 2 ^ 53 := by
    have : n < 2 ^ (l + 1) := by rw [← hl]; exact Nat.lt_log2_self
    calc n * 2 ^ (52 - l) < 2 ^ (l + 1) * 2 ^ (52 - l) := Nat.mul_lt_mul_of_pos_right this (Nat.two_pow_pos _)
      _ = 2 ^ 53 := by rw [← Nat.pow_add]; congr 1; omega
  have h3 : (1022 + l) * 2 ^ 52 + n * 2 ^ (52 - l) ≤ 2047 * 2 ^ 52 := by omega
  rw [Nat.min_eq_left h3]
  rfl

theorem or_one (x : Nat) : x ||| 1 = x / 2 * 2 + 1 := by
  have h1 : (x ||| 1) / 2 = x / 2 := by rw [Nat.or_div_two]; simp
  have h2 : (x ||| 1) % 2 = 1 := by
    have h : (x ||| 1).testBit 0 = true := by rw [Nat.testBit_or]; simp
    rw [Nat.testBit_zero] at h
    exact of_decide_eq_true h
  omega

/-- The highest digits, and one that tells whether anything is below them. -/
theorem sticky {n e d : Nat} (hd : 2 ≤ d) : rnd (n / 2 ^ e ||| (if n % 2 ^ e ≠ 0 then 1 else 0)) d = rnd n (e + d) := by
  obtain ⟨k, rfl⟩ : ∃ k, d = k + 2 := ⟨d - 2, by omega⟩
  have hE : 0 < 2 ^ e := Nat.two_pow_pos _
  have hdiv : n / 2 ^ (e + (k + 2)) = n / 2 ^ e / 2 ^ (k + 2) := by rw [Nat.pow_add, Nat.div_div_eq_div_mul]
  have hmod : n % 2 ^ (e + (k + 2)) = n / 2 ^ e % 2 ^ (k + 2) * 2 ^ e + n % 2 ^ e := by
    rw [Nat.pow_add, Nat.mod_mul, Nat.add_comm, Nat.mul_comm]
  have hpow : 2 ^ (e + (k + 2)) = 2 ^ (k + 2) * 2 ^ e := by rw [Nat.pow_add, Nat.mul_comm]
  generalize hx : n / 2 ^ e = x at *
  generalize hs : n % 2 ^ e = s at *
  have hslt : s < 2 ^ e := by rw [← hs]; exact Nat.mod_lt _ hE
  unfold rnd
  rw [hdiv, hmod, hpow]
  have hp : 2 ^ (k + 2) = 2 * (2 * 2 ^ k) := by rw [Nat.pow_succ, Nat.pow_succ]; omega
  generalize hE' : 2 ^ e = E at *
  generalize hK : 2 ^ k = K at *
  have hKp : 0 < K := by rw [← hK]; exact Nat.two_pow_pos _
  by_cases h0 : s = 0
  · subst h0
    simp only [ne_eq, not_true_eq_false, if_false, Nat.or_zero, Nat.add_zero]
    generalize x % 2 ^ (k + 2) = r
    generalize 2 ^ (k + 2) = D
    have a1 : D * E < 2 * (r * E) ↔ D < 2 * r := by
      rw [← Nat.mul_assoc]; exact Nat.mul_lt_mul_right hE
    have a2 : D * E = 2 * (r * E) ↔ D = 2 * r := by
      rw [← Nat.mul_assoc]; exact Nat.mul_left_inj (by omega)
    simp only [a1, a2]
  · simp only [ne_eq, h0, not_false_eq_true, if_true, or_one]
    have hq : (x / 2 * 2 + 1) / 2 ^ (k + 2) = x / 2 ^ (k + 2) := by
      rw [hp, ← Nat.div_div_eq_div_mul, ← Nat.div_div_eq_div_mul x]
      congr 1; omega
    have hr : (x / 2 * 2 + 1) % 2 ^ (k + 2) = x % 2 ^ (k + 2) / 2 * 2 + 1 := by
      rw [hp, Nat.mod_mul, Nat.mod_mul (x := x)]
      have : (x / 2 * 2 + 1) / 2 = x / 2 := by omega
      rw [this]; omega
    rw [hq, hr]
    have hrlt : x % 2 ^ (k + 2) < 2 ^ (k + 2) := Nat.mod_lt _ (Nat.two_pow_pos _)
    generalize x % 2 ^ (k + 2) = r at *
    rw [hp] at *
    have b1 : 2 * (2 * K) < 2 * (r / 2 * 2 + 1) ↔ 2 * K ≤ r := by omega
    have b2 : ¬ (2 * (2 * K) = 2 * (r / 2 * 2 + 1)) := by omega
    have b3 : 2 * (2 * K) * E < 2 * (r * E + s) ↔ 2 * K ≤ r := by
      constructor
      · intro h
        apply Nat.le_of_not_lt
        intro hlt
        have : (r + 1) * E ≤ 2 * K * E := Nat.mul_le_mul_right _ hlt
        rw [Nat.succ_mul] at this
        rw [Nat.mul_assoc] at h
        omega
      · intro h
        have : 2 * K * E ≤ r * E := Nat.mul_le_mul_right _ h
        rw [Nat.mul_assoc]
        omega
    have b4 : ¬ (2 * (2 * K) * E = 2 * (r * E + s)) := by
      intro h
      rw [Nat.mul_assoc] at h
      have h' : 2 * K * E = r * E + s := by omega
      have h2 : (2 * K * E) % E = (r * E + s) % E := by rw [h']
      rw [Nat.mul_mod_left, Nat.add_comm, Nat.add_mul_mod_self_right, Nat.mod_eq_of_lt hslt] at h2
      exact h0 h2.symm
    simp only [b1, b2, b3, b4, false_and, or_false]
end Go.Fl
/-
  PLAIN LAW: the nearest double: of a number's highest digits; twice; in order.
-/
namespace Go.Fl
open Ieee

/-- The nearest double's word: its binade and its digits. -/
def dg (n : Nat) : Nat := if n.log2 ≤ 52 then n * 2 ^ (52 - n.log2) else rnd n (n.log2 - 52)

theorem nr_dg {n : Nat} (h0 : n ≠ 0) (hl : n.log2 < 1000) : nr n = (1022 + n.log2) * 2 ^ 52 + dg n := by
  unfold dg
  split
  · rename_i h; exact nr_small h0 rfl h
  · rename_i h
    rw [nr_big h0 rfl (by omega) hl]
    congr 2; omega

theorem dg_le {n : Nat} (h0 : n ≠ 0) : 2 ^ 52 ≤ dg n ∧ dg n ≤ 2 ^ 53 := by
  unfold dg
  have h1 : 2 ^ n.log2 ≤ n := Nat.log2_self_le h0
  have h2 : n < 2 ^ (n.log2 + 1) := Nat.lt_log2_self
  split
  · rename_i h
    constructor
    · calc 2 ^ 52 = 2 ^ n.log2 * 2 ^ (52 - n.log2) := by rw [← Nat.pow_add]; congr 1; omega
        _ ≤ _ := Nat.mul_le_mul_right _ h1
    · calc n * 2 ^ (52 - n.log2) ≤ 2 ^ (n.log2 + 1) * 2 ^ (52 - n.log2) := Nat.mul_le_mul_right _ (Nat.le_of_lt h2)
        _ = 2 ^ 53 := by rw [← Nat.pow_add]; congr 1; omega
  · rename_i h
    obtain ⟨q1, q2⟩ := div_log h0 rfl (d := n.log2 - 52) (by omega)
    rw [show n.log2 - (n.log2 - 52) = 52 by omega] at q1
    rw [show n.log2 - (n.log2 - 52) + 1 = 53 by omega] at q2
    have := rnd_le n (n.log2 - 52)
    have := le_rnd n (n.log2 - 52)
    omega

theorem log2_of {n l : Nat} (h1 : 2 ^ l ≤ n) (h2 : n < 2 ^ (l + 1)) : n.log2 = l := by
  have h0 : n ≠ 0 := by have := Nat.two_pow_pos l; omega
  have a := (Nat.le_log2 h0).2 h1
  have b := (Nat.log2_lt h0).2 h2
  omega

/-- T1: of the highest 64 digits. -/
theorem nr_high {n e : Nat} (h1 : 2 ^ (e + 63) ≤ n) (h2 : n < 2 ^ (e + 64)) (he : e < 900) :
    nr n = nr (n / 2 ^ e ||| (if n % 2 ^ e ≠ 0 then 1 else 0)) + e * 2 ^ 52 ∧ 2 ^ 63 ≤ (n / 2 ^ e ||| (if n % 2 ^ e ≠ 0 then 1 else 0)) ∧ (n / 2 ^ e ||| (if n % 2 ^ e ≠ 0 then 1 else 0)) < 2 ^ 64 := by
  have hq1 : 2 ^ 63 ≤ n / 2 ^ e := by rw [Nat.le_div_iff_mul_le (Nat.two_pow_pos _), ← Nat.pow_add, Nat.add_comm]; exact h1
  have hq2 : n / 2 ^ e < 2 ^ 64 := by rw [Nat.div_lt_iff_lt_mul (Nat.two_pow_pos _), ← Nat.pow_add, Nat.add_comm]; exact h2
  have hH : 2 ^ 63 ≤ (n / 2 ^ e ||| (if n % 2 ^ e ≠ 0 then 1 else 0)) ∧ (n / 2 ^ e ||| (if n % 2 ^ e ≠ 0 then 1 else 0)) < 2 ^ 64 := by
    split
    · rw [or_one]; omega
    · rw [Nat.or_zero]; exact ⟨hq1, hq2⟩
  have hn0 : n ≠ 0 := by have := Nat.two_pow_pos (e + 63); omega
  have hlog : n.log2 = e + 63 := log2_of h1 h2
  refine ⟨?_, hH⟩
  have hHl := log2_of hH.1 hH.2
  have hH0 : (n / 2 ^ e ||| (if n % 2 ^ e ≠ 0 then 1 else 0)) ≠ 0 := by have := hH.1; omega
  rw [nr_big hn0 hlog (by omega) (by omega), nr_big hH0 hHl (by omega) (by omega), sticky (by omega)]
  rw [show e + 63 - 52 = e + (63 - 52) by omega]
  omega

/-- T2: of the highest 53 digits, rounded. -/
theorem nr_top {n l : Nat} (h0 : n ≠ 0) (hl : n.log2 = l) (h52 : 52 ≤ l) (hl2 : l < 900) : nr n = nr (rnd n (l - 52)) + (l - 52) * 2 ^ 52 ∧ 2 ^ 52 ≤ rnd n (l - 52) ∧ rnd n (l - 52) ≤ 2 ^ 53 := by
  have hb := dg_le h0
  unfold dg at hb
  rw [hl] at hb
  have ht : 2 ^ 52 ≤ rnd n (l - 52) ∧ rnd n (l - 52) ≤ 2 ^ 53 := by
    split at hb
    · have : l = 52 := by omega
      subst this
      simpa [rnd_zero] using hb
    · exact hb
  refine ⟨?_, ht⟩
  rw [nr_big h0 hl h52 (by omega)]
  generalize rnd n (l - 52) = t at ht
  by_cases h53 : t = 2 ^ 53
  · subst h53
    have : (2 ^ 53).log2 = 53 := by decide
    rw [nr_big (by decide) this (by omega) (by omega)]
    have : rnd (2 ^ 53) (53 - 52) = 2 ^ 52 := by decide
    rw [this]; omega
  · have : t.log2 = 52 := log2_of ht.1 (by omega)
    rw [nr_big (by omega) this (by omega) (by omega), rnd_zero]
    omega

theorem rnd_mono {n m d : Nat} (h : n ≤ m) : rnd n d ≤ rnd m d := by
  have hq : n / 2 ^ d ≤ m / 2 ^ d := Nat.div_le_div_right h
  rcases Nat.lt_or_eq_of_le hq with h1 | h1
  · have := rnd_le n d; have := le_rnd m d; omega
  · have hr : n % 2 ^ d ≤ m % 2 ^ d := by
      have a := Nat.div_add_mod n (2 ^ d)
      have b := Nat.div_add_mod m (2 ^ d)
      rw [h1] at a; omega
    unfold rnd
    rw [h1]
    split
    · rename_i hc
      have : 2 ^ d < 2 * (m % 2 ^ d) ∨ (2 ^ d = 2 * (m % 2 ^ d) ∧ m / 2 ^ d % 2 = 1) := by
        rcases hc with hc | ⟨hc, hp⟩
        · exact .inl (by omega)
        · rcases Nat.lt_or_eq_of_le hr with h2 | h2
          · exact .inl (by omega)
          · exact .inr ⟨by rw [← h2]; exact hc, hp⟩
      rw [if_pos this]; exact Nat.le_refl _
    · omega

/-- T5: a greater number's is not less. -/
theorem nr_mono {n m : Nat} (h : n ≤ m) (hm : m < 2 ^ 900) : nr n ≤ nr m := by
  by_cases h0 : n = 0
  · subst h0; rw [nr_zero]; exact Nat.zero_le _
  have hm0 : m ≠ 0 := by omega
  have hml : m.log2 < 900 := (Nat.log2_lt hm0).2 hm
  have hle : n.log2 ≤ m.log2 := (Nat.le_log2 hm0).2 (Nat.le_trans (Nat.log2_self_le h0) h)
  rw [nr_dg h0 (by omega), nr_dg hm0 (by omega)]
  rcases Nat.lt_or_eq_of_le hle with h1 | h1
  · have a := (dg_le h0).2; have b := (dg_le hm0).1; omega
  · rw [h1]
    have : dg n ≤ dg m := by
      unfold dg
      rw [h1]
      split
      · exact Nat.mul_le_mul_right _ h
      · exact rnd_mono h
    omega

theorem log2_two {n : Nat} (h0 : n ≠ 0) : (2 * n).log2 = n.log2 + 1 := by
  apply log2_of
  · have := Nat.log2_self_le h0; rw [Nat.pow_succ]; omega
  · have := @Nat.lt_log2_self n; rw [Nat.pow_succ]; omega

/-- T8: twice the number, one binade higher. -/
theorem nr_two {n : Nat} (h0 : n ≠ 0) (hn : n < 2 ^ 900) : nr (2 * n) = nr n + 2 ^ 52 := by
  have hl : n.log2 < 900 := (Nat.log2_lt h0).2 hn
  have h20 : 2 * n ≠ 0 := by omega
  rw [nr_dg h20 (by rw [log2_two h0]; omega), nr_dg h0 (by omega), log2_two h0]
  have : dg (2 * n) = dg n := by
    unfold dg
    rw [log2_two h0]
    by_cases h : n.log2 + 1 ≤ 52
    · rw [if_pos h, if_pos (by omega), show 52 - n.log2 = 52 - (n.log2 + 1) + 1 by omega, Nat.pow_succ, Nat.mul_comm 2 n, Nat.mul_assoc, Nat.mul_comm 2]
    · rw [if_neg h]
      by_cases h2 : n.log2 ≤ 52
      · rw [if_pos h2]
        have : n.log2 = 52 := by omega
        rw [this]
        show rnd (2 * n) 1 = n * 2 ^ 0
        simp only [rnd, Nat.pow_one, Nat.pow_zero, Nat.mul_one]
        rw [if_neg (by omega)]; omega
      · rw [if_neg h2]
        have e : n.log2 + 1 - 52 = (n.log2 - 52) + 1 := by omega
        rw [e]
        generalize n.log2 - 52 = d
        have hp : 2 ^ (d + 1) = 2 * 2 ^ d := by rw [Nat.pow_succ, Nat.mul_comm]
        unfold rnd
        rw [hp, Nat.mul_div_mul_left _ _ (by omega), Nat.mul_mod_mul_left]
        congr 1
        have c1 : 2 * 2 ^ d < 2 * (2 * (n % 2 ^ d)) ↔ 2 ^ d < 2 * (n % 2 ^ d) := by omega
        have c2 : 2 * 2 ^ d = 2 * (2 * (n % 2 ^ d)) ↔ 2 ^ d = 2 * (n % 2 ^ d) := by omega
        simp only [c1, c2]
  rw [this]; omega
end Go.Fl
/-
  PLAIN LAW: what is written back; sums and products of words.
-/
namespace Go.Fl
open Ieee

theorem log2_shift {m : Nat} (h : m ≠ 0) (k : Nat) : (m * 2 ^ k).log2 = m.log2 + k := by
  apply log2_of
  · rw [Nat.pow_add]; exact Nat.mul_le_mul_right _ (Nat.log2_self_le h)
  · rw [show m.log2 + k + 1 = (m.log2 + 1) + k by omega, Nat.pow_add]
    exact Nat.mul_lt_mul_of_pos_right Nat.lt_log2_self (Nat.two_pow_pos _)

theorem rnd_exact (m d : Nat) : rnd (m * 2 ^ d) d = m := by
  unfold rnd
  rw [Nat.mul_div_cancel _ (Nat.two_pow_pos d), Nat.mul_mod_left]
  have : 0 < 2 ^ d := Nat.two_pow_pos d
  rw [if_neg (by omega)]; rfl

theorem cut_neg (neg : Bool) (n d : Nat) : Toward.even.cut neg n d = Toward.even.cut false n d := rfl

/-- What a word stands for, written back. -/
theorem write_iv (neg : Bool) {x : Nat} (h : x < 2047 * 2 ^ 52) : double.nearest neg (iv x) (-1074) = double.word neg x := by
  unfold Format.nearest
  by_cases h0 : x = 0
  · subst h0; rfl
  have hiv0 : iv x ≠ 0 := by
    have := iv_mono (Nat.pos_of_ne_zero h0)
    have e : iv 0 = 0 := rfl
    omega
  rw [if_neg hiv0]
  simp only [show double.fractionBits = 52 from rfl, lp, bi, ir]
  by_cases hx : x < 2 ^ 52
  · have hiv : iv x = x := by simp [iv, hx]
    rw [hiv]
    have hl : x.log2 < 52 := (Nat.log2_lt h0).2 hx
    have e1 : max (-1074 + (x.log2 : Int) - (52 : Nat)) (-1074) = -1074 := by omega
    rw [e1]
    have e2 : ((-1074 : Int) - -1074).toNat = 0 := by decide
    rw [e2, shl, Nat.pow_zero, Nat.mul_one, cut_neg, cut_eq (Nat.zero_le _), rnd_zero, Nat.zero_mul, Nat.zero_add, Nat.min_eq_left (Nat.le_of_lt h)]
  · have hiv : iv x = (2 ^ 52 + x % 2 ^ 52) * 2 ^ (x / 2 ^ 52 - 1) := by simp [iv, hx]
    rw [hiv]
    generalize hp : x / 2 ^ 52 - 1 = p
    generalize hm : 2 ^ 52 + x % 2 ^ 52 = m
    have hml : m.log2 = 52 := log2_of (by omega) (by omega)
    have hm0 : m ≠ 0 := by omega
    rw [log2_shift hm0, hml]
    have e1 : max (-1074 + ((52 + p : Nat) : Int) - (52 : Nat)) (-1074) = -1074 + (p : Int) := by omega
    rw [e1]
    have e2 : ((-1074 : Int) - (-1074 + (p : Int))).toNat = 0 := by omega
    have e3 : ((-1074 + (p : Int)) - -1074).toNat = p := by omega
    rw [e2, e3, shl, Nat.pow_zero, Nat.mul_one, cut_neg, cut_eq (by rw [log2_shift hm0, hml]; omega), rnd_exact]
    have hfin : p * 2 ^ 52 + m = x := by omega
    rw [hfin, Nat.min_eq_left (Nat.le_of_lt h)]

/-- A number's word does not hang on how it is spelt. -/
theorem nearest_scale (neg : Bool) (m k : Nat) (p : Int) : double.nearest neg (m * 2 ^ k) (p - k) = double.nearest neg m p := by
  unfold Format.nearest
  by_cases h0 : m = 0
  · subst h0; simp
  have h1 : m * 2 ^ k ≠ 0 := Nat.mul_ne_zero h0 (by have := Nat.two_pow_pos k; omega)
  rw [if_neg h0, if_neg h1, log2_shift h0]
  simp only [show double.fractionBits = 52 from rfl, lp, bi, ir]
  have e1 : p - (k : Int) + ((m.log2 + k : Nat) : Int) - (52 : Nat) = p + (m.log2 : Int) - (52 : Nat) := by omega
  rw [e1]
  generalize hL : max (p + (m.log2 : Int) - (52 : Nat)) (-1074) = L
  have key : Toward.even.cut neg ((m * 2 ^ k) <<< (p - k - L).toNat) (L - (p - k)).toNat = Toward.even.cut neg (m <<< (p - L).toNat) (L - p).toNat := by
    rw [cut_neg, cut_neg (neg := neg) (n := m <<< _)]
    simp only [shl]
    by_cases hpl : L ≤ p
    · obtain ⟨s, hs⟩ : ∃ s : Nat, p = L + s := ⟨(p - L).toNat, by omega⟩
      subst hs
      have f1 : (L + (s : Int) - L).toNat = s := by omega
      have f2 : (L - (L + (s : Int))).toNat = 0 := by omega
      rw [f1, f2, cut_eq (Nat.zero_le _), rnd_zero]
      by_cases hks : k ≤ s
      · have f3 : (L + (s : Int) - k - L).toNat = s - k := by omega
        have f4 : (L - (L + (s : Int) - k)).toNat = 0 := by omega
        rw [f3, f4, cut_eq (Nat.zero_le _), rnd_zero, Nat.mul_assoc, ← Nat.pow_add]
        congr 2; omega
      · have f3 : (L + (s : Int) - k - L).toNat = 0 := by omega
        have f4 : (L - (L + (s : Int) - k)).toNat = k - s := by omega
        rw [f3, f4, Nat.pow_zero, Nat.mul_one, cut_eq (by rw [log2_shift h0]; omega)]
        have : m * 2 ^ k = m * 2 ^ s * 2 ^ (k - s) := by rw [Nat.mul_assoc, ← Nat.pow_add]; congr 2; omega
        rw [this, rnd_exact]
    · obtain ⟨t, ht⟩ : ∃ t : Nat, L = p + t := ⟨(L - p).toNat, by omega⟩
      subst ht
      have f1 : (p - (p + (t : Int))).toNat = 0 := by omega
      have f2 : (p + (t : Int) - p).toNat = t := by omega
      have f3 : (p - (k : Int) - (p + (t : Int))).toNat = 0 := by omega
      have f4 : (p + (t : Int) - (p - (k : Int))).toNat = t + k := by omega
      rw [f1, f2, f3, f4, Nat.pow_zero, Nat.mul_one, Nat.mul_one]
      unfold Toward.cut
      simp only [log2_shift h0, shl, Nat.one_mul]
      have g : min (t + k) (m.log2 + k + 2) = min t (m.log2 + 2) + k := by omega
      rw [g, Nat.pow_add]
      generalize 2 ^ min t (m.log2 + 2) = A
      have hk : 0 < 2 ^ k := Nat.two_pow_pos k
      generalize 2 ^ k = K at hk
      rw [Nat.mul_div_mul_right _ _ hk, Nat.mul_mod_mul_right]
      congr 2
      have c1 : (A * K < 2 * (m % A * K)) ↔ A < 2 * (m % A) := by rw [← Nat.mul_assoc]; exact Nat.mul_lt_mul_right hk
      have c2 : (A * K = 2 * (m % A * K)) ↔ A = 2 * (m % A) := by rw [← Nat.mul_assoc]; exact Nat.mul_left_inj (by omega)
      have d1 : decide (A * K < 2 * (m % A * K)) = decide (A < 2 * (m % A)) := by simp only [c1]
      have d2 : (A * K == 2 * (m % A * K)) = (A == 2 * (m % A)) := by
        rw [Bool.eq_iff_iff, beq_iff_eq, beq_iff_eq]; exact c2
      rw [d1, d2]
  rw [key]
end Go.Fl
/-
  PLAIN LAW: finite words as integers: sums, differences, products, order.
-/
namespace Go.Fl
open Ieee

/-- A finite word, of either sign. -/
def fin (w : Nat) : Prop := w < 2 ^ 63 ∧ w < 2047 * 2 ^ 52 ∨ 2 ^ 63 ≤ w ∧ w - 2 ^ 63 < 2047 * 2 ^ 52

/-- What it stands for, in units of the least place. -/
def sv (w : Nat) : Int := if w < 2 ^ 63 then (iv w : Int) else -(iv (w - 2 ^ 63) : Int)

/-- Its sign. -/
def sg (w : Nat) : Bool := !decide (w < 2 ^ 63)

/-- The word with the other sign. -/
def ng (w : Nat) : Nat := if w < 2 ^ 63 then 2 ^ 63 + w else w - 2 ^ 63

theorem word_eq (s : Bool) (r : Nat) : double.word s r = if s then 2 ^ 63 + r else r := by cases s <;> rfl

theorem read_fin {w : Nat} (h : fin w) : ∃ m p, double.read w = .number (sg w) m (-1074 + (p : Nat)) ∧ sv w = signed (sg w) m p := by
  rcases h with ⟨h1, h2⟩ | ⟨h1, h2⟩
  · obtain ⟨m, p, e1, e2⟩ := read_iv h2
    refine ⟨m, p, by rw [e1]; simp [sg, h1], ?_⟩
    simp [sv, sg, h1, signed, e2, shl]
  · obtain ⟨m, p, e1, e2⟩ := read_iv h2
    have hn : ¬ w < 2 ^ 63 := by omega
    have hw : w = 2 ^ 63 + (w - 2 ^ 63) := by omega
    refine ⟨m, p, ?_, ?_⟩
    · conv => lhs; rw [hw]
      rw [read_neg (by omega), e1]
      simp only [Datum.opposite, sg, hn, decide_false, Bool.not_false]
    · simp only [sv, sg, hn, if_false, decide_false, Bool.not_false, signed, if_true, shl, e2]

theorem fin_ng {w : Nat} (h : fin w) : fin (ng w) := by
  unfold ng
  rcases h with ⟨h1, h2⟩ | ⟨h1, h2⟩
  · rw [if_pos h1]; exact .inr ⟨by omega, by omega⟩
  · rw [if_neg (by omega)]; exact .inl ⟨by omega, h2⟩

theorem sv_ng {w : Nat} (h : fin w) : sv (ng w) = - sv w := by
  rcases h with ⟨h1, h2⟩ | ⟨h1, h2⟩
  · have e : ng w = 2 ^ 63 + w := by simp only [ng, h1, if_true]
    have e1 : sv (2 ^ 63 + w) = -(iv (2 ^ 63 + w - 2 ^ 63) : Int) := by unfold sv; rw [if_neg (by omega)]
    have e2 : sv w = (iv w : Int) := by unfold sv; rw [if_pos h1]
    rw [e, e1, e2, Nat.add_sub_cancel_left]
  · have e : ng w = w - 2 ^ 63 := by unfold ng; rw [if_neg (by omega)]
    have e1 : sv (w - 2 ^ 63) = (iv (w - 2 ^ 63) : Int) := by unfold sv; rw [if_pos (by omega)]
    have e2 : sv w = -(iv (w - 2 ^ 63) : Int) := by unfold sv; rw [if_neg (by omega)]
    rw [e, e1, e2, Int.neg_neg]

theorem read_ng {w : Nat} (h : fin w) : double.read (ng w) = (double.read w).opposite := by
  unfold ng
  rcases h with ⟨h1, h2⟩ | ⟨h1, h2⟩
  · rw [if_pos h1, read_neg h1]
  · rw [if_neg (by omega)]
    have hw : w = 2 ^ 63 + (w - 2 ^ 63) := by omega
    have : double.read w = (double.read (w - 2 ^ 63)).opposite := by
      conv => lhs; rw [hw]
      exact read_neg (by omega)
    rw [this]
    cases double.read (w - 2 ^ 63) <;> simp [Datum.opposite]

theorem signed_scale (s : Bool) (m p k : Nat) (h : k ≤ p) : signed s m p = signed s m (p - k) * (2 ^ k : Nat) := by
  have e : m <<< p = m <<< (p - k) * 2 ^ k := by rw [shl, shl, Nat.mul_assoc, ← Nat.pow_add]; congr 2; omega
  unfold signed
  rw [e]
  cases s
  · simp
  · simp only [if_true, Int.natCast_mul]; rw [Int.neg_mul]

/-- The sum of two finite words. -/
theorem add_fin {w v : Nat} (hw : fin w) (hv : fin v) : ∃ s, double.add w v = some (double.nearest s (sv w + sv v).natAbs (-1074)) ∧ (sv w + sv v ≠ 0 → s = decide (sv w + sv v < 0)) := by
  obtain ⟨m, p, e1, e2⟩ := read_fin hw
  obtain ⟨n, q, e3, e4⟩ := read_fin hv
  have f1 : ((-1074 + (p : Int)) - min (-1074 + (p : Int)) (-1074 + (q : Int))).toNat = p - min p q := by omega
  have f2 : ((-1074 + (q : Int)) - min (-1074 + (p : Int)) (-1074 + (q : Int))).toNat = q - min p q := by omega
  have f3 : min (-1074 + (p : Int)) (-1074 + (q : Int)) = -1074 + ((min p q : Nat) : Int) := by omega
  simp only [Format.add, e1, e3, Datum.sum, f1, f2, Option.map_some, Format.write]
  rw [f3]
  have g1 := signed_scale (sg w) m p (min p q) (Nat.min_le_left _ _)
  have g2 := signed_scale (sg v) n q (min p q) (Nat.min_le_right _ _)
  rw [← e2] at g1
  rw [← e4] at g2
  generalize signed (sg w) m (p - min p q) = A at *
  generalize signed (sg v) n (q - min p q) = C at *
  generalize min p q = k at *
  have hK : 0 < 2 ^ k := Nat.two_pow_pos k
  have hsum : sv w + sv v = (A + C) * (2 ^ k : Nat) := by rw [g1, g2, Int.add_mul]
  refine ⟨if A + C = 0 then sg w && sg v else decide (A + C < 0), ?_, ?_⟩
  · have : (sv w + sv v).natAbs = (A + C).natAbs * 2 ^ k := by rw [hsum, Int.natAbs_mul, Int.natAbs_natCast]
    rw [this]
    have sc := fun s => nearest_scale s (A + C).natAbs k (-1074 + (k : Int))
    have e : (-1074 + (k : Int)) - (k : Int) = -1074 := by omega
    rw [e] at sc
    rw [sc]
  · intro h0
    have hAC : A + C ≠ 0 := fun h => h0 (by rw [hsum, h, Int.zero_mul])
    rw [if_neg hAC, hsum]
    congr 1
    apply propext
    have hKi : (0 : Int) < (2 ^ k : Nat) := by exact_mod_cast hK
    constructor
    · intro h; exact Int.mul_neg_of_neg_of_pos h hKi
    · intro h
      apply Int.not_le.1
      intro h2
      have := Int.mul_nonneg h2 (Int.le_of_lt hKi)
      omega

theorem sub_eq {w v : Nat} (hv : fin v) : double.sub w v = double.add w (ng v) := by
  simp only [Format.sub, Format.add, read_ng hv]

/-- The product of two finite words. -/
theorem mul_fin {w v : Nat} (hw : fin w) (hv : fin v) : double.mul w v = some (double.nearest (sg w ^^ sg v) ((sv w).natAbs * (sv v).natAbs) (-2148)) := by
  obtain ⟨m, p, e1, e2⟩ := read_fin hw
  obtain ⟨n, q, e3, e4⟩ := read_fin hv
  simp only [Format.mul, e1, e3, Datum.product, Option.map_some, Format.write]
  have ab : ∀ s m p, (signed s m p).natAbs = m * 2 ^ p := fun s m p => by
    unfold signed
    rw [shl]
    cases s
    · exact Int.natAbs_natCast _
    · rw [if_pos rfl, Int.natAbs_neg]; exact Int.natAbs_natCast _
  rw [e2, e4, ab, ab]
  have sc := nearest_scale (sg w ^^ sg v) (m * n) (p + q) (-2148 + ((p + q : Nat) : Int))
  have e : (-2148 + ((p + q : Nat) : Int)) - ((p + q : Nat) : Int) = -2148 := by omega
  rw [e] at sc
  have e5 : (-1074 + (p : Int)) + (-1074 + (q : Int)) = -2148 + ((p + q : Nat) : Int) := by omega
  rw [e5, ← sc]
  congr 2
  rw [Nat.pow_add]
  simp only [Nat.mul_assoc, Nat.mul_left_comm, Nat.mul_comm]

theorem order_fin {w v : Nat} (hw : fin w) (hv : fin v) : double.order w v = some (compare (sv w) (sv v)) := by
  obtain ⟨m, p, e1, e2⟩ := read_fin hw
  obtain ⟨n, q, e3, e4⟩ := read_fin hv
  have f1 : ((-1074 + (p : Int)) - min (-1074 + (p : Int)) (-1074 + (q : Int))).toNat = p - min p q := by omega
  have f2 : ((-1074 + (q : Int)) - min (-1074 + (p : Int)) (-1074 + (q : Int))).toNat = q - min p q := by omega
  simp only [Format.order, e1, e3, Datum.order, f1, f2]
  have g1 := signed_scale (sg w) m p (min p q) (Nat.min_le_left _ _)
  have g2 := signed_scale (sg v) n q (min p q) (Nat.min_le_right _ _)
  rw [← e2] at g1
  rw [← e4] at g2
  generalize signed (sg w) m (p - min p q) = A at *
  generalize signed (sg v) n (q - min p q) = C at *
  generalize min p q = k at *
  have hKi : (0 : Int) < (2 ^ k : Nat) := by exact_mod_cast Nat.two_pow_pos k
  rw [g1, g2]
  congr 1
  rcases Int.lt_trichotomy A C with h | h | h
  · rw [cmp_lt h, cmp_lt (Int.mul_lt_mul_of_pos_right h hKi)]
  · rw [cmp_eq h, cmp_eq (by rw [h])]
  · rw [cmp_gt h, cmp_gt (Int.mul_lt_mul_of_pos_right h hKi)]
end Go.Fl
/-
  PLAIN LAW: a point turned by quarters; how far two points are apart.
-/
namespace Go.Fl
open Ieee

def ONE : Nat := 4607182418800017408
def TWO : Nat := 4611686018427387904

/-- The rung of a number. -/
def rn (M : Nat) (p : Int) : Nat := double.nearest false M p

theorem word_false (r : Nat) : double.word false r = r := rfl

theorem rn_le (M : Nat) (p : Int) : rn M p ≤ 2047 * 2 ^ 52 := by
  unfold rn Format.nearest
  split
  · exact Nat.zero_le _
  · rw [word_false, ir]; exact Nat.min_le_right _ _

theorem nearest_word (s : Bool) (M : Nat) (p : Int) : double.nearest s M p = double.word s (rn M p) := by
  unfold rn Format.nearest
  split
  · rw [word_false]
  · rw [word_false]; simp only [cut_neg s]

theorem fin_word (s : Bool) {r : Nat} (h : r < 2047 * 2 ^ 52) : fin (double.word s r) ∧ sv (double.word s r) = (if s then -(iv r : Int) else iv r) ∧ sg (double.word s r) = s := by
  rw [word_eq]
  cases s
  · simp only [Bool.false_eq_true, if_false]
    exact ⟨.inl ⟨by omega, h⟩, by unfold sv; rw [if_pos (by omega)], by unfold sg; rw [decide_eq_true (by omega)]; rfl⟩
  · simp only [if_true]
    refine ⟨.inr ⟨by omega, by omega⟩, ?_, ?_⟩
    · unfold sv; rw [if_neg (by omega), Nat.add_sub_cancel_left]
    · unfold sg; rw [decide_eq_false (by omega)]; rfl

/-- A finite word is its sign and its rung. -/
theorem fin_rung {w : Nat} (h : fin w) : ∃ r, r < 2047 * 2 ^ 52 ∧ w = double.word (sg w) r ∧ (sv w).natAbs = iv r := by
  rcases h with ⟨h1, h2⟩ | ⟨h1, h2⟩
  · refine ⟨w, h2, ?_, ?_⟩
    · simp [word_eq, sg, h1]
    · unfold sv; rw [if_pos h1, Int.natAbs_natCast]
  · have hn : ¬ w < 2 ^ 63 := by omega
    refine ⟨w - 2 ^ 63, h2, ?_, ?_⟩
    · rw [word_eq]; unfold sg; rw [decide_eq_false hn]; simp only [Bool.not_false, if_true]; omega
    · unfold sv; rw [if_neg hn, Int.natAbs_neg, Int.natAbs_natCast]

theorem fin_zero : fin 0 := .inl ⟨by decide, by decide⟩
theorem sv_zero : sv 0 = 0 := by decide +kernel
theorem fin_one : fin ONE := .inl ⟨by decide +kernel, by decide +kernel⟩
theorem sv_one : (sv ONE).natAbs = 2 ^ 1074 := by
  decide +kernel
theorem sg_one : sg ONE = false := by decide +kernel

theorem mul_one {b : Nat} (h : fin b) : double.mul b ONE = some b := by
  obtain ⟨r, h1, h2, h3⟩ := fin_rung h
  rw [mul_fin h fin_one, sv_one, sg_one, Bool.xor_false, h3]
  have sc := nearest_scale (sg b) (iv r) 1074 (-1074)
  have e : (-1074 : Int) - (1074 : Nat) = -2148 := by decide
  rw [e] at sc
  rw [sc, write_iv _ h1, ← h2]

theorem mul_zero {a : Nat} (h : fin a) : ∃ z, double.mul a 0 = some z ∧ fin z ∧ sv z = 0 := by
  refine ⟨double.word (sg a ^^ sg 0) 0, ?_, ?_⟩
  · rw [mul_fin h fin_zero, sv_zero]
    show some (double.nearest _ ((sv a).natAbs * 0) _) = _
    rw [Nat.mul_zero]; rfl
  · obtain ⟨q1, q2, _⟩ := fin_word (sg a ^^ sg 0) (r := 0) (by decide)
    refine ⟨q1, ?_⟩
    rw [q2]
    have : iv 0 = 0 := rfl
    rw [this]; split <;> rfl

/-- A sum that a word stands for just so. -/
theorem add_exact {w v : Nat} (hw : fin w) (hv : fin v) {r : Nat} (hr : r < 2047 * 2 ^ 52) (h : (sv w + sv v).natAbs = iv r) : ∃ z, double.add w v = some z ∧ fin z ∧ sv z = sv w + sv v := by
  obtain ⟨s, h1, h2⟩ := add_fin hw hv
  rw [h, write_iv _ hr] at h1
  obtain ⟨q1, q2, _⟩ := fin_word s hr
  refine ⟨_, h1, q1, ?_⟩
  rw [q2]
  by_cases h0 : sv w + sv v = 0
  · have : iv r = 0 := by rw [← h, h0]; rfl
    rw [h0, this]; split <;> rfl
  · rw [h2 h0]
    generalize sv w + sv v = t at *
    by_cases hlt : t < 0
    · rw [decide_eq_true hlt, if_pos rfl]; omega
    · rw [decide_eq_false hlt, if_neg (by simp)]; omega

theorem add_zero {z a : Nat} (hz : fin z) (h0 : sv z = 0) (ha : fin a) : (∃ r, double.add z a = some r ∧ fin r ∧ sv r = sv a) ∧ ∃ r, double.add a z = some r ∧ fin r ∧ sv r = sv a := by
  obtain ⟨r, h1, _, h3⟩ := fin_rung ha
  constructor
  · obtain ⟨q, q1, q2, q3⟩ := add_exact hz ha h1 (by rw [h0, Int.zero_add]; exact h3)
    exact ⟨q, q1, q2, by rw [q3, h0, Int.zero_add]⟩
  · obtain ⟨q, q1, q2, q3⟩ := add_exact ha hz h1 (by rw [h0, Int.add_zero]; exact h3)
    exact ⟨q, q1, q2, by rw [q3, h0, Int.add_zero]⟩

/-- A quarter, by the product with the unit above. -/
theorem quarter {a b : Nat} (ha : fin a) (hb : fin b) : ∃ z1 z2 r i, double.mul a 0 = some z1 ∧ double.mul b ONE = some b ∧ double.sub z1 b = some r ∧ double.mul a ONE = some a ∧ double.mul b 0 = some z2 ∧ double.add a z2 = some i ∧
    fin r ∧ fin i ∧ sv r = - sv b ∧ sv i = sv a := by
  obtain ⟨z1, h1, h2, h3⟩ := mul_zero ha
  obtain ⟨z2, k1, k2, k3⟩ := mul_zero hb
  obtain ⟨r, r1, r2, r3⟩ := (add_zero h2 h3 (fin_ng hb)).1
  obtain ⟨i, i1, i2, i3⟩ := (add_zero k2 k3 ha).2
  exact ⟨z1, z2, r, i, h1, mul_one hb, by rw [sub_eq hb]; exact r1, mul_one ha, k1, i1, r2, i2, by rw [r3, sv_ng hb], i3⟩

/-! ### Words without a sign, and the infinite one -/
theorem read_inf : double.read (2047 * 2 ^ 52) = .infinity false := by decide +kernel

theorem order_le {x y : Nat} (hx : x ≤ 2047 * 2 ^ 52) (hy : y ≤ 2047 * 2 ^ 52) : double.order x y = some (compare x y) := by
  rcases Nat.lt_or_eq_of_le hx with h1 | h1
  · rcases Nat.lt_or_eq_of_le hy with h2 | h2
    · exact order_words h1 h2
    · subst h2
      obtain ⟨m, p, e, _⟩ := read_iv h1
      rw [ncmp_lt h1]
      unfold Format.order
      rw [read_inf, e]; rfl
  · subst h1
    rcases Nat.lt_or_eq_of_le hy with h2 | h2
    · obtain ⟨m, p, e, _⟩ := read_iv h2
      rw [ncmp_gt h2]
      unfold Format.order
      rw [read_inf, e]; rfl
    · subst h2
      rw [ncmp_eq]
      unfold Format.order
      rw [read_inf]; rfl

theorem write_inf : double.write (.infinity false) = 2047 * 2 ^ 52 := by decide +kernel

theorem add_le {x y : Nat} (hx : x ≤ 2047 * 2 ^ 52) (hy : y ≤ 2047 * 2 ^ 52) : ∃ z, double.add x y = some z ∧ z ≤ 2047 * 2 ^ 52 ∧ double.add y x = some z := by
  rcases Nat.lt_or_eq_of_le hx with h1 | h1
  · rcases Nat.lt_or_eq_of_le hy with h2 | h2
    · have f1 : fin x := .inl ⟨by omega, h1⟩
      have f2 : fin y := .inl ⟨by omega, h2⟩
      have p1 : sv x = (iv x : Int) := by unfold sv; rw [if_pos (by omega)]
      have p2 : sv y = (iv y : Int) := by unfold sv; rw [if_pos (by omega)]
      obtain ⟨s, a1, a2⟩ := add_fin f1 f2
      obtain ⟨t, b1, b2⟩ := add_fin f2 f1
      by_cases h0 : sv x + sv y = 0
      · have x0 : iv x = 0 := by rw [p1, p2] at h0; omega
        have y0 : iv y = 0 := by rw [p1, p2] at h0; omega
        have ex : x = 0 := iv_inj (by rw [x0]; rfl)
        have ey : y = 0 := iv_inj (by rw [y0]; rfl)
        subst ex ey
        exact ⟨0, by decide +kernel, by decide +kernel, by decide +kernel⟩
      · have hs : s = false := by rw [a2 h0, p1, p2]; exact decide_eq_false (by omega)
        have h0' : sv y + sv x ≠ 0 := by omega
        have ht : t = false := by rw [b2 h0', p1, p2]; exact decide_eq_false (by omega)
        subst hs ht
        refine ⟨_, a1, rn_le _ _, ?_⟩
        rw [b1, Int.add_comm]
    · subst h2
      obtain ⟨m, p, e, _⟩ := read_iv h1
      exact ⟨2047 * 2 ^ 52, by unfold Format.add; rw [read_inf, e]; simp only [Datum.sum, Option.map_some, write_inf], Nat.le_refl _, by unfold Format.add; rw [read_inf, e]; simp only [Datum.sum, Option.map_some, write_inf]⟩
  · subst h1
    rcases Nat.lt_or_eq_of_le hy with h2 | h2
    · obtain ⟨m, p, e, _⟩ := read_iv h2
      exact ⟨2047 * 2 ^ 52, by unfold Format.add; rw [read_inf, e]; simp only [Datum.sum, Option.map_some, write_inf], Nat.le_refl _, by unfold Format.add; rw [read_inf, e]; simp only [Datum.sum, Option.map_some, write_inf]⟩
    · subst h2
      exact ⟨2047 * 2 ^ 52, by decide +kernel, Nat.le_refl _, by decide +kernel⟩
end Go.Fl
/-
  PLAIN LAW: how far two points are apart, squared.
-/
namespace Go.Fl
open Ieee

theorem rn_lt {M : Nat} (h : M < 2 ^ 1800) : rn M (-1074) < 2047 * 2 ^ 52 := by
  unfold rn Format.nearest
  by_cases h0 : M = 0
  · rw [if_pos h0, word_false]; exact Nat.mul_pos (by decide) (Nat.two_pow_pos _)
  rw [if_neg h0]
  rw [word_false]
  simp only [show double.fractionBits = 52 from rfl, lp, bi, ir]
  have hl : M.log2 < 1800 := (Nat.log2_lt h0).2 h
  clear h
  apply Nat.lt_of_le_of_lt (Nat.min_le_left _ _)
  by_cases h52 : M.log2 < 52
  · have e1 : max (-1074 + (M.log2 : Int) - (52 : Nat)) (-1074) = -1074 := by omega
    rw [e1]
    have e2 : ((-1074 : Int) - -1074).toNat = 0 := by decide
    rw [e2, shl, Nat.pow_zero, Nat.mul_one, cut_eq (Nat.zero_le _), rnd_zero]
    have := (Nat.log2_lt h0).1 h52
    omega
  · have e1 : max (-1074 + (M.log2 : Int) - (52 : Nat)) (-1074) = -1074 + ((M.log2 - 52 : Nat) : Int) := by omega
    rw [e1]
    have e2 : (-1074 - (-1074 + ((M.log2 - 52 : Nat) : Int))).toNat = 0 := by omega
    have e3 : (-1074 + ((M.log2 - 52 : Nat) : Int) - -1074).toNat = M.log2 - 52 := by omega
    rw [e2, e3, shl, Nat.pow_zero, Nat.mul_one, cut_eq (by omega)]
    have h1 := rnd_le M (M.log2 - 52)
    have h2 := (div_log h0 rfl (d := M.log2 - 52) (by omega)).2
    rw [show M.log2 - (M.log2 - 52) + 1 = 53 by omega] at h2
    omega

def sqw (M : Nat) : Nat := rn (iv (rn M (-1074)) * iv (rn M (-1074))) (-2148)
/-- How far, squared, of two differences. -/
def apv (M N : Nat) : Nat := (double.add (sqw M) (sqw N)).getD 0

theorem sqw_le (M : Nat) : sqw M ≤ 2047 * 2 ^ 52 := rn_le _ _

theorem apv_spec (M N : Nat) : double.add (sqw M) (sqw N) = some (apv M N) ∧ apv M N ≤ 2047 * 2 ^ 52 := by
  obtain ⟨z, h1, h2, _⟩ := add_le (sqw_le M) (sqw_le N)
  unfold apv
  rw [h1]
  exact ⟨rfl, h2⟩

theorem apv_comm (M N : Nat) : apv M N = apv N M := by
  obtain ⟨z, h1, _, h3⟩ := add_le (sqw_le M) (sqw_le N)
  unfold apv
  rw [h1, h3]

theorem apv_zero : apv 0 0 = 0 := by decide +kernel

theorem sub_word {w v : Nat} (hw : fin w) (hv : fin v) (h : (sv w - sv v).natAbs < 2 ^ 1800) : ∃ s, double.sub w v = some (double.word s (rn (sv w - sv v).natAbs (-1074))) := by
  obtain ⟨s, h1, _⟩ := add_fin hw (fin_ng hv)
  rw [sv_ng hv, ← Int.sub_eq_add_neg] at h1
  exact ⟨s, by rw [sub_eq hv, h1, nearest_word]⟩

theorem sq_word (s : Bool) {r : Nat} (hr : r < 2047 * 2 ^ 52) : double.mul (double.word s r) (double.word s r) = some (rn (iv r * iv r) (-2148)) := by
  obtain ⟨q1, q2, q3⟩ := fin_word s hr
  rw [mul_fin q1 q1, q2]
  have e : (if s = true then -(iv r : Int) else (iv r : Int)).natAbs = iv r := by split <;> simp
  rw [e, Bool.xor_self]
  rfl

/-- The whole of it. -/
theorem apart_chain {a b c d : Nat} (ha : fin a) (hb : fin b) (hc : fin c) (hd : fin d) (h1 : (sv a - sv c).natAbs < 2 ^ 1800) (h2 : (sv b - sv d).natAbs < 2 ^ 1800) :
    ∃ x y xx yy, double.sub a c = some x ∧ double.sub b d = some y ∧ double.mul x x = some xx ∧ double.mul y y = some yy ∧ double.add xx yy = some (apv (sv a - sv c).natAbs (sv b - sv d).natAbs) := by
  obtain ⟨s, p1⟩ := sub_word ha hc h1
  obtain ⟨t, p2⟩ := sub_word hb hd h2
  exact ⟨_, _, _, _, p1, p2, sq_word s (rn_lt h1), sq_word t (rn_lt h2), (apv_spec _ _).1⟩

/-- What the floats of our numbers are: small enough. -/
theorem nr_fin {n : Nat} (h : n < 2 ^ 256) : fin (nr n) ∧ nr n < 1300 * 2 ^ 52 ∧ (sv (nr n)).natAbs < 2 ^ 1400 ∧ 0 ≤ sv (nr n) := by
  have hb : nr n < 1300 * 2 ^ 52 := by
    by_cases h0 : n = 0
    · subst h0; rw [nr_zero]; omega
    · have hl : n.log2 < 256 := (Nat.log2_lt h0).2 h
      rw [nr_dg h0 (by omega)]
      have := (dg_le h0).2
      omega
  have hs : sv (nr n) = (iv (nr n) : Int) := by unfold sv; rw [if_pos (by omega)]
  refine ⟨.inl ⟨by omega, by omega⟩, hb, ?_, ?_⟩
  · rw [hs, Int.natAbs_natCast]
    have h1 : iv (nr n) ≤ iv (1300 * 2 ^ 52) := iv_le (Nat.le_of_lt hb)
    have h2 : iv (1300 * 2 ^ 52) < 2 ^ 1400 := by decide +kernel
    exact Nat.lt_of_le_of_lt h1 h2
  · rw [hs]; exact Int.natCast_nonneg _

theorem diff_lt {x y : Int} (hx : x.natAbs < 2 ^ 1400) (hy : y.natAbs < 2 ^ 1400) : (x - y).natAbs < 2 ^ 1800 := by
  have h : (x - y).natAbs ≤ x.natAbs + y.natAbs := by
    clear hx hy
    omega
  have e : 2 ^ 1400 + 2 ^ 1400 ≤ 2 ^ 1800 := by decide +kernel
  exact Nat.lt_of_le_of_lt h (Nat.lt_of_lt_of_le (Nat.add_lt_add hx hy) e)
end Go.Fl
/-
  PLAIN LAW OF DOUBLES: a number's highest 64 digits, by its parts.
-/
namespace Go.Fl
open Go


set_option exponentiation.threshold 1000 in
theorem nr_low {n : Nat} (h0 : n ≠ 0) (h : n < 2 ^ 256) : 2 ^ 52 ≤ nr n := by
  have h1 : nr 1 ≤ nr n := nr_mono (by omega) (Nat.lt_of_lt_of_le h (Nat.pow_le_pow_right (by decide) (by decide)))
  have h2 : nr 1 = 1023 * 2 ^ 52 := by decide +kernel
  omega

/-- The highest part's shift: how many noughts are ahead of it. -/
theorem shift_facts {t z : Nat} (ht : t ≠ 0) (ht64 : t < 2 ^ 64) (hz : z = 64 - (t.log2 + 1)) :
    z < 64 ∧ t * 2 ^ z < 2 ^ 64 ∧ 2 ^ 63 ≤ t * 2 ^ z := by
  have hl : t.log2 < 64 := (Nat.log2_lt ht).2 ht64
  have e1 : t < 2 ^ (t.log2 + 1) := Nat.lt_log2_self
  have e2 : 2 ^ t.log2 ≤ t := Nat.log2_self_le ht
  refine ⟨by omega, ?_, ?_⟩
  · have : 2 ^ 64 = 2 ^ (t.log2 + 1) * 2 ^ z := by rw [← Nat.pow_add]; congr 1; omega
    rw [this]
    exact Nat.mul_lt_mul_of_pos_right e1 (Nat.two_pow_pos _)
  · have : 2 ^ 63 = 2 ^ t.log2 * 2 ^ z := by rw [← Nat.pow_add]; congr 1; omega
    rw [this]
    exact Nat.mul_le_mul_right _ e2

theorem mod_shift {l z : Nat} (hz : z ≤ 64) : l * 2 ^ z % 2 ^ 64 = l % 2 ^ (64 - z) * 2 ^ z := by
  have : 2 ^ 64 = 2 ^ (64 - z) * 2 ^ z := by rw [← Nat.pow_add]; congr 1; omega
  rw [this, Nat.mul_mod_mul_right]

theorem high_join {t l b w z : Nat} (ht : t ≠ 0) (ht64 : t < 2 ^ 64) (hl : l < 2 ^ 64) (hb : b < 2 ^ w) (hw : w ≤ 128) (hz : z = 64 - (t.log2 + 1)) :
    z < 64 ∧ t * 2 ^ z < 2 ^ 64 ∧ l / 2 ^ (64 - z) < 2 ^ z ∧ t * 2 ^ z + l / 2 ^ (64 - z) < 2 ^ 64 ∧ 2 ^ 63 ≤ t * 2 ^ z + l / 2 ^ (64 - z) ∧
    nr ((t * 2 ^ 64 + l) * 2 ^ w + b) = (if l * 2 ^ z % 2 ^ 64 ≠ 0 ∨ b ≠ 0 then nr (t * 2 ^ z + l / 2 ^ (64 - z) ||| 1) else nr (t * 2 ^ z + l / 2 ^ (64 - z))) + (w + 64 - z) * 2 ^ 52 := by
  obtain ⟨z1, z2, z3⟩ := shift_facts ht ht64 hz
  have hlz : l / 2 ^ (64 - z) < 2 ^ z := by
    rw [Nat.div_lt_iff_lt_mul (Nat.two_pow_pos _), ← Nat.pow_add]
    have : z + (64 - z) = 64 := by omega
    rw [this]; exact hl
  have hp : 2 ^ 64 = 2 ^ z * 2 ^ (64 - z) := by rw [← Nat.pow_add]; congr 1; omega
  have hH : t * 2 ^ z + l / 2 ^ (64 - z) = (t * 2 ^ 64 + l) / 2 ^ (64 - z) := by
    have : t * 2 ^ 64 + l = l + 2 ^ (64 - z) * (t * 2 ^ z) := by
      rw [hp, Nat.add_comm l]
      congr 1
      rw [← Nat.mul_assoc, Nat.mul_comm (2 ^ (64 - z))]
    rw [this, Nat.add_mul_div_left _ _ (Nat.two_pow_pos _), Nat.add_comm]
  have he : w + 64 - z = w + (64 - z) := by omega
  have hN : ((t * 2 ^ 64 + l) * 2 ^ w + b) / 2 ^ (w + (64 - z)) = t * 2 ^ z + l / 2 ^ (64 - z) := by
    rw [Nat.pow_add, ← Nat.div_div_eq_div_mul, Nat.mul_comm _ (2 ^ w), Nat.mul_add_div (Nat.two_pow_pos _), Nat.div_eq_of_lt hb, Nat.add_zero, hH]
  have hM : ((t * 2 ^ 64 + l) * 2 ^ w + b) % 2 ^ (w + (64 - z)) = l % 2 ^ (64 - z) * 2 ^ w + b := by
    have e1 : (t * 2 ^ 64 + l) % 2 ^ (64 - z) = l % 2 ^ (64 - z) := by
      rw [hp, ← Nat.mul_assoc, Nat.add_comm, Nat.mul_comm _ (2 ^ (64 - z)), Nat.add_mul_mod_self_left]
    rw [Nat.pow_add, Nat.mod_mul, Nat.mul_comm _ (2 ^ w), Nat.mul_add_mod, Nat.mod_eq_of_lt hb, Nat.mul_add_div (Nat.two_pow_pos _), Nat.div_eq_of_lt hb, Nat.add_zero, e1, Nat.add_comm, Nat.mul_comm (2 ^ w)]
  have hlt : t * 2 ^ z + l / 2 ^ (64 - z) < 2 ^ 64 := by
    rw [hH, Nat.div_lt_iff_lt_mul (Nat.two_pow_pos _)]
    have hs : 2 ^ 64 * 2 ^ z = 2 ^ 64 * 2 ^ z := rfl
    have h1 : (t * 2 ^ z + l / 2 ^ (64 - z)) < 2 ^ 64 := by
      have e : 2 ^ 64 = 2 ^ (64 - z) * 2 ^ z := by rw [hp, Nat.mul_comm]
      rw [e] at z2 ⊢
      have h1 := Nat.lt_of_mul_lt_mul_right z2
      calc t * 2 ^ z + l / 2 ^ (64 - z) < t * 2 ^ z + 2 ^ z := Nat.add_lt_add_left hlz _
        _ = (t + 1) * 2 ^ z := by rw [Nat.succ_mul]
        _ ≤ _ := Nat.mul_le_mul_right _ h1
    rw [hH, Nat.div_lt_iff_lt_mul (Nat.two_pow_pos _)] at h1
    exact h1
  have hge : 2 ^ 63 ≤ t * 2 ^ z + l / 2 ^ (64 - z) := Nat.le_trans z3 (Nat.le_add_right _ _)
  refine ⟨z1, z2, hlz, hlt, hge, ?_⟩
  have hb1 : 2 ^ (w + (64 - z) + 63) ≤ (t * 2 ^ 64 + l) * 2 ^ w + b := by
    have := (Nat.le_div_iff_mul_le (Nat.two_pow_pos (w + (64 - z)))).1 (hN ▸ hge)
    rw [← Nat.pow_add, Nat.add_comm 63] at this
    exact this
  have hb2 : (t * 2 ^ 64 + l) * 2 ^ w + b < 2 ^ (w + (64 - z) + 64) := by
    have := (Nat.div_lt_iff_lt_mul (Nat.two_pow_pos (w + (64 - z)))).1 (hN ▸ hlt)
    rw [← Nat.pow_add, Nat.add_comm 64] at this
    exact this
  have hnr := (nr_high hb1 hb2 (by omega)).1
  rw [hN, hM] at hnr
  rw [hnr, he]
  congr 1
  have hiff : (l % 2 ^ (64 - z) * 2 ^ w + b ≠ 0) ↔ (l * 2 ^ z % 2 ^ 64 ≠ 0 ∨ b ≠ 0) := by
    rw [mod_shift (by omega)]
    have p1 := Nat.two_pow_pos w
    have p2 := Nat.two_pow_pos z
    by_cases h0 : l % 2 ^ (64 - z) = 0
    · rw [h0]; simp
    · have h3 : l % 2 ^ (64 - z) * 2 ^ w ≠ 0 := Nat.mul_ne_zero h0 (by omega)
      have h4 : l % 2 ^ (64 - z) * 2 ^ z ≠ 0 := Nat.mul_ne_zero h0 (by omega)
      constructor
      · intro _; exact .inl h4
      · intro _; omega
  by_cases hc : l % 2 ^ (64 - z) * 2 ^ w + b ≠ 0
  · rw [if_pos hc, if_pos (hiff.1 hc)]
  · rw [if_neg hc, if_neg (fun h => hc (hiff.2 h)), Nat.or_zero]
end Go.Fl
/-
  PLAIN LAW OF DOUBLES: twice a double.
-/
namespace Go.Fl
open Go
open Ieee

theorem sv_low {x : Nat} (h : x < 2047 * 2 ^ 52) : sv x = (iv x : Int) := by
  unfold sv; rw [if_pos (by omega)]
theorem sg_low {x : Nat} (h : x < 2047 * 2 ^ 52) : sg x = false := by
  unfold sg; rw [decide_eq_true (by omega)]; rfl
theorem fin_low {x : Nat} (h : x < 2047 * 2 ^ 52) : fin x := .inl ⟨by omega, h⟩

theorem iv_two {x : Nat} (h : 2 ^ 52 ≤ x) : iv (x + 2 ^ 52) = 2 * iv x := by
  unfold iv
  rw [if_neg (by omega), if_neg (by omega)]
  have e1 : (x + 2 ^ 52) % 2 ^ 52 = x % 2 ^ 52 := by omega
  have e2 : (x + 2 ^ 52) / 2 ^ 52 - 1 = (x / 2 ^ 52 - 1) + 1 := by omega
  rw [e1, e2, Nat.pow_succ (n := 2) (m := x / 2 ^ 52 - 1), ← Nat.mul_assoc, Nat.mul_comm]

theorem iv_TWO : iv TWO = 2 * 2 ^ 1074 := by decide +kernel

set_option exponentiation.threshold 2000 in
theorem mul_two {x : Nat} (h : 2 ^ 52 ≤ x) (hx : x + 2 ^ 52 < 2047 * 2 ^ 52) : double.mul x TWO = some (x + 2 ^ 52) := by
  have hT : TWO < 2047 * 2 ^ 52 := by decide
  have hx' : x < 2047 * 2 ^ 52 := by omega
  rw [mul_fin (fin_low hx') (fin_low hT), sg_low hx', sg_low hT, sv_low hx', sv_low hT, Int.natAbs_natCast, Int.natAbs_natCast, iv_TWO]
  have e : iv x * (2 * 2 ^ 1074) = iv (x + 2 ^ 52) * 2 ^ 1074 := by
    rw [iv_two h, ← Nat.mul_assoc, Nat.mul_comm (iv x)]
  rw [e]
  have sc := nearest_scale false (iv (x + 2 ^ 52)) 1074 (-1074)
  have e : (-1074 : Int) - (1074 : Nat) = -2148 := by decide
  rw [e] at sc
  show some (double.nearest false _ _) = _
  rw [sc, write_iv _ hx]
  rfl

theorem two_mul {x : Nat} (h : 2 ^ 52 ≤ x) (hx : x + 2 ^ 52 < 2047 * 2 ^ 52) : double.mul TWO x = some (x + 2 ^ 52) := by
  have hT : TWO < 2047 * 2 ^ 52 := by decide
  have hx' : x < 2047 * 2 ^ 52 := by omega
  have h1 := mul_two h hx
  rw [mul_fin (fin_low hx') (fin_low hT)] at h1
  rw [mul_fin (fin_low hT) (fin_low hx'), Nat.mul_comm, Bool.xor_comm]
  exact h1
end Go.Fl
/-
  PLAIN LAW OF DOUBLES: a number's bits, the highest first, rounded at the fifty-third.
-/
namespace Go.Fl
open Ieee

def topv (N B m : Nat) : Nat := N / 2 ^ (max m (B - 53))
def belv (N B m : Nat) : Nat := if m + 54 ≤ B then N / 2 ^ (B - 54) % 2 else 0
def somev (N B m : Nat) : Bool := if m + 54 ≤ B then decide (N % 2 ^ (B - 54) / 2 ^ m ≠ 0) else false

theorem half_step (N m : Nat) : 2 * (N / 2 ^ (m + 1)) + N / 2 ^ m % 2 = N / 2 ^ m := by
  rw [Nat.pow_succ, ← Nat.div_div_eq_div_mul]; omega

theorem step_low {N B m : Nat} (h : B - m ≤ 53) : 2 * topv N B (m + 1) + N / 2 ^ m % 2 = topv N B m ∧ belv N B (m + 1) = belv N B m ∧ somev N B (m + 1) = somev N B m := by
  refine ⟨?_, ?_, ?_⟩
  · unfold topv
    rw [Nat.max_eq_left (by omega), Nat.max_eq_left (by omega), half_step]
  · unfold belv; rw [if_neg (by omega)]
    by_cases hm : m + 54 ≤ B
    · omega
    · rw [if_neg hm]
  · unfold somev; rw [if_neg (by omega)]
    by_cases hm : m + 54 ≤ B
    · omega
    · rw [if_neg hm]

theorem step_mid {N B m : Nat} (h : B - m = 54) : topv N B (m + 1) = topv N B m ∧ N / 2 ^ m % 2 = belv N B m ∧ somev N B (m + 1) = somev N B m := by
  have e : B - 54 = m := by omega
  refine ⟨?_, ?_, ?_⟩
  · unfold topv
    rw [Nat.max_eq_right (by omega), Nat.max_eq_right (by omega)]
  · unfold belv; rw [if_pos (by omega), e]
  · unfold somev; rw [if_neg (by omega), if_pos (by omega), e]
    have : N % 2 ^ m / 2 ^ m = 0 := Nat.div_eq_of_lt (Nat.mod_lt _ (Nat.two_pow_pos _))
    rw [this]; rfl

theorem step_high {N B m : Nat} (h : 55 ≤ B - m) : topv N B (m + 1) = topv N B m ∧ belv N B (m + 1) = belv N B m ∧ (somev N B (m + 1) || (N / 2 ^ m % 2 == 1)) = somev N B m := by
  refine ⟨?_, ?_, ?_⟩
  · unfold topv
    rw [Nat.max_eq_right (by omega), Nat.max_eq_right (by omega)]
  · unfold belv; rw [if_pos (by omega), if_pos (by omega)]
  · unfold somev; rw [if_pos (by omega), if_pos (by omega)]
    have e : N % 2 ^ (B - 54) / 2 ^ m % 2 = N / 2 ^ m % 2 := by
      have hk : 2 ^ (B - 54) = 2 ^ m * 2 ^ (B - 54 - m) := by rw [← Nat.pow_add]; congr 1; omega
      rw [hk, Nat.mod_mul_right_div_self]
      have h2 : 2 ∣ 2 ^ (B - 54 - m) := by
        have : B - 54 - m = (B - 54 - m - 1) + 1 := by omega
        rw [this, Nat.pow_succ]; exact Nat.dvd_mul_left _ _
      exact Nat.mod_mod_of_dvd _ h2
    have hs := half_step (N % 2 ^ (B - 54)) m
    rw [e] at hs
    have hb : N / 2 ^ m % 2 = 0 ∨ N / 2 ^ m % 2 = 1 := by omega
    rcases hb with hb | hb
    · rw [hb] at hs ⊢
      by_cases h1 : N % 2 ^ (B - 54) / 2 ^ (m + 1) = 0
      · rw [decide_eq_false (by omega), decide_eq_false (by omega)]; rfl
      · rw [decide_eq_true (by omega), decide_eq_true (by omega)]; rfl
    · rw [hb] at hs ⊢
      rw [decide_eq_true (p := N % 2 ^ (B - 54) / 2 ^ m ≠ 0) (by omega)]
      simp

/-- The rounded top. -/
theorem top_rnd {N B : Nat} (h : 54 ≤ B) : (if belv N B 0 = 1 ∧ (somev N B 0 = true ∨ topv N B 0 % 2 = 1) then topv N B 0 + 1 else topv N B 0) = rnd N (B - 53) := by
  have e0 : max 0 (B - 53) = B - 53 := by omega
  have b1 : belv N B 0 = N / 2 ^ (B - 54) % 2 := by unfold belv; rw [if_pos (by omega)]
  have b2 : somev N B 0 = decide (N % 2 ^ (B - 54) / 2 ^ 0 ≠ 0) := by unfold somev; rw [if_pos (by omega)]
  have b3 : topv N B 0 = N / 2 ^ (B - 53) := by unfold topv; rw [e0]
  rw [b1, b2, b3]
  unfold rnd
  have hd : B - 53 = (B - 54) + 1 := by omega
  rw [hd]
  generalize hk : B - 54 = k
  have e1 : N % 2 ^ (k + 1) = N % 2 ^ k + 2 ^ k * (N / 2 ^ k % 2) := by rw [Nat.pow_succ, Nat.mod_mul]
  simp only [Nat.pow_zero, Nat.div_one, decide_eq_true_eq]
  rw [e1, Nat.pow_succ]
  have hlt := Nat.mod_lt N (Nat.two_pow_pos k)
  have hp := Nat.two_pow_pos k
  generalize N % 2 ^ k = r at *
  generalize 2 ^ k = p at *
  generalize N / (p * 2) = q at *
  have hb : N / p % 2 = 0 ∨ N / p % 2 = 1 := by omega
  rcases hb with hb | hb
  · rw [hb, if_neg (by omega), if_neg (by omega), Nat.add_zero]
  · rw [hb, Nat.mul_one]
    by_cases hc : r ≠ 0 ∨ q % 2 = 1
    · rw [if_pos ⟨rfl, hc⟩, if_pos (by omega)]
    · rw [if_neg (fun h => hc h.2), if_neg (by omega), Nat.add_zero]

theorem topv_lt {N B m : Nat} (hN : N < 2 ^ B) : topv N B m < 2 ^ 53 := by
  unfold topv
  rw [Nat.div_lt_iff_lt_mul (Nat.two_pow_pos _), ← Nat.pow_add]
  exact Nat.lt_of_lt_of_le hN (Nat.pow_le_pow_right (by decide) (by omega))

theorem belv_le (N B m : Nat) : belv N B m ≤ 1 := by
  unfold belv; split <;> omega

theorem topv_start {N B : Nat} (hN : N < 2 ^ B) : topv N B B = 0 := by
  unfold topv
  rw [Nat.max_eq_left (by omega), Nat.div_eq_of_lt hN]
theorem belv_start {N B : Nat} : belv N B B = 0 := by
  unfold belv; rw [if_neg (by omega)]
theorem somev_start {N B : Nat} : somev N B B = false := by
  unfold somev; rw [if_neg (by omega)]

/-- The float of the rounded top, doubled, is the nearest double. -/
theorem nr_bits {N B : Nat} (h0 : N ≠ 0) (hB : B = N.log2 + 1) (h : N < 2 ^ 256) :
    nr (if belv N B 0 = 1 ∧ (somev N B 0 = true ∨ topv N B 0 % 2 = 1) then topv N B 0 + 1 else topv N B 0) + (B - 53) * 2 ^ 52 = nr N := by
  have hl : N.log2 < 256 := (Nat.log2_lt h0).2 h
  by_cases h54 : 54 ≤ B
  · rw [top_rnd h54]
    have := (nr_top h0 rfl (by omega) (by omega)).1
    rw [this]
    have : B - 53 = N.log2 - 52 := by omega
    rw [this]
  · have e : B - 53 = 0 := by omega
    have e1 : belv N B 0 = 0 := by unfold belv; rw [if_neg (by omega)]
    have e2 : topv N B 0 = N := by unfold topv; rw [e]; simp
    rw [e1, e2, e, if_neg (by omega)]; omega

theorem nr_bits_low {N B : Nat} (h0 : N ≠ 0) (hB : B = N.log2 + 1) (h : N < 2 ^ 256) : (if belv N B 0 = 1 ∧ (somev N B 0 = true ∨ topv N B 0 % 2 = 1) then topv N B 0 + 1 else topv N B 0) ≠ 0 := by
  have hl : N.log2 < 256 := (Nat.log2_lt h0).2 h
  by_cases h54 : 54 ≤ B
  · rw [top_rnd h54]
    have := (nr_top h0 rfl (by omega) (by omega)).2.1
    have e : B - 53 = N.log2 - 52 := by omega
    rw [e]; omega
  · have e : B - 53 = 0 := by omega
    have e1 : belv N B 0 = 0 := by unfold belv; rw [if_neg (by omega)]
    have e2 : topv N B 0 = N := by unfold topv; rw [e]; simp
    rw [e1, e2, if_neg (by omega)]; exact h0
end Go.Fl
/-
  PLAIN LAW OF DOUBLES: a small whole number's double, and back.
-/
namespace Go.Fl
open Ieee

theorem cut_zero_exact (neg : Bool) {n d : Nat} (h0 : n ≠ 0) : Toward.zero.cut neg (n * 2 ^ d) d = n := by
  unfold Toward.cut
  have hl : d ≤ (n * 2 ^ d).log2 + 2 := by rw [log2_shift h0]; omega
  simp only [Nat.min_eq_left hl, shl, Nat.one_mul, Nat.mul_div_cancel _ (Nat.two_pow_pos d)]
  rfl

theorem toInt_nr {n : Nat} (h : n < 2 ^ 53) : (double.read (nr n)).toInt .zero = some (n : Int) := by
  by_cases h0 : n = 0
  · subst h0; rw [nr_zero]; decide +kernel
  have hl : n.log2 < 53 := (Nat.log2_lt h0).2 h
  have h1 : 2 ^ n.log2 ≤ n := Nat.log2_self_le h0
  have h2 : n < 2 ^ (n.log2 + 1) := Nat.lt_log2_self
  have hd : dg n = n * 2 ^ (52 - n.log2) := by unfold dg; rw [if_pos (by omega)]
  have hb := dg_le h0
  have hb2 : dg n < 2 ^ 53 := by
    rw [hd]
    have : 2 ^ 53 = 2 ^ (n.log2 + 1) * 2 ^ (52 - n.log2) := by rw [← Nat.pow_add]; congr 1; omega
    rw [this]
    exact Nat.mul_lt_mul_of_pos_right h2 (Nat.two_pow_pos _)
  have hr := nr_dg h0 (by omega)
  have e1 : nr n % 2 ^ 52 = dg n - 2 ^ 52 := by omega
  have e2 : nr n / 2 ^ 52 - 1 = 1022 + n.log2 := by omega
  rw [read_big (by omega) (by omega), e1, e2, show 2 ^ 52 + (dg n - 2 ^ 52) = dg n by omega, hd]
  have e3 : (-1074 + ((1022 + n.log2 : Nat) : Int)).toNat = 0 := by omega
  have e4 : (-(-1074 + ((1022 + n.log2 : Nat) : Int))).toNat = 52 - n.log2 := by omega
  simp only [Datum.toInt, Datum.integral, e3, e4, shl, Nat.pow_zero, Nat.mul_one, cut_zero_exact _ h0, signed, Bool.false_eq_true, if_false]
end Go.Fl
