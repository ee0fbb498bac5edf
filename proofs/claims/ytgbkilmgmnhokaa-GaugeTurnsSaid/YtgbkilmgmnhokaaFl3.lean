/-
  PLAIN LAW: the nearest double: of a number's highest digits; twice; in order.
-/
import Derived.Test.YtgbkilmgmnhokaaFl2
set_option linter.unusedSimpArgs false
set_option linter.unusedVariables false
namespace Go.Fl
open Ieee

/-- The nearest double's word: its binade and its digits. -/
def dg (n : Nat) : Nat := if n.log2 ≤ 52 then n * 2 ^ (52 - n.log2) else rnd n (n.log2 - 52)

theorem nr_dg {n : Nat} (h0 : n ≠ 0) (hl : n.log2 < 1000) : nr n = (1022 + n.log2) * 2 ^ 52 + dg n := by
  unfold dg
  split
  · rename_i h; exact nr_small h0 rfl h
  · rename_i h
    rw [nr_big h0 rfl (by omega) hl]
    congr 2; omega

theorem dg_le {n : Nat} (h0 : n ≠ 0) : 2 ^ 52 ≤ dg n ∧ dg n ≤ 2 ^ 53 := by
  unfold dg
  have h1 : 2 ^ n.log2 ≤ n := Nat.log2_self_le h0
  have h2 : n < 2 ^ (n.log2 + 1) := Nat.lt_log2_self
  split
  · rename_i h
    constructor
    · calc 2 ^ 52 = 2 ^ n.log2 * 2 ^ (52 - n.log2) := by rw [← Nat.pow_add]; congr 1; omega
        _ ≤ _ := Nat.mul_le_mul_right _ h1
    · calc n * 2 ^ (52 - n.log2) ≤ 2 ^ (n.log2 + 1) * 2 ^ (52 - n.log2) := Nat.mul_le_mul_right _ (Nat.le_of_lt h2)
        _ = 2 ^ 53 := by rw [← Nat.pow_add]; congr 1; omega
  · rename_i h
    obtain ⟨q1, q2⟩ := div_log h0 rfl (d := n.log2 - 52) (by omega)
    rw [show n.log2 - (n.log2 - 52) = 52 by omega] at q1
    rw [show n.log2 - (n.log2 - 52) + 1 = 53 by omega] at q2
    have := rnd_le n (n.log2 - 52)
    have := le_rnd n (n.log2 - 52)
    omega

theorem log2_of {n l : Nat} (h1 : 2 ^ l ≤ n) (h2 : n < 2 ^ (l + 1)) : n.log2 = l := by
  have h0 : n ≠ 0 := by have := Nat.two_pow_pos l; omega
  have a := (Nat.le_log2 h0).2 h1
  have b := (Nat.log2_lt h0).2 h2
  omega

/-- T1: of the highest 64 digits. -/
theorem nr_high {n e : Nat} (h1 : 2 ^ (e + 63) ≤ n) (h2 : n < 2 ^ (e + 64)) (he : e < 900) :
    nr n = nr (n / 2 ^ e ||| (if n % 2 ^ e ≠ 0 then 1 else 0)) + e * 2 ^ 52 ∧ 2 ^ 63 ≤ (n / 2 ^ e ||| (if n % 2 ^ e ≠ 0 then 1 else 0)) ∧ (n / 2 ^ e ||| (if n % 2 ^ e ≠ 0 then 1 else 0)) < 2 ^ 64 := by
  have hq1 : 2 ^ 63 ≤ n / 2 ^ e := by rw [Nat.le_div_iff_mul_le (Nat.two_pow_pos _), ← Nat.pow_add, Nat.add_comm]; exact h1
  have hq2 : n / 2 ^ e < 2 ^ 64 := by rw [Nat.div_lt_iff_lt_mul (Nat.two_pow_pos _), ← Nat.pow_add, Nat.add_comm]; exact h2
  have hH : 2 ^ 63 ≤ (n / 2 ^ e ||| (if n % 2 ^ e ≠ 0 then 1 else 0)) ∧ (n / 2 ^ e ||| (if n % 2 ^ e ≠ 0 then 1 else 0)) < 2 ^ 64 := by
    split
    · rw [or_one]; omega
    · rw [Nat.or_zero]; exact ⟨hq1, hq2⟩
  have hn0 : n ≠ 0 := by have := Nat.two_pow_pos (e + 63); omega
  have hlog : n.log2 = e + 63 := log2_of h1 h2
  refine ⟨?_, hH⟩
  have hHl := log2_of hH.1 hH.2
  have hH0 : (n / 2 ^ e ||| (if n % 2 ^ e ≠ 0 then 1 else 0)) ≠ 0 := by have := hH.1; omega
  rw [nr_big hn0 hlog (by omega) (by omega), nr_big hH0 hHl (by omega) (by omega), sticky (by omega)]
  rw [show e + 63 - 52 = e + (63 - 52) by omega]
  omega

/-- T2: of the highest 53 digits, rounded. -/
theorem nr_top {n l : Nat} (h0 : n ≠ 0) (hl : n.log2 = l) (h52 : 52 ≤ l) (hl2 : l < 900) : nr n = nr (rnd n (l - 52)) + (l - 52) * 2 ^ 52 ∧ 2 ^ 52 ≤ rnd n (l - 52) ∧ rnd n (l - 52) ≤ 2 ^ 53 := by
  have hb := dg_le h0
  unfold dg at hb
  rw [hl] at hb
  have ht : 2 ^ 52 ≤ rnd n (l - 52) ∧ rnd n (l - 52) ≤ 2 ^ 53 := by
    split at hb
    · have : l = 52 := by omega
      subst this
      simpa [rnd_zero] using hb
    · exact hb
  refine ⟨?_, ht⟩
  rw [nr_big h0 hl h52 (by omega)]
  generalize rnd n (l - 52) = t at ht
  by_cases h53 : t = 2 ^ 53
  · subst h53
    have : (2 ^ 53).log2 = 53 := by decide
    rw [nr_big (by decide) this (by omega) (by omega)]
    have : rnd (2 ^ 53) (53 - 52) = 2 ^ 52 := by decide
    rw [this]; omega
  · have : t.log2 = 52 := log2_of ht.1 (by omega)
    rw [nr_big (by omega) this (by omega) (by omega), rnd_zero]
    omega

theorem rnd_mono {n m d : Nat} (h : n ≤ m) : rnd n d ≤ rnd m d := by
  have hq : n / 2 ^ d ≤ m / 2 ^ d := Nat.div_le_div_right h
  rcases Nat.lt_or_eq_of_le hq with h1 | h1
  · have := rnd_le n d; have := le_rnd m d; omega
  · have hr : n % 2 ^ d ≤ m % 2 ^ d := by
      have a := Nat.div_add_mod n (2 ^ d)
      have b := Nat.div_add_mod m (2 ^ d)
      rw [h1] at a; omega
    unfold rnd
    rw [h1]
    split
    · rename_i hc
      have : 2 ^ d < 2 * (m % 2 ^ d) ∨ (2 ^ d = 2 * (m % 2 ^ d) ∧ m / 2 ^ d % 2 = 1) := by
        rcases hc with hc | ⟨hc, hp⟩
        · exact .inl (by omega)
        · rcases Nat.lt_or_eq_of_le hr with h2 | h2
          · exact .inl (by omega)
          · exact .inr ⟨by rw [← h2]; exact hc, hp⟩
      rw [if_pos this]; exact Nat.le_refl _
    · omega

/-- T5: a greater number's is not less. -/
theorem nr_mono {n m : Nat} (h : n ≤ m) (hm : m < 2 ^ 900) : nr n ≤ nr m := by
  by_cases h0 : n = 0
  · subst h0; rw [nr_zero]; exact Nat.zero_le _
  have hm0 : m ≠ 0 := by omega
  have hml : m.log2 < 900 := (Nat.log2_lt hm0).2 hm
  have hle : n.log2 ≤ m.log2 := (Nat.le_log2 hm0).2 (Nat.le_trans (Nat.log2_self_le h0) h)
  rw [nr_dg h0 (by omega), nr_dg hm0 (by omega)]
  rcases Nat.lt_or_eq_of_le hle with h1 | h1
  · have a := (dg_le h0).2; have b := (dg_le hm0).1; omega
  · rw [h1]
    have : dg n ≤ dg m := by
      unfold dg
      rw [h1]
      split
      · exact Nat.mul_le_mul_right _ h
      · exact rnd_mono h
    omega

theorem log2_two {n : Nat} (h0 : n ≠ 0) : (2 * n).log2 = n.log2 + 1 := by
  apply log2_of
  · have := Nat.log2_self_le h0; rw [Nat.pow_succ]; omega
  · have := @Nat.lt_log2_self n; rw [Nat.pow_succ]; omega

/-- T8: twice the number, one binade higher. -/
theorem nr_two {n : Nat} (h0 : n ≠ 0) (hn : n < 2 ^ 900) : nr (2 * n) = nr n + 2 ^ 52 := by
  have hl : n.log2 < 900 := (Nat.log2_lt h0).2 hn
  have h20 : 2 * n ≠ 0 := by omega
  rw [nr_dg h20 (by rw [log2_two h0]; omega), nr_dg h0 (by omega), log2_two h0]
  have : dg (2 * n) = dg n := by
    unfold dg
    rw [log2_two h0]
    by_cases h : n.log2 + 1 ≤ 52
    · rw [if_pos h, if_pos (by omega), show 52 - n.log2 = 52 - (n.log2 + 1) + 1 by omega, Nat.pow_succ, Nat.mul_comm 2 n, Nat.mul_assoc, Nat.mul_comm 2]
    · rw [if_neg h]
      by_cases h2 : n.log2 ≤ 52
      · rw [if_pos h2]
        have : n.log2 = 52 := by omega
        rw [this]
        show rnd (2 * n) 1 = n * 2 ^ 0
        simp only [rnd, Nat.pow_one, Nat.pow_zero, Nat.mul_one]
        rw [if_neg (by omega)]; omega
      · rw [if_neg h2]
        have e : n.log2 + 1 - 52 = (n.log2 - 52) + 1 := by omega
        rw [e]
        generalize n.log2 - 52 = d
        have hp : 2 ^ (d + 1) = 2 * 2 ^ d := by rw [Nat.pow_succ, Nat.mul_comm]
        unfold rnd
        rw [hp, Nat.mul_div_mul_left _ _ (by omega), Nat.mul_mod_mul_left]
        congr 1
        have c1 : 2 * 2 ^ d < 2 * (2 * (n % 2 ^ d)) ↔ 2 ^ d < 2 * (n % 2 ^ d) := by omega
        have c2 : 2 * 2 ^ d = 2 * (2 * (n % 2 ^ d)) ↔ 2 ^ d = 2 * (n % 2 ^ d) := by omega
        simp only [c1, c2]
  rw [this]; omega
end Go.Fl
