/-
  PLAIN LAW OF DOUBLES: a number's bits, the highest first, rounded at the fifty-third.
-/
import Derived.Test.YtgbkilmgmnhokaaFl9
set_option linter.unusedSimpArgs false
set_option linter.unusedVariables false
namespace Go.Fl
open Ieee

def topv (N B m : Nat) : Nat := N / 2 ^ (max m (B - 53))
def belv (N B m : Nat) : Nat := if m + 54 ≤ B then N / 2 ^ (B - 54) % 2 else 0
def somev (N B m : Nat) : Bool := if m + 54 ≤ B then decide (N % 2 ^ (B - 54) / 2 ^ m ≠ 0) else false

theorem half_step (N m : Nat) : 2 * (N / 2 ^ (m + 1)) + N / 2 ^ m % 2 = N / 2 ^ m := by
  rw [Nat.pow_succ, ← Nat.div_div_eq_div_mul]; omega

theorem step_low {N B m : Nat} (h : B - m ≤ 53) : 2 * topv N B (m + 1) + N / 2 ^ m % 2 = topv N B m ∧ belv N B (m + 1) = belv N B m ∧ somev N B (m + 1) = somev N B m := by
  refine ⟨?_, ?_, ?_⟩
  · unfold topv
    rw [Nat.max_eq_left (by omega), Nat.max_eq_left (by omega), half_step]
  · unfold belv; rw [if_neg (by omega)]
    by_cases hm : m + 54 ≤ B
    · omega
    · rw [if_neg hm]
  · unfold somev; rw [if_neg (by omega)]
    by_cases hm : m + 54 ≤ B
    · omega
    · rw [if_neg hm]

theorem step_mid {N B m : Nat} (h : B - m = 54) : topv N B (m + 1) = topv N B m ∧ N / 2 ^ m % 2 = belv N B m ∧ somev N B (m + 1) = somev N B m := by
  have e : B - 54 = m := by omega
  refine ⟨?_, ?_, ?_⟩
  · unfold topv
    rw [Nat.max_eq_right (by omega), Nat.max_eq_right (by omega)]
  · unfold belv; rw [if_pos (by omega), e]
  · unfold somev; rw [if_neg (by omega), if_pos (by omega), e]
    have : N % 2 ^ m / 2 ^ m = 0 := Nat.div_eq_of_lt (Nat.mod_lt _ (Nat.two_pow_pos _))
    rw [this]; rfl

theorem step_high {N B m : Nat} (h : 55 ≤ B - m) : topv N B (m + 1) = topv N B m ∧ belv N B (m + 1) = belv N B m ∧ (somev N B (m + 1) || (N / 2 ^ m % 2 == 1)) = somev N B m := by
  refine ⟨?_, ?_, ?_⟩
  · unfold topv
    rw [Nat.max_eq_right (by omega), Nat.max_eq_right (by omega)]
  · unfold belv; rw [if_pos (by omega), if_pos (by omega)]
  · unfold somev; rw [if_pos (by omega), if_pos (by omega)]
    have e : N % 2 ^ (B - 54) / 2 ^ m % 2 = N / 2 ^ m % 2 := by
      have hk : 2 ^ (B - 54) = 2 ^ m * 2 ^ (B - 54 - m) := by rw [← Nat.pow_add]; congr 1; omega
      rw [hk, Nat.mod_mul_right_div_self]
      have h2 : 2 ∣ 2 ^ (B - 54 - m) := by
        have : B - 54 - m = (B - 54 - m - 1) + 1 := by omega
        rw [this, Nat.pow_succ]; exact Nat.dvd_mul_left _ _
      exact Nat.mod_mod_of_dvd _ h2
    have hs := half_step (N % 2 ^ (B - 54)) m
    rw [e] at hs
    have hb : N / 2 ^ m % 2 = 0 ∨ N / 2 ^ m % 2 = 1 := by omega
    rcases hb with hb | hb
    · rw [hb] at hs ⊢
      by_cases h1 : N % 2 ^ (B - 54) / 2 ^ (m + 1) = 0
      · rw [decide_eq_false (by omega), decide_eq_false (by omega)]; rfl
      · rw [decide_eq_true (by omega), decide_eq_true (by omega)]; rfl
    · rw [hb] at hs ⊢
      rw [decide_eq_true (p := N % 2 ^ (B - 54) / 2 ^ m ≠ 0) (by omega)]
      simp

/-- The rounded top. -/
theorem top_rnd {N B : Nat} (h : 54 ≤ B) : (if belv N B 0 = 1 ∧ (somev N B 0 = true ∨ topv N B 0 % 2 = 1) then topv N B 0 + 1 else topv N B 0) = rnd N (B - 53) := by
  have e0 : max 0 (B - 53) = B - 53 := by omega
  have b1 : belv N B 0 = N / 2 ^ (B - 54) % 2 := by unfold belv; rw [if_pos (by omega)]
  have b2 : somev N B 0 = decide (N % 2 ^ (B - 54) / 2 ^ 0 ≠ 0) := by unfold somev; rw [if_pos (by omega)]
  have b3 : topv N B 0 = N / 2 ^ (B - 53) := by unfold topv; rw [e0]
  rw [b1, b2, b3]
  unfold rnd
  have hd : B - 53 = (B - 54) + 1 := by omega
  rw [hd]
  generalize hk : B - 54 = k
  have e1 : N % 2 ^ (k + 1) = N % 2 ^ k + 2 ^ k * (N / 2 ^ k % 2) := by rw [Nat.pow_succ, Nat.mod_mul]
  simp only [Nat.pow_zero, Nat.div_one, decide_eq_true_eq]
  rw [e1, Nat.pow_succ]
  have hlt := Nat.mod_lt N (Nat.two_pow_pos k)
  have hp := Nat.two_pow_pos k
  generalize N % 2 ^ k = r at *
  generalize 2 ^ k = p at *
  generalize N / (p * 2) = q at *
  have hb : N / p % 2 = 0 ∨ N / p % 2 = 1 := by omega
  rcases hb with hb | hb
  · rw [hb, if_neg (by omega), if_neg (by omega), Nat.add_zero]
  · rw [hb, Nat.mul_one]
    by_cases hc : r ≠ 0 ∨ q % 2 = 1
    · rw [if_pos ⟨rfl, hc⟩, if_pos (by omega)]
    · rw [if_neg (fun h => hc h.2), if_neg (by omega), Nat.add_zero]

theorem topv_lt {N B m : Nat} (hN : N < 2 ^ B) : topv N B m < 2 ^ 53 := by
  unfold topv
  rw [Nat.div_lt_iff_lt_mul (Nat.two_pow_pos _), ← Nat.pow_add]
  exact Nat.lt_of_lt_of_le hN (Nat.pow_le_pow_right (by decide) (by omega))

theorem belv_le (N B m : Nat) : belv N B m ≤ 1 := by
  unfold belv; split <;> omega

theorem topv_start {N B : Nat} (hN : N < 2 ^ B) : topv N B B = 0 := by
  unfold topv
  rw [Nat.max_eq_left (by omega), Nat.div_eq_of_lt hN]
theorem belv_start {N B : Nat} : belv N B B = 0 := by
  unfold belv; rw [if_neg (by omega)]
theorem somev_start {N B : Nat} : somev N B B = false := by
  unfold somev; rw [if_neg (by omega)]

/-- The float of the rounded top, doubled, is the nearest double. -/
theorem nr_bits {N B : Nat} (h0 : N ≠ 0) (hB : B = N.log2 + 1) (h : N < 2 ^ 256) :
    nr (if belv N B 0 = 1 ∧ (somev N B 0 = true ∨ topv N B 0 % 2 = 1) then topv N B 0 + 1 else topv N B 0) + (B - 53) * 2 ^ 52 = nr N := by
  have hl : N.log2 < 256 := (Nat.log2_lt h0).2 h
  by_cases h54 : 54 ≤ B
  · rw [top_rnd h54]
    have := (nr_top h0 rfl (by omega) (by omega)).1
    rw [this]
    have : B - 53 = N.log2 - 52 := by omega
    rw [this]
  · have e : B - 53 = 0 := by omega
    have e1 : belv N B 0 = 0 := by unfold belv; rw [if_neg (by omega)]
    have e2 : topv N B 0 = N := by unfold topv; rw [e]; simp
    rw [e1, e2, e, if_neg (by omega)]; omega

theorem nr_bits_low {N B : Nat} (h0 : N ≠ 0) (hB : B = N.log2 + 1) (h : N < 2 ^ 256) : (if belv N B 0 = 1 ∧ (somev N B 0 = true ∨ topv N B 0 % 2 = 1) then topv N B 0 + 1 else topv N B 0) ≠ 0 := by
  have hl : N.log2 < 256 := (Nat.log2_lt h0).2 h
  by_cases h54 : 54 ≤ B
  · rw [top_rnd h54]
    have := (nr_top h0 rfl (by omega) (by omega)).2.1
    have e : B - 53 = N.log2 - 52 := by omega
    rw [e]; omega
  · have e : B - 53 = 0 := by omega
    have e1 : belv N B 0 = 0 := by unfold belv; rw [if_neg (by omega)]
    have e2 : topv N B 0 = N := by unfold topv; rw [e]; simp
    rw [e1, e2, if_neg (by omega)]; exact h0
end Go.Fl
