/-
  PLAIN LAW OF DOUBLES: a number's highest 64 digits, by its parts.
-/
import Derived.Test.YtgbkilmgmnhokaaFl7
set_option linter.unusedSimpArgs false
set_option linter.unusedVariables false
namespace Go.Fl
open Go


set_option exponentiation.threshold 1000 in
theorem nr_low {n : Nat} (h0 : n ≠ 0) (h : n < 2 ^ 256) : 2 ^ 52 ≤ nr n := by
  have h1 : nr 1 ≤ nr n := nr_mono (by omega) (Nat.lt_of_lt_of_le h (Nat.pow_le_pow_right (by decide) (by decide)))
  have h2 : nr 1 = 1023 * 2 ^ 52 := by decide +kernel
  omega

/-- The highest part's shift: how many noughts are ahead of it. -/
theorem shift_facts {t z : Nat} (ht : t ≠ 0) (ht64 : t < 2 ^ 64) (hz : z = 64 - (t.log2 + 1)) :
    z < 64 ∧ t * 2 ^ z < 2 ^ 64 ∧ 2 ^ 63 ≤ t * 2 ^ z := by
  have hl : t.log2 < 64 := (Nat.log2_lt ht).2 ht64
  have e1 : t < 2 ^ (t.log2 + 1) := Nat.lt_log2_self
  have e2 : 2 ^ t.log2 ≤ t := Nat.log2_self_le ht
  refine ⟨by omega, ?_, ?_⟩
  · have : 2 ^ 64 = 2 ^ (t.log2 + 1) * 2 ^ z := by rw [← Nat.pow_add]; congr 1; omega
    rw [this]
    exact Nat.mul_lt_mul_of_pos_right e1 (Nat.two_pow_pos _)
  · have : 2 ^ 63 = 2 ^ t.log2 * 2 ^ z := by rw [← Nat.pow_add]; congr 1; omega
    rw [this]
    exact Nat.mul_le_mul_right _ e2

theorem mod_shift {l z : Nat} (hz : z ≤ 64) : l * 2 ^ z % 2 ^ 64 = l % 2 ^ (64 - z) * 2 ^ z := by
  have : 2 ^ 64 = 2 ^ (64 - z) * 2 ^ z := by rw [← Nat.pow_add]; congr 1; omega
  rw [this, Nat.mul_mod_mul_right]

theorem high_join {t l b w z : Nat} (ht : t ≠ 0) (ht64 : t < 2 ^ 64) (hl : l < 2 ^ 64) (hb : b < 2 ^ w) (hw : w ≤ 128) (hz : z = 64 - (t.log2 + 1)) :
    z < 64 ∧ t * 2 ^ z < 2 ^ 64 ∧ l / 2 ^ (64 - z) < 2 ^ z ∧ t * 2 ^ z + l / 2 ^ (64 - z) < 2 ^ 64 ∧ 2 ^ 63 ≤ t * 2 ^ z + l / 2 ^ (64 - z) ∧
    nr ((t * 2 ^ 64 + l) * 2 ^ w + b) = (if l * 2 ^ z % 2 ^ 64 ≠ 0 ∨ b ≠ 0 then nr (t * 2 ^ z + l / 2 ^ (64 - z) ||| 1) else nr (t * 2 ^ z + l / 2 ^ (64 - z))) + (w + 64 - z) * 2 ^ 52 := by
  obtain ⟨z1, z2, z3⟩ := shift_facts ht ht64 hz
  have hlz : l / 2 ^ (64 - z) < 2 ^ z := by
    rw [Nat.div_lt_iff_lt_mul (Nat.two_pow_pos _), ← Nat.pow_add]
    have : z + (64 - z) = 64 := by omega
    rw [this]; exact hl
  have hp : 2 ^ 64 = 2 ^ z * 2 ^ (64 - z) := by rw [← Nat.pow_add]; congr 1; omega
  have hH : t * 2 ^ z + l / 2 ^ (64 - z) = (t * 2 ^ 64 + l) / 2 ^ (64 - z) := by
    have : t * 2 ^ 64 + l = l + 2 ^ (64 - z) * (t * 2 ^ z) := by
      rw [hp, Nat.add_comm l]
      congr 1
      rw [← Nat.mul_assoc, Nat.mul_comm (2 ^ (64 - z))]
    rw [this, Nat.add_mul_div_left _ _ (Nat.two_pow_pos _), Nat.add_comm]
  have he : w + 64 - z = w + (64 - z) := by omega
  have hN : ((t * 2 ^ 64 + l) * 2 ^ w + b) / 2 ^ (w + (64 - z)) = t * 2 ^ z + l / 2 ^ (64 - z) := by
    rw [Nat.pow_add, ← Nat.div_div_eq_div_mul, Nat.mul_comm _ (2 ^ w), Nat.mul_add_div (Nat.two_pow_pos _), Nat.div_eq_of_lt hb, Nat.add_zero, hH]
  have hM : ((t * 2 ^ 64 + l) * 2 ^ w + b) % 2 ^ (w + (64 - z)) = l % 2 ^ (64 - z) * 2 ^ w + b := by
    have e1 : (t * 2 ^ 64 + l) % 2 ^ (64 - z) = l % 2 ^ (64 - z) := by
      rw [hp, ← Nat.mul_assoc, Nat.add_comm, Nat.mul_comm _ (2 ^ (64 - z)), Nat.add_mul_mod_self_left]
    rw [Nat.pow_add, Nat.mod_mul, Nat.mul_comm _ (2 ^ w), Nat.mul_add_mod, Nat.mod_eq_of_lt hb, Nat.mul_add_div (Nat.two_pow_pos _), Nat.div_eq_of_lt hb, Nat.add_zero, e1, Nat.add_comm, Nat.mul_comm (2 ^ w)]
  have hlt : t * 2 ^ z + l / 2 ^ (64 - z) < 2 ^ 64 := by
    rw [hH, Nat.div_lt_iff_lt_mul (Nat.two_pow_pos _)]
    have hs : 2 ^ 64 * 2 ^ z = 2 ^ 64 * 2 ^ z := rfl
    have h1 : (t * 2 ^ z + l / 2 ^ (64 - z)) < 2 ^ 64 := by
      have e : 2 ^ 64 = 2 ^ (64 - z) * 2 ^ z := by rw [hp, Nat.mul_comm]
      rw [e] at z2 ⊢
      have h1 := Nat.lt_of_mul_lt_mul_right z2
      calc t * 2 ^ z + l / 2 ^ (64 - z) < t * 2 ^ z + 2 ^ z := Nat.add_lt_add_left hlz _
        _ = (t + 1) * 2 ^ z := by rw [Nat.succ_mul]
        _ ≤ _ := Nat.mul_le_mul_right _ h1
    rw [hH, Nat.div_lt_iff_lt_mul (Nat.two_pow_pos _)] at h1
    exact h1
  have hge : 2 ^ 63 ≤ t * 2 ^ z + l / 2 ^ (64 - z) := Nat.le_trans z3 (Nat.le_add_right _ _)
  refine ⟨z1, z2, hlz, hlt, hge, ?_⟩
  have hb1 : 2 ^ (w + (64 - z) + 63) ≤ (t * 2 ^ 64 + l) * 2 ^ w + b := by
    have := (Nat.le_div_iff_mul_le (Nat.two_pow_pos (w + (64 - z)))).1 (hN ▸ hge)
    rw [← Nat.pow_add, Nat.add_comm 63] at this
    exact this
  have hb2 : (t * 2 ^ 64 + l) * 2 ^ w + b < 2 ^ (w + (64 - z) + 64) := by
    have := (Nat.div_lt_iff_lt_mul (Nat.two_pow_pos (w + (64 - z)))).1 (hN ▸ hlt)
    rw [← Nat.pow_add, Nat.add_comm 64] at this
    exact this
  have hnr := (nr_high hb1 hb2 (by omega)).1
  rw [hN, hM] at hnr
  rw [hnr, he]
  congr 1
  have hiff : (l % 2 ^ (64 - z) * 2 ^ w + b ≠ 0) ↔ (l * 2 ^ z % 2 ^ 64 ≠ 0 ∨ b ≠ 0) := by
    rw [mod_shift (by omega)]
    have p1 := Nat.two_pow_pos w
    have p2 := Nat.two_pow_pos z
    by_cases h0 : l % 2 ^ (64 - z) = 0
    · rw [h0]; simp
    · have h3 : l % 2 ^ (64 - z) * 2 ^ w ≠ 0 := Nat.mul_ne_zero h0 (by omega)
      have h4 : l % 2 ^ (64 - z) * 2 ^ z ≠ 0 := Nat.mul_ne_zero h0 (by omega)
      constructor
      · intro _; exact .inl h4
      · intro _; omega
  by_cases hc : l % 2 ^ (64 - z) * 2 ^ w + b ≠ 0
  · rw [if_pos hc, if_pos (hiff.1 hc)]
  · rw [if_neg hc, if_neg (fun h => hc (hiff.2 h)), Nat.or_zero]
end Go.Fl
