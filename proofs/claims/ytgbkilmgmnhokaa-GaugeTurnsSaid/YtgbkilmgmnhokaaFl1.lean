/-
  PLAIN LAW: doubles as words. No program in sight.
-/
import Ieee.Arith
set_option linter.unusedSimpArgs false
set_option linter.unusedVariables false
namespace Go.Fl
open Ieee

def B : Nat := 2 ^ 52
def INF : Nat := 2047 * 2 ^ 52
def SGN : Nat := 2 ^ 63

theorem lp : double.leastPlace = -1074 := rfl
theorem bi : double.binade = 2 ^ 52 := rfl
theorem ir : double.infRung = 2047 * 2 ^ 52 := by decide
theorem sw : double.signWeight = 2 ^ 63 := by decide

/-- What a word above no sign stands for, in units of the least place. -/
def iv (x : Nat) : Nat := if x < 2 ^ 52 then x else (2 ^ 52 + x % 2 ^ 52) * 2 ^ (x / 2 ^ 52 - 1)

theorem read_small {x : Nat} (h : x < 2 ^ 52) : double.read x = .number false x (-1074) := by
  have h1 : x / 2 ^ 63 % 2 = 0 := by omega
  have h2 : x % 2 ^ 63 = x := by omega
  simp [Format.read, sw, bi, lp, h1, h2, h]

theorem read_big {x : Nat} (h : 2 ^ 52 ≤ x) (h2 : x < 2047 * 2 ^ 52) : double.read x = .number false (2 ^ 52 + x % 2 ^ 52) (-1074 + (x / 2 ^ 52 - 1 : Nat)) := by
  have h1 : x / 2 ^ 63 % 2 = 0 := by omega
  have h3 : x % 2 ^ 63 = x := by omega
  simp only [Format.read, sw, bi, lp, ir, h1, h3]
  rw [if_neg (by omega), if_pos h2]
  rfl

theorem read_neg {x : Nat} (h : x < 2 ^ 63) : double.read (2 ^ 63 + x) = (double.read x).opposite := by
  have h1 : (2 ^ 63 + x) / 2 ^ 63 % 2 = 1 := by omega
  have h2 : (2 ^ 63 + x) % 2 ^ 63 = x := by omega
  have h3 : x / 2 ^ 63 % 2 = 0 := by omega
  have h4 : x % 2 ^ 63 = x := by omega
  simp only [Format.read, sw, h1, h2, h3, h4]
  split
  · rfl
  · split
    · rfl
    · split <;> rfl

/-- A finite word's datum, at the least place. -/
theorem read_iv {x : Nat} (h : x < 2047 * 2 ^ 52) : ∃ m p, double.read x = .number false m (-1074 + (p : Nat)) ∧ iv x = m * 2 ^ p := by
  by_cases hx : x < 2 ^ 52
  · exact ⟨x, 0, by rw [read_small hx]; rfl, by simp [iv, hx]⟩
  · exact ⟨_, _, read_big (by omega) h, by simp [iv, hx]⟩

theorem iv_mono {x y : Nat} (h : x < y) : iv x < iv y := by
  unfold iv
  split
  · split
    · exact h
    · have : 1 ≤ 2 ^ (y / 2 ^ 52 - 1) := Nat.one_le_two_pow
      calc x < 2 ^ 52 + y % 2 ^ 52 := by omega
        _ = (2 ^ 52 + y % 2 ^ 52) * 1 := by omega
        _ ≤ _ := Nat.mul_le_mul_left _ this
  · rename_i hx
    rw [if_neg (by omega)]
    have hd : x / 2 ^ 52 ≤ y / 2 ^ 52 := Nat.div_le_div_right (Nat.le_of_lt h)
    by_cases he : x / 2 ^ 52 = y / 2 ^ 52
    · rw [he]
      refine Nat.mul_lt_mul_of_pos_right (by omega) (Nat.two_pow_pos _)
    · have hlt : x / 2 ^ 52 - 1 + 1 ≤ y / 2 ^ 52 - 1 := by omega
      calc (2 ^ 52 + x % 2 ^ 52) * 2 ^ (x / 2 ^ 52 - 1) < 2 ^ 52 * 2 * 2 ^ (x / 2 ^ 52 - 1) := Nat.mul_lt_mul_of_pos_right (by omega) (Nat.two_pow_pos _)
        _ = 2 ^ 52 * 2 ^ (x / 2 ^ 52 - 1 + 1) := by
          generalize x / 2 ^ 52 - 1 = k
          rw [Nat.pow_succ 2 k]; omega
        _ ≤ 2 ^ 52 * 2 ^ (y / 2 ^ 52 - 1) := Nat.mul_le_mul_left _ (Nat.pow_le_pow_right (by omega) hlt)
        _ ≤ _ := Nat.mul_le_mul_right _ (by omega)

theorem iv_le {x y : Nat} (h : x ≤ y) : iv x ≤ iv y := by
  rcases Nat.lt_or_eq_of_le h with h | rfl
  · exact Nat.le_of_lt (iv_mono h)
  · exact Nat.le_refl _

theorem iv_inj {x y : Nat} (h : iv x = iv y) : x = y := by
  rcases Nat.lt_trichotomy x y with h1 | h1 | h1
  · have := iv_mono h1; omega
  · exact h1
  · have := iv_mono h1; omega

theorem shl (m p : Nat) : m <<< p = m * 2 ^ p := Nat.shiftLeft_eq m p

theorem cmp_lt {a b : Int} (h : a < b) : compare a b = .lt := by simp [compare, compareOfLessAndEq, h]
theorem cmp_gt {a b : Int} (h : b < a) : compare a b = .gt := by
  have h1 : ¬ a < b := by omega
  have h2 : a ≠ b := by omega
  simp [compare, compareOfLessAndEq, h1, h2]
theorem cmp_eq {a b : Int} (h : a = b) : compare a b = .eq := by subst h; simp [compare, compareOfLessAndEq]
theorem ncmp_lt {a b : Nat} (h : a < b) : compare a b = .lt := by simp [compare, compareOfLessAndEq, h]
theorem ncmp_gt {a b : Nat} (h : b < a) : compare a b = .gt := by
  have h1 : ¬ a < b := by omega
  have h2 : a ≠ b := by omega
  simp [compare, compareOfLessAndEq, h1, h2]
theorem ncmp_eq {a : Nat} : compare a a = .eq := by simp [compare, compareOfLessAndEq]

/-- Two finite words that bear no sign stand to each other as numbers do. -/
theorem order_words {x y : Nat} (hx : x < 2047 * 2 ^ 52) (hy : y < 2047 * 2 ^ 52) : double.order x y = some (compare x y) := by
  obtain ⟨m, p, h1, h2⟩ := read_iv hx
  obtain ⟨n, q, h3, h4⟩ := read_iv hy
  simp only [Format.order, h1, h3, Datum.order, signed, Bool.false_eq_true, if_false, shl]
  have e1 : ((-1074 + (p : Int)) - min (-1074 + (p : Int)) (-1074 + (q : Int))).toNat = p - min p q := by omega
  have e2 : ((-1074 + (q : Int)) - min (-1074 + (p : Int)) (-1074 + (q : Int))).toNat = q - min p q := by omega
  rw [e1, e2]
  have f1 : iv x = m * 2 ^ (p - min p q) * 2 ^ min p q := by rw [Nat.mul_assoc, ← Nat.pow_add, h2]; congr 2; omega
  have f2 : iv y = n * 2 ^ (q - min p q) * 2 ^ min p q := by rw [Nat.mul_assoc, ← Nat.pow_add, h4]; congr 2; omega
  congr 1
  rcases Nat.lt_trichotomy x y with h | rfl | h
  · rw [ncmp_lt h, cmp_lt]
    have := iv_mono h
    rw [f1, f2] at this
    have := Nat.lt_of_mul_lt_mul_right this
    exact_mod_cast this
  · rw [ncmp_eq, cmp_eq]
    rw [f1] at f2
    have := Nat.eq_of_mul_eq_mul_right (Nat.two_pow_pos _) f2
    exact_mod_cast this
  · rw [ncmp_gt h, cmp_gt]
    have := iv_mono h
    rw [f1, f2] at this
    have := Nat.lt_of_mul_lt_mul_right this
    exact_mod_cast this
end Go.Fl
