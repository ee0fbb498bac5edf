/-
  PLAIN LAW: a point turned by quarters; how far two points are apart.
-/
import Derived.Test.YtgbkilmgmnhokaaFl5
set_option linter.unusedSimpArgs false
set_option linter.unusedVariables false
namespace Go.Fl
open Ieee

def ONE : Nat := 4607182418800017408
def TWO : Nat := 4611686018427387904

/-- The rung of a number. -/
def rn (M : Nat) (p : Int) : Nat := double.nearest false M p

theorem word_false (r : Nat) : double.word false r = r := rfl

theorem rn_le (M : Nat) (p : Int) : rn M p ≤ 2047 * 2 ^ 52 := by
  unfold rn Format.nearest
  split
  · exact Nat.zero_le _
  · rw [word_false, ir]; exact Nat.min_le_right _ _

theorem nearest_word (s : Bool) (M : Nat) (p : Int) : double.nearest s M p = double.word s (rn M p) := by
  unfold rn Format.nearest
  split
  · rw [word_false]
  · rw [word_false]; simp only [cut_neg s]

theorem fin_word (s : Bool) {r : Nat} (h : r < 2047 * 2 ^ 52) : fin (double.word s r) ∧ sv (double.word s r) = (if s then -(iv r : Int) else iv r) ∧ sg (double.word s r) = s := by
  rw [word_eq]
  cases s
  · simp only [Bool.false_eq_true, if_false]
    exact ⟨.inl ⟨by omega, h⟩, by unfold sv; rw [if_pos (by omega)], by unfold sg; rw [decide_eq_true (by omega)]; rfl⟩
  · simp only [if_true]
    refine ⟨.inr ⟨by omega, by omega⟩, ?_, ?_⟩
    · unfold sv; rw [if_neg (by omega), Nat.add_sub_cancel_left]
    · unfold sg; rw [decide_eq_false (by omega)]; rfl

/-- A finite word is its sign and its rung. -/
theorem fin_rung {w : Nat} (h : fin w) : ∃ r, r < 2047 * 2 ^ 52 ∧ w = double.word (sg w) r ∧ (sv w).natAbs = iv r := by
  rcases h with ⟨h1, h2⟩ | ⟨h1, h2⟩
  · refine ⟨w, h2, ?_, ?_⟩
    · simp [word_eq, sg, h1]
    · unfold sv; rw [if_pos h1, Int.natAbs_natCast]
  · have hn : ¬ w < 2 ^ 63 := by omega
    refine ⟨w - 2 ^ 63, h2, ?_, ?_⟩
    · rw [word_eq]; unfold sg; rw [decide_eq_false hn]; simp only [Bool.not_false, if_true]; omega
    · unfold sv; rw [if_neg hn, Int.natAbs_neg, Int.natAbs_natCast]

theorem fin_zero : fin 0 := .inl ⟨by decide, by decide⟩
theorem sv_zero : sv 0 = 0 := by decide +kernel
theorem fin_one : fin ONE := .inl ⟨by decide +kernel, by decide +kernel⟩
theorem sv_one : (sv ONE).natAbs = 2 ^ 1074 := by
  decide +kernel
theorem sg_one : sg ONE = false := by decide +kernel

theorem mul_one {b : Nat} (h : fin b) : double.mul b ONE = some b := by
  obtain ⟨r, h1, h2, h3⟩ := fin_rung h
  rw [mul_fin h fin_one, sv_one, sg_one, Bool.xor_false, h3]
  have sc := nearest_scale (sg b) (iv r) 1074 (-1074)
  have e : (-1074 : Int) - (1074 : Nat) = -2148 := by decide
  rw [e] at sc
  rw [sc, write_iv _ h1, ← h2]

theorem mul_zero {a : Nat} (h : fin a) : ∃ z, double.mul a 0 = some z ∧ fin z ∧ sv z = 0 := by
  refine ⟨double.word (sg a ^^ sg 0) 0, ?_, ?_⟩
  · rw [mul_fin h fin_zero, sv_zero]
    show some (double.nearest _ ((sv a).natAbs * 0) _) = _
    rw [Nat.mul_zero]; rfl
  · obtain ⟨q1, q2, _⟩ := fin_word (sg a ^^ sg 0) (r := 0) (by decide)
    refine ⟨q1, ?_⟩
    rw [q2]
    have : iv 0 = 0 := rfl
    rw [this]; split <;> rfl

/-- A sum that a word stands for just so. -/
theorem add_exact {w v : Nat} (hw : fin w) (hv : fin v) {r : Nat} (hr : r < 2047 * 2 ^ 52) (h : (sv w + sv v).natAbs = iv r) : ∃ z, double.add w v = some z ∧ fin z ∧ sv z = sv w + sv v := by
  obtain ⟨s, h1, h2⟩ := add_fin hw hv
  rw [h, write_iv _ hr] at h1
  obtain ⟨q1, q2, _⟩ := fin_word s hr
  refine ⟨_, h1, q1, ?_⟩
  rw [q2]
  by_cases h0 : sv w + sv v = 0
  · have : iv r = 0 := by rw [← h, h0]; rfl
    rw [h0, this]; split <;> rfl
  · rw [h2 h0]
    generalize sv w + sv v = t at *
    by_cases hlt : t < 0
    · rw [decide_eq_true hlt, if_pos rfl]; omega
    · rw [decide_eq_false hlt, if_neg (by simp)]; omega

theorem add_zero {z a : Nat} (hz : fin z) (h0 : sv z = 0) (ha : fin a) : (∃ r, double.add z a = some r ∧ fin r ∧ sv r = sv a) ∧ ∃ r, double.add a z = some r ∧ fin r ∧ sv r = sv a := by
  obtain ⟨r, h1, _, h3⟩ := fin_rung ha
  constructor
  · obtain ⟨q, q1, q2, q3⟩ := add_exact hz ha h1 (by rw [h0, Int.zero_add]; exact h3)
    exact ⟨q, q1, q2, by rw [q3, h0, Int.zero_add]⟩
  · obtain ⟨q, q1, q2, q3⟩ := add_exact ha hz h1 (by rw [h0, Int.add_zero]; exact h3)
    exact ⟨q, q1, q2, by rw [q3, h0, Int.add_zero]⟩

/-- A quarter, by the product with the unit above. -/
theorem quarter {a b : Nat} (ha : fin a) (hb : fin b) : ∃ z1 z2 r i, double.mul a 0 = some z1 ∧ double.mul b ONE = some b ∧ double.sub z1 b = some r ∧ double.mul a ONE = some a ∧ double.mul b 0 = some z2 ∧ double.add a z2 = some i ∧
    fin r ∧ fin i ∧ sv r = - sv b ∧ sv i = sv a := by
  obtain ⟨z1, h1, h2, h3⟩ := mul_zero ha
  obtain ⟨z2, k1, k2, k3⟩ := mul_zero hb
  obtain ⟨r, r1, r2, r3⟩ := (add_zero h2 h3 (fin_ng hb)).1
  obtain ⟨i, i1, i2, i3⟩ := (add_zero k2 k3 ha).2
  exact ⟨z1, z2, r, i, h1, mul_one hb, by rw [sub_eq hb]; exact r1, mul_one ha, k1, i1, r2, i2, by rw [r3, sv_ng hb], i3⟩

/-! ### Words without a sign, and the infinite one -/
theorem read_inf : double.read (2047 * 2 ^ 52) = .infinity false := by decide +kernel

theorem order_le {x y : Nat} (hx : x ≤ 2047 * 2 ^ 52) (hy : y ≤ 2047 * 2 ^ 52) : double.order x y = some (compare x y) := by
  rcases Nat.lt_or_eq_of_le hx with h1 | h1
  · rcases Nat.lt_or_eq_of_le hy with h2 | h2
    · exact order_words h1 h2
    · subst h2
      obtain ⟨m, p, e, _⟩ := read_iv h1
      rw [ncmp_lt h1]
      unfold Format.order
      rw [read_inf, e]; rfl
  · subst h1
    rcases Nat.lt_or_eq_of_le hy with h2 | h2
    · obtain ⟨m, p, e, _⟩ := read_iv h2
      rw [ncmp_gt h2]
      unfold Format.order
      rw [read_inf, e]; rfl
    · subst h2
      rw [ncmp_eq]
      unfold Format.order
      rw [read_inf]; rfl

theorem write_inf : double.write (.infinity false) = 2047 * 2 ^ 52 := by decide +kernel

theorem add_le {x y : Nat} (hx : x ≤ 2047 * 2 ^ 52) (hy : y ≤ 2047 * 2 ^ 52) : ∃ z, double.add x y = some z ∧ z ≤ 2047 * 2 ^ 52 ∧ double.add y x = some z := by
  rcases Nat.lt_or_eq_of_le hx with h1 | h1
  · rcases Nat.lt_or_eq_of_le hy with h2 | h2
    · have f1 : fin x := .inl ⟨by omega, h1⟩
      have f2 : fin y := .inl ⟨by omega, h2⟩
      have p1 : sv x = (iv x : Int) := by unfold sv; rw [if_pos (by omega)]
      have p2 : sv y = (iv y : Int) := by unfold sv; rw [if_pos (by omega)]
      obtain ⟨s, a1, a2⟩ := add_fin f1 f2
      obtain ⟨t, b1, b2⟩ := add_fin f2 f1
      by_cases h0 : sv x + sv y = 0
      · have x0 : iv x = 0 := by rw [p1, p2] at h0; omega
        have y0 : iv y = 0 := by rw [p1, p2] at h0; omega
        have ex : x = 0 := iv_inj (by rw [x0]; rfl)
        have ey : y = 0 := iv_inj (by rw [y0]; rfl)
        subst ex ey
        exact ⟨0, by decide +kernel, by decide +kernel, by decide +kernel⟩
      · have hs : s = false := by rw [a2 h0, p1, p2]; exact decide_eq_false (by omega)
        have h0' : sv y + sv x ≠ 0 := by omega
        have ht : t = false := by rw [b2 h0', p1, p2]; exact decide_eq_false (by omega)
        subst hs ht
        refine ⟨_, a1, rn_le _ _, ?_⟩
        rw [b1, Int.add_comm]
    · subst h2
      obtain ⟨m, p, e, _⟩ := read_iv h1
      exact ⟨2047 * 2 ^ 52, by unfold Format.add; rw [read_inf, e]; simp only [Datum.sum, Option.map_some, write_inf], Nat.le_refl _, by unfold Format.add; rw [read_inf, e]; simp only [Datum.sum, Option.map_some, write_inf]⟩
  · subst h1
    rcases Nat.lt_or_eq_of_le hy with h2 | h2
    · obtain ⟨m, p, e, _⟩ := read_iv h2
      exact ⟨2047 * 2 ^ 52, by unfold Format.add; rw [read_inf, e]; simp only [Datum.sum, Option.map_some, write_inf], Nat.le_refl _, by unfold Format.add; rw [read_inf, e]; simp only [Datum.sum, Option.map_some, write_inf]⟩
    · subst h2
      exact ⟨2047 * 2 ^ 52, by decide +kernel, Nat.le_refl _, by decide +kernel⟩
end Go.Fl
