/-
  PLAIN LAW: finite words as integers: sums, differences, products, order.
-/
import Derived.Test.YtgbkilmgmnhokaaFl4
set_option linter.unusedSimpArgs false
set_option linter.unusedVariables false
namespace Go.Fl
open Ieee

/-- A finite word, of either sign. -/
def fin (w : Nat) : Prop := w < 2 ^ 63 ∧ w < 2047 * 2 ^ 52 ∨ 2 ^ 63 ≤ w ∧ w - 2 ^ 63 < 2047 * 2 ^ 52

/-- What it stands for, in units of the least place. -/
def sv (w : Nat) : Int := if w < 2 ^ 63 then (iv w : Int) else -(iv (w - 2 ^ 63) : Int)

/-- Its sign. -/
def sg (w : Nat) : Bool := !decide (w < 2 ^ 63)

/-- The word with the other sign. -/
def ng (w : Nat) : Nat := if w < 2 ^ 63 then 2 ^ 63 + w else w - 2 ^ 63

theorem word_eq (s : Bool) (r : Nat) : double.word s r = if s then 2 ^ 63 + r else r := by cases s <;> rfl

theorem read_fin {w : Nat} (h : fin w) : ∃ m p, double.read w = .number (sg w) m (-1074 + (p : Nat)) ∧ sv w = signed (sg w) m p := by
  rcases h with ⟨h1, h2⟩ | ⟨h1, h2⟩
  · obtain ⟨m, p, e1, e2⟩ := read_iv h2
    refine ⟨m, p, by rw [e1]; simp [sg, h1], ?_⟩
    simp [sv, sg, h1, signed, e2, shl]
  · obtain ⟨m, p, e1, e2⟩ := read_iv h2
    have hn : ¬ w < 2 ^ 63 := by omega
    have hw : w = 2 ^ 63 + (w - 2 ^ 63) := by omega
    refine ⟨m, p, ?_, ?_⟩
    · conv => lhs; rw [hw]
      rw [read_neg (by omega), e1]
      simp only [Datum.opposite, sg, hn, decide_false, Bool.not_false]
    · simp only [sv, sg, hn, if_false, decide_false, Bool.not_false, signed, if_true, shl, e2]

theorem fin_ng {w : Nat} (h : fin w) : fin (ng w) := by
  unfold ng
  rcases h with ⟨h1, h2⟩ | ⟨h1, h2⟩
  · rw [if_pos h1]; exact .inr ⟨by omega, by omega⟩
  · rw [if_neg (by omega)]; exact .inl ⟨by omega, h2⟩

theorem sv_ng {w : Nat} (h : fin w) : sv (ng w) = - sv w := by
  rcases h with ⟨h1, h2⟩ | ⟨h1, h2⟩
  · have e : ng w = 2 ^ 63 + w := by simp only [ng, h1, if_true]
    have e1 : sv (2 ^ 63 + w) = -(iv (2 ^ 63 + w - 2 ^ 63) : Int) := by unfold sv; rw [if_neg (by omega)]
    have e2 : sv w = (iv w : Int) := by unfold sv; rw [if_pos h1]
    rw [e, e1, e2, Nat.add_sub_cancel_left]
  · have e : ng w = w - 2 ^ 63 := by unfold ng; rw [if_neg (by omega)]
    have e1 : sv (w - 2 ^ 63) = (iv (w - 2 ^ 63) : Int) := by unfold sv; rw [if_pos (by omega)]
    have e2 : sv w = -(iv (w - 2 ^ 63) : Int) := by unfold sv; rw [if_neg (by omega)]
    rw [e, e1, e2, Int.neg_neg]

theorem read_ng {w : Nat} (h : fin w) : double.read (ng w) = (double.read w).opposite := by
  unfold ng
  rcases h with ⟨h1, h2⟩ | ⟨h1, h2⟩
  · rw [if_pos h1, read_neg h1]
  · rw [if_neg (by omega)]
    have hw : w = 2 ^ 63 + (w - 2 ^ 63) := by omega
    have : double.read w = (double.read (w - 2 ^ 63)).opposite := by
      conv => lhs; rw [hw]
      exact read_neg (by omega)
    rw [this]
    cases double.read (w - 2 ^ 63) <;> simp [Datum.opposite]

theorem signed_scale (s : Bool) (m p k : Nat) (h : k ≤ p) : signed s m p = signed s m (p - k) * (2 ^ k : Nat) := by
  have e : m <<< p = m <<< (p - k) * 2 ^ k := by rw [shl, shl, Nat.mul_assoc, ← Nat.pow_add]; congr 2; omega
  unfold signed
  rw [e]
  cases s
  · simp
  · simp only [if_true, Int.natCast_mul]; rw [Int.neg_mul]

/-- The sum of two finite words. -/
theorem add_fin {w v : Nat} (hw : fin w) (hv : fin v) : ∃ s, double.add w v = some (double.nearest s (sv w + sv v).natAbs (-1074)) ∧ (sv w + sv v ≠ 0 → s = decide (sv w + sv v < 0)) := by
  obtain ⟨m, p, e1, e2⟩ := read_fin hw
  obtain ⟨n, q, e3, e4⟩ := read_fin hv
  have f1 : ((-1074 + (p : Int)) - min (-1074 + (p : Int)) (-1074 + (q : Int))).toNat = p - min p q := by omega
  have f2 : ((-1074 + (q : Int)) - min (-1074 + (p : Int)) (-1074 + (q : Int))).toNat = q - min p q := by omega
  have f3 : min (-1074 + (p : Int)) (-1074 + (q : Int)) = -1074 + ((min p q : Nat) : Int) := by omega
  simp only [Format.add, e1, e3, Datum.sum, f1, f2, Option.map_some, Format.write]
  rw [f3]
  have g1 := signed_scale (sg w) m p (min p q) (Nat.min_le_left _ _)
  have g2 := signed_scale (sg v) n q (min p q) (Nat.min_le_right _ _)
  rw [← e2] at g1
  rw [← e4] at g2
  generalize signed (sg w) m (p - min p q) = A at *
  generalize signed (sg v) n (q - min p q) = C at *
  generalize min p q = k at *
  have hK : 0 < 2 ^ k := Nat.two_pow_pos k
  have hsum : sv w + sv v = (A + C) * (2 ^ k : Nat) := by rw [g1, g2, Int.add_mul]
  refine ⟨if A + C = 0 then sg w && sg v else decide (A + C < 0), ?_, ?_⟩
  · have : (sv w + sv v).natAbs = (A + C).natAbs * 2 ^ k := by rw [hsum, Int.natAbs_mul, Int.natAbs_natCast]
    rw [this]
    have sc := fun s => nearest_scale s (A + C).natAbs k (-1074 + (k : Int))
    have e : (-1074 + (k : Int)) - (k : Int) = -1074 := by omega
    rw [e] at sc
    rw [sc]
  · intro h0
    have hAC : A + C ≠ 0 := fun h => h0 (by rw [hsum, h, Int.zero_mul])
    rw [if_neg hAC, hsum]
    congr 1
    apply propext
    have hKi : (0 : Int) < (2 ^ k : Nat) := by exact_mod_cast hK
    constructor
    · intro h; exact Int.mul_neg_of_neg_of_pos h hKi
    · intro h
      apply Int.not_le.1
      intro h2
      have := Int.mul_nonneg h2 (Int.le_of_lt hKi)
      omega

theorem sub_eq {w v : Nat} (hv : fin v) : double.sub w v = double.add w (ng v) := by
  simp only [Format.sub, Format.add, read_ng hv]

/-- The product of two finite words. -/
theorem mul_fin {w v : Nat} (hw : fin w) (hv : fin v) : double.mul w v = some (double.nearest (sg w ^^ sg v) ((sv w).natAbs * (sv v).natAbs) (-2148)) := by
  obtain ⟨m, p, e1, e2⟩ := read_fin hw
  obtain ⟨n, q, e3, e4⟩ := read_fin hv
  simp only [Format.mul, e1, e3, Datum.product, Option.map_some, Format.write]
  have ab : ∀ s m p, (signed s m p).natAbs = m * 2 ^ p := fun s m p => by
    unfold signed
    rw [shl]
    cases s
    · exact Int.natAbs_natCast _
    · rw [if_pos rfl, Int.natAbs_neg]; exact Int.natAbs_natCast _
  rw [e2, e4, ab, ab]
  have sc := nearest_scale (sg w ^^ sg v) (m * n) (p + q) (-2148 + ((p + q : Nat) : Int))
  have e : (-2148 + ((p + q : Nat) : Int)) - ((p + q : Nat) : Int) = -2148 := by omega
  rw [e] at sc
  have e5 : (-1074 + (p : Int)) + (-1074 + (q : Int)) = -2148 + ((p + q : Nat) : Int) := by omega
  rw [e5, ← sc]
  congr 2
  rw [Nat.pow_add]
  simp only [Nat.mul_assoc, Nat.mul_left_comm, Nat.mul_comm]

theorem order_fin {w v : Nat} (hw : fin w) (hv : fin v) : double.order w v = some (compare (sv w) (sv v)) := by
  obtain ⟨m, p, e1, e2⟩ := read_fin hw
  obtain ⟨n, q, e3, e4⟩ := read_fin hv
  have f1 : ((-1074 + (p : Int)) - min (-1074 + (p : Int)) (-1074 + (q : Int))).toNat = p - min p q := by omega
  have f2 : ((-1074 + (q : Int)) - min (-1074 + (p : Int)) (-1074 + (q : Int))).toNat = q - min p q := by omega
  simp only [Format.order, e1, e3, Datum.order, f1, f2]
  have g1 := signed_scale (sg w) m p (min p q) (Nat.min_le_left _ _)
  have g2 := signed_scale (sg v) n q (min p q) (Nat.min_le_right _ _)
  rw [← e2] at g1
  rw [← e4] at g2
  generalize signed (sg w) m (p - min p q) = A at *
  generalize signed (sg v) n (q - min p q) = C at *
  generalize min p q = k at *
  have hKi : (0 : Int) < (2 ^ k : Nat) := by exact_mod_cast Nat.two_pow_pos k
  rw [g1, g2]
  congr 1
  rcases Int.lt_trichotomy A C with h | h | h
  · rw [cmp_lt h, cmp_lt (Int.mul_lt_mul_of_pos_right h hKi)]
  · rw [cmp_eq h, cmp_eq (by rw [h])]
  · rw [cmp_gt h, cmp_gt (Int.mul_lt_mul_of_pos_right h hKi)]
end Go.Fl
