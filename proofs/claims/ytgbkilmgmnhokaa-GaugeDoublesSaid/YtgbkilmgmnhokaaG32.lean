/-
  PLAIN LAW: digits that are carried over are the number's digits; and back.
-/
import Derived.Test.YtgbkilmgmnhokaaG30
import Derived.Test.YtgbkilmgmnhokaaG21
set_option linter.unusedSimpArgs false
set_option linter.unusedVariables false
namespace Go.Am
open Go Go.Proofs Go.Fl

def cdig : List Nat → Nat → List Nat
  | [], c => [c]
  | x :: xs, c => (c + x) % 65536 :: cdig xs ((c + x) / 65536)

def val : List Nat → Nat
  | [] => 0
  | x :: xs => x + 65536 * val xs

theorem cdig_val : ∀ (xs : List Nat) (c : Nat), val (cdig xs c) = c + val xs
  | [], c => by simp [cdig, val]
  | x :: xs, c => by
    simp only [cdig, val, cdig_val xs]
    omega

theorem carI_cast : ∀ (xs : List Nat) (c : Nat), (∀ x ∈ xs, x < 2 ^ 32) → c < 2 ^ 32 → carI (xs.map fun n : Nat => ((n : Nat) : Int)) ((c : Nat) : Int) = (cdig xs c).map fun n : Nat => ((n : Nat) : Int)
  | [], c, _, _ => rfl
  | x :: xs, c, h, hc => by
    have hx := h x (by simp)
    have w1 : IntKind.u64.wrap ((c : Int) + (x : Int)) = ((c + x : Nat) : Int) := by rw [wrapu64 (by omega) (by omega)]; omega
    have t1 : ((c + x : Nat) : Int).tmod 65536 = (((c + x) % 65536 : Nat) : Int) := tmod16 _
    have t2 : ((c + x : Nat) : Int).tdiv 65536 = (((c + x) / 65536 : Nat) : Int) := by rw [Int.tdiv_eq_ediv_of_nonneg (by omega)]; omega
    have w2 : IntKind.u64.wrap (((c + x) / 65536 : Nat) : Int) = (((c + x) / 65536 : Nat) : Int) := by rw [wrapu64 (by omega) (by omega)]
    simp only [List.map_cons, carI, cdig, w1, t1, t2, w2]
    rw [carI_cast xs ((c + x) / 65536) (fun y hy => h y (by simp [hy])) (by omega)]

theorem cdig_low : ∀ (xs : List Nat) (c : Nat) (j : Nat), j < xs.length → (cdig xs c).getD j 0 < 65536
  | [], c, j, h => by simp at h
  | x :: xs, c, 0, _ => by
    show (c + x) % 65536 < 65536
    omega
  | x :: xs, c, j + 1, h => by
    show (cdig xs _).getD j 0 < 65536
    exact cdig_low xs _ j (by simpa using h)

theorem pI_cast {a b c d : Nat} (ha : a < 65536) (hb : b < 65536) (hc : c < 65536) (hd : d < 65536) : pI (a : Int) (b : Int) (c : Int) (d : Int) = ((a + b * 2 ^ 16 + c * 2 ^ 32 + d * 2 ^ 48 : Nat) : Int) := by
  have sh : ∀ (y s : Nat), y < 65536 → s ≤ 48 → IntKind.u64.wrap ((y : Int) * 2 ^ (min s 64)) = ((y * 2 ^ s : Nat) : Int) := fun y s hy hs => by
    rw [Nat.min_eq_left (by omega)]
    have hp : 2 ^ s ≤ 2 ^ 48 := Nat.pow_le_pow_right (by decide) hs
    refine shl64 ?_
    calc y * 2 ^ s ≤ 65535 * 2 ^ 48 := Nat.mul_le_mul (by omega) hp
      _ < 2 ^ 64 := by decide
  unfold pI shI
  rw [sh a 0 ha (by omega), sh b 16 hb (by omega), sh c 32 hc (by omega), sh d 48 hd (by omega)]
  have e0 : IntKind.u64.wrap (0 + ((a * 2 ^ 0 : Nat) : Int)) = ((a : Nat) : Int) := by rw [wrapu64 (by omega) (by omega)]; omega
  have e1 : IntKind.u64.wrap (((a : Nat) : Int) + ((b * 2 ^ 16 : Nat) : Int)) = ((a + b * 2 ^ 16 : Nat) : Int) := by rw [wrapu64 (by omega) (by omega)]; omega
  have e2 : IntKind.u64.wrap (((a + b * 2 ^ 16 : Nat) : Int) + ((c * 2 ^ 32 : Nat) : Int)) = ((a + b * 2 ^ 16 + c * 2 ^ 32 : Nat) : Int) := by rw [wrapu64 (by omega) (by omega)]; omega
  have e3 : IntKind.u64.wrap (((a + b * 2 ^ 16 + c * 2 ^ 32 : Nat) : Int) + ((d * 2 ^ 48 : Nat) : Int)) = ((a + b * 2 ^ 16 + c * 2 ^ 32 + d * 2 ^ 48 : Nat) : Int) := by rw [wrapu64 (by omega) (by omega)]; omega
  rw [e0, e1, e2, e3]

/-- A number's digits' value. -/
theorem val_range (N : Nat) : ∀ (k j : Nat), val ((List.range' j k).map (dg16 N)) + 65536 ^ k * (N / 2 ^ (16 * (j + k))) = N / 2 ^ (16 * j)
  | 0, j => by simp [val]
  | k + 1, j => by
    have ih := val_range N k (j + 1)
    have hs := dg_step N j
    rw [List.range'_succ, List.map_cons]
    show dg16 N j + 65536 * val ((List.range' (j + 1) k).map (dg16 N)) + _ = _
    rw [show j + (k + 1) = j + 1 + k by omega, Nat.pow_succ, Nat.mul_comm (65536 ^ k), Nat.mul_assoc, hs]
    generalize 65536 ^ k * (N / 2 ^ (16 * (j + 1 + k))) = r at *
    omega

theorem val_D16 {N : Nat} (h : N < 2 ^ 256) : val ((List.range' 0 16).map (dg16 N)) = N := by
  have h1 := val_range N 16 0
  have h2 : N / 2 ^ (16 * (0 + 16)) = 0 := Nat.div_eq_of_lt h
  rw [h2, Nat.mul_zero, Nat.add_zero, Nat.pow_zero, Nat.div_one] at h1
  exact h1

theorem val_add : ∀ (l : List Nat) (f g : Nat → Nat), val (l.map fun q => f q + g q) = val (l.map f) + val (l.map g)
  | [], _, _ => rfl
  | q :: l, f, g => by
    have ih := val_add l f g
    show f q + g q + 65536 * val (l.map fun q => f q + g q) = f q + 65536 * val (l.map f) + (g q + 65536 * val (l.map g))
    omega
end Go.Am
