/-
  THE WALKS: both floats are the nearest one.
-/
import Derived.Test.YtgbkilmgmnhokaaG13
set_option linter.unusedSimpArgs false
set_option linter.unusedVariables false
namespace Go.Am
open Go Go.Proofs Go.Fl

theorem mod_bit (x : Nat) {k m : Nat} (h : m < k) : x % 2 ^ k / 2 ^ m % 2 = x / 2 ^ m % 2 := by
  have hk : 2 ^ k = 2 ^ m * 2 ^ (k - m) := by rw [← Nat.pow_add]; congr 1; omega
  rw [hk, Nat.mod_mul_right_div_self]
  have h2 : 2 ∣ 2 ^ (k - m) := by
    have : k - m = (k - m - 1) + 1 := by omega
    rw [this, Nat.pow_succ]; exact Nat.dvd_mul_left _ _
  exact Nat.mod_mod_of_dvd _ h2

/-- A digit of a number. -/
def dg16 (N q : Nat) : Nat := N / 2 ^ (16 * q) % 65536

theorem dg16_bit (N i : Nat) : dg16 N (i / 16) / 2 ^ (i % 16) % 2 = N / 2 ^ i % 2 := by
  unfold dg16
  have := mod_bit (N / 2 ^ (16 * (i / 16))) (k := 16) (m := i % 16) (by omega)
  rw [show (65536 : Nat) = 2 ^ 16 from rfl, this, Nat.div_div_eq_div_mul, ← Nat.pow_add, show 16 * (i / 16) + i % 16 = i by omega]

theorem tmod16 (y : Nat) : (y : Int).tmod 65536 = ((y % 65536 : Nat) : Int) := by
  rw [Int.tmod_eq_emod_of_nonneg (by omega)]; rfl

theorem digAV_eq (a s : Nat) (hs : s ≤ 64) : digAV a s = .s (.i .u64 ((a / 2 ^ s % 65536 : Nat) : Int)) := by
  unfold digAV
  rw [Nat.min_eq_left hs, fdiv_nat, tmod16]

def D16 (N : Nat) : List AV := (List.range 16).map fun q => .s (.i .u64 ((dg16 N q : Nat) : Int))

theorem num_parts {a0 a1 a2 a3 : Nat} (h0 : a0 < 2 ^ 64) (h1 : a1 < 2 ^ 64) (h2 : a2 < 2 ^ 64) (h3 : a3 < 2 ^ 64) :
    num a0 a1 a2 a3 % 2 ^ 64 = a0 ∧ num a0 a1 a2 a3 / 2 ^ 64 % 2 ^ 64 = a1 ∧ num a0 a1 a2 a3 / 2 ^ 128 % 2 ^ 64 = a2 ∧ num a0 a1 a2 a3 / 2 ^ 192 = a3 ∧ num a0 a1 a2 a3 < 2 ^ 256 := by
  unfold num; omega

theorem digs_eq {a0 a1 a2 a3 : Nat} (h0 : a0 < 2 ^ 64) (h1 : a1 < 2 ^ 64) (h2 : a2 < 2 ^ 64) (h3 : a3 < 2 ^ 64) : digsAV a0 a1 a2 a3 = D16 (num a0 a1 a2 a3) := by
  obtain ⟨p0, p1, p2, p3, p4⟩ := num_parts h0 h1 h2 h3
  generalize num a0 a1 a2 a3 = N at *
  have e : ∀ q, q < 4 → ∀ x, N / 2 ^ (64 * x) % 2 ^ 64 / 2 ^ (16 * q) % 65536 = N / 2 ^ (16 * (4 * x + q)) % 65536 := fun q hq x => by
    have hk : 2 ^ 64 = 2 ^ (16 * q) * 2 ^ (64 - 16 * q) := by rw [← Nat.pow_add]; congr 1; omega
    rw [hk, Nat.mod_mul_right_div_self]
    have hd : 65536 ∣ 2 ^ (64 - 16 * q) := by
      rw [show 65536 = 2 ^ 16 from rfl]; exact Nat.pow_dvd_pow _ (by omega)
    rw [Nat.mod_mod_of_dvd _ hd, Nat.div_div_eq_div_mul, ← Nat.pow_add, show 64 * x + 16 * q = 16 * (4 * x + q) by omega]
  have p3' : N / 2 ^ 192 % 2 ^ 64 = a3 := by rw [p3]; omega
  have q0 := fun q hq => e q hq 0
  have q1 := fun q hq => e q hq 1
  have q2 := fun q hq => e q hq 2
  have q3 := fun q hq => e q hq 3
  simp only [Nat.mul_zero, Nat.pow_zero, Nat.div_one, Nat.mul_one, p0, p1] at q0 q1
  rw [show 64 * 2 = 128 from rfl, p2] at q2
  rw [show 64 * 3 = 192 from rfl, p3'] at q3
  unfold digsAV D16 dg16
  simp only [digAV_eq _ _ (show 0 ≤ 64 by decide), digAV_eq _ _ (show 16 ≤ 64 by decide), digAV_eq _ _ (show 32 ≤ 64 by decide), digAV_eq _ _ (show 48 ≤ 64 by decide)]
  have s0 : ∀ a, a / 2 ^ 0 % 65536 = a / 2 ^ (16 * 0) % 65536 := fun _ => rfl
  have s1 : ∀ a, a / 2 ^ 16 % 65536 = a / 2 ^ (16 * 1) % 65536 := fun _ => rfl
  have s2 : ∀ a, a / 2 ^ 32 % 65536 = a / 2 ^ (16 * 2) % 65536 := fun _ => rfl
  have s3 : ∀ a, a / 2 ^ 48 % 65536 = a / 2 ^ (16 * 3) % 65536 := fun _ => rfl
  rw [s0 a0, s1 a0, s2 a0, s3 a0, s0 a1, s1 a1, s2 a1, s3 a1, s0 a2, s1 a2, s2 a2, s3 a2, s0 a3, s1 a3, s2 a3, s3 a3]
  rw [q0 0 (by omega), q0 1 (by omega), q0 2 (by omega), q0 3 (by omega), q1 0 (by omega), q1 1 (by omega), q1 2 (by omega), q1 3 (by omega),
    q2 0 (by omega), q2 1 (by omega), q2 2 (by omega), q2 3 (by omega), q3 0 (by omega), q3 1 (by omega), q3 2 (by omega), q3 3 (by omega)]
  rfl

theorem D16_ld (N q : Nat) (hq : q < 16) : partAV Try.prog 22 ((D16 N).drop (q * 1)) 0 = some (.s (.i .u64 ((dg16 N q : Nat) : Int))) := by
  have hl : q < (D16 N).length := by simpa [D16] using hq
  rw [Nat.mul_one, List.drop_eq_getElem_cons hl]
  simp [partAV, ag22, sz22, D16]

theorem D16_still (N : Nat) : AV.stillL (D16 N) = true := by
  unfold D16
  generalize List.range 16 = l
  induction l with
  | nil => rfl
  | cons x xs ih => simp only [List.map_cons, AV.stillL, AV.still, ih, Bool.and_self]

theorem k32 {a0 a1 a2 a3 : Nat} (h0 : a0 < 2 ^ 64) (h1 : a1 < 2 ^ 64) (h2 : a2 < 2 ^ 64) (h3 : a3 < 2 ^ 64) (S O : List Blk) : FG 32 [.a [.s (.i .u64 a0), .s (.i .u64 a1), .s (.i .u64 a2), .s (.i .u64 a3)]] S O = some (.l 16 (D16 (num a0 a1 a2 a3)), S, O) := by
  rw [← digs_eq h0 h1 h2 h3]
  exact FK_eq (xBody_valid orders hFG qFG (digits32 FG a0 a1 a2 a3)) rfl rfl rfl S O

theorem float13_zero : ValidAt Try.prog 13 [.a [.s (.i .u64 (0 : Nat)), .s (.i .u64 (0 : Nat)), .s (.i .u64 (0 : Nat)), .s (.i .u64 (0 : Nat))]] [] [] (.s (.fl .f64 0)) [] [] := by
  have h : xTab Try.prog (fun _ _ => none) (fun _ _ => false) (fun _ => false) 1000 10 13 [.a [.s (.i .u64 (0 : Nat)), .s (.i .u64 (0 : Nat)), .s (.i .u64 (0 : Nat)), .s (.i .u64 (0 : Nat))]] [] [] = some (.s (.fl .f64 0), [], []) := by kernel_rfl
  exact xTab_valid orders (fun _ _ _ h => by cases h) 10 _ _ _ _ _ _ _ h

theorem k13v {a0 a1 a2 a3 : Nat} (h0 : a0 < 2 ^ 64) (h1 : a1 < 2 ^ 64) (h2 : a2 < 2 ^ 64) (h3 : a3 < 2 ^ 64) : ValidAt Try.prog 13 [.a [.s (.i .u64 a0), .s (.i .u64 a1), .s (.i .u64 a2), .s (.i .u64 a3)]] [] [] (.s (.fl .f64 (nr (num a0 a1 a2 a3)))) [] [] := by
  by_cases hz : num a0 a1 a2 a3 = 0
  · have e : a0 = 0 ∧ a1 = 0 ∧ a2 = 0 ∧ a3 = 0 := by unfold num at hz; omega
    obtain ⟨rfl, rfl, rfl, rfl⟩ := e
    rw [hz, nr_zero]
    exact float13_zero
  · have hk := k32 h0 h1 h2 h3
    have h256 := (num_parts h0 h1 h2 h3).2.2.2.2
    refine float13 hFG qFG a0 a1 a2 a3 _ (dg16 (num a0 a1 a2 a3)) _ ((num a0 a1 a2 a3).log2 + 1) (by omega) ((Nat.log2_lt hz).2 h256) Nat.lt_log2_self ?_ (fun i _ => dg16_bit _ i) (D16_ld _) hk
    have h3 : 2 ^ (num a0 a1 a2 a3).log2 ≤ num a0 a1 a2 a3 := Nat.log2_self_le hz
    have h4 : num a0 a1 a2 a3 < 2 ^ ((num a0 a1 a2 a3).log2 + 1) := Nat.lt_log2_self
    rw [Nat.add_sub_cancel]
    have h5 := (Nat.le_div_iff_mul_le (Nat.two_pow_pos (num a0 a1 a2 a3).log2)).2 (by rw [Nat.one_mul]; exact h3 : 1 * 2 ^ (num a0 a1 a2 a3).log2 ≤ _)
    have h6 : num a0 a1 a2 a3 / 2 ^ (num a0 a1 a2 a3).log2 < 2 := by
      rw [Nat.div_lt_iff_lt_mul (Nat.two_pow_pos _)]; rw [Nat.pow_succ] at h4; omega
    omega

theorem k13 {a0 a1 a2 a3 : Nat} (h0 : a0 < 2 ^ 64) (h1 : a1 < 2 ^ 64) (h2 : a2 < 2 ^ 64) (h3 : a3 < 2 ^ 64) (S O : List Blk) : FG 13 [.a [.s (.i .u64 a0), .s (.i .u64 a1), .s (.i .u64 a2), .s (.i .u64 a3)]] S O = some (.s (.fl .f64 (nr (num a0 a1 a2 a3))), S, O) :=
  FK_eq (k13v h0 h1 h2 h3) rfl rfl rfl S O

theorem turns11 : ValidAt Try.prog 11 [] [] [] (.s (.b true)) [] [] := by
  have h : xTab Try.prog (fun _ _ => none) (fun _ _ => false) (fun _ => false) 1000 10 11 [] [] [] = some (.s (.b true), [], []) := by kernel_rfl
  exact xTab_valid orders (fun _ _ _ h => by cases h) 10 _ _ _ _ _ _ _ h
theorem k11 (S O : List Blk) : FG 11 [] S O = some (.s (.b true), S, O) := FK_eq turns11 rfl rfl rfl S O
end Go.Am
