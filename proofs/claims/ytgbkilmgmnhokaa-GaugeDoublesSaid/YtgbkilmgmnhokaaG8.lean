/-
  THE WALKS: gauge.Float of more than one part.
-/
import Derived.Test.YtgbkilmgmnhokaaG7
set_option linter.unusedSimpArgs false
set_option linter.unusedVariables false
namespace Go.Am
open Go Go.Proofs Go.Fl

theorem shl64 {a z : Nat} (h : a * 2 ^ z < 2 ^ 64) : IntKind.u64.wrap ((a : Int) * 2 ^ z) = ((a * 2 ^ z : Nat) : Int) := by
  have e : ((a : Int) * 2 ^ z) = ((a * 2 ^ z : Nat) : Int) := by simp
  rw [e, wrapu64 (by omega) (by omega)]

theorem shlmod {a z : Nat} : IntKind.u64.wrap ((a : Int) * 2 ^ z) = ((a * 2 ^ z % 2 ^ 64 : Nat) : Int) := by
  have e : ((a : Int) * 2 ^ z) = ((a * 2 ^ z : Nat) : Int) := by simp
  rw [e]
  simp [IntKind.wrap, IntKind.signed, IntKind.bits]

theorem sum_lt {a b z : Nat} (hz : z ≤ 64) (hb : b < 2 ^ z) (h : a * 2 ^ z < 2 ^ 64) : a * 2 ^ z + b < 2 ^ 64 := by
  have e : 2 ^ 64 = 2 ^ (64 - z) * 2 ^ z := by rw [← Nat.pow_add]; congr 1; omega
  rw [e] at h ⊢
  have h1 := Nat.lt_of_mul_lt_mul_right h
  calc a * 2 ^ z + b < a * 2 ^ z + 2 ^ z := by omega
    _ = (a + 1) * 2 ^ z := by rw [Nat.succ_mul]
    _ ≤ _ := Nat.mul_le_mul_right _ h1

theorem or64 {a b z : Nat} (hz : z ≤ 64) (hb : b < 2 ^ z) (h : a * 2 ^ z < 2 ^ 64) : IntKind.u64.wrap ((BitVec.ofInt IntKind.u64.bits ((a * 2 ^ z : Nat) : Int) ||| BitVec.ofInt IntKind.u64.bits (b : Int)).toNat : Int) = ((a * 2 ^ z + b : Nat) : Int) := by
  have hs := sum_lt hz hb h
  have e2 : (BitVec.ofInt IntKind.u64.bits ((a * 2 ^ z : Nat) : Int) ||| BitVec.ofInt IntKind.u64.bits (b : Int)).toNat = a * 2 ^ z + b := by
    show (BitVec.ofInt 64 ((a * 2 ^ z : Nat) : Int) ||| BitVec.ofInt 64 (b : Int)).toNat = a * 2 ^ z + b
    rw [BitVec.toNat_or, bv_nat _ h, bv_nat b (by omega), Nat.mul_comm]
    exact (Nat.two_pow_add_eq_or_of_lt hb a).symm
  rw [e2, wrapu64 (by omega) (by omega)]

theorem or1 {H : Nat} (h : H < 2 ^ 64) : IntKind.u64.wrap ((BitVec.ofInt IntKind.u64.bits (H : Int) ||| BitVec.ofInt IntKind.u64.bits 1).toNat : Int) = ((H ||| 1 : Nat) : Int) := by
  have e2 : (BitVec.ofInt IntKind.u64.bits (H : Int) ||| BitVec.ofInt IntKind.u64.bits 1).toNat = H ||| 1 := by
    show (BitVec.ofInt 64 (H : Int) ||| BitVec.ofInt 64 1).toNat = H ||| 1
    have e1 : (BitVec.ofInt 64 1).toNat = 1 := by decide
    rw [BitVec.toNat_or, bv_nat _ h, e1]
  have hlt : H ||| 1 < 2 ^ 64 := by rw [or_one]; omega
  rw [e2, wrapu64 (by omega) (by omega)]

theorem conv26 (H : Nat) : scVal Try.prog (convert 22 26 (.int .u64 (H : Int))) = some (.s (.fl .f64 (nr H))) := by
  have hx : scVal Try.prog (convert 22 26 (.int .u64 (H : Int))) = some (.s (.fl .f64 (FloatKind.f64.nearest H))) := by kernel_rfl
  have e : FloatKind.f64.nearest (H : Int) = nr H := by
    unfold FloatKind.nearest FloatKind.encode nr
    have : decide ((H : Int) < 0) = false := decide_eq_false (by omega)
    rw [this]; rfl
  rw [hx, e]
end Go.Am
