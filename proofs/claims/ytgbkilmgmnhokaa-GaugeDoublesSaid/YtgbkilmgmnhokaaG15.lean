/-
  THE WALKS: what the laws' arguments are.
-/
import Derived.Test.YtgbkilmgmnhokaaG14
set_option linter.unusedSimpArgs false
set_option linter.unusedVariables false
namespace Go.Am
open Go Go.Proofs Go.Fl

theorem u24 : Try.prog.underlying 24 = some (.array 4 22) := by kernel_rfl

/-- Four parts of a number. -/
def isNum (xs : List AV) (N : Nat) : Prop := ∃ a0 a1 a2 a3 : Nat, a0 < 2 ^ 64 ∧ a1 < 2 ^ 64 ∧ a2 < 2 ^ 64 ∧ a3 < 2 ^ 64 ∧ xs = [.s (.i .u64 a0), .s (.i .u64 a1), .s (.i .u64 a2), .s (.i .u64 a3)] ∧ N = num a0 a1 a2 a3

theorem sh22 {k : Nat} {xs : List AV} (h : Sh Try.prog (k + 1) 22 xs) : ∃ a : Nat, a < 2 ^ 64 ∧ xs = [.s (.i .u64 a)] := by
  unfold Sh at h
  rw [u22] at h
  obtain ⟨n, rfl, hw⟩ := h
  simp only [Lit.wf, IntKind.min, IntKind.max, IntKind.signed, IntKind.bits, Bool.and_eq_true, decide_eq_true_eq] at hw
  refine ⟨n.toNat, ?_, ?_⟩
  · have := hw.1; have := hw.2; simp at *; omega
  · have h0 : 0 ≤ n := by have := hw.1; simp at *; omega
    rw [Int.toNat_of_nonneg h0]

theorem sh24 {k : Nat} {xs : List AV} (h : Sh Try.prog (k + 2) 24 xs) : ∃ N, isNum xs N := by
  unfold Sh at h
  rw [u24] at h
  obtain ⟨els, rfl, hl, he⟩ := h
  match els, hl with
  | [x0, x1, x2, x3], _ =>
    obtain ⟨a0, b0, rfl⟩ := sh22 (he x0 (by simp))
    obtain ⟨a1, b1, rfl⟩ := sh22 (he x1 (by simp))
    obtain ⟨a2, b2, rfl⟩ := sh22 (he x2 (by simp))
    obtain ⟨a3, b3, rfl⟩ := sh22 (he x3 (by simp))
    exact ⟨_, a0, a1, a2, a3, b0, b1, b2, b3, rfl, rfl⟩

theorem shi64 {k : Nat} {xs : List AV} (h : Sh Try.prog (k + 1) 3 xs) : ∃ n : Int, -9223372036854775808 ≤ n ∧ n ≤ 9223372036854775807 ∧ xs = [.s (.i .i64 n)] := by
  unfold Sh at h
  rw [u3] at h
  obtain ⟨n, rfl, hw⟩ := h
  simp only [Lit.wf, IntKind.min, IntKind.max, IntKind.signed, IntKind.bits, Bool.and_eq_true, decide_eq_true_eq] at hw
  refine ⟨n, ?_, ?_, rfl⟩
  · have := hw.1; simp at *; omega
  · have := hw.2; simp at *; omega
theorem u48f : ∃ fs, Try.prog.underlying 48 = some (.struct fs) ∧ fs.size = 2 ∧ (fs[0]?).map (·.type) = some 24 ∧ (fs[1]?).map (·.type) = some 24 := ⟨_, rfl, by kernel_rfl, by kernel_rfl, by kernel_rfl⟩

theorem sh48 {k : Nat} {xs : List AV} (h : Sh Try.prog (k + 3) 48 xs) : ∃ x y N M, xs = x ++ y ∧ isNum x N ∧ isNum y M := by
  obtain ⟨fs, hu, hs, h1, h2⟩ := u48f
  unfold Sh at h
  rw [hu] at h
  obtain ⟨els, rfl, hl, he⟩ := h
  rw [hs] at hl
  match els, hl with
  | [x, y], _ =>
    obtain ⟨f0, e0, t0⟩ := Option.map_eq_some_iff.1 h1
    obtain ⟨f1, e1, t1⟩ := Option.map_eq_some_iff.1 h2
    have g0 := he 0 f0 x e0 rfl
    have g1 := he 1 f1 y e1 rfl
    rw [t0] at g0
    rw [t1] at g1
    obtain ⟨N, hN⟩ := sh24 g0
    obtain ⟨M, hM⟩ := sh24 g1
    exact ⟨x, y, N, M, by simp, hN, hM⟩

theorem arg24 (xs : List AV) : argAV Try.prog 24 xs = .a xs := by unfold argAV; rw [u24]
theorem arg48 (xs : List AV) : argAV Try.prog 48 xs = .a xs := by
  obtain ⟨fs, hu, _⟩ := u48f
  unfold argAV; rw [hu]
theorem arg3 (x : AV) : argAV Try.prog 3 [x] = x := by unfold argAV; rw [u3]; rfl
theorem arg22 (x : AV) : argAV Try.prog 22 [x] = x := by unfold argAV; rw [u22]; rfl

/-- The facts about a number's float. -/
theorem isNum.f12 {xs : List AV} {N : Nat} (h : isNum xs N) (S O : List Blk) : FG 12 [.a xs] S O = some (.s (.fl .f64 (nr N)), S, O) := by
  obtain ⟨a0, a1, a2, a3, h0, h1, h2, h3, rfl, rfl⟩ := h
  exact k12 h0 h1 h2 h3 S O
theorem isNum.f13 {xs : List AV} {N : Nat} (h : isNum xs N) (S O : List Blk) : FG 13 [.a xs] S O = some (.s (.fl .f64 (nr N)), S, O) := by
  obtain ⟨a0, a1, a2, a3, h0, h1, h2, h3, rfl, rfl⟩ := h
  exact k13 h0 h1 h2 h3 S O
theorem isNum.lt {xs : List AV} {N : Nat} (h : isNum xs N) : N < 2 ^ 256 := by
  obtain ⟨a0, a1, a2, a3, h0, h1, h2, h3, rfl, rfl⟩ := h
  exact (num_parts h0 h1 h2 h3).2.2.2.2

theorem hb11 : hasBody Try.prog 11 = true := by kernel_rfl
theorem hb12 : hasBody Try.prog 12 = true := by kernel_rfl
theorem hb13 : hasBody Try.prog 13 = true := by kernel_rfl
theorem hb14 : hasBody Try.prog 14 = true := by kernel_rfl
theorem hb15 : hasBody Try.prog 15 = true := by kernel_rfl
theorem hb16 : hasBody Try.prog 16 = true := by kernel_rfl
theorem hb17 : hasBody Try.prog 17 = true := by kernel_rfl
theorem hb18 : hasBody Try.prog 18 = true := by kernel_rfl
theorem hb19 : hasBody Try.prog 19 = true := by kernel_rfl
theorem hb20 : hasBody Try.prog 20 = true := by kernel_rfl
theorem hb21 : hasBody Try.prog 21 = true := by kernel_rfl
theorem hb22 : hasBody Try.prog 22 = true := by kernel_rfl
theorem hb23 : hasBody Try.prog 23 = true := by kernel_rfl
theorem hb24 : hasBody Try.prog 24 = true := by kernel_rfl
theorem hb25 : hasBody Try.prog 25 = true := by kernel_rfl
theorem hb26 : hasBody Try.prog 26 = true := by kernel_rfl
theorem hb27 : hasBody Try.prog 27 = true := by kernel_rfl
theorem hb33 : hasBody Try.prog 33 = true := by kernel_rfl
theorem hb34 : hasBody Try.prog 34 = true := by kernel_rfl
end Go.Am
