/-
  THE WALKS: what the document's Add comes to.
-/
import Derived.Test.YtgbkilmgmnhokaaG32
set_option linter.unusedSimpArgs false
set_option linter.unusedVariables false
namespace Go.Am
open Go Go.Proofs Go.Fl

theorem D16_list (N : Nat) : D16 N = [iAV ((dg16 N 0 : Nat) : Int), iAV ((dg16 N 1 : Nat) : Int), iAV ((dg16 N 2 : Nat) : Int), iAV ((dg16 N 3 : Nat) : Int), iAV ((dg16 N 4 : Nat) : Int), iAV ((dg16 N 5 : Nat) : Int), iAV ((dg16 N 6 : Nat) : Int), iAV ((dg16 N 7 : Nat) : Int), iAV ((dg16 N 8 : Nat) : Int), iAV ((dg16 N 9 : Nat) : Int), iAV ((dg16 N 10 : Nat) : Int), iAV ((dg16 N 11 : Nat) : Int), iAV ((dg16 N 12 : Nat) : Int), iAV ((dg16 N 13 : Nat) : Int), iAV ((dg16 N 14 : Nat) : Int), iAV ((dg16 N 15 : Nat) : Int)] := rfl

theorem dg16_lt (N q : Nat) : dg16 N q < 65536 := Nat.mod_lt _ (by decide)

theorem wrap_sum (N M q : Nat) : IntKind.u64.wrap (((dg16 N q : Nat) : Int) + ((dg16 M q : Nat) : Int)) = ((dg16 N q + dg16 M q : Nat) : Int) := by
  have := dg16_lt N q
  have := dg16_lt M q
  rw [wrapu64 (by omega) (by omega)]; omega

/-- The digits of both together. -/
theorem sum_digits {N M : Nat} (hN : N < 2 ^ 256) (hM : M < 2 ^ 256) : ∃ d0 d1 d2 d3 d4 d5 d6 d7 d8 d9 d10 d11 d12 d13 d14 d15 d16 : Nat, (carI [IntKind.u64.wrap (((dg16 N 0 : Nat) : Int) + ((dg16 M 0 : Nat) : Int)), IntKind.u64.wrap (((dg16 N 1 : Nat) : Int) + ((dg16 M 1 : Nat) : Int)), IntKind.u64.wrap (((dg16 N 2 : Nat) : Int) + ((dg16 M 2 : Nat) : Int)), IntKind.u64.wrap (((dg16 N 3 : Nat) : Int) + ((dg16 M 3 : Nat) : Int)), IntKind.u64.wrap (((dg16 N 4 : Nat) : Int) + ((dg16 M 4 : Nat) : Int)), IntKind.u64.wrap (((dg16 N 5 : Nat) : Int) + ((dg16 M 5 : Nat) : Int)), IntKind.u64.wrap (((dg16 N 6 : Nat) : Int) + ((dg16 M 6 : Nat) : Int)), IntKind.u64.wrap (((dg16 N 7 : Nat) : Int) + ((dg16 M 7 : Nat) : Int)), IntKind.u64.wrap (((dg16 N 8 : Nat) : Int) + ((dg16 M 8 : Nat) : Int)), IntKind.u64.wrap (((dg16 N 9 : Nat) : Int) + ((dg16 M 9 : Nat) : Int)), IntKind.u64.wrap (((dg16 N 10 : Nat) : Int) + ((dg16 M 10 : Nat) : Int)), IntKind.u64.wrap (((dg16 N 11 : Nat) : Int) + ((dg16 M 11 : Nat) : Int)), IntKind.u64.wrap (((dg16 N 12 : Nat) : Int) + ((dg16 M 12 : Nat) : Int)), IntKind.u64.wrap (((dg16 N 13 : Nat) : Int) + ((dg16 M 13 : Nat) : Int)), IntKind.u64.wrap (((dg16 N 14 : Nat) : Int) + ((dg16 M 14 : Nat) : Int)), IntKind.u64.wrap (((dg16 N 15 : Nat) : Int) + ((dg16 M 15 : Nat) : Int))] 0).map iAV = [iAV ((d0 : Nat) : Int), iAV ((d1 : Nat) : Int), iAV ((d2 : Nat) : Int), iAV ((d3 : Nat) : Int), iAV ((d4 : Nat) : Int), iAV ((d5 : Nat) : Int), iAV ((d6 : Nat) : Int), iAV ((d7 : Nat) : Int), iAV ((d8 : Nat) : Int), iAV ((d9 : Nat) : Int), iAV ((d10 : Nat) : Int), iAV ((d11 : Nat) : Int), iAV ((d12 : Nat) : Int), iAV ((d13 : Nat) : Int), iAV ((d14 : Nat) : Int), iAV ((d15 : Nat) : Int), iAV ((d16 : Nat) : Int)] ∧
    d0 + 65536 * (d1 + 65536 * (d2 + 65536 * (d3 + 65536 * (d4 + 65536 * (d5 + 65536 * (d6 + 65536 * (d7 + 65536 * (d8 + 65536 * (d9 + 65536 * (d10 + 65536 * (d11 + 65536 * (d12 + 65536 * (d13 + 65536 * (d14 + 65536 * (d15 + 65536 * (d16 + 65536 * 0)))))))))))))))) = N + M ∧ d0 < 65536 ∧ d1 < 65536 ∧ d2 < 65536 ∧ d3 < 65536 ∧ d4 < 65536 ∧ d5 < 65536 ∧ d6 < 65536 ∧ d7 < 65536 ∧ d8 < 65536 ∧ d9 < 65536 ∧ d10 < 65536 ∧ d11 < 65536 ∧ d12 < 65536 ∧ d13 < 65536 ∧ d14 < 65536 ∧ d15 < 65536 := by
  let l := (List.range' 0 16).map fun q => dg16 N q + dg16 M q
  have hl : ∀ x ∈ l, x < 2 ^ 32 := fun x hx => by
    obtain ⟨q, _, rfl⟩ := List.mem_map.1 hx
    have := dg16_lt N q
    have := dg16_lt M q
    omega
  have hc := carI_cast l 0 hl (by decide)
  have hv := cdig_val l 0
  rw [Nat.zero_add, show val l = val ((List.range' 0 16).map (dg16 N)) + val ((List.range' 0 16).map (dg16 M)) from val_add _ _ _, val_D16 hN, val_D16 hM] at hv
  have hlow := cdig_low l 0
  have hlen : l.length = 16 := rfl
  rw [hlen] at hlow
  obtain ⟨d0, d1, d2, d3, d4, d5, d6, d7, d8, d9, d10, d11, d12, d13, d14, d15, d16, hd⟩ : ∃ d0 d1 d2 d3 d4 d5 d6 d7 d8 d9 d10 d11 d12 d13 d14 d15 d16 : Nat, cdig l 0 = [d0, d1, d2, d3, d4, d5, d6, d7, d8, d9, d10, d11, d12, d13, d14, d15, d16] := ⟨_, _, _, _, _, _, _, _, _, _, _, _, _, _, _, _, _, rfl⟩
  rw [hd] at hc hv hlow
  refine ⟨d0, d1, d2, d3, d4, d5, d6, d7, d8, d9, d10, d11, d12, d13, d14, d15, d16, ?_, hv, hlow 0 (by omega), hlow 1 (by omega), hlow 2 (by omega), hlow 3 (by omega), hlow 4 (by omega), hlow 5 (by omega), hlow 6 (by omega), hlow 7 (by omega), hlow 8 (by omega), hlow 9 (by omega), hlow 10 (by omega), hlow 11 (by omega), hlow 12 (by omega), hlow 13 (by omega), hlow 14 (by omega), hlow 15 (by omega)⟩
  have e : [IntKind.u64.wrap (((dg16 N 0 : Nat) : Int) + ((dg16 M 0 : Nat) : Int)), IntKind.u64.wrap (((dg16 N 1 : Nat) : Int) + ((dg16 M 1 : Nat) : Int)), IntKind.u64.wrap (((dg16 N 2 : Nat) : Int) + ((dg16 M 2 : Nat) : Int)), IntKind.u64.wrap (((dg16 N 3 : Nat) : Int) + ((dg16 M 3 : Nat) : Int)), IntKind.u64.wrap (((dg16 N 4 : Nat) : Int) + ((dg16 M 4 : Nat) : Int)), IntKind.u64.wrap (((dg16 N 5 : Nat) : Int) + ((dg16 M 5 : Nat) : Int)), IntKind.u64.wrap (((dg16 N 6 : Nat) : Int) + ((dg16 M 6 : Nat) : Int)), IntKind.u64.wrap (((dg16 N 7 : Nat) : Int) + ((dg16 M 7 : Nat) : Int)), IntKind.u64.wrap (((dg16 N 8 : Nat) : Int) + ((dg16 M 8 : Nat) : Int)), IntKind.u64.wrap (((dg16 N 9 : Nat) : Int) + ((dg16 M 9 : Nat) : Int)), IntKind.u64.wrap (((dg16 N 10 : Nat) : Int) + ((dg16 M 10 : Nat) : Int)), IntKind.u64.wrap (((dg16 N 11 : Nat) : Int) + ((dg16 M 11 : Nat) : Int)), IntKind.u64.wrap (((dg16 N 12 : Nat) : Int) + ((dg16 M 12 : Nat) : Int)), IntKind.u64.wrap (((dg16 N 13 : Nat) : Int) + ((dg16 M 13 : Nat) : Int)), IntKind.u64.wrap (((dg16 N 14 : Nat) : Int) + ((dg16 M 14 : Nat) : Int)), IntKind.u64.wrap (((dg16 N 15 : Nat) : Int) + ((dg16 M 15 : Nat) : Int))] = l.map fun n : Nat => ((n : Nat) : Int) := by
    simp only [wrap_sum]; rfl
  have e2 := congrArg (fun z => (carI z 0).map iAV) e
  refine e2.trans ?_
  show (carI (l.map fun n : Nat => ((n : Nat) : Int)) ((0 : Nat) : Int)).map iAV = _
  rw [hc]; rfl

theorem p_lt {a b c d : Nat} (ha : a < 65536) (hb : b < 65536) (hc : c < 65536) (hd : d < 65536) : a + b * 2 ^ 16 + c * 2 ^ 32 + d * 2 ^ 48 < 2 ^ 64 := by omega

theorem num_val (d0 d1 d2 d3 d4 d5 d6 d7 d8 d9 d10 d11 d12 d13 d14 d15 d16 : Nat) : num (d0 + d1 * 2 ^ 16 + d2 * 2 ^ 32 + d3 * 2 ^ 48) (d4 + d5 * 2 ^ 16 + d6 * 2 ^ 32 + d7 * 2 ^ 48) (d8 + d9 * 2 ^ 16 + d10 * 2 ^ 32 + d11 * 2 ^ 48) (d12 + d13 * 2 ^ 16 + d14 * 2 ^ 32 + d15 * 2 ^ 48) + d16 * 2 ^ 256 = d0 + 65536 * (d1 + 65536 * (d2 + 65536 * (d3 + 65536 * (d4 + 65536 * (d5 + 65536 * (d6 + 65536 * (d7 + 65536 * (d8 + 65536 * (d9 + 65536 * (d10 + 65536 * (d11 + 65536 * (d12 + 65536 * (d13 + 65536 * (d14 + 65536 * (d15 + 65536 * (d16 + 65536 * 0)))))))))))))))) := by
  unfold num; omega

theorem of_ok (d0 d1 d2 d3 d4 d5 d6 d7 d8 d9 d10 d11 d12 d13 d14 d15 : Nat) (l0 : d0 < 65536) (l1 : d1 < 65536) (l2 : d2 < 65536) (l3 : d3 < 65536) (l4 : d4 < 65536) (l5 : d5 < 65536) (l6 : d6 < 65536) (l7 : d7 < 65536) (l8 : d8 < 65536) (l9 : d9 < 65536) (l10 : d10 < 65536) (l11 : d11 < 65536) (l12 : d12 < 65536) (l13 : d13 < 65536) (l14 : d14 < 65536) (l15 : d15 < 65536) :
    ValidAt Try.prog 33 [.l 17 [iAV ((d0 : Nat) : Int), iAV ((d1 : Nat) : Int), iAV ((d2 : Nat) : Int), iAV ((d3 : Nat) : Int), iAV ((d4 : Nat) : Int), iAV ((d5 : Nat) : Int), iAV ((d6 : Nat) : Int), iAV ((d7 : Nat) : Int), iAV ((d8 : Nat) : Int), iAV ((d9 : Nat) : Int), iAV ((d10 : Nat) : Int), iAV ((d11 : Nat) : Int), iAV ((d12 : Nat) : Int), iAV ((d13 : Nat) : Int), iAV ((d14 : Nat) : Int), iAV ((d15 : Nat) : Int), iAV ((0 : Nat) : Int)]] [] [] (.t [.a [iAV (((d0 + d1 * 2 ^ 16 + d2 * 2 ^ 32 + d3 * 2 ^ 48) : Nat) : Int), iAV (((d4 + d5 * 2 ^ 16 + d6 * 2 ^ 32 + d7 * 2 ^ 48) : Nat) : Int), iAV (((d8 + d9 * 2 ^ 16 + d10 * 2 ^ 32 + d11 * 2 ^ 48) : Nat) : Int), iAV (((d12 + d13 * 2 ^ 16 + d14 * 2 ^ 32 + d15 * 2 ^ 48) : Nat) : Int)], .s (.b true)]) [] [] := by
  have h33 := xBody_valid orders hFG qFG (of33_ok FG ((d0 : Nat) : Int) ((d1 : Nat) : Int) ((d2 : Nat) : Int) ((d3 : Nat) : Int) ((d4 : Nat) : Int) ((d5 : Nat) : Int) ((d6 : Nat) : Int) ((d7 : Nat) : Int) ((d8 : Nat) : Int) ((d9 : Nat) : Int) ((d10 : Nat) : Int) ((d11 : Nat) : Int) ((d12 : Nat) : Int) ((d13 : Nat) : Int) ((d14 : Nat) : Int) ((d15 : Nat) : Int))
  rw [pI_cast l0 l1 l2 l3, pI_cast l4 l5 l6 l7, pI_cast l8 l9 l10 l11, pI_cast l12 l13 l14 l15] at h33
  exact h33

theorem of_no (d0 d1 d2 d3 d4 d5 d6 d7 d8 d9 d10 d11 d12 d13 d14 d15 : Nat) :
    ValidAt Try.prog 33 [.l 17 [iAV ((d0 : Nat) : Int), iAV ((d1 : Nat) : Int), iAV ((d2 : Nat) : Int), iAV ((d3 : Nat) : Int), iAV ((d4 : Nat) : Int), iAV ((d5 : Nat) : Int), iAV ((d6 : Nat) : Int), iAV ((d7 : Nat) : Int), iAV ((d8 : Nat) : Int), iAV ((d9 : Nat) : Int), iAV ((d10 : Nat) : Int), iAV ((d11 : Nat) : Int), iAV ((d12 : Nat) : Int), iAV ((d13 : Nat) : Int), iAV ((d14 : Nat) : Int), iAV ((d15 : Nat) : Int), iAV ((1 : Nat) : Int)]] [] [] (.t [.a [iAV 0, iAV 0, iAV 0, iAV 0], .s (.b false)]) [] [] :=
  xBody_valid orders hFG qFG (of33_no FG ((d0 : Nat) : Int) ((d1 : Nat) : Int) ((d2 : Nat) : Int) ((d3 : Nat) : Int) ((d4 : Nat) : Int) ((d5 : Nat) : Int) ((d6 : Nat) : Int) ((d7 : Nat) : Int) ((d8 : Nat) : Int) ((d9 : Nat) : Int) ((d10 : Nat) : Int) ((d11 : Nat) : Int) ((d12 : Nat) : Int) ((d13 : Nat) : Int) ((d14 : Nat) : Int) ((d15 : Nat) : Int))

theorem add_of {a0 a1 a2 a3 b0 b1 b2 b3 N M : Nat} (p0 : a0 < 2 ^ 64) (p1 : a1 < 2 ^ 64) (p2 : a2 < 2 ^ 64) (p3 : a3 < 2 ^ 64) (q0 : b0 < 2 ^ 64) (q1 : b1 < 2 ^ 64) (q2 : b2 < 2 ^ 64) (q3 : b3 < 2 ^ 64) (hNn : N = num a0 a1 a2 a3) (hMm : M = num b0 b1 b2 b3)
    (Y : List AV) (hY : (carI [IntKind.u64.wrap (((dg16 N 0 : Nat) : Int) + ((dg16 M 0 : Nat) : Int)), IntKind.u64.wrap (((dg16 N 1 : Nat) : Int) + ((dg16 M 1 : Nat) : Int)), IntKind.u64.wrap (((dg16 N 2 : Nat) : Int) + ((dg16 M 2 : Nat) : Int)), IntKind.u64.wrap (((dg16 N 3 : Nat) : Int) + ((dg16 M 3 : Nat) : Int)), IntKind.u64.wrap (((dg16 N 4 : Nat) : Int) + ((dg16 M 4 : Nat) : Int)), IntKind.u64.wrap (((dg16 N 5 : Nat) : Int) + ((dg16 M 5 : Nat) : Int)), IntKind.u64.wrap (((dg16 N 6 : Nat) : Int) + ((dg16 M 6 : Nat) : Int)), IntKind.u64.wrap (((dg16 N 7 : Nat) : Int) + ((dg16 M 7 : Nat) : Int)), IntKind.u64.wrap (((dg16 N 8 : Nat) : Int) + ((dg16 M 8 : Nat) : Int)), IntKind.u64.wrap (((dg16 N 9 : Nat) : Int) + ((dg16 M 9 : Nat) : Int)), IntKind.u64.wrap (((dg16 N 10 : Nat) : Int) + ((dg16 M 10 : Nat) : Int)), IntKind.u64.wrap (((dg16 N 11 : Nat) : Int) + ((dg16 M 11 : Nat) : Int)), IntKind.u64.wrap (((dg16 N 12 : Nat) : Int) + ((dg16 M 12 : Nat) : Int)), IntKind.u64.wrap (((dg16 N 13 : Nat) : Int) + ((dg16 M 13 : Nat) : Int)), IntKind.u64.wrap (((dg16 N 14 : Nat) : Int) + ((dg16 M 14 : Nat) : Int)), IntKind.u64.wrap (((dg16 N 15 : Nat) : Int) + ((dg16 M 15 : Nat) : Int))] 0).map iAV = Y) (z0 z1 z2 z3 : Int) (ok : Bool) (h33 : ValidAt Try.prog 33 [.l 17 Y] [] [] (.t [.a [iAV z0, iAV z1, iAV z2, iAV z3], .s (.b ok)]) [] []) :
    ValidAt Try.prog 15 [.a [.s (.i .u64 a0), .s (.i .u64 a1), .s (.i .u64 a2), .s (.i .u64 a3)], .a [.s (.i .u64 b0), .s (.i .u64 b1), .s (.i .u64 b2), .s (.i .u64 b3)]] [] [] (.t [.a [iAV z0, iAV z1, iAV z2, iAV z3], .s (.b ok)]) [] [] := by
  have ex := digs_eq p0 p1 p2 p3
  have ey := digs_eq q0 q1 q2 q3
  rw [← hNn, D16_list] at ex
  rw [← hMm, D16_list] at ey
  have hF := FK_valid Try.prog (fun _ _ => .t [.a [iAV z0, iAV z1, iAV z2, iAV z3], .s (.b ok)])
  have hq := FK_calm Try.prog (fun _ _ => .t [.a [iAV z0, iAV z1, iAV z2, iAV z3], .s (.b ok)]) (fun _ => true)
  have k33 : ∀ S O, FK Try.prog (fun _ _ => .t [.a [iAV z0, iAV z1, iAV z2, iAV z3], .s (.b ok)]) 33 [.l 17 Y] S O = some (.t [.a [iAV z0, iAV z1, iAV z2, iAV z3], .s (.b ok)], S, O) := FK_eq h33 rfl rfl rfl
  rw [← hY] at k33
  exact add15 hF hq a0 a1 a2 a3 b0 b1 b2 b3 ((dg16 N 0 : Nat) : Int) ((dg16 N 1 : Nat) : Int) ((dg16 N 2 : Nat) : Int) ((dg16 N 3 : Nat) : Int) ((dg16 N 4 : Nat) : Int) ((dg16 N 5 : Nat) : Int) ((dg16 N 6 : Nat) : Int) ((dg16 N 7 : Nat) : Int) ((dg16 N 8 : Nat) : Int) ((dg16 N 9 : Nat) : Int) ((dg16 N 10 : Nat) : Int) ((dg16 N 11 : Nat) : Int) ((dg16 N 12 : Nat) : Int) ((dg16 N 13 : Nat) : Int) ((dg16 N 14 : Nat) : Int) ((dg16 N 15 : Nat) : Int) ((dg16 M 0 : Nat) : Int) ((dg16 M 1 : Nat) : Int) ((dg16 M 2 : Nat) : Int) ((dg16 M 3 : Nat) : Int) ((dg16 M 4 : Nat) : Int) ((dg16 M 5 : Nat) : Int) ((dg16 M 6 : Nat) : Int) ((dg16 M 7 : Nat) : Int) ((dg16 M 8 : Nat) : Int) ((dg16 M 9 : Nat) : Int) ((dg16 M 10 : Nat) : Int) ((dg16 M 11 : Nat) : Int) ((dg16 M 12 : Nat) : Int) ((dg16 M 13 : Nat) : Int) ((dg16 M 14 : Nat) : Int) ((dg16 M 15 : Nat) : Int) ex ey z0 z1 z2 z3 ok k33

/-- Both together: the number, if it can be. -/
theorem add_spec {xs ys : List AV} {N M : Nat} (hx : isNum xs N) (hy : isNum ys M) :
    ∃ zs ok, ValidAt Try.prog 15 [.a xs, .a ys] [] [] (.t [.a zs, .s (.b ok)]) [] [] ∧ (ok = true → isNum zs (N + M)) ∧ (ok = false → ∃ K, isNum zs K) := by
  obtain ⟨d0, d1, d2, d3, d4, d5, d6, d7, d8, d9, d10, d11, d12, d13, d14, d15, d16, hY, hval, l0, l1, l2, l3, l4, l5, l6, l7, l8, l9, l10, l11, l12, l13, l14, l15⟩ := sum_digits hx.lt hy.lt
  have hv := num_val d0 d1 d2 d3 d4 d5 d6 d7 d8 d9 d10 d11 d12 d13 d14 d15 d16
  rw [hval] at hv
  have hNlt := hx.lt
  have hMlt := hy.lt
  obtain ⟨a0, a1, a2, a3, p0, p1, p2, p3, rfl, hNn⟩ := hx
  obtain ⟨b0, b1, b2, b3, q0, q1, q2, q3, rfl, hMm⟩ := hy
  have h16 : d16 = 0 ∨ d16 = 1 := by omega
  rcases h16 with rfl | rfl
  · have h := add_of p0 p1 p2 p3 q0 q1 q2 q3 hNn hMm _ hY _ _ _ _ true (of_ok d0 d1 d2 d3 d4 d5 d6 d7 d8 d9 d10 d11 d12 d13 d14 d15 l0 l1 l2 l3 l4 l5 l6 l7 l8 l9 l10 l11 l12 l13 l14 l15)
    refine ⟨_, true, h, fun _ => ⟨(d0 + d1 * 2 ^ 16 + d2 * 2 ^ 32 + d3 * 2 ^ 48), (d4 + d5 * 2 ^ 16 + d6 * 2 ^ 32 + d7 * 2 ^ 48), (d8 + d9 * 2 ^ 16 + d10 * 2 ^ 32 + d11 * 2 ^ 48), (d12 + d13 * 2 ^ 16 + d14 * 2 ^ 32 + d15 * 2 ^ 48), p_lt l0 l1 l2 l3, p_lt l4 l5 l6 l7, p_lt l8 l9 l10 l11, p_lt l12 l13 l14 l15, rfl, by rw [Nat.zero_mul, Nat.add_zero] at hv; exact hv.symm⟩, fun h => by cases h⟩
  · have h := add_of p0 p1 p2 p3 q0 q1 q2 q3 hNn hMm _ hY _ _ _ _ false (of_no d0 d1 d2 d3 d4 d5 d6 d7 d8 d9 d10 d11 d12 d13 d14 d15)
    exact ⟨_, false, h, (fun h => by cases h), fun _ => ⟨num 0 0 0 0, 0, 0, 0, 0, by decide, by decide, by decide, by decide, rfl, rfl⟩⟩
end Go.Am
