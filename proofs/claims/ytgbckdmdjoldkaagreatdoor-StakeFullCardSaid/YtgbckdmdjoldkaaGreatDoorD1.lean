/-
  slices.Backward over numbers; what it yields, for every loop body.
-/
import Derived.RangeFuncBox
import Derived.RangeFuncLeaves
import Derived.RangeFuncCalls
import Derived.Shelf.Abstract
import Derived.WalkKit
import Derived.OwnWalkIn
import Derived.TacticsInMore
import Derived.LoopNIn
import Derived.LoopIn
import Derived.Test.YtgbckdmdjoldkaaGreatDoorProg
set_option linter.unusedSimpArgs false
set_option linter.unusedVariables false
namespace Go.Proofs.YtgbckdmdjoldkaaGreatDoor
open Go.RowKit Go.Shelf Go.Proofs
attribute [local go_sem] Oper.semAt_some

/-- From the last one down. -/
def back (zs : List Int) (j : Nat) : Nat × Int := (zs.length - 1 - j, zs[zs.length - 1 - j]?.getD 0)

/-- Below n₀ nothing has turned but block X. -/
structure Ko (n₀ X : Nat) (w w' : World) : Prop where
  os : w'.os = w.os
  tape : w'.tape = w.tape
  output : w'.output = w.output
  size : w.heap.size ≤ w'.heap.size
  block : ∀ k, k < n₀ → k ≠ X → w'.heap[k]? = w.heap[k]?
theorem Ko.refl (n₀ X : Nat) (w : World) : Ko n₀ X w w := ⟨rfl, rfl, rfl, Nat.le_refl _, fun _ _ _ => rfl⟩
theorem Ko.trans {n₀ X : Nat} {a b c : World} (h : Ko n₀ X a b) (k : Ko n₀ X b c) : Ko n₀ X a c :=
  ⟨k.os.trans h.os, k.tape.trans h.tape, k.output.trans h.output, Nat.le_trans h.size k.size, fun i hi hx => (k.block i hi hx).trans (h.block i hi hx)⟩
theorem Ko.cell {n₀ X : Nat} {w w' : World} (h : Ko n₀ X w w') {p : Addr} (hp : p.block < n₀) (hx : p.block ≠ X) : w'.cell? p = w.cell? p := World.cell?_of_block (w := w) (h.block p.block hp hx)
theorem Ko.of {n₀ X : Nat} {w w' : World} (h : Below n₀ w w') : Ko n₀ X w w' := ⟨h.os, h.tape, h.output, h.size, fun k hk _ => h.block k hk⟩
theorem Ko.below {n₀ : Nat} {w w' : World} (h : Ko n₀ n₀ w w') : Below n₀ w w' := ⟨h.os, h.tape, h.output, h.size, fun k hk => h.block k hk (by omega)⟩
theorem ko_b {n₀ X : Nat} {w : World} (hn : n₀ ≤ w.heap.size) (W : World) (l : Nat) (o o' : Obj) (hl : w.heap.size ≤ l) (h : W.heap[l]? = some o) (_ : o.isCells = false) (_ : o.isWalk = false) : Ko n₀ X W (W.putObj l o') := Ko.of (belowK_b hn W l o o' hl h (by assumption) (by assumption))
theorem ownFrom_ko {β : Type} {n₀ X B : Nat} {w₀ : World} (hn : n₀ ≤ w₀.heap.size) (hB : n₀ ≤ B) : OwnFrom B (fun (_ : β) W => Ko n₀ X w₀ W) :=
  fun _ W W' row hs hg hr => hs.trans (.of ((Below.refl n₀ W).grown hg (Nat.le_trans hn hs.size) (fun k e => Nat.le_trans hB (hr k e).1)))
theorem Ko.setCell {n₀ X : Nat} {a w : World} (h : Ko n₀ X a w) {p : Addr} (hp : p.block = X) (u : Value) : Ko n₀ X a (w.setCell p u) :=
  h.trans ⟨rfl, rfl, rfl, by simp [World.setCell], fun k hk hx => Below.heap_setCell _ _ _ _ (by omega)⟩

set_option maxRecDepth 100000 in
set_option maxHeartbeats 2000000 in
theorem back1_in (F : Fence) (n : Nat) (h8 : F.fn 169) (hro : F.round = none) (hn : 1 ≤ n) (l Bs n₀ X b off len cap : Nat) (zs : List Int) (hlen : zs.length = len) (hreach : len * 8 ≤ 140737488351232) (hb : b < n₀) (hbX : b ≠ X) (J Jx : List Nat → World → Prop)
    (hY : ∀ pre x W, J pre W → pre.length < len → YieldAt F (n - 1) Tryz.prog l #[.int .i64 ((back zs x).1 : Int), .int .u64 (back zs x).2] W fun e W' =>
      (e = .returned (.bool true) ∧ J (pre ++ [x]) W' ∧ Ko n₀ X W W') ∨ (e = .returned (.bool false) ∧ Jx (pre ++ [x]) W'))
    (W : World) (hBs : W.cell? ⟨Bs, 0, none⟩ = some (.slice (some ⟨b, off, none⟩) len cap)) (hc : ∀ j, j < len → W.cell? ⟨b, off + j, none⟩ = some (.int .u64 (zs[j]?.getD 0))) (hBn : Bs < n₀) (hBX : Bs ≠ X) (h0 : J [] W) :
    CallsIn F n Tryz.prog 169 #[.func (.yield l) #[] #[], .pointer (some ⟨Bs, 0, none⟩)] W fun e W' => (∃ v, e = .returned v) ∧
      ((∃ ys, ys = List.range len ∧ J ys W') ∨ (∃ pre, (∃ k, k ≤ len ∧ pre = List.range k) ∧ Jx pre W')) := by
  refine callsIn_of_wp Tryz.func169 rfl h8 ?_ hro
  simp only [Tryz.ntmps169, List.size_toArray, List.length_cons, List.length_nil, Nat.reduceAdd, Nat.reduceSub, Array.replicate_succ, Array.replicate_zero, List.push_toArray, List.append_toArray, List.nil_append, List.cons_append]
  gi_wp2
  gi_loopw [3] (fun i wr => ∃ k : Nat, k ≤ len ∧ i = .int .i64 ((len : Int) - 1 - k) ∧ J (List.range k) wr ∧ Ko n₀ X W wr)
    (fun i _ => (intOf i + 1).toNat)
  case atStart => exact ⟨0, Nat.zero_le _, by simp, h0, Ko.refl _ _ _⟩
  case round =>
    obtain ⟨k, hk, rfl, hJs, hnx⟩ := hrel
    by_cases hlt : k < len
    · obtain ⟨m, x, hmm, hx⟩ : ∃ (m : Nat) (x : Int), m + k + 1 = len ∧ x = zs[m]?.getD 0 := ⟨len - 1 - k, _, by omega, rfl⟩
      have hbk : back zs k = (m, x) := by simp only [back, hlen, show len - 1 - k = m by omega, hx]
      rw [show (len : Int) - 1 - k = (m : Nat) by omega]
      have hcx : wr.cell? ⟨b, off + m, none⟩ = some (.int .u64 x) := by rw [hx]; exact (hnx.cell (p := ⟨b, off + m, none⟩) hb hbX).trans (hc m (by omega))
      have hbx : wr.cell? ⟨Bs, 0, none⟩ = some (.slice (some ⟨b, off, none⟩) len cap) := (hnx.cell (p := ⟨Bs, 0, none⟩) hBn hBX).trans hBs
      obtain ⟨fn, tmps, assign, body, hy, hR⟩ := hY _ k wr hJs (by rw [List.length_range]; exact hlt)
      simp only [hbk] at hy
      clear hx
      have hm1 : m < len := by omega
      gi_wp2
      refine hR.mono ?_
      rintro e W3 (⟨rfl, hJ3, hk3⟩ | ⟨rfl, hJx3⟩)
      · gi_wp2
        go_roundw
        case rel => exact ⟨k + 1, by omega, by simp; omega, by rw [List.range_succ]; exact hJ3, hnx.trans hk3⟩
        case measure => simp [intOf]
      · gi_wp2
        refine bodyPost_ret (results_none rfl _ _ _) rfl ?_
        exact ⟨⟨_, rfl⟩, .inr ⟨_, ⟨k + 1, by omega, List.range_succ.symm⟩, hJx3⟩⟩
    · obtain rfl : k = len := by omega
      gi_wp2
      go_end0
      exact ⟨⟨_, rfl⟩, .inl ⟨_, rfl, hJs⟩⟩

/-- The slice sv holds the numbers zs, in a block below n₀; or there are none. -/
def Nums1 (n₀ X : Nat) (W : World) (sv : Value) (zs : List Int) : Prop :=
  ∃ b off cap, sv = .slice (some ⟨b, off, none⟩) zs.length cap ∧ b < n₀ ∧ b ≠ X ∧ ∀ j, j < zs.length → W.cell? ⟨b, off + j, none⟩ = some (.int .u64 (zs[j]?.getD 0))
theorem Nums1.below {n₀ X : Nat} {A B : World} (h : Below n₀ A B) {sv : Value} {zs : List Int} : Nums1 n₀ X A sv zs → Nums1 n₀ X B sv zs
  | ⟨b, off, cap, e, hb, hx, hc⟩ => ⟨b, off, cap, e, hb, hx, fun j hj => (h.cell (p := ⟨b, off + j, none⟩) hb).trans (hc j hj)⟩

set_option maxHeartbeats 1000000 in
theorem backf1_in (F : Fence) (n : Nat) (h6 : F.fn 138) (hro : F.round = none) (a : Option Addr) (len cap : Nat) (w : World) :
    CallsIn F n Tryz.prog 138 #[.slice a len cap] w fun e w' => e = .returned (.func (.func 169) #[] #[.pointer (some ⟨w.heap.size, 0, none⟩)]) ∧ w' = w.alloc (.cells #[.slice a len cap] 215) := by
  refine callsIn_of_wp Tryz.func138 rfl h6 ?_ hro
  simp only [Tryz.ntmps138, List.size_toArray, List.length_cons, List.length_nil, Nat.reduceAdd, Nat.reduceSub, Array.replicate_succ, Array.replicate_zero, List.push_toArray, List.append_toArray, List.nil_append, List.cons_append]
  gi_wp2
  go_ret
  exact ⟨rfl, rfl⟩

theorem back1_stops (F : Fence) (n : Nat) (h8 : F.fn 169) (hro : F.round = none) (hn : 1 ≤ n) (Bs n₀ X : Nat) (sv : Value) (zs : List Int) (hreach : zs.length * 8 ≤ 140737488351232) (w : World) (hBs : Bs < n₀) (hBX : Bs ≠ X) (hn₀ : n₀ ≤ w.heap.size)
    (hc : w.cell? ⟨Bs, 0, none⟩ = some sv) (hI : Nums1 n₀ X w sv zs) :
    SeqStopsK F n Tryz.prog 169 #[.pointer (some ⟨Bs, 0, none⟩)] (fun x : Nat => #[Value.int .i64 ((back zs x).1 : Int), Value.int .u64 (back zs x).2]) (Ko n₀ X) (fun ys => ys = List.range zs.length)
      (fun pre => ∃ k, k ≤ zs.length ∧ pre = List.range k) zs.length w := fun l J Jx W hW _ _ hY h0 => by
  have hc' := (hW.cell (p := ⟨Bs, 0, none⟩) (Nat.lt_of_lt_of_le hBs hn₀)).trans hc
  obtain ⟨b, off, cap, rfl, hb, hbX, hcs⟩ := hI.below (hW.mono hn₀)
  exact back1_in F n h8 hro hn l Bs n₀ X b off zs.length cap zs rfl hreach hb hbX J Jx hY W hc' hcs hBs hBX h0
set_option maxRecDepth 100000 in
set_option maxHeartbeats 2000000 in
theorem back8_in (F : Fence) (n : Nat) (h8 : F.fn 171) (hro : F.round = none) (hn : 1 ≤ n) (l Bs n₀ X b off len cap : Nat) (zs : List Int) (hlen : zs.length = len) (hreach : len * 8 ≤ 140737488351232) (hb : b < n₀) (hbX : b ≠ X) (J Jx : List Nat → World → Prop)
    (hY : ∀ pre x W, J pre W → pre.length < len → YieldAt F (n - 1) Tryz.prog l #[.int .i64 ((back zs x).1 : Int), .int .u8 (back zs x).2] W fun e W' =>
      (e = .returned (.bool true) ∧ J (pre ++ [x]) W' ∧ Ko n₀ X W W') ∨ (e = .returned (.bool false) ∧ Jx (pre ++ [x]) W'))
    (W : World) (A : Option Addr) (hA : len = 0 ∨ A = some ⟨b, off, none⟩) (hBs : W.cell? ⟨Bs, 0, none⟩ = some (.slice A len cap)) (hc : ∀ j, j < len → W.cell? ⟨b, off + j, none⟩ = some (.int .u8 (zs[j]?.getD 0))) (hBn : Bs < n₀) (hBX : Bs ≠ X) (h0 : J [] W) :
    CallsIn F n Tryz.prog 171 #[.func (.yield l) #[] #[], .pointer (some ⟨Bs, 0, none⟩)] W fun e W' => (∃ v, e = .returned v) ∧
      ((∃ ys, ys = List.range len ∧ J ys W') ∨ (∃ pre, (∃ k, k ≤ len ∧ pre = List.range k) ∧ Jx pre W')) := by
  refine callsIn_of_wp Tryz.func171 rfl h8 ?_ hro
  simp only [Tryz.ntmps171, List.size_toArray, List.length_cons, List.length_nil, Nat.reduceAdd, Nat.reduceSub, Array.replicate_succ, Array.replicate_zero, List.push_toArray, List.append_toArray, List.nil_append, List.cons_append]
  gi_wp2
  gi_loopw [3] (fun i wr => ∃ k : Nat, k ≤ len ∧ i = .int .i64 ((len : Int) - 1 - k) ∧ J (List.range k) wr ∧ Ko n₀ X W wr)
    (fun i _ => (intOf i + 1).toNat)
  case atStart => exact ⟨0, Nat.zero_le _, by simp, h0, Ko.refl _ _ _⟩
  case round =>
    obtain ⟨k, hk, rfl, hJs, hnx⟩ := hrel
    by_cases hlt : k < len
    · obtain rfl : A = some ⟨b, off, none⟩ := hA.resolve_left (by omega)
      obtain ⟨m, x, hmm, hx⟩ : ∃ (m : Nat) (x : Int), m + k + 1 = len ∧ x = zs[m]?.getD 0 := ⟨len - 1 - k, _, by omega, rfl⟩
      have hbk : back zs k = (m, x) := by simp only [back, hlen, show len - 1 - k = m by omega, hx]
      rw [show (len : Int) - 1 - k = (m : Nat) by omega]
      have hcx : wr.cell? ⟨b, off + m, none⟩ = some (.int .u8 x) := by rw [hx]; exact (hnx.cell (p := ⟨b, off + m, none⟩) hb hbX).trans (hc m (by omega))
      have hbx : wr.cell? ⟨Bs, 0, none⟩ = some (.slice (some ⟨b, off, none⟩) len cap) := (hnx.cell (p := ⟨Bs, 0, none⟩) hBn hBX).trans hBs
      obtain ⟨fn, tmps, assign, body, hy, hR⟩ := hY _ k wr hJs (by rw [List.length_range]; exact hlt)
      simp only [hbk] at hy
      clear hx
      have hm1 : m < len := by omega
      gi_wp2
      refine hR.mono ?_
      rintro e W3 (⟨rfl, hJ3, hk3⟩ | ⟨rfl, hJx3⟩)
      · gi_wp2
        go_roundw
        case rel => exact ⟨k + 1, by omega, by simp; omega, by rw [List.range_succ]; exact hJ3, hnx.trans hk3⟩
        case measure => simp [intOf]
      · gi_wp2
        refine bodyPost_ret (results_none rfl _ _ _) rfl ?_
        exact ⟨⟨_, rfl⟩, .inr ⟨_, ⟨k + 1, by omega, List.range_succ.symm⟩, hJx3⟩⟩
    · obtain rfl : k = len := by omega
      clear hA
      gi_wp2
      go_end0
      exact ⟨⟨_, rfl⟩, .inl ⟨_, rfl, hJs⟩⟩

/-- The slice sv holds the numbers zs, in a block below n₀; or there are none. -/
def Nums8 (n₀ X : Nat) (W : World) (sv : Value) (zs : List Int) : Prop :=
  ∃ A b off cap, sv = .slice A zs.length cap ∧ (zs.length = 0 ∨ A = some ⟨b, off, none⟩) ∧ b < n₀ ∧ b ≠ X ∧ ∀ j, j < zs.length → W.cell? ⟨b, off + j, none⟩ = some (.int .u8 (zs[j]?.getD 0))
theorem Nums8.below {n₀ X : Nat} {A B : World} (h : Below n₀ A B) {sv : Value} {zs : List Int} : Nums8 n₀ X A sv zs → Nums8 n₀ X B sv zs
  | ⟨A, b, off, cap, e, hA, hb, hx, hc⟩ => ⟨A, b, off, cap, e, hA, hb, hx, fun j hj => (h.cell (p := ⟨b, off + j, none⟩) hb).trans (hc j hj)⟩

set_option maxHeartbeats 1000000 in
theorem backf8_in (F : Fence) (n : Nat) (h6 : F.fn 143) (hro : F.round = none) (a : Option Addr) (len cap : Nat) (w : World) :
    CallsIn F n Tryz.prog 143 #[.slice a len cap] w fun e w' => e = .returned (.func (.func 171) #[] #[.pointer (some ⟨w.heap.size, 0, none⟩)]) ∧ w' = w.alloc (.cells #[.slice a len cap] 129) := by
  refine callsIn_of_wp Tryz.func143 rfl h6 ?_ hro
  simp only [Tryz.ntmps143, List.size_toArray, List.length_cons, List.length_nil, Nat.reduceAdd, Nat.reduceSub, Array.replicate_succ, Array.replicate_zero, List.push_toArray, List.append_toArray, List.nil_append, List.cons_append]
  gi_wp2
  go_ret
  exact ⟨rfl, rfl⟩

theorem back8_stops (F : Fence) (n : Nat) (h8 : F.fn 171) (hro : F.round = none) (hn : 1 ≤ n) (Bs n₀ X : Nat) (sv : Value) (zs : List Int) (hreach : zs.length * 8 ≤ 140737488351232) (w : World) (hBs : Bs < n₀) (hBX : Bs ≠ X) (hn₀ : n₀ ≤ w.heap.size)
    (hc : w.cell? ⟨Bs, 0, none⟩ = some sv) (hI : Nums8 n₀ X w sv zs) :
    SeqStopsK F n Tryz.prog 171 #[.pointer (some ⟨Bs, 0, none⟩)] (fun x : Nat => #[Value.int .i64 ((back zs x).1 : Int), Value.int .u8 (back zs x).2]) (Ko n₀ X) (fun ys => ys = List.range zs.length)
      (fun pre => ∃ k, k ≤ zs.length ∧ pre = List.range k) zs.length w := fun l J Jx W hW _ _ hY h0 => by
  have hc' := (hW.cell (p := ⟨Bs, 0, none⟩) (Nat.lt_of_lt_of_le hBs hn₀)).trans hc
  obtain ⟨A, b, off, cap, rfl, hA, hb, hbX, hcs⟩ := hI.below (hW.mono hn₀)
  exact back8_in F n h8 hro hn l Bs n₀ X b off zs.length cap zs rfl hreach hb hbX J Jx hY W A hA hc' hcs hBs hBX h0
end Go.Proofs.YtgbckdmdjoldkaaGreatDoor
