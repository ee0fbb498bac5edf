/-
  store.find, by its text: sort.Search by the Shelf's contract.
-/
import Derived.Shelf.SlSorted.Search
import Derived.Shelf.Bytes.SlEqualAll
import Derived.BigQuiet
import Derived.Deep.QuietTactic
import Derived.Test.YtgbckdmdjoldkaaGreatDoorND
import Derived.Test.YtgbckdmdjoldkaaGreatDoorProg
set_option linter.unusedSimpArgs false
set_option linter.unusedVariables false
namespace Go.Proofs
open Go.Shelf Go.RowKit Go.Lib Go.Sort

theorem Tryz.ex172 : ∀ args w, (callFunc 172 args).run Tryz.prog w = ((Extern.BytealgCompare.compare args).run Tryz.prog w).andThen fun v w' => .ok (.value v) w' := fun args w =>
  run_callFunc_extern Tryz.func172 (by kernel_rfl) (by kernel_rfl) (by kernel_rfl) (e := Extern.BytealgCompare.compare) (by kernel_rfl) args w

set_option maxHeartbeats 1000000 in
theorem Tryz.compare_calls (a b : Value) (z : Int) (W : World) (h : (Extern.BytealgCompare.compare #[a, b]).run Tryz.prog W = .ok (.int .i64 z) W) :
    Calls Tryz.prog 153 #[a, b] W fun e w' => e = .returned (.int .i64 z) ∧ w' = W := by
  have ex := Tryz.ex172 #[a, b] W
  rw [h] at ex
  go_enter Tryz.func153, Tryz.ntmps153
  go_wp2
  go_ret
  exact ⟨rfl, rfl⟩

set_option maxHeartbeats 2000000 in
/-- The closure: is the i-th key not less than the one that is looked for? -/
theorem Tryz.find1_calls (S so bs bk R ro n c i : Nat) (K kv : Value) (z : Int) (W : World) (hi : i < n)
    (h1 : W.cell? ⟨bs, 0, none⟩ = some (.pointer (some ⟨S, so, none⟩))) (h2 : W.cell? ⟨S, so, none⟩ = some (.slice (some ⟨R, ro, none⟩) n c))
    (h3 : W.cell? ⟨R, ro + i * 2, none⟩ = some kv) (h4 : W.cell? ⟨bk, 0, none⟩ = some K)
    (hc : ∀ m, (Extern.BytealgCompare.compare #[kv, K]).run Tryz.prog (W.drewN m) = .ok (.int .i64 z) (W.drewN m)) :
    Calls Tryz.prog 152 (#[.int .i64 i] ++ #[.pointer (some ⟨bs, 0, none⟩), .pointer (some ⟨bk, 0, none⟩)]) W fun e w' => e = .returned (.bool (decide (0 ≤ z))) ∧ ∃ q, w' = W.drewN q := by
  have hiz : (i : Int) < (n : Int) := by omega
  go_enter Tryz.func152, Tryz.ntmps152
  go_wp2
  go_quiet (first | (go_at_call 153; refine Calls.quiet_of_same (Tryz.compare_calls _ _ z _ (hc _))))
  go_wp2
  go_ret
  exact ⟨rfl, nq, rfl⟩

theorem below_drewN (B : Nat) (w : World) (q : Nat) : RowKit.Below B w (w.drewN q) := ⟨rfl, rfl, rfl, by simp, fun _ _ => rfl⟩

theorem drewN_grow2 (w : World) (os : Array Obj) (m : Nat) : (grow w os).drewN m = grow (w.drewN m) os := rfl

def Tryz.ssRen : Go.Shelf.Ren := ⟨fun | 16 => 151 | n => n, fun | 3 => 3 | 4 => 4 | 35 => 234 | 38 => 238 | n => n, fun n => n⟩
theorem Tryz.laysSs : SlLaysO.n16 Tryz.prog Tryz.ssRen := {
  mixed := by kernel_rfl
  f16 := Tryz.func151.trans (congrArg some (by kernel_rfl))
  t3 := Tryz.underlying3
  a3 := Tryz.isAgg3
  z3 := Tryz.sizeOf3
  v3 := Tryz.zeroValue3
  t4 := Tryz.underlying4
  a4 := Tryz.isAgg4
  z4 := Tryz.sizeOf4
  v4 := Tryz.zeroValue4
  t35 := Tryz.underlying234
  a35 := Tryz.isAgg234
  z35 := Tryz.sizeOf234
  v35 := Tryz.zeroValue234
  t38 := Tryz.underlying238
  a38 := Tryz.isAgg238
  z38 := Tryz.sizeOf238
  v38 := Tryz.zeroValue238 }

open Go.Bm (lessN)

set_option maxHeartbeats 4000000 in
/-- store.find: where a key is, or would be; is it there? -/
theorem Tryz.find_calls (S so R ro n c : Nat) (A : Option Addr) (kn kc : Nat) (kv : Nat → Value) (z : Nat → Int) (eq : Bool) (w : World) (hS : S < w.heap.size) (hR : R < w.heap.size) (hn : n < 4611686018427387904)
    (h2 : w.cell? ⟨S, so, none⟩ = some (.slice (some ⟨R, ro, none⟩) n c))
    (h3 : ∀ i, i < n → w.cell? ⟨R, ro + i * 2, none⟩ = some (kv i))
    (hc : ∀ (m : Nat) (os : Array Obj) (i : Nat), i < n → (Extern.BytealgCompare.compare #[kv i, .slice A kn kc]).run Tryz.prog (grow (w.drewN m) os) = .ok (.int .i64 (z i)) (grow (w.drewN m) os))
    (hmono : ∀ a b, a ≤ b → b < n → 0 ≤ z a → 0 ≤ z b)
    (he : lessN n z < n → ∀ (m : Nat) (os : Array Obj), Calls Tryz.prog 154 #[kv (lessN n z), .slice A kn kc] (grow (w.drewN m) os) fun e w' => e = .returned (.bool eq) ∧ w' = grow (w.drewN m) os) :
    Calls Tryz.prog 109 #[.pointer (some ⟨S, so, none⟩), .slice A kn kc] w fun e w' => e = .returned (.tuple #[.int .i64 (lessN n z : Nat), .bool (decide (lessN n z < n) && eq)]) ∧ Below w.heap.size w w' := by
  obtain ⟨W0, hW0⟩ : ∃ W0, W0 = (w.alloc (.cells #[.pointer (some ⟨S, so, none⟩)] 27)).alloc (.cells #[.slice A kn kc] 129) := ⟨_, rfl⟩
  have hsize : W0.heap.size = w.heap.size + 1 + 1 := by rw [hW0]; simp
  have hg : W0 = grow (w.drewN 0) #[.cells #[.pointer (some ⟨S, so, none⟩)] 27, .cells #[.slice A kn kc] 129] := by
    rw [hW0, alloc_eq_grow, alloc_eq_grow, grow_grow]; rfl
  have ca : W0.cell? ⟨w.heap.size, 0, none⟩ = some (.pointer (some ⟨S, so, none⟩)) := by rw [hW0]; exact cell_alloc_sl _ (cell_new_sl w _ _)
  have cx : W0.cell? ⟨w.heap.size + 1, 0, none⟩ = some (.slice A kn kc) := by rw [hW0]; have := cell_new_sl (w.alloc (.cells #[.pointer (some ⟨S, so, none⟩)] 27)) (.slice A kn kc) 129; rwa [World.size_alloc] at this
  have c2 : W0.cell? ⟨S, so, none⟩ = some (.slice (some ⟨R, ro, none⟩) n c) := by rw [hW0]; exact cell_alloc_sl _ (cell_alloc_sl _ h2)
  have c3 : ∀ i, i < n → W0.cell? ⟨R, ro + i * 2, none⟩ = some (kv i) := fun i hi => by rw [hW0]; exact cell_alloc_sl _ (cell_alloc_sl _ (h3 i hi))
  have eg : ∀ args w, (callFunc 152 args).run Tryz.prog w = .ok (.enter 152 args) w := enters_of Tryz.func152 (by kernel_rfl) rfl
  have hS := Any.sort_Search (P := Tryz.prog) (ρ := Tryz.ssRen) Tryz.laysSs 152 #[.pointer (some ⟨w.heap.size, 0, none⟩), .pointer (some ⟨w.heap.size + 1, 0, none⟩)] n (fun i => decide (0 ≤ z i)) W0 eg hn
    (fun m os i hi => (Tryz.find1_calls S so w.heap.size (w.heap.size + 1) R ro n c i (.slice A kn kc) (kv i) (z i) _ hi (cell_grown (by simp [hsize]; omega) ca m os) (cell_grown (by simp [hsize]; omega) c2 m os) (cell_grown (by simp [hsize]; omega) (c3 i hi) m os) (cell_grown (by simp [hsize]) cx m os)
        (fun m' => by simp only [hg, drewN_grow2, World.drewN_drewN, grow_grow]; exact hc _ _ i hi)).mono
      fun _ _ ⟨he, q, hq⟩ => ⟨he, q, #[], by rw [hq, grow_empty]⟩) (fun a b h1 h2 h => by simpa using hmono a b h1 h2 (by simpa using h))
  change Calls Tryz.prog 151 _ W0 (fun e w' => e = .returned (.int .i64 (lessN n z : Nat)) ∧ ∃ q os, w' = grow (W0.drewN q) os) at hS
  have hn0 : lessN n z ≤ n := by
    unfold lessN
    have := List.countP_le_length (p := fun i => !decide (0 ≤ z i)) (l := List.range n)
    simpa using this
  generalize hr : lessN n z = r at hS he hn0 ⊢
  have hB0 : Below w.heap.size w W0 := by rw [hW0]; exact ((Below.refl _ w).alloc (Nat.le_refl _) _).alloc (by simp) _
  have c3r : r < n → W0.cell? ⟨R, ro + r * 2, none⟩ = some (kv r) := fun h => c3 r h
  clear c3 h3 hc hmono
  go_enter Tryz.func109, Tryz.ntmps109
  go_wp2_with (go_at_call 151; rw [← hW0]; refine hS.mono ?_; rintro e w' ⟨rfl, q, os, rfl⟩)
  obtain ⟨V, hV⟩ : ∃ V, V = grow (W0.drewN q) os := ⟨_, rfl⟩
  have a1 := cell_grown (by simp [hsize]; omega) ca q os
  have a2 := cell_grown (by simp [hsize]; omega) c2 q os
  have a3 := cell_grown (by simp [hsize]) cx q os
  have a4 : r < n → (grow (W0.drewN q) os).cell? ⟨R, ro + r * 2, none⟩ = some (kv r) := fun h => cell_grown (by simp [hsize]; omega) (c3r h) q os
  have hE : r < n → ∀ m, Calls Tryz.prog 154 #[kv r, .slice A kn kc] (V.drewN m) fun e w' => e = .returned (.bool eq) ∧ w' = V.drewN m := fun h m => by
    rw [hV, hg]; simp only [drewN_grow2, World.drewN_drewN, grow_grow]; exact he h _ _
  have hBV : Below w.heap.size w V := by rw [hV]; exact hB0.trans (below_grown_sl w.heap.size W0 q os (by omega))
  try rw [← hW0]
  rw [← hV] at a1 a2 a3 a4 ⊢
  clear hV hS he c3r ca cx c2 hg hW0 hB0 h2
  by_cases hlt : r < n
  · have a4 := a4 hlt
    have hE := hE hlt
    have hd : decide ((r : Int) < (n : Int)) = true := decide_eq_true (by omega)
    have hri : (r : Int) < (n : Int) := by omega
    go_quiet (first | (go_at_call 154; refine Calls.quiet_of_same (hE _)))
    go_wp2
    go_ret2
    refine ⟨by rw [decide_eq_true hlt]; first | rfl | simp, ?_⟩
    exact hBV.trans (below_drewN _ V nq)
  · have hd : decide ((r : Int) < (n : Int)) = false := decide_eq_false (by omega)
    go_quiet (fail)
    go_wp2
    go_ret2
    refine ⟨by rw [decide_eq_false hlt]; first | rfl | simp, ?_⟩
    exact hBV.trans (below_drewN _ V nq)

theorem Tryz.find_says : Bm.FindSays Tryz.prog 109 154 := fun S so R ro n c A kn kc kv z eq w h1 h2 h3 h4 h5 h6 h7 h8 => Tryz.find_calls S so R ro n c A kn kc kv z eq w h1 h2 h3 h4 h5 h6 h7 h8
end Go.Proofs
