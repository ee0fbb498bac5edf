/-
  num.Cmp, by its text.
-/
import Derived.Test.YtgbckdmdjoldkaaGreatDoorD1
set_option linter.unusedSimpArgs false
set_option linter.unusedVariables false
namespace Go.Proofs.YtgbckdmdjoldkaaGreatDoor
open Go.RowKit Go.Shelf Go.Proofs
attribute [local go_sem] Oper.semAt_some

noncomputable def cmp1 (x y : Int) : Int := if x < y then -1 else if y < x then 1 else 0

set_option maxHeartbeats 1000000 in
theorem nan_in (F : Fence) (n : Nat) (h6 : F.fn 170) (hro : F.round = none) (x : Int) (w : World) :
    CallsIn F n Tryz.prog 170 #[.int .u64 x] w fun e w' => e = .returned (.bool false) ∧ w' = w := by
  refine callsIn_of_wp Tryz.func170 rfl h6 ?_ hro
  simp only [Tryz.ntmps170, List.size_toArray, List.length_cons, List.length_nil, Nat.reduceAdd, Nat.reduceSub, Array.replicate_succ, Array.replicate_zero, List.push_toArray, List.append_toArray, List.nil_append, List.cons_append]
  gi_wp2
  go_ret
  simp

set_option maxHeartbeats 1000000 in
theorem compare_in (F : Fence) (n : Nat) (h : F.fn 139) (h6 : F.fn 170) (hro : F.round = none) (hn : 1 ≤ n) (x y : Int) (w : World) :
    CallsIn F n Tryz.prog 139 #[.int .u64 x, .int .u64 y] w fun e w' => e = .returned (.int .i64 (cmp1 x y)) ∧ w' = w := by
  refine callsIn_of_wp Tryz.func139 rfl h ?_ hro
  simp only [Tryz.ntmps139, List.size_toArray, List.length_cons, List.length_nil, Nat.reduceAdd, Nat.reduceSub, Array.replicate_succ, Array.replicate_zero, List.push_toArray, List.append_toArray, List.nil_append, List.cons_append]
  gi_wp2_with (gi_at_call 170; refine (nan_in F (n - 1) h6 hro _ _).mono ?_; rintro e w' ⟨rfl, rfl⟩)
  all_goals go_ret
  all_goals (simp [cmp1]; try omega)

/-- From the highest word down. -/
noncomputable def cmpG (xs ys : List Int) : Nat → Int
  | 0 => 0
  | k + 1 => if cmp1 (xs[k]?.getD 0) (ys[k]?.getD 0) = 0 then cmpG xs ys k else cmp1 (xs[k]?.getD 0) (ys[k]?.getD 0)

set_option maxRecDepth 100000 in
set_option maxHeartbeats 2000000 in
theorem cmp_in (F : Fence) (n : Nat) (hF : ∀ f, F.fn f) (hro : F.round = none) (hn : 6 ≤ n) (xs ys : List Int) (ha : xs.length = 4) (hb : ys.length = 4) (va vb : Array Value) (hva : va = (xs.map (Value.int .u64)).toArray) (hvb : vb = (ys.map (Value.int .u64)).toArray) (hsa : va.size = 4) (hsb : vb.size = 4) (w : World) :
    CallsIn F n Tryz.prog 85 #[.agg va, .agg vb] w
      fun e W' => e = .returned (.int .i64 (cmpG xs ys 4)) ∧ Below w.heap.size w W' := by
  have h1 : 1 ≤ n := by omega
  refine callsIn_of_wp_marks Tryz.func85 rfl (hF _) ?_ hro
  simp only [Tryz.ntmps85, List.size_toArray, List.length_cons, List.length_nil, Nat.reduceAdd, Nat.reduceSub, Array.replicate_succ, Array.replicate_zero, List.push_toArray, List.append_toArray, List.nil_append, List.cons_append]
  gi_wp2_with (gi_at_call 138; refine (backf1_in F (n - 1) (hF _) hro _ _ _ _).mono ?_; rintro e w' ⟨rfl, rfl⟩)
  obtain ⟨W0, hW0⟩ : ∃ W0, ((((w.alloc (Obj.cells (List.map (Value.int IntKind.u64) xs).toArray 33)).alloc (Obj.cells (List.map (Value.int IntKind.u64) ys).toArray 33)).alloc (Obj.cells #[Value.int IntKind.i64 0] 3)).alloc (Obj.cells #[Value.slice (some { block := w.heap.size, off := 0 }) 4 4] 215)) = W0 := ⟨_, rfl⟩
  rw [hW0]
  have hsize : W0.heap.size = w.heap.size + 4 := by rw [← hW0]; simp
  have hB0 : Below w.heap.size w W0 := by
    rw [← hW0]
    exact (((Below.refl _ w).alloc (Nat.le_refl _) _).alloc (by simp) _ |>.alloc (by simp; omega) _).alloc (by simp; omega) _
  have hk0 : W0.heap[w.heap.size]? = some (.cells (List.map (Value.int IntKind.u64) xs).toArray 33) := by
    rw [← hW0, Below.heap_alloc _ _ _ (by simp only [World.size_alloc]; omega), Below.heap_alloc _ _ _ (by simp only [World.size_alloc]; omega), Below.heap_alloc _ _ _ (by simp only [World.size_alloc]; omega), World.alloc_heap_new]
  have hk1 : W0.heap[w.heap.size + 1]? = some (.cells (List.map (Value.int IntKind.u64) ys).toArray 33) := by
    rw [← hW0, Below.heap_alloc _ _ _ (by simp only [World.size_alloc]; omega), Below.heap_alloc _ _ _ (by simp only [World.size_alloc]; omega)]
    have := World.alloc_heap_new (w.alloc (Obj.cells (List.map (Value.int IntKind.u64) xs).toArray 33)) (Obj.cells (List.map (Value.int IntKind.u64) ys).toArray 33)
    rwa [World.size_alloc] at this
  have hk2 : W0.heap[w.heap.size + 1 + 1]? = some (.cells #[Value.int IntKind.i64 0] 3) := by
    rw [← hW0, Below.heap_alloc _ _ _ (by simp only [World.size_alloc]; omega)]
    have := World.alloc_heap_new ((w.alloc (Obj.cells (List.map (Value.int IntKind.u64) xs).toArray 33)).alloc (Obj.cells (List.map (Value.int IntKind.u64) ys).toArray 33)) (Obj.cells #[Value.int IntKind.i64 0] 3)
    rwa [World.size_alloc, World.size_alloc] at this
  have hk3 : W0.heap[w.heap.size + 1 + 1 + 1]? = some (.cells #[Value.slice (some { block := w.heap.size, off := 0 }) 4 4] 215) := by
    rw [← hW0]
    have := World.alloc_heap_new (((w.alloc (Obj.cells (List.map (Value.int IntKind.u64) xs).toArray 33)).alloc (Obj.cells (List.map (Value.int IntKind.u64) ys).toArray 33)).alloc (Obj.cells #[Value.int IntKind.i64 0] 3)) (Obj.cells #[Value.slice (some { block := w.heap.size, off := 0 }) 4 4] 215)
    rwa [World.size_alloc, World.size_alloc, World.size_alloc] at this
  clear hW0
  have hbk : ∀ k, back xs k = (3 - k, xs[3 - k]?.getD 0) := fun k => by simp [back, ha]
  refine wpIn_rangeFunc_ownG hro h1 (gf := 169) (lb := #[.pointer (some ⟨w.heap.size + 1 + 1 + 1, 0, none⟩)]) rfl (hF _) (enters_of Tryz.func169 (by kernel_rfl) rfl)
    (back1_stops F (n - 1) (hF _) hro (by omega) (w.heap.size + 1 + 1 + 1) (w.heap.size + 4) (w.heap.size + 4) (.slice (some ⟨w.heap.size, 0, none⟩) 4 4) xs (by omega) W0 (by omega) (by omega) (by omega)
      (by simp [World.cell?, hk3]) ⟨w.heap.size, 0, 4, by rw [ha], by omega, by omega, fun j hj => by simp [World.cell?, hk0, hj]⟩)
    (fun h k => h.trans k) (ko_b (by omega)) (Below.refl _ _) (fun _ => rfl)
    (fun pre W => (∀ p ∈ pre, cmp1 (xs[3 - p]?.getD 0) (ys[3 - p]?.getD 0) = 0) ∧ Ko (w.heap.size + 4) (w.heap.size + 4) W0 W)
    (fun c pre W => ((c = .ret ∧ ∃ ini last, pre = ini ++ [last] ∧ (∀ p ∈ ini, cmp1 (xs[3 - p]?.getD 0) (ys[3 - p]?.getD 0) = 0) ∧ cmp1 (xs[3 - last]?.getD 0) (ys[3 - last]?.getD 0) ≠ 0 ∧ W.cell? ⟨w.heap.size + 1 + 1, 0, none⟩ = some (.int .i64 (cmp1 (xs[3 - last]?.getD 0) (ys[3 - last]?.getD 0)))) ∧ Below w.heap.size W0 W))
    (OwnFrom.and (Own.from (fun s A B row hs hg hr => hs) _) (ownFrom_ko (by omega) (by omega)))
    (fun c => OwnFrom.and (Own.from (fun s A B row hs hg hr => by obtain ⟨hc, ini, last, e1, e2, e3, e4⟩ := hs; exact ⟨hc, ini, last, e1, e2, e3, cell_kept e4 hg hr⟩) _) (ownFrom_below (by omega) (by omega)))
    ⟨by simp, Ko.refl _ _ _⟩
    (fun k => { tmps := #[.agg (List.map (Value.int IntKind.u64) xs).toArray, .agg (List.map (Value.int IntKind.u64) ys).toArray, .pointer (some ⟨w.heap.size, 0, none⟩), .pointer (some ⟨w.heap.size + 1, 0, none⟩), .pointer (some ⟨w.heap.size + 1 + 1, 0, none⟩), .int .i64 ((3 - k : Nat) : Int), .int .u64 (xs[3 - k]?.getD 0), undef,
       .slice (some ⟨w.heap.size, 0, none⟩) 4 4, .func (.func 169) #[] #[.pointer (some ⟨w.heap.size + 1 + 1 + 1, 0, none⟩)], .int .i64 ((3 - k : Nat) : Int), .int .u64 (xs[3 - k]?.getD 0), undef, undef, undef, undef, undef, undef, undef, undef], defers := [] }) ?assign ?body ?done ?stop
  case assign =>
    intro l x W K hK
    simp only [hbk]
    gi_wp2
    exact hK
  case body =>
    rintro l pre k W ⟨hp, hB⟩ _
    obtain ⟨m, hm⟩ : ∃ m, m = 3 - k := ⟨_, rfl⟩
    rw [← hm]
    have hm4 : m < 4 := by omega
    have hcy : W.cell? ⟨w.heap.size + 1, m, none⟩ = some (.int .u64 (ys[m]?.getD 0)) := by
      rw [hB.cell (p := ⟨w.heap.size + 1, m, none⟩) (by simp) (by simp)]
      simp [World.cell?, hk1, show m < ys.length by omega]
    obtain ⟨y, hy⟩ : ∃ y, y = ys[m]?.getD 0 := ⟨_, rfl⟩
    obtain ⟨x, hx⟩ : ∃ x, x = xs[m]?.getD 0 := ⟨_, rfl⟩
    rw [← hy] at hcy
    rw [← hx]
    have hcr : W.cell? ⟨w.heap.size + 1 + 1, 0, none⟩ = some (.int .i64 0) := by
      rw [hB.cell (p := ⟨w.heap.size + 1 + 1, 0, none⟩) (by simp) (by simp)]
      simp [World.cell?, hk2]
    have hfr : W.frozen? ⟨w.heap.size + 1 + 1, 0, none⟩ = false := by
      rw [World.frozen?_of_block (w := W0) (hB.block _ (by simp) (by simp))]
      simp [World.frozen?, hk2]
    have HX : Hid (cmp1 (xs[3 - k]?.getD 0) (ys[3 - k]?.getD 0) = cmp1 x y) := by rw [hx, hy, hm]; exact rfl
    have HP : Hid (∀ p ∈ pre, cmp1 (xs[3 - p]?.getD 0) (ys[3 - p]?.getD 0) = 0) := hp
    clear hx hy hm hp
    have h2 : 1 ≤ n - 1 - 1 := by omega
    gi_wp2_with (gi_at_call 139; refine (CallsIn.inRound l (compare_in F _ (hF _) (hF _) hro (by omega) _ _ _)).mono ?_; rintro e w' ⟨rfl, rfl⟩)
    · have hne : cmp1 x y ≠ 0 := by rename_i hh; simpa using hh
      refine ⟨(KeepsOthers.setCell _ _ _).from _, ⟨rfl, pre, k, rfl, HP.out, by rw [HX.out]; exact hne, ?_⟩, ?_⟩
      · rw [HX.out]; exact World.cell?_setCell_same' _ _ _ (by rw [hcr]; rfl)
      · exact Below.setCell ⟨hB.os, hB.tape, hB.output, hB.size, fun k hk => hB.block k (by omega) (by omega)⟩ (p := ⟨w.heap.size + 1 + 1, 0, none⟩) (by simp; omega) _
    · have hne : cmp1 x y = 0 := by rename_i hh; simpa using hh
      refine ⟨KeepsFrom.refl _ _, Ko.refl _ _ _, fun p hp' => (List.mem_append.1 hp').elim (HP.out p) (fun e => ?_), hB⟩
      rw [List.mem_singleton] at e
      rw [e, HX.out, hne]
  case done =>
    rintro D zs W hD rfl ⟨hp, hB⟩ hK
    have hcr : W.cell? ⟨w.heap.size + 1 + 1, 0, none⟩ = some (.int .i64 0) := by
      rw [hB.cell (p := ⟨w.heap.size + 1 + 1, 0, none⟩) (by simp) (by simp)]
      simp [World.cell?, hk2]
    have hfr : W.frozen? ⟨w.heap.size + 1 + 1, 0, none⟩ = false := by
      rw [World.frozen?_of_block (w := W0) (hB.block _ (by simp) (by simp))]
      simp [World.frozen?, hk2]
    have hres : cmpG xs ys 4 = 0 := by
      rw [ha] at hp
      have h0 := hp 0 (by simp); have h1 := hp 1 (by simp); have h2 := hp 2 (by simp); have h3 := hp 3 (by simp)
      simp only [Nat.sub_zero, Nat.reduceSub, Nat.sub_self] at h0 h1 h2 h3
      simp only [cmpG, h0, h1, h2, h3, if_true]
    have HR : Hid (cmpG xs ys 4 = 0) := hres
    clear hp hres
    gi_wp2
    have hK' := (KeepsOthers.setCell W ⟨w.heap.size + 1 + 1, 0, none⟩ (.int .i64 0)).same D _ hK rfl
    refine ⟨by simp, .inl ⟨_, _, rfl, run_takeDeferred hK', ?_⟩⟩
    have hc5 := cell_kept (World.cell?_setCell_same' W ⟨w.heap.size + 1 + 1, 0, none⟩ (.int .i64 0) (by rw [hcr]; rfl)) (grownBy_putObj' _ D (.deferred none)) (fun r e => by cases e; exact ⟨_, hK', rfl⟩)
    refine ⟨.int .i64 0, ?_, by rw [HR.out], ?_⟩
    · simp [results, Tryz.f85, go_sem, hc5]
    · have hBW : Below w.heap.size w W := hB0.trans ⟨hB.os, hB.tape, hB.output, hB.size, fun k hk => hB.block k (by omega) (by omega)⟩
      exact (hBW.setCell (p := ⟨w.heap.size + 1 + 1, 0, none⟩) (by simp; omega) _).trans (belowK_b (w := w) (Nat.le_refl _) _ D _ _ (by omega) hK' rfl rfl)
  case stop =>
    rintro D c pre W hD ⟨k, hk, rfl⟩ ⟨⟨rfl, ini, last, e1, e2, e3, hcr⟩, hB⟩ hK
    obtain ⟨k', rfl⟩ : ∃ k', k = k' + 1 := by
      cases k with
      | zero => simp at e1
      | succ k' => exact ⟨k', rfl⟩
    rw [List.range_succ] at e1
    obtain ⟨rfl, e5⟩ := List.append_inj' e1 rfl
    obtain rfl : k' = last := by simpa using e5
    have hres : cmp1 (xs[3 - k']?.getD 0) (ys[3 - k']?.getD 0) = cmpG xs ys 4 := by
      rw [ha] at hk
      simp only [List.mem_range] at e2
      obtain rfl | rfl | rfl | rfl : k' = 0 ∨ k' = 1 ∨ k' = 2 ∨ k' = 3 := by omega
      · simp only [Nat.sub_zero] at e3 ⊢
        simp only [cmpG, if_neg e3]
      · have h0 := e2 0 (by omega)
        simp only [Nat.sub_zero, Nat.reduceSub] at e3 h0 ⊢
        simp only [cmpG, h0, if_true, if_neg e3]
      · have h0 := e2 0 (by omega); have h1 := e2 1 (by omega)
        simp only [Nat.sub_zero, Nat.reduceSub] at e3 h0 h1 ⊢
        simp only [cmpG, h0, h1, if_true, if_neg e3]
      · have h0 := e2 0 (by omega); have h1 := e2 1 (by omega); have h2 := e2 2 (by omega)
        simp only [Nat.sub_zero, Nat.reduceSub, Nat.sub_self] at e3 h0 h1 h2 ⊢
        simp only [cmpG, h0, h1, h2, if_true, if_neg e3]
    rw [hres] at hcr
    clear e1 e2 e3 e5 hres
    gi_wp2
    refine ⟨by simp, .inl ⟨_, _, rfl, run_takeDeferred hK, ?_⟩⟩
    have hc5 := cell_kept hcr (grownBy_putObj' _ D (.deferred none)) (fun r e => by cases e; exact ⟨_, hK, rfl⟩)
    refine ⟨.int .i64 (cmpG xs ys 4), ?_, rfl, (hB0.trans hB).trans (belowK_b (w := w) (Nat.le_refl _) W D _ _ (by omega) hK rfl rfl)⟩
    simp [results, Tryz.f85, go_sem, hc5]
end Go.Proofs.YtgbckdmdjoldkaaGreatDoor
