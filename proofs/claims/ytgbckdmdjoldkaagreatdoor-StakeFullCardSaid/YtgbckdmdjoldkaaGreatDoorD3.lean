/-
  num.Read, by its text.
-/
import Derived.Test.YtgbckdmdjoldkaaGreatDoorD25
set_option linter.unusedSimpArgs false
set_option linter.unusedVariables false
namespace Go.Proofs.YtgbckdmdjoldkaaGreatDoor
open Go.RowKit Go.Shelf Go.Proofs
attribute [local go_sem] Oper.semAt_some

noncomputable def shlV (x : Int) (s : Nat) : Int := IntKind.u64.wrap (x * 2 ^ s)
noncomputable def orU (x y : Int) : Int := IntKind.u64.wrap (BitVec.ofInt IntKind.u64.bits x ||| BitVec.ofInt IntKind.u64.bits y).toNat
noncomputable def rdStep (zs : List Int) (f : Nat → Int) (k : Nat) : Nat → Int := fun j =>
  bif Nat.beq j ((zs.length - 1 - (back zs k).1) / 8) then orU (f j) (shlV (back zs k).2 (8 * ((zs.length - 1 - (back zs k).1) % 8))) else f j
noncomputable def lim (zs : List Int) (pre : List Nat) : Nat → Int := pre.foldl (rdStep zs) (fun _ => 0)

theorem cellO (w : World) (b i j : Nat) (v : Value) (h : i ≠ j) : (w.setCell ⟨b, i, none⟩ v).cell? ⟨b, j, none⟩ = w.cell? ⟨b, j, none⟩ := World.cell?_setCell_other w _ _ v (by intro e; injection e with e1 e2 e3; exact h e2)

set_option maxRecDepth 100000 in
set_option maxHeartbeats 2000000 in
theorem read_in (F : Fence) (n : Nat) (hF : ∀ f, F.fn f) (hro : F.round = none) (hn : 6 ≤ n) (bk off len cap : Nat) (x0 : Int) (zs : List Int) (r0 r1 r2 r3 : Int) (hr : lim zs (List.range zs.length) 0 = r0 ∧ lim zs (List.range zs.length) 1 = r1 ∧ lim zs (List.range zs.length) 2 = r2 ∧ lim zs (List.range zs.length) 3 = r3) (hz : zs.length = len) (h32 : len ≤ 32) (hpos : 0 < len) (hby : ∀ z ∈ zs, 0 ≤ z ∧ z < 256) (w : World)
    (hbw : bk < w.heap.size) (hc0 : w.cell? ⟨bk, off, none⟩ = some (.int .u8 x0)) (hne : x0 ≠ 0) (hc : ∀ j, j < len → w.cell? ⟨bk, off + j, none⟩ = some (.int .u8 (zs[j]?.getD 0))) :
    CallsIn F n Tryz.prog 96 #[.slice (some ⟨bk, off, none⟩) len cap] w
      fun e W' => e = .returned (.tuple #[.agg #[.int .u64 r0, .int .u64 r1, .int .u64 r2, .int .u64 r3], .int .i64 0]) ∧ Below w.heap.size w W' := by
  have h1 : 1 ≤ n := by omega
  refine callsIn_of_wp_marks Tryz.func96 rfl (hF _) ?_ hro
  simp only [Tryz.ntmps96, List.size_toArray, List.length_cons, List.length_nil, Nat.reduceAdd, Nat.reduceSub, Array.replicate_succ, Array.replicate_zero, List.push_toArray, List.append_toArray, List.nil_append, List.cons_append]
  have HC : Hid (∀ j, j < len → w.cell? ⟨bk, off + j, none⟩ = some (.int .u8 (zs[j]?.getD 0))) := hc
  have HR : Hid (lim zs (List.range zs.length) 0 = r0 ∧ lim zs (List.range zs.length) 1 = r1 ∧ lim zs (List.range zs.length) 2 = r2 ∧ lim zs (List.range zs.length) 3 = r3) := hr
  clear hc hr
  gi_wp2_with (gi_at_call 143; refine (backf8_in F (n - 1) (hF _) hro _ _ _ _).mono ?_; rintro e w' ⟨rfl, rfl⟩)
  · rename_i hh
    rcases hh with hh | hh
    · omega
    · exact absurd (by simpa using hh) hne
  obtain ⟨W0, hW0⟩ : ∃ W0, ((((w.alloc (Obj.cells #[Value.slice (some ⟨bk, off, none⟩) len cap] 129)).alloc (Obj.cells #[Value.int IntKind.u64 0, Value.int IntKind.u64 0, Value.int IntKind.u64 0, Value.int IntKind.u64 0] 33)).alloc (Obj.cells #[Value.int IntKind.u64 0, Value.int IntKind.u64 0, Value.int IntKind.u64 0, Value.int IntKind.u64 0] 33)).alloc (Obj.cells #[Value.slice (some ⟨bk, off, none⟩) len cap] 129)) = W0 := ⟨_, rfl⟩
  rw [hW0]
  have hsize : W0.heap.size = w.heap.size + 4 := by rw [← hW0]; simp
  have hB0 : Below w.heap.size w W0 := by
    rw [← hW0]
    exact (((Below.refl _ w).alloc (Nat.le_refl _) _).alloc (by simp) _ |>.alloc (by simp; omega) _).alloc (by simp; omega) _
  have hk0 : W0.heap[w.heap.size]? = some (.cells #[Value.slice (some ⟨bk, off, none⟩) len cap] 129) := by
    rw [← hW0, Below.heap_alloc _ _ _ (by simp only [World.size_alloc]; omega), Below.heap_alloc _ _ _ (by simp only [World.size_alloc]; omega), Below.heap_alloc _ _ _ (by simp only [World.size_alloc]; omega), World.alloc_heap_new]
  have hk1 : W0.heap[w.heap.size + 1]? = some (.cells #[Value.int IntKind.u64 0, Value.int IntKind.u64 0, Value.int IntKind.u64 0, Value.int IntKind.u64 0] 33) := by
    rw [← hW0, Below.heap_alloc _ _ _ (by simp only [World.size_alloc]; omega), Below.heap_alloc _ _ _ (by simp only [World.size_alloc]; omega)]
    have := World.alloc_heap_new (w.alloc (Obj.cells #[Value.slice (some ⟨bk, off, none⟩) len cap] 129)) (Obj.cells #[Value.int IntKind.u64 0, Value.int IntKind.u64 0, Value.int IntKind.u64 0, Value.int IntKind.u64 0] 33)
    rwa [World.size_alloc] at this
  have hk2 : W0.heap[w.heap.size + 1 + 1]? = some (.cells #[Value.int IntKind.u64 0, Value.int IntKind.u64 0, Value.int IntKind.u64 0, Value.int IntKind.u64 0] 33) := by
    rw [← hW0, Below.heap_alloc _ _ _ (by simp only [World.size_alloc]; omega)]
    have := World.alloc_heap_new ((w.alloc (Obj.cells #[Value.slice (some ⟨bk, off, none⟩) len cap] 129)).alloc (Obj.cells #[Value.int IntKind.u64 0, Value.int IntKind.u64 0, Value.int IntKind.u64 0, Value.int IntKind.u64 0] 33)) (Obj.cells #[Value.int IntKind.u64 0, Value.int IntKind.u64 0, Value.int IntKind.u64 0, Value.int IntKind.u64 0] 33)
    rwa [World.size_alloc, World.size_alloc] at this
  have hk3 : W0.heap[w.heap.size + 1 + 1 + 1]? = some (.cells #[Value.slice (some ⟨bk, off, none⟩) len cap] 129) := by
    rw [← hW0]
    have := World.alloc_heap_new (((w.alloc (Obj.cells #[Value.slice (some ⟨bk, off, none⟩) len cap] 129)).alloc (Obj.cells #[Value.int IntKind.u64 0, Value.int IntKind.u64 0, Value.int IntKind.u64 0, Value.int IntKind.u64 0] 33)).alloc (Obj.cells #[Value.int IntKind.u64 0, Value.int IntKind.u64 0, Value.int IntKind.u64 0, Value.int IntKind.u64 0] 33)) (Obj.cells #[Value.slice (some ⟨bk, off, none⟩) len cap] 129)
    rwa [World.size_alloc, World.size_alloc, World.size_alloc] at this
  clear hW0
  refine wpIn_rangeFunc_ownG hro h1 (gf := 171) (lb := #[.pointer (some ⟨w.heap.size + 1 + 1 + 1, 0, none⟩)]) rfl (hF _) (enters_of Tryz.func171 (by kernel_rfl) rfl)
    (back8_stops F (n - 1) (hF _) hro (by omega) (w.heap.size + 1 + 1 + 1) (w.heap.size + 4) (w.heap.size + 1 + 1) (.slice (some ⟨bk, off, none⟩) len cap) zs (by omega) W0 (by omega) (by omega) (by omega)
      (by simp [World.cell?, hk3]) ⟨_, bk, off, cap, by rw [hz], .inr rfl, by omega, by omega, fun j hj => (hB0.cell (p := ⟨bk, off + j, none⟩) hbw).trans (HC.out j (by omega))⟩)
    (fun h k => h.trans k) (ko_b (by omega)) (Below.refl _ _) (fun _ => rfl)
    (fun pre W => (∀ j, j < 4 → W.cell? ⟨w.heap.size + 1 + 1, j, none⟩ = some (.int .u64 (lim zs pre j)) ∧ W.frozen? ⟨w.heap.size + 1 + 1, j, none⟩ = false) ∧ Ko (w.heap.size + 4) (w.heap.size + 1 + 1) W0 W)
    (fun c pre W => False)
    (OwnFrom.and (Own.from (fun s A B row hs hg hr => fun j hj => ⟨cell_kept (hs j hj).1 hg hr, (frozen_kept (hs j hj).1 hg hr).trans (hs j hj).2⟩) _) (ownFrom_ko (by omega) (by omega)))
    (fun c _ _ _ _ hs _ _ => hs)
    ⟨fun j hj => ⟨by obtain rfl | rfl | rfl | rfl : j = 0 ∨ j = 1 ∨ j = 2 ∨ j = 3 := by omega
                     all_goals simp [World.cell?, hk2, lim], by simp [World.frozen?, hk2]⟩, Ko.refl _ _ _⟩
    (fun k => { tmps := #[.slice (some ⟨bk, off, none⟩) len cap, .pointer (some ⟨w.heap.size, 0, none⟩), .pointer (some ⟨w.heap.size + 1, 0, none⟩), .int .i64 0, .pointer (some ⟨w.heap.size + 1 + 1, 0, none⟩), .int .i64 ((back zs k).1 : Int), .int .u8 (back zs k).2, undef, Value.slice (some ⟨bk, off, none⟩) len cap, Value.int IntKind.i64 ↑len, Value.bool (decide ((32 : Int) < ↑len)), Value.bool (decide ((32 : Int) < ↑len)), Value.slice (some ⟨bk, off, none⟩) len cap, Value.int IntKind.i64 ↑len, Value.bool true, Value.bool true, Value.slice (some ⟨bk, off, none⟩) len cap, Value.pointer (some ⟨bk, off, none⟩), Value.int IntKind.u8 x0, Value.bool false, Value.bool false, Value.bool (decide ((32 : Int) < ↑len)), undef, .slice (some ⟨bk, off, none⟩) len cap,
       .func (.func 171) #[] #[.pointer (some ⟨w.heap.size + 1 + 1 + 1, 0, none⟩)], .int .i64 ((back zs k).1 : Int), .int .u8 (back zs k).2, undef, undef, undef, undef, undef, undef, undef, undef, undef, undef, undef, undef, undef, undef, undef, undef, undef, undef], defers := [] }) ?assign ?body ?done ?stop
  case assign =>
    intro l x W K hK
    gi_wp2
    exact hK
  case body =>
    rintro l pre k W ⟨hp, hB⟩ hpl
    obtain ⟨m, x, hm⟩ : ∃ m x, back zs k = (m, x) := ⟨_, _, rfl⟩
    rw [hm]
    dsimp only
    have hml : m < len := by have := congrArg Prod.fst hm; simp only [back] at this; omega
    obtain ⟨q, hq⟩ : ∃ q, q + m + 1 = len := ⟨len - 1 - m, by omega⟩
    have hq8 : q / 8 < 4 := by omega
    have hcx : W.cell? ⟨w.heap.size + 1 + 1, q / 8, none⟩ = some (.int .u64 (lim zs pre (q / 8))) := (hp _ hq8).1
    have hfx : W.frozen? ⟨w.heap.size + 1 + 1, q / 8, none⟩ = false := (hp _ hq8).2
    have hb1 : W.cell? ⟨w.heap.size, 0, none⟩ = some (.slice (some ⟨bk, off, none⟩) len cap) := by
      rw [hB.cell (p := ⟨w.heap.size, 0, none⟩) (by simp) (by simp; omega)]
      simp [World.cell?, hk0]
    have hmx : Tryz.prog.follows .mixedOrders = true := by kernel_rfl
    have HP : Hid (∀ j, j < 4 → W.cell? ⟨w.heap.size + 1 + 1, j, none⟩ = some (.int .u64 (lim zs pre j)) ∧ W.frozen? ⟨w.heap.size + 1 + 1, j, none⟩ = false) := hp
    have HQ : Hid (q + m + 1 = len) := hq
    have HM : Hid (back zs k = (m, x)) := hm
    have hql : (len : Int) - 1 - m = (q : Nat) := by omega
    obtain ⟨old, hold'⟩ : ∃ old, lim zs pre (q / 8) = old := ⟨_, rfl⟩
    have HO : Hid (lim zs pre (q / 8) = old) := hold'
    rw [hold'] at hcx
    have hx : 0 ≤ x ∧ x < 256 := by
      have := congrArg Prod.snd hm
      simp only [back] at this
      rw [← this]
      cases hzz : zs[zs.length - 1 - k]? with
      | none => exact ⟨by simp, by simp⟩
      | some z => exact hby z (List.mem_of_getElem? hzz)
    have HXX : Hid (0 ≤ x ∧ x < 256) := hx
    have hq32 : q < 32 := by omega
    clear hp hq hm hold' hx
    gi_wp2
    obtain ⟨t27, t28, t29, t30, t31, ht⟩ : ∃ t27 t28 t29 t30 t31, (t27, t28, t29, t30, t31) = (Value.slice (some ⟨bk, off, none⟩) len cap, Value.int .i64 len, Value.int .i64 ((len : Int) - 1), Value.int .i64 (m : Int), Value.int .i64 (q : Nat)) := ⟨_, _, _, _, _, rfl⟩
    refine wpIn_region_any hmx (wpAny_inv (St := fun L a w' => L.size = 13 ∧ ∃ s0 s1 s2 s3 s4 s5 s6 s7 s8 s9 s10 s11, a = { tmps := #[.slice (some ⟨bk, off, none⟩) len cap, .pointer (some ⟨w.heap.size, 0, none⟩), .pointer (some ⟨w.heap.size + 1, 0, none⟩), .int .i64 0, .pointer (some ⟨w.heap.size + 1 + 1, 0, none⟩), .int .i64 m, .int .u8 x, .int .i64 (q : Nat), Value.slice (some ⟨bk, off, none⟩) len cap, Value.int IntKind.i64 ↑len, Value.bool (decide ((32 : Int) < ↑len)), Value.bool (decide ((32 : Int) < ↑len)), Value.slice (some ⟨bk, off, none⟩) len cap, Value.int IntKind.i64 ↑len, Value.bool true, Value.bool true, Value.slice (some ⟨bk, off, none⟩) len cap, Value.pointer (some ⟨bk, off, none⟩), Value.int IntKind.u8 x0, Value.bool false, Value.bool false, Value.bool (decide ((32 : Int) < ↑len)), undef, .slice (some ⟨bk, off, none⟩) len cap, .func (.func 171) #[] #[.pointer (some ⟨w.heap.size + 1 + 1 + 1, 0, none⟩)], .int .i64 m, .int .u8 x, t27, t28, t29, t30, t31, s0, s1, s2, s3, s4, s5, s6, s7, s8, s9, s10, s11, undef], defers := [] } ∧ (L.getD 0 false = true → s0 = Value.int .i64 (q : Nat)) ∧ (L.getD 1 false = true → s1 = Value.int .i64 ((q / 8 : Nat) : Int)) ∧ (L.getD 2 false = true → s2 = Value.pointer (some ⟨w.heap.size + 1 + 1, q / 8, none⟩)) ∧ (L.getD 3 false = true → s3 = Value.int .u64 old) ∧ (L.getD 4 false = true → s4 = Value.int .u8 x) ∧ (L.getD 5 false = true → s5 = Value.int .u64 x) ∧ (L.getD 6 false = true → s6 = Value.int .i64 (q : Nat)) ∧ (L.getD 7 false = true → s7 = Value.int .i64 ((q % 8 : Nat) : Int)) ∧ (L.getD 8 false = true → s8 = Value.int .i64 ((8 * (q % 8) : Nat) : Int)) ∧ (L.getD 9 false = true → s9 = Value.int .u64 (shlV x (8 * (q % 8)))) ∧ (L.getD 10 false = true → s10 = Value.int .u64 (orU old (shlV x (8 * (q % 8))))) ∧ (L.getD 11 false = true → s11 = Value.pointer (some ⟨w.heap.size + 1 + 1, q / 8, none⟩))
      ∧ (L.getD 12 false = false → w' = W.drew) ∧ (L.getD 12 false = true → w' = W.drew.setCell ⟨w.heap.size + 1 + 1, q / 8, none⟩ (.int .u64 (orU old (shlV x (8 * (q % 8)))))) ∧ (L.getD 12 false = true → L.getD 10 false = true) ∧ (L.getD 10 false = true → L.getD 3 false = true))
      ?hord ?hsz ?hstep ?hend _ _ _ _ ?start ?cnt)
    case cnt => simp only [List.size_toArray, List.length_cons, List.length_nil]; decide
    case start =>
      refine ⟨by simp, undef, undef, undef, undef, undef, undef, undef, undef, undef, undef, undef, undef, ?_, ?_⟩
      · simp only [Prod.mk.injEq] at ht
        obtain ⟨rfl, rfl, rfl, rfl, rfl⟩ := ht
        rfl
      · simp
    case hsz => exact fun L a w' h => h.1
    case hord =>
      intro i o ho e he
      have hb : (#[[], [0], [1], [2], [], [4], [], [6], [7], [5, 8], [3, 9], [1, 0, 1, 2, 3, 4, 5, 6, 7, 8, 9, 10], [11, 10, 0, 1, 2, 3, 4, 5, 6, 7, 8, 9, 10]] : Array (List Nat)).size = 13 := rfl
      have hi : i < 13 := (Array.getElem?_eq_some_iff.1 ho).1
      obtain rfl | rfl | rfl | rfl | rfl | rfl | rfl | rfl | rfl | rfl | rfl | rfl | rfl : i = 0 ∨ i = 1 ∨ i = 2 ∨ i = 3 ∨ i = 4 ∨ i = 5 ∨ i = 6 ∨ i = 7 ∨ i = 8 ∨ i = 9 ∨ i = 10 ∨ i = 11 ∨ i = 12 := by omega
      all_goals
        injection ho with ho
        subst ho
        simp at he
        try (simp [he]; done)
        try (rcases he with he | he <;> simp [he] <;> done)
        try (rcases he with he | he | he | he | he | he | he | he | he | he | he | he <;> simp [he] <;> done)
        try (rcases he with he | he | he | he | he | he | he | he | he | he | he | he | he <;> simp [he] <;> done)
    case hstep =>
      rintro L a w' i o ⟨hL, s0, s1, s2, s3, s4, s5, s6, s7, s8, s9, s10, s11, rfl, f0, f1, f2, f3, f4, f5, f6, f7, f8, f9, f10, f11, g0, g1, g2, g3⟩ ho hLi hall
      have hi : i < 13 := (Array.getElem?_eq_some_iff.1 ho).1
      obtain rfl | rfl | rfl | rfl | rfl | rfl | rfl | rfl | rfl | rfl | rfl | rfl | rfl : i = 0 ∨ i = 1 ∨ i = 2 ∨ i = 3 ∨ i = 4 ∨ i = 5 ∨ i = 6 ∨ i = 7 ∨ i = 8 ∨ i = 9 ∨ i = 10 ∨ i = 11 ∨ i = 12 := by omega
      · have ho' := Option.some.inj ho
        subst ho'
        refine wpOpIn_plain ho rfl rfl (fun c h => by cases h) (v := Value.int .i64 (q : Nat)) (w' := w') ?_ ?_
        · rfl
        · exact ⟨by simp [hL], _, _, _, _, _, _, _, _, _, _, _, _, rfl, by rw [gs]; simp [hL], by rw [gs]; simpa [hL] using f1, by rw [gs]; simpa [hL] using f2, by rw [gs]; simpa [hL] using f3, by rw [gs]; simpa [hL] using f4, by rw [gs]; simpa [hL] using f5, by rw [gs]; simpa [hL] using f6, by rw [gs]; simpa [hL] using f7, by rw [gs]; simpa [hL] using f8, by rw [gs]; simpa [hL] using f9, by rw [gs]; simpa [hL] using f10, by rw [gs]; simpa [hL] using f11, by rw [gs]; simpa [hL] using g0, by rw [gs]; simpa [hL] using g1, by rw [gs, gs]; simpa [hL] using g2, by rw [gs, gs]; simpa [hL] using g3⟩
      · have ho' := Option.some.inj ho
        subst ho'
        obtain rfl := f0 (hall ⟨0, .data⟩ (by simp) (by kernel_rfl))
        refine wpOpIn_plain ho rfl rfl (fun c h => by cases h) (v := Value.int .i64 ((q / 8 : Nat) : Int)) (w' := w') ?_ ?_
        · simp [execOp, Act.eval, go_sem]; rw [IntKind.wrap_i64]; omega
        · exact ⟨by simp [hL], _, _, _, _, _, _, _, _, _, _, _, _, rfl, by rw [gs]; simp [hL], by rw [gs]; simp [hL], by rw [gs]; simpa [hL] using f2, by rw [gs]; simpa [hL] using f3, by rw [gs]; simpa [hL] using f4, by rw [gs]; simpa [hL] using f5, by rw [gs]; simpa [hL] using f6, by rw [gs]; simpa [hL] using f7, by rw [gs]; simpa [hL] using f8, by rw [gs]; simpa [hL] using f9, by rw [gs]; simpa [hL] using f10, by rw [gs]; simpa [hL] using f11, by rw [gs]; simpa [hL] using g0, by rw [gs]; simpa [hL] using g1, by rw [gs, gs]; simpa [hL] using g2, by rw [gs, gs]; simpa [hL] using g3⟩
      · have ho' := Option.some.inj ho
        subst ho'
        obtain rfl := f1 (hall ⟨1, .data⟩ (by simp) (by kernel_rfl))
        refine wpOpIn_plain ho rfl rfl (fun c h => by cases h) (v := Value.pointer (some ⟨w.heap.size + 1 + 1, q / 8, none⟩)) (w' := w') ?_ ?_
        · simp [execOp, Act.eval, go_sem]; rw [if_pos (by omega), show ((q : Int) / 8).toNat = q / 8 by omega]
        · exact ⟨by simp [hL], _, _, _, _, _, _, _, _, _, _, _, _, rfl, by rw [gs]; simpa [hL] using f0, by rw [gs]; simp [hL], by rw [gs]; simp [hL], by rw [gs]; simpa [hL] using f3, by rw [gs]; simpa [hL] using f4, by rw [gs]; simpa [hL] using f5, by rw [gs]; simpa [hL] using f6, by rw [gs]; simpa [hL] using f7, by rw [gs]; simpa [hL] using f8, by rw [gs]; simpa [hL] using f9, by rw [gs]; simpa [hL] using f10, by rw [gs]; simpa [hL] using f11, by rw [gs]; simpa [hL] using g0, by rw [gs]; simpa [hL] using g1, by rw [gs, gs]; simpa [hL] using g2, by rw [gs, gs]; simpa [hL] using g3⟩
      · have ho' := Option.some.inj ho
        subst ho'
        obtain rfl := f2 (hall ⟨2, .data⟩ (by simp) (by kernel_rfl))
        have g := g0 (by
          cases h12 : L.getD 12 false with
          | false => rfl
          | true => have := g3 (g2 h12); rw [Array.getD_eq_getD_getElem?] at hLi this; simp [hL] at hLi this; rw [hLi] at this; cases this)
        subst g
        refine wpOpIn_plain ho rfl rfl (fun c h => by cases h) (v := Value.int .u64 old) (w' := W.drew) ?_ ?_
        · simp [execOp, Act.eval, go_sem, hcx]
        · exact ⟨by simp [hL], _, _, _, _, _, _, _, _, _, _, _, _, rfl, by rw [gs]; simpa [hL] using f0, by rw [gs]; simpa [hL] using f1, by rw [gs]; simp [hL], by rw [gs]; simp [hL], by rw [gs]; simpa [hL] using f4, by rw [gs]; simpa [hL] using f5, by rw [gs]; simpa [hL] using f6, by rw [gs]; simpa [hL] using f7, by rw [gs]; simpa [hL] using f8, by rw [gs]; simpa [hL] using f9, by rw [gs]; simpa [hL] using f10, by rw [gs]; simpa [hL] using f11, by rw [gs]; simp [hL], by rw [gs]; simpa [hL] using g1, by rw [gs, gs]; simpa [hL] using g2, by rw [gs, gs]; simp [hL]⟩
      · have ho' := Option.some.inj ho
        subst ho'
        refine wpOpIn_plain ho rfl rfl (fun c h => by cases h) (v := Value.int .u8 x) (w' := w') ?_ ?_
        · rfl
        · exact ⟨by simp [hL], _, _, _, _, _, _, _, _, _, _, _, _, rfl, by rw [gs]; simpa [hL] using f0, by rw [gs]; simpa [hL] using f1, by rw [gs]; simpa [hL] using f2, by rw [gs]; simpa [hL] using f3, by rw [gs]; simp [hL], by rw [gs]; simpa [hL] using f5, by rw [gs]; simpa [hL] using f6, by rw [gs]; simpa [hL] using f7, by rw [gs]; simpa [hL] using f8, by rw [gs]; simpa [hL] using f9, by rw [gs]; simpa [hL] using f10, by rw [gs]; simpa [hL] using f11, by rw [gs]; simpa [hL] using g0, by rw [gs]; simpa [hL] using g1, by rw [gs, gs]; simpa [hL] using g2, by rw [gs, gs]; simpa [hL] using g3⟩
      · have ho' := Option.some.inj ho
        subst ho'
        obtain rfl := f4 (hall ⟨4, .data⟩ (by simp) (by kernel_rfl))
        refine wpOpIn_plain ho rfl rfl (fun c h => by cases h) (v := Value.int .u64 x) (w' := w') ?_ ?_
        · simp [execOp, Act.eval, go_sem]; rw [IntKind.wrap_u64]; have := HXX.out; omega
        · exact ⟨by simp [hL], _, _, _, _, _, _, _, _, _, _, _, _, rfl, by rw [gs]; simpa [hL] using f0, by rw [gs]; simpa [hL] using f1, by rw [gs]; simpa [hL] using f2, by rw [gs]; simpa [hL] using f3, by rw [gs]; simp [hL], by rw [gs]; simp [hL], by rw [gs]; simpa [hL] using f6, by rw [gs]; simpa [hL] using f7, by rw [gs]; simpa [hL] using f8, by rw [gs]; simpa [hL] using f9, by rw [gs]; simpa [hL] using f10, by rw [gs]; simpa [hL] using f11, by rw [gs]; simpa [hL] using g0, by rw [gs]; simpa [hL] using g1, by rw [gs, gs]; simpa [hL] using g2, by rw [gs, gs]; simpa [hL] using g3⟩
      · have ho' := Option.some.inj ho
        subst ho'
        refine wpOpIn_plain ho rfl rfl (fun c h => by cases h) (v := Value.int .i64 (q : Nat)) (w' := w') ?_ ?_
        · rfl
        · exact ⟨by simp [hL], _, _, _, _, _, _, _, _, _, _, _, _, rfl, by rw [gs]; simpa [hL] using f0, by rw [gs]; simpa [hL] using f1, by rw [gs]; simpa [hL] using f2, by rw [gs]; simpa [hL] using f3, by rw [gs]; simpa [hL] using f4, by rw [gs]; simpa [hL] using f5, by rw [gs]; simp [hL], by rw [gs]; simpa [hL] using f7, by rw [gs]; simpa [hL] using f8, by rw [gs]; simpa [hL] using f9, by rw [gs]; simpa [hL] using f10, by rw [gs]; simpa [hL] using f11, by rw [gs]; simpa [hL] using g0, by rw [gs]; simpa [hL] using g1, by rw [gs, gs]; simpa [hL] using g2, by rw [gs, gs]; simpa [hL] using g3⟩
      · have ho' := Option.some.inj ho
        subst ho'
        obtain rfl := f6 (hall ⟨6, .data⟩ (by simp) (by kernel_rfl))
        refine wpOpIn_plain ho rfl rfl (fun c h => by cases h) (v := Value.int .i64 ((q % 8 : Nat) : Int)) (w' := w') ?_ ?_
        · simp [execOp, Act.eval, go_sem]; rw [Int.tmod_eq_emod_of_nonneg (by omega)]
        · exact ⟨by simp [hL], _, _, _, _, _, _, _, _, _, _, _, _, rfl, by rw [gs]; simpa [hL] using f0, by rw [gs]; simpa [hL] using f1, by rw [gs]; simpa [hL] using f2, by rw [gs]; simpa [hL] using f3, by rw [gs]; simpa [hL] using f4, by rw [gs]; simpa [hL] using f5, by rw [gs]; simp [hL], by rw [gs]; simp [hL], by rw [gs]; simpa [hL] using f8, by rw [gs]; simpa [hL] using f9, by rw [gs]; simpa [hL] using f10, by rw [gs]; simpa [hL] using f11, by rw [gs]; simpa [hL] using g0, by rw [gs]; simpa [hL] using g1, by rw [gs, gs]; simpa [hL] using g2, by rw [gs, gs]; simpa [hL] using g3⟩
      · have ho' := Option.some.inj ho
        subst ho'
        obtain rfl := f7 (hall ⟨7, .data⟩ (by simp) (by kernel_rfl))
        refine wpOpIn_plain ho rfl rfl (fun c h => by cases h) (v := Value.int .i64 ((8 * (q % 8) : Nat) : Int)) (w' := w') ?_ ?_
        · simp [execOp, Act.eval, go_sem]; rw [IntKind.wrap_i64]; omega
        · exact ⟨by simp [hL], _, _, _, _, _, _, _, _, _, _, _, _, rfl, by rw [gs]; simpa [hL] using f0, by rw [gs]; simpa [hL] using f1, by rw [gs]; simpa [hL] using f2, by rw [gs]; simpa [hL] using f3, by rw [gs]; simpa [hL] using f4, by rw [gs]; simpa [hL] using f5, by rw [gs]; simpa [hL] using f6, by rw [gs]; simp [hL], by rw [gs]; simp [hL], by rw [gs]; simpa [hL] using f9, by rw [gs]; simpa [hL] using f10, by rw [gs]; simpa [hL] using f11, by rw [gs]; simpa [hL] using g0, by rw [gs]; simpa [hL] using g1, by rw [gs, gs]; simpa [hL] using g2, by rw [gs, gs]; simpa [hL] using g3⟩
      · have ho' := Option.some.inj ho
        subst ho'
        obtain rfl := f5 (hall ⟨5, .data⟩ (by simp) (by kernel_rfl))
        obtain rfl := f8 (hall ⟨8, .data⟩ (by simp) (by kernel_rfl))
        refine wpOpIn_plain ho rfl rfl (fun c h => by cases h) (v := Value.int .u64 (shlV x (8 * (q % 8)))) (w' := w') ?_ ?_
        · simp [execOp, Act.eval, go_sem]; rw [show (8 * ((q : Int) % 8)).toNat = 8 * (q % 8) by omega]; rfl
        · exact ⟨by simp [hL], _, _, _, _, _, _, _, _, _, _, _, _, rfl, by rw [gs]; simpa [hL] using f0, by rw [gs]; simpa [hL] using f1, by rw [gs]; simpa [hL] using f2, by rw [gs]; simpa [hL] using f3, by rw [gs]; simpa [hL] using f4, by rw [gs]; simp [hL], by rw [gs]; simpa [hL] using f6, by rw [gs]; simpa [hL] using f7, by rw [gs]; simp [hL], by rw [gs]; simp [hL], by rw [gs]; simpa [hL] using f10, by rw [gs]; simpa [hL] using f11, by rw [gs]; simpa [hL] using g0, by rw [gs]; simpa [hL] using g1, by rw [gs, gs]; simpa [hL] using g2, by rw [gs, gs]; simpa [hL] using g3⟩
      · have ho' := Option.some.inj ho
        subst ho'
        obtain rfl := f3 (hall ⟨3, .data⟩ (by simp) (by kernel_rfl))
        obtain rfl := f9 (hall ⟨9, .data⟩ (by simp) (by kernel_rfl))
        refine wpOpIn_plain ho rfl rfl (fun c h => by cases h) (v := Value.int .u64 (orU old (shlV x (8 * (q % 8))))) (w' := w') ?_ ?_
        · simp [execOp, Act.eval, go_sem]; rfl
        · exact ⟨by simp [hL], _, _, _, _, _, _, _, _, _, _, _, _, rfl, by rw [gs]; simpa [hL] using f0, by rw [gs]; simpa [hL] using f1, by rw [gs]; simpa [hL] using f2, by rw [gs]; simp [hL], by rw [gs]; simpa [hL] using f4, by rw [gs]; simpa [hL] using f5, by rw [gs]; simpa [hL] using f6, by rw [gs]; simpa [hL] using f7, by rw [gs]; simpa [hL] using f8, by rw [gs]; simp [hL], by rw [gs]; simp [hL], by rw [gs]; simpa [hL] using f11, by rw [gs]; simpa [hL] using g0, by rw [gs]; simpa [hL] using g1, by rw [gs, gs]; simp [hL], by rw [gs, gs]; simp [hL, hall ⟨3, .data⟩ (by simp) (by kernel_rfl)]⟩
      · have ho' := Option.some.inj ho
        subst ho'
        obtain rfl := f1 (hall ⟨1, .data⟩ (by simp) (by kernel_rfl))
        refine wpOpIn_plain ho rfl rfl (fun c h => by cases h) (v := Value.pointer (some ⟨w.heap.size + 1 + 1, q / 8, none⟩)) (w' := w') ?_ ?_
        · simp [execOp, Act.eval, go_sem]; rw [if_pos (by omega), show ((q : Int) / 8).toNat = q / 8 by omega]
        · exact ⟨by simp [hL], _, _, _, _, _, _, _, _, _, _, _, _, rfl, by rw [gs]; simpa [hL] using f0, by rw [gs]; simp [hL], by rw [gs]; simpa [hL] using f2, by rw [gs]; simpa [hL] using f3, by rw [gs]; simpa [hL] using f4, by rw [gs]; simpa [hL] using f5, by rw [gs]; simpa [hL] using f6, by rw [gs]; simpa [hL] using f7, by rw [gs]; simpa [hL] using f8, by rw [gs]; simpa [hL] using f9, by rw [gs]; simpa [hL] using f10, by rw [gs]; simp [hL], by rw [gs]; simpa [hL] using g0, by rw [gs]; simpa [hL] using g1, by rw [gs, gs]; simpa [hL] using g2, by rw [gs, gs]; simpa [hL] using g3⟩
      · have ho' := Option.some.inj ho
        subst ho'
        obtain rfl := f11 (hall ⟨11, .data⟩ (by simp) (by kernel_rfl))
        obtain rfl := f10 (hall ⟨10, .data⟩ (by simp) (by kernel_rfl))
        have g := g0 (by rw [Array.getD_eq_getD_getElem?] at hLi ⊢; simp [hL] at hLi ⊢; exact hLi)
        subst g
        refine wpOpIn_skipv ho rfl rfl (fun c h => by cases h) (w' := W.drew.setCell ⟨w.heap.size + 1 + 1, q / 8, none⟩ (.int .u64 (orU old (shlV x (8 * (q % 8)))))) ?_ ?_
        · simp [execOp, Act.eval, go_sem, hcx, hfx]
        · exact ⟨by simp [hL], _, _, _, _, _, _, _, _, _, _, _, _, rfl, by rw [gs]; simpa [hL] using f0, by rw [gs]; simpa [hL] using f1, by rw [gs]; simpa [hL] using f2, by rw [gs]; simpa [hL] using f3, by rw [gs]; simpa [hL] using f4, by rw [gs]; simpa [hL] using f5, by rw [gs]; simpa [hL] using f6, by rw [gs]; simpa [hL] using f7, by rw [gs]; simpa [hL] using f8, by rw [gs]; simpa [hL] using f9, by rw [gs]; simp [hL], by rw [gs]; simp [hL], by rw [gs]; simp [hL], by rw [gs]; simp [hL], by rw [gs, gs]; simp [hL, hall ⟨10, .data⟩ (by simp) (by kernel_rfl)], by rw [gs, gs]; simpa [hL] using g3⟩
    case hend =>
      rintro L a w' ⟨hL, s0, s1, s2, s3, s4, s5, s6, s7, s8, s9, s10, s11, rfl, f0, f1, f2, f3, f4, f5, f6, f7, f8, f9, f10, f11, g0, g1, g2, g3⟩ hdn
      obtain rfl := g1 (by have := hdn 12 (by simp); rw [Array.getD_eq_getD_getElem?] at this ⊢; simpa [hL] using this)
      have hlim : ∀ j, lim zs (pre ++ [k]) j = bif Nat.beq j (q / 8) then orU (lim zs pre j) (shlV x (8 * (q % 8))) else lim zs pre j := fun j => by
        have hq := HQ.out
        simp only [lim, List.foldl_append, List.foldl_cons, List.foldl_nil, rdStep, HM.out]
        rw [show zs.length - 1 - m = q by omega]
      refine ⟨((KeepsOthers.drew _).trans (KeepsOthers.setCell _ _ _)).from _, Ko.setCell (w := W.drew) (p := ⟨w.heap.size + 1 + 1, q / 8, none⟩) (show Ko (w.heap.size + 4) (w.heap.size + 1 + 1) W W.drew from ⟨rfl, rfl, rfl, Nat.le_refl _, fun _ _ _ => rfl⟩) rfl _, fun j hj => ?_, Ko.setCell (w := W.drew) (p := ⟨w.heap.size + 1 + 1, q / 8, none⟩) ⟨hB.os, hB.tape, hB.output, hB.size, hB.block⟩ rfl _⟩
      obtain ⟨p1, p2⟩ := HP.out j hj
      rw [hlim, World.frozen?_setCell]
      refine ⟨?_, p2⟩
      cases hjq : Nat.beq j (q / 8) with
      | true =>
        obtain rfl := Nat.eq_of_beq_eq_true hjq
        simp only [cond_true]
        rw [HO.out]
        exact World.cell?_setCell_same' _ _ _ (by rw [cell_drew_own, hcx]; rfl)
      | false =>
        simp only [cond_false]
        rw [World.cell?_setCell_other _ _ _ _ (by intro e; injection e with e1 e2 e3; rw [e2, Nat.beq_refl] at hjq; cases hjq)]
        exact p1
  case done =>
    rintro D ys W hD rfl ⟨hp, hB⟩ hK
    obtain ⟨c0, d0⟩ := hp 0 (by omega)
    obtain ⟨c1, d1⟩ := hp 1 (by omega)
    obtain ⟨c2, d2⟩ := hp 2 (by omega)
    obtain ⟨c3, d3⟩ := hp 3 (by omega)
    obtain ⟨hr0, hr1, hr2, hr3⟩ := HR.out
    rw [hr0] at c0; rw [hr1] at c1; rw [hr2] at c2; rw [hr3] at c3
    have e0 : W.cell? ⟨w.heap.size + 1, 0, none⟩ = some (.int .u64 0) := by rw [hB.cell (p := ⟨w.heap.size + 1, 0, none⟩) (by simp) (by simp)]; simp [World.cell?, hk1]
    have e1 : W.cell? ⟨w.heap.size + 1, 1, none⟩ = some (.int .u64 0) := by rw [hB.cell (p := ⟨w.heap.size + 1, 1, none⟩) (by simp) (by simp)]; simp [World.cell?, hk1]
    have e2 : W.cell? ⟨w.heap.size + 1, 2, none⟩ = some (.int .u64 0) := by rw [hB.cell (p := ⟨w.heap.size + 1, 2, none⟩) (by simp) (by simp)]; simp [World.cell?, hk1]
    have e3 : W.cell? ⟨w.heap.size + 1, 3, none⟩ = some (.int .u64 0) := by rw [hB.cell (p := ⟨w.heap.size + 1, 3, none⟩) (by simp) (by simp)]; simp [World.cell?, hk1]
    have hfr : ∀ j, W.frozen? ⟨w.heap.size + 1, j, none⟩ = false := fun j => by
      rw [World.frozen?_of_block (w := W0) (hB.block _ (by simp) (by simp))]
      simp [World.frozen?, hk1]
    have hBb : Below w.heap.size W0 W := ⟨hB.os, hB.tape, hB.output, hB.size, fun k hk => hB.block k (by omega) (by omega)⟩
    have HB := hB0.trans hBb
    clear hp hr0 hr1 hr2 hr3 hB hBb
    gi_wp2
    obtain ⟨W5, hW5⟩ : ∃ W5, ((((W.setCell ⟨w.heap.size + 1, 0, none⟩ (.int .u64 r0)).setCell ⟨w.heap.size + 1, 1, none⟩ (.int .u64 r1)).setCell ⟨w.heap.size + 1, 2, none⟩ (.int .u64 r2)).setCell ⟨w.heap.size + 1, 3, none⟩ (.int .u64 r3)) = W5 := ⟨_, rfl⟩
    rw [hW5]
    have k3 : W5.cell? ⟨w.heap.size + 1, 3, none⟩ = some (.int .u64 r3) := by
      rw [← hW5]
      exact World.cell?_setCell_same' _ _ _ (by rw [cellO _ _ 2 3 _ (by decide), cellO _ _ 1 3 _ (by decide), cellO _ _ 0 3 _ (by decide), e3]; rfl)
    have k2 : W5.cell? ⟨w.heap.size + 1, 2, none⟩ = some (.int .u64 r2) := by
      rw [← hW5, cellO _ _ 3 2 _ (by decide)]
      exact World.cell?_setCell_same' _ _ _ (by rw [cellO _ _ 1 2 _ (by decide), cellO _ _ 0 2 _ (by decide), e2]; rfl)
    have k1 : W5.cell? ⟨w.heap.size + 1, 1, none⟩ = some (.int .u64 r1) := by
      rw [← hW5, cellO _ _ 3 1 _ (by decide), cellO _ _ 2 1 _ (by decide)]
      exact World.cell?_setCell_same' _ _ _ (by rw [cellO _ _ 0 1 _ (by decide), e1]; rfl)
    have k0 : W5.cell? ⟨w.heap.size + 1, 0, none⟩ = some (.int .u64 r0) := by
      rw [← hW5, cellO _ _ 3 0 _ (by decide), cellO _ _ 2 0 _ (by decide), cellO _ _ 1 0 _ (by decide)]
      exact World.cell?_setCell_same' _ _ _ (by rw [e0]; rfl)
    have hK' : W5.heap[D]? = some (.deferred (some [])) := by
      rw [← hW5]
      exact ((((KeepsOthers.setCell W ⟨w.heap.size + 1, 0, none⟩ (.int .u64 r0)).trans (KeepsOthers.setCell _ _ _)).trans (KeepsOthers.setCell _ _ _)).trans (KeepsOthers.setCell _ _ _)).same D _ hK rfl
    have HB5 : Below w.heap.size w W5 := by
      rw [← hW5]
      exact (((HB.setCell (p := ⟨w.heap.size + 1, 0, none⟩) (by simp) _).setCell (p := ⟨w.heap.size + 1, 1, none⟩) (by simp) _).setCell (p := ⟨w.heap.size + 1, 2, none⟩) (by simp) _).setCell (p := ⟨w.heap.size + 1, 3, none⟩) (by simp) _
    have hD' : w.heap.size ≤ D := by omega
    clear hW5
    refine ⟨by simp, .inl ⟨_, _, rfl, run_takeDeferred hK', ?_⟩⟩
    have q0 := cell_kept k0 (grownBy_putObj' _ D (.deferred none)) (fun r e => by cases e; exact ⟨_, hK', rfl⟩)
    have q1 := cell_kept k1 (grownBy_putObj' _ D (.deferred none)) (fun r e => by cases e; exact ⟨_, hK', rfl⟩)
    have q2 := cell_kept k2 (grownBy_putObj' _ D (.deferred none)) (fun r e => by cases e; exact ⟨_, hK', rfl⟩)
    have q3 := cell_kept k3 (grownBy_putObj' _ D (.deferred none)) (fun r e => by cases e; exact ⟨_, hK', rfl⟩)
    refine ⟨.tuple #[.agg #[.int .u64 r0, .int .u64 r1, .int .u64 r2, .int .u64 r3], .int .i64 0], ?_, rfl, HB5.trans (belowK_b (w := w) (Nat.le_refl _) _ D _ _ hD' hK' rfl rfl)⟩
    simp [results, Tryz.f96, go_sem, q0, q1, q2, q3]
  case stop =>
    rintro D c pre W _ _ h _
    exact h.elim

set_option maxRecDepth 100000 in
set_option maxHeartbeats 2000000 in
theorem read0_in (F : Fence) (n : Nat) (hF : ∀ f, F.fn f) (hro : F.round = none) (hn : 6 ≤ n) (A : Option Addr) (cap : Nat) (w : World) :
    CallsIn F n Tryz.prog 96 #[.slice A 0 cap] w
      fun e W' => e = .returned (.tuple #[.agg #[.int .u64 0, .int .u64 0, .int .u64 0, .int .u64 0], .int .i64 0]) ∧ Below w.heap.size w W' := by
  have h1 : 1 ≤ n := by omega
  refine callsIn_of_wp_marks Tryz.func96 rfl (hF _) ?_ hro
  simp only [Tryz.ntmps96, List.size_toArray, List.length_cons, List.length_nil, Nat.reduceAdd, Nat.reduceSub, Array.replicate_succ, Array.replicate_zero, List.push_toArray, List.append_toArray, List.nil_append, List.cons_append]
  gi_wp2_with (gi_at_call 143; refine (backf8_in F (n - 1) (hF _) hro _ _ _ _).mono ?_; rintro e w' ⟨rfl, rfl⟩)
  obtain ⟨zs, rfl⟩ : ∃ zs : List Int, zs = [] := ⟨_, rfl⟩
  obtain ⟨W0, hW0⟩ : ∃ W0, ((((w.alloc (Obj.cells #[Value.slice A 0 cap] 129)).alloc (Obj.cells #[Value.int IntKind.u64 0, Value.int IntKind.u64 0, Value.int IntKind.u64 0, Value.int IntKind.u64 0] 33)).alloc (Obj.cells #[Value.int IntKind.u64 0, Value.int IntKind.u64 0, Value.int IntKind.u64 0, Value.int IntKind.u64 0] 33)).alloc (Obj.cells #[Value.slice A 0 cap] 129)) = W0 := ⟨_, rfl⟩
  rw [hW0]
  have hsize : W0.heap.size = w.heap.size + 4 := by rw [← hW0]; simp
  have hB0 : Below w.heap.size w W0 := by
    rw [← hW0]
    exact (((Below.refl _ w).alloc (Nat.le_refl _) _).alloc (by simp) _ |>.alloc (by simp; omega) _).alloc (by simp; omega) _
  have hk0 : W0.heap[w.heap.size]? = some (.cells #[Value.slice A 0 cap] 129) := by
    rw [← hW0, Below.heap_alloc _ _ _ (by simp only [World.size_alloc]; omega), Below.heap_alloc _ _ _ (by simp only [World.size_alloc]; omega), Below.heap_alloc _ _ _ (by simp only [World.size_alloc]; omega), World.alloc_heap_new]
  have hk1 : W0.heap[w.heap.size + 1]? = some (.cells #[Value.int IntKind.u64 0, Value.int IntKind.u64 0, Value.int IntKind.u64 0, Value.int IntKind.u64 0] 33) := by
    rw [← hW0, Below.heap_alloc _ _ _ (by simp only [World.size_alloc]; omega), Below.heap_alloc _ _ _ (by simp only [World.size_alloc]; omega)]
    have := World.alloc_heap_new (w.alloc (Obj.cells #[Value.slice A 0 cap] 129)) (Obj.cells #[Value.int IntKind.u64 0, Value.int IntKind.u64 0, Value.int IntKind.u64 0, Value.int IntKind.u64 0] 33)
    rwa [World.size_alloc] at this
  have hk2 : W0.heap[w.heap.size + 1 + 1]? = some (.cells #[Value.int IntKind.u64 0, Value.int IntKind.u64 0, Value.int IntKind.u64 0, Value.int IntKind.u64 0] 33) := by
    rw [← hW0, Below.heap_alloc _ _ _ (by simp only [World.size_alloc]; omega)]
    have := World.alloc_heap_new ((w.alloc (Obj.cells #[Value.slice A 0 cap] 129)).alloc (Obj.cells #[Value.int IntKind.u64 0, Value.int IntKind.u64 0, Value.int IntKind.u64 0, Value.int IntKind.u64 0] 33)) (Obj.cells #[Value.int IntKind.u64 0, Value.int IntKind.u64 0, Value.int IntKind.u64 0, Value.int IntKind.u64 0] 33)
    rwa [World.size_alloc, World.size_alloc] at this
  have hk3 : W0.heap[w.heap.size + 1 + 1 + 1]? = some (.cells #[Value.slice A 0 cap] 129) := by
    rw [← hW0]
    have := World.alloc_heap_new (((w.alloc (Obj.cells #[Value.slice A 0 cap] 129)).alloc (Obj.cells #[Value.int IntKind.u64 0, Value.int IntKind.u64 0, Value.int IntKind.u64 0, Value.int IntKind.u64 0] 33)).alloc (Obj.cells #[Value.int IntKind.u64 0, Value.int IntKind.u64 0, Value.int IntKind.u64 0, Value.int IntKind.u64 0] 33)) (Obj.cells #[Value.slice A 0 cap] 129)
    rwa [World.size_alloc, World.size_alloc, World.size_alloc] at this
  clear hW0
  refine wpIn_rangeFunc_ownG hro h1 (gf := 171) (lb := #[.pointer (some ⟨w.heap.size + 1 + 1 + 1, 0, none⟩)]) rfl (hF _) (enters_of Tryz.func171 (by kernel_rfl) rfl)
    (back8_stops F (n - 1) (hF _) hro (by omega) (w.heap.size + 1 + 1 + 1) (w.heap.size + 4) (w.heap.size + 1 + 1) (.slice A 0 cap) [] (by simp) W0 (by omega) (by omega) (by omega)
      (by simp [World.cell?, hk3]) ⟨A, 0, 0, cap, rfl, .inl rfl, by omega, by omega, fun j hj => by simp at hj⟩)
    (fun h k => h.trans k) (ko_b (by omega)) (Below.refl _ _) (fun _ => rfl)
    (fun pre W => (∀ j, j < 4 → W.cell? ⟨w.heap.size + 1 + 1, j, none⟩ = some (.int .u64 (lim [] pre j)) ∧ W.frozen? ⟨w.heap.size + 1 + 1, j, none⟩ = false) ∧ Ko (w.heap.size + 4) (w.heap.size + 1 + 1) W0 W)
    (fun c pre W => False)
    (OwnFrom.and (Own.from (fun s A B row hs hg hr => fun j hj => ⟨cell_kept (hs j hj).1 hg hr, (frozen_kept (hs j hj).1 hg hr).trans (hs j hj).2⟩) _) (ownFrom_ko (by omega) (by omega)))
    (fun c _ _ _ _ hs _ _ => hs)
    ⟨fun j hj => ⟨by obtain rfl | rfl | rfl | rfl : j = 0 ∨ j = 1 ∨ j = 2 ∨ j = 3 := by omega
                     all_goals simp [World.cell?, hk2, lim], by simp [World.frozen?, hk2]⟩, Ko.refl _ _ _⟩
    (fun k => { tmps := #[.slice A 0 cap, .pointer (some ⟨w.heap.size, 0, none⟩), .pointer (some ⟨w.heap.size + 1, 0, none⟩), .int .i64 0, .pointer (some ⟨w.heap.size + 1 + 1, 0, none⟩), .int .i64 ((back [] k).1 : Int), .int .u8 (back [] k).2, undef, Value.slice A 0 cap, Value.int IntKind.i64 0, Value.bool false, Value.bool false, Value.slice A 0 cap, Value.int IntKind.i64 0, Value.bool false, Value.bool false, undef, undef, undef, undef, Value.bool false, Value.bool false, undef, .slice A 0 cap,
       .func (.func 171) #[] #[.pointer (some ⟨w.heap.size + 1 + 1 + 1, 0, none⟩)], .int .i64 ((back [] k).1 : Int), .int .u8 (back [] k).2, undef, undef, undef, undef, undef, undef, undef, undef, undef, undef, undef, undef, undef, undef, undef, undef, undef, undef], defers := [] }) ?assign ?body ?done ?stop
  case assign =>
    intro l x W K hK
    gi_wp2
    exact hK
  case body =>
    rintro l pre k W _ hpl
    simp at hpl
  case done =>
    rintro D ys W hD rfl ⟨hp, hB⟩ hK
    obtain ⟨c0, d0⟩ := hp 0 (by omega)
    obtain ⟨c1, d1⟩ := hp 1 (by omega)
    obtain ⟨c2, d2⟩ := hp 2 (by omega)
    obtain ⟨c3, d3⟩ := hp 3 (by omega)
    have hr0 : lim [] (List.range ([] : List Int).length) 0 = 0 := rfl
    have hr1 : lim [] (List.range ([] : List Int).length) 1 = 0 := rfl
    have hr2 : lim [] (List.range ([] : List Int).length) 2 = 0 := rfl
    have hr3 : lim [] (List.range ([] : List Int).length) 3 = 0 := rfl
    rw [hr0] at c0; rw [hr1] at c1; rw [hr2] at c2; rw [hr3] at c3
    have e0 : W.cell? ⟨w.heap.size + 1, 0, none⟩ = some (.int .u64 0) := by rw [hB.cell (p := ⟨w.heap.size + 1, 0, none⟩) (by simp) (by simp)]; simp [World.cell?, hk1]
    have e1 : W.cell? ⟨w.heap.size + 1, 1, none⟩ = some (.int .u64 0) := by rw [hB.cell (p := ⟨w.heap.size + 1, 1, none⟩) (by simp) (by simp)]; simp [World.cell?, hk1]
    have e2 : W.cell? ⟨w.heap.size + 1, 2, none⟩ = some (.int .u64 0) := by rw [hB.cell (p := ⟨w.heap.size + 1, 2, none⟩) (by simp) (by simp)]; simp [World.cell?, hk1]
    have e3 : W.cell? ⟨w.heap.size + 1, 3, none⟩ = some (.int .u64 0) := by rw [hB.cell (p := ⟨w.heap.size + 1, 3, none⟩) (by simp) (by simp)]; simp [World.cell?, hk1]
    have hfr : ∀ j, W.frozen? ⟨w.heap.size + 1, j, none⟩ = false := fun j => by
      rw [World.frozen?_of_block (w := W0) (hB.block _ (by simp) (by simp))]
      simp [World.frozen?, hk1]
    have hBb : Below w.heap.size W0 W := ⟨hB.os, hB.tape, hB.output, hB.size, fun k hk => hB.block k (by omega) (by omega)⟩
    have HB := hB0.trans hBb
    clear hp hr0 hr1 hr2 hr3 hB hBb
    gi_wp2
    obtain ⟨W5, hW5⟩ : ∃ W5, ((((W.setCell ⟨w.heap.size + 1, 0, none⟩ (.int .u64 0)).setCell ⟨w.heap.size + 1, 1, none⟩ (.int .u64 0)).setCell ⟨w.heap.size + 1, 2, none⟩ (.int .u64 0)).setCell ⟨w.heap.size + 1, 3, none⟩ (.int .u64 0)) = W5 := ⟨_, rfl⟩
    rw [hW5]
    have k3 : W5.cell? ⟨w.heap.size + 1, 3, none⟩ = some (.int .u64 0) := by
      rw [← hW5]
      exact World.cell?_setCell_same' _ _ _ (by rw [cellO _ _ 2 3 _ (by decide), cellO _ _ 1 3 _ (by decide), cellO _ _ 0 3 _ (by decide), e3]; rfl)
    have k2 : W5.cell? ⟨w.heap.size + 1, 2, none⟩ = some (.int .u64 0) := by
      rw [← hW5, cellO _ _ 3 2 _ (by decide)]
      exact World.cell?_setCell_same' _ _ _ (by rw [cellO _ _ 1 2 _ (by decide), cellO _ _ 0 2 _ (by decide), e2]; rfl)
    have k1 : W5.cell? ⟨w.heap.size + 1, 1, none⟩ = some (.int .u64 0) := by
      rw [← hW5, cellO _ _ 3 1 _ (by decide), cellO _ _ 2 1 _ (by decide)]
      exact World.cell?_setCell_same' _ _ _ (by rw [cellO _ _ 0 1 _ (by decide), e1]; rfl)
    have k0 : W5.cell? ⟨w.heap.size + 1, 0, none⟩ = some (.int .u64 0) := by
      rw [← hW5, cellO _ _ 3 0 _ (by decide), cellO _ _ 2 0 _ (by decide), cellO _ _ 1 0 _ (by decide)]
      exact World.cell?_setCell_same' _ _ _ (by rw [e0]; rfl)
    have hK' : W5.heap[D]? = some (.deferred (some [])) := by
      rw [← hW5]
      exact ((((KeepsOthers.setCell W ⟨w.heap.size + 1, 0, none⟩ (.int .u64 0)).trans (KeepsOthers.setCell _ _ _)).trans (KeepsOthers.setCell _ _ _)).trans (KeepsOthers.setCell _ _ _)).same D _ hK rfl
    have HB5 : Below w.heap.size w W5 := by
      rw [← hW5]
      exact (((HB.setCell (p := ⟨w.heap.size + 1, 0, none⟩) (by simp) _).setCell (p := ⟨w.heap.size + 1, 1, none⟩) (by simp) _).setCell (p := ⟨w.heap.size + 1, 2, none⟩) (by simp) _).setCell (p := ⟨w.heap.size + 1, 3, none⟩) (by simp) _
    have hD' : w.heap.size ≤ D := by omega
    clear hW5
    refine ⟨by simp, .inl ⟨_, _, rfl, run_takeDeferred hK', ?_⟩⟩
    have q0 := cell_kept k0 (grownBy_putObj' _ D (.deferred none)) (fun r e => by cases e; exact ⟨_, hK', rfl⟩)
    have q1 := cell_kept k1 (grownBy_putObj' _ D (.deferred none)) (fun r e => by cases e; exact ⟨_, hK', rfl⟩)
    have q2 := cell_kept k2 (grownBy_putObj' _ D (.deferred none)) (fun r e => by cases e; exact ⟨_, hK', rfl⟩)
    have q3 := cell_kept k3 (grownBy_putObj' _ D (.deferred none)) (fun r e => by cases e; exact ⟨_, hK', rfl⟩)
    refine ⟨.tuple #[.agg #[.int .u64 0, .int .u64 0, .int .u64 0, .int .u64 0], .int .i64 0], ?_, rfl, HB5.trans (belowK_b (w := w) (Nat.le_refl _) _ D _ _ hD' hK' rfl rfl)⟩
    simp [results, Tryz.f96, go_sem, q0, q1, q2, q3]
  case stop =>
    rintro D c pre W _ _ h _
    exact h.elim
end Go.Proofs.YtgbckdmdjoldkaaGreatDoor
