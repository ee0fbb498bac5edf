/-
  num.small at five: put together.
-/
import Derived.Test.YtcakgpfemeholaaGreatDoorE5
import Derived.LoopNIn
set_option linter.unusedSimpArgs false
set_option linter.unusedVariables false
namespace Go.Proofs.YtcakgpfemeholaaGreatDoor
open Go Go.RowKit Go.Bm
open Go.Am (Sc)
set_option maxRecDepth 100000

theorem iq_split : iq3.toList = iq3.toList.take 6 ++ opAt (iq3.toList.drop 6) :: iq3.toList.drop 7 := by kernel_rfl
theorem iq_o : (opAt (iq3.toList.drop 6)).op = .call { callee := .value (.tmp 11), args := #[.tmp 12, .tmp 16], argTypes := #[3, 36] } := by kernel_rfl
theorem iq_nd : noDefer iq3.toList = true := by kernel_rfl
theorem so3_nd : noDefer so3.toList = true := by kernel_rfl
theorem so4_nd : noDefer so4.toList = true := by kernel_rfl
theorem so5_nd : noDefer so5.toList = true := by kernel_rfl
theorem so6_nd : noDefer so6.toList = true := by kernel_rfl
noncomputable def wantYl (s : St) : Bool := (match aWant iq3 (opAt (iq3.toList.drop 6)) (fa2 s).env with | some b => b | none => false) && isYl u3.nx (rd (fa2 s).env (.tmp 11))
theorem p0 : wantYl (sv 0) = true := by kernel_rfl
theorem p1 : wantYl (sv 1) = true := by kernel_rfl
theorem p2 : wantYl (sv 2) = true := by kernel_rfl
theorem p3 : wantYl (sv 3) = true := by kernel_rfl
theorem round_ok (k : Nat) (h : k < 4) : roundOK (sv k) = true := by
  obtain rfl | rfl | rfl | rfl : k = 0 ∨ k = 1 ∨ k = 2 ∨ k = 3 := by omega
  · exact z0
  · exact z1
  · exact z2
  · exact z3
theorem want_ok (k : Nat) (h : k < 4) : wantYl (sv k) = true := by
  obtain rfl | rfl | rfl | rfl : k = 0 ∨ k = 1 ∨ k = 2 ∨ k = 3 := by omega
  · exact p0
  · exact p1
  · exact p2
  · exact p3

def lpC : Code := .seq (.region 3 #[] false) .ret

/-- One round, from the function's side. -/
theorem it_round {m : Nat} {w1 w : World} {ρ1 ρ : Map} {tmps : Array Value} {fn : FuncId} {l D : Nat} {k : Nat} (hk : k < 4) (hid : ρ1 u3.nx = .far l 0)
    (pin : Pin l (.loop (recOf fn tmps #[11, 12] (.seq (.region 3 so3 false) (.region 4 so4 false)) (.block 1 (.region 5 so5 false)) D)) w1 ρ1)
    (henv : ∀ t, CR ρ1 ((u3.env.get t).getD .u) (tmps.getD t undef)) (hsz : tmps.size = 24) (hlog : ∀ q ∈ u3.env.log, q.1 < 1073741824) {a : Act} (h : Rel 19 w ρ (sv k) a) (f : FE w1 ρ1 u3.H (u3.nx + 1) w ρ (sv k).H (sv k).nx)
    {Q : Exit → Act → World → Prop} (hQ : ∀ w' ρ' a', Rel 19 w' ρ' (sv (k + 1)) a' → FE w1 ρ1 u3.H (u3.nx + 1) w' ρ' (sv (k + 1)).H (sv (k + 1)).nx → Q .normal a' w') :
    (Code.seq iI1 (.seq (.block 1 (.seq (.region 3 iq3 false) iIc)) iI2)).wpIn (FR none) m Tryz.prog Q a w := by
  have hn : 19 ≤ 1073741824 := by omega
  have hn2 : 24 ≤ 1073741824 := by omega
  have hm := mixed
  have hz := round_ok k hk
  have hp := want_ok k hk
  unfold roundOK at hz
  unfold wantYl at hp
  simp only [Bool.and_eq_true] at hz hp
  obtain ⟨⟨⟨⟨⟨⟨⟨⟨⟨⟨g1, g2⟩, g3⟩, g4⟩, g5⟩, g6⟩, g7⟩, g8⟩, g9⟩, g10⟩, g11⟩ := hz
  obtain ⟨hp1, hp2⟩ := hp
  have hw : aWant iq3 (opAt (iq3.toList.drop 6)) (fa2 (sv k)).env = some true := by
    split at hp1
    · rename_i b e; rw [e, hp1]
    · cases hp1
  have hy : rd (fa2 (sv k)).env (.tmp 11) = .yl u3.nx := by
    unfold isYl at hp2
    split at hp2
    · rename_i j e; rw [e, Nat.eq_of_beq_eq_true hp2]
    · cases hp2
  refine wpIn_seq (cC_in hm KT_ok XD_ok FP_ok.1 FP_ok.2 hn (isN_ok (d := sv k) g1) h fun w2 ρ2 a2 r2 f2 => ?_)
  have f2 : FE w ρ (sv k).H (sv k).nx w2 ρ2 (fa1 (sv k)).H (fa1 (sv k)).nx := f2
  refine wpIn_seq (wpIn_block (wpIn_seq ?_))
  refine yield_region KT_ok XD_ok FP_ok.1 FP_ok.2 hn iq_split iq_nd iq_o (dfs_ok g9) (isS_ok (d := sv k) g2) hw hy (isS_ok (d := sv k) g6) (l := l) (r := recOf fn tmps #[11, 12] (.seq (.region 3 so3 false) (.region 4 so4 false)) (.block 1 (.region 5 so5 false)) D) r2 ((f.trans f2).ext.far _ _ _ hid) ((pin.keep f).keep f2) rfl ?_ ?_
  · intro w3 ρ3 a3 r3 f3 pin3
    show RoundIn Fence.wide (m - 1) Tryz.prog l fn _ _ _ w3 _
    have henv3 : ∀ t, CR ρ3 ((u3.env.get t).getD .u) (tmps.getD t undef) := fun t => (henv t).ext ((f.trans f2).trans f3).ext
    have c12 : CR ρ3 (rd (fa2 (sv k)).env (.tmp 12)) (a3.eval (.tmp 12)) := rd_CR r3.inv.glob r3.env _
    have c16 : CR ρ3 (rd (fa2 (sv k)).env (.tmp 16)) (a3.eval (.tmp 16)) := rd_CR r3.inv.glob r3.env _
    have e1 := put_CR (a := { tmps := tmps, defers := [] }) (d := some 11) hn2 hsz henv3 c12
    have e2 := put_CR (a := ({ tmps := tmps, defers := [] } : Act).put (some 11) (a3.eval (.tmp 12))) (d := some 12) hn2 (put_size hsz) e1 c16
    have hr : Rel 24 w3 ρ3 (fb0 (sv k)) { tmps := (tmps.setIfInBounds 11 (a3.eval (.tmp 12))).setIfInBounds 12 (a3.eval (.tmp 16)), defers := [] } :=
      ⟨by simpa using hsz, put_log hn2 (put_log hn2 hlog), e2, r3.inv, .nil⟩
    have := round_of (m := m - 1) (f := fn) (s2 := (fb3 (sv k)).flush) (InRun.seq (InRun.region KT_ok XD_ok FP_ok.1 FP_ok.2 hn2 (id := 3) so3_nd rfl (isS_ok (d := sv k) g3)) (InRun.region KT_ok XD_ok FP_ok.1 FP_ok.2 hn2 (id := 4) so4_nd (dfs_ok g10) (isS_ok (d := sv k) g4))) (InRun.block (id := 1) (InRun.region KT_ok XD_ok FP_ok.1 FP_ok.2 hn2 (id := 5) so5_nd (dfs_ok g11) (isS_ok (d := sv k) g5))) hr pin3 rfl rfl
    show RoundIn Fence.wide (m - 1) Tryz.prog l fn (((#[11, 12] : Array Tmp).zip ((#[.tmp 12, .tmp 16] : Array Operand).map a3.eval)).foldl (fun t (p, v) => t.setIfInBounds p v) tmps) (.seq (.region 3 so3 false) (.region 4 so4 false)) (.block 1 (.region 5 so5 false)) w3 _
    rw [args2]
    exact this
  · intro w3 ρ3 a3 r3 f3
    refine cC_in hm KT_ok XD_ok FP_ok.1 FP_ok.2 hn (isN_ok (d := sv k) g7) r3 fun w4 ρ4 a4 r4 f4 => ?_
    refine cC_in hm KT_ok XD_ok FP_ok.1 FP_ok.2 hn (isN_ok (d := sv k) g8) r4 fun w5 ρ5 a5 r5 f5 => ?_
    exact hQ w5 ρ5 a5 r5 ((((f.trans f2).trans f3).trans f4).trans f5)

/-- slices.Backward's own loop. -/
theorem it_calls {m : Nat} {w1 : World} {ρ1 : Map} {tmps : Array Value} {fn : FuncId} {l D : Nat} {vlb : List Value} (hid : ρ1 u3.nx = .far l 0) (hI : InvH w1 ρ1 u3.H (u3.nx + 1))
    (pin : Pin l (.loop (recOf fn tmps #[11, 12] (.seq (.region 3 so3 false) (.region 4 so4 false)) (.block 1 (.region 5 so5 false)) D)) w1 ρ1) (hlb : CRs ρ1 [.p bx 0] vlb)
    (henv : ∀ t, CR ρ1 ((u3.env.get t).getD .u) (tmps.getD t undef)) (hsz : tmps.size = 24) (hlog : ∀ q ∈ u3.env.log, q.1 < 1073741824) :
    CallsIn (FR none) m Tryz.prog 124 (#[.func (.yield l) #[] #[]] ++ vlb.toArray) w1 fun e w2 => (∃ v, e = .returned v) ∧ ∃ ρ2, InvH w2 ρ2 vE.H vE.nx ∧ FE w1 ρ1 u3.H (u3.nx + 1) w2 ρ2 vE.H vE.nx := by
  have hn : 19 ≤ 1073741824 := by omega
  have hm := mixed
  refine callsIn_of_wp Tryz.func124 ibody trivial ?_ rfl
  have h0 : Rel 19 w1 ρ1 v0 _ := frame_rel (n := 19) (args := [.yl u3.nx, .p bx 0]) (vargs := Value.func (.yield l) #[] #[] :: vlb) hI (.cons _ _ _ _ (.yl _ _ hid) hlb) (by simp) hn
  have ht : ({ tmps := (#[Value.func (.yield l) #[] #[]] ++ vlb.toArray) ++ Array.replicate (Tryz.f124.ntmps - (#[Value.func (.yield l) #[] #[]] ++ vlb.toArray).size) undef, defers := [] } : Act) = { tmps := (Value.func (.yield l) #[] #[] :: vlb).toArray ++ Array.replicate (19 - (Value.func (.yield l) #[] #[] :: vlb).toArray.size) undef, defers := [] } := by
    have e1 : #[Value.func (.yield l) #[] #[]] ++ vlb.toArray = (Value.func (.yield l) #[] #[] :: vlb).toArray := by simp
    rw [e1]; rfl
  rw [ht]
  refine wpIn_seq (cC_in hm KT_ok XD_ok FP_ok.1 FP_ok.2 hn (isN_ok (d := v0) y5) h0 fun w2 ρ2 a2 r2 f2 => ?_)
  have r2 : Rel 19 w2 ρ2 (sv 0) a2 := r2
  have f2 : FE w1 ρ1 u3.H (u3.nx + 1) w2 ρ2 (sv 0).H (sv 0).nx := f2
  have key : ∀ j k : Nat, k + j = 4 → ∀ w ρ a, Rel 19 w ρ (sv k) a → FE w1 ρ1 u3.H (u3.nx + 1) w ρ (sv k).H (sv k).nx →
      Code.roundsIn (FR none) m Tryz.prog (.seq iI1 (.seq (.block 1 (.seq (.region 3 iq3 false) iIc)) iI2)) (Exit.inBlock 0 (bodyPost Tryz.prog Tryz.f124 fun e w2 => (∃ v, e = .returned v) ∧ ∃ ρ2, InvH w2 ρ2 vE.H vE.nx ∧ FE w1 ρ1 u3.H (u3.nx + 1) w2 ρ2 vE.H vE.nx)) (j + 1) a w := by
    intro j
    induction j with
    | zero =>
      intro k hk w ρ a h f
      obtain rfl : k = 4 := by omega
      rw [roundsIn_succ]
      refine wpIn_seq (cC_in hm KT_ok XD_ok FP_ok.1 FP_ok.2 hn zE h fun w3 ρ3 a3 r3 f3 => ?_)
      have hd : a3.defers = [] := defers_nil r3 rfl
      simp only [Exit.then, Exit.inBlock, if_true]
      exact ⟨hd, _, results_none (fn := Tryz.f124) rfl _ _ _, ⟨_, rfl⟩, ρ3, r3.inv, f.trans f3⟩
    | succ j ih =>
      intro k hk w ρ a h f
      rw [roundsIn_succ]
      exact it_round (by omega) hid pin henv hsz hlog h f fun w' ρ' a' r' f' => ih (k + 1) (by omega) w' ρ' a' r' f'
  exact wpIn_block (wpIn_loop_rounds 5 (key 4 0 rfl w2 ρ2 a2 r2 f2))

theorem u3_log : u3.env.log.all (fun q => Nat.blt q.1 1073741824) = true := by kernel_rfl
theorem u3_df : dfs u3 = true := by kernel_rfl
theorem u5_df : dfs u5 = true := by kernel_rfl

theorem small_calls (w : World) : Calls Tryz.prog 98 #[.agg #[.int .u64 5, .int .u64 0, .int .u64 0, .int .u64 0], .int .u64 tens] w fun e W' => e = .returned (.tuple #[.agg #[.int .u64 0, .int .u64 0, .int .u64 0, .int .u64 0], .int .u64 5]) ∧ Below w.heap.size w W' := by
  have hn : 24 ≤ 1073741824 := by omega
  have hm := mixed
  refine (callsIn_wide (n := 0)).1 (callsIn_of_wp_marks (F := Fence.wide) Tryz.func98 sbody trivial ?_ rfl)
  have h0 : Rel 24 w baseMap u0 _ := frame_rel (n := 24) (args := [q4 5 0 0 0, .s (.i .u64 (.ofNat tens))]) (vargs := [.agg #[.int .u64 5, .int .u64 0, .int .u64 0, .int .u64 0], .int .u64 tens]) (InvH.base w) (.cons _ _ _ _ (.a _ _ (.cons _ _ _ _ (.s (.i .u64 _)) (.cons _ _ _ _ (.s (.i .u64 _)) (.cons _ _ _ _ (.s (.i .u64 _)) (.cons _ _ _ _ (.s (.i .u64 _)) .nil))))) (.cons _ _ _ _ (.s (.i .u64 _)) .nil)) (by simp) hn
  refine wpIn_seq (cC_in hm KT_ok XD_ok FP_ok.1 FP_ok.2 hn (isN_ok (d := u0) y0) h0 fun w1 ρ1 a1 r1 f1 => ?_)
  refine wpIn_seq (cC_in hm KT_ok XD_ok FP_ok.1 FP_ok.2 hn (isN_ok (d := u1) y1) r1 fun w2 ρ2 a2 r2 f2 => ?_)
  refine wpIn_seq (wpIn_seq (cC_in hm KT_ok XD_ok FP_ok.1 FP_ok.2 hn (isN_ok (d := u2) y2) r2 fun w3 ρ3 a3 r3 f3 => ?_))
  have r3 : Rel 24 w3 ρ3 u3 a3 := r3
  have f3 : FE w baseMap .e 16 w3 ρ3 u3.H u3.nx := (f1.trans f2).trans f3
  refine wpIn_block (range_bm (H2 := vE.H) (nx2 := vE.nx) r3 (dfs_ok u3_df) y3 (enters_of Tryz.func124 (by kernel_rfl) rfl) y4 ?_ ?_)
  · intro w4 ρ4 fn l D vlb hid hI pin hlb henv
    exact it_calls hid hI pin hlb henv r3.size r3.log
  · intro w4 ρ4 D r4 f4 pD hD
    have r4 : Rel 24 w4 ρ4 u4 a3 := r4
    refine wpIn_seq (drawn_in (ds := [{ target := .collected D, args := #[] }]) hm KT_ok XD_ok FP_ok.1 FP_ok.2 hn so6_nd r4 (dfs_ok u3_df) (isS_ok (d := u4) yD) fun w5 ρ5 a5 r5 f5 => ?_)
    refine wpIn_ret ?_
    refine leaves_mark (a := a5) (w0 := w) KT_ok r5 (Nat.le_trans f3.size hD) (f3.trans (f4.trans f5)) (pD.keep f5) yR ?_
    intro w6 v hi hf hc
    refine ⟨?_, ⟨hf.os, hf.tape, hf.output, hf.size, fun k hk => (hf.old k hk (fun i s h => baseMap_at h)).1⟩⟩
    have hc : CR ρ5 (.t [q4 0 0 0 0, .s (.i .u64 (.ofNat 5))]) v := hc
    cases hc with | t _ us hu =>
    cases hu with | cons _ v0 _ _ q0 hu =>
    cases hu with | cons _ v1 _ _ q1 hu =>
    cases hu; cases q1
    cases q0 with | a _ us hu =>
    cases hu with | cons _ y0 _ _ p0 hu =>
    cases hu with | cons _ y1 _ _ p1 hu =>
    cases hu with | cons _ y2 _ _ p2 hu =>
    cases hu with | cons _ y3 _ _ p3 hu =>
    cases hu; cases p0; cases p1; cases p2; cases p3
    rfl
end Go.Proofs.YtcakgpfemeholaaGreatDoor
