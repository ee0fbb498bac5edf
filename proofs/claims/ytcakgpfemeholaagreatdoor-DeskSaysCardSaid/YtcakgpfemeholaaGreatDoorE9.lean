/-
  desk.Run over the example's five lines: put together.
-/
import Derived.Test.YtcakgpfemeholaaGreatDoorE8
set_option linter.unusedSimpArgs false
set_option linter.unusedVariables false
namespace Go.Bm
open Go
theorem partV_of {P : Program} {g : FuncId} {xs : List AV} {r : AV} {l l' : List (Nat × Blk)} {H' : Heap} {n n' : Nat} (h : ValidAt P g xs (layB l .e) n r H' n') (hb : Bodied P g) (h3 : tells l' H' = true) (h4 : partOK n r l l' = true) : (partV g xs r l n l' n').ok P := by
  refine ⟨fun f args H nx r' H' nx' hv => ?_, fun f args H nx r' hv => ?_⟩
  · unfold partV at hv
    cases hb : (Nat.beq f g && (Nat.beq nx n && (AV.beqL args xs && tells l H))) with
    | false => rw [hb] at hv; cases hv
    | true =>
      rw [hb] at hv
      simp only [Bool.and_eq_true] at hb
      obtain ⟨b1, b2, b3, b4⟩ := hb
      have e1 := Nat.eq_of_beq_eq_true b1
      have e2 := Nat.eq_of_beq_eq_true b2
      have e3 := AV.beqL_eq b3
      subst e1 e2 e3
      simp only [cond_true, Option.some.injEq, Prod.mk.injEq] at hv
      obtain ⟨rfl, rfl, rfl⟩ := hv
      exact h.part b4 h3 h4
  · unfold partV at hv
    cases hb' : (Nat.beq f g && (Nat.beq nx n && (AV.beqL args xs && tells l H))) with
    | false => rw [hb'] at hv; cases hv
    | true =>
      simp only [Bool.and_eq_true] at hb'
      rw [Nat.eq_of_beq_eq_true hb'.1]
      exact hb
end Go.Bm
namespace Go.Proofs.YtcakgpfemeholaaGreatDoor
open Go Go.RowKit Go.Bm
open Go.Am (Sc)
set_option maxRecDepth 100000

theorem line_ok (k : Nat) (h : k < 5) : lineOK (lv LV k) = true := by
  obtain rfl | rfl | rfl | rfl | rfl : k = 0 ∨ k = 1 ∨ k = 2 ∨ k = 3 ∨ k = 4 := by omega
  · exact n0
  · exact n1
  · exact n2
  · exact n3
  · exact n4

/-- One round, from strings.Lines's side. -/
theorem line_round {m : Nat} {w1 w : World} {ρ1 ρ : Map} {tmps : Array Value} {fn : FuncId} {l D : Nat} {k : Nat} (hk : k < 5) (hid : ρ1 (ru4 LV).nx = .far l 0)
    (pin : Pin l (.loop (recOf fn tmps #[10] (.region 4 ro4 false) (.block 1 (.region 5 ro5 true)) D)) w1 ρ1)
    (henv : ∀ t, CR ρ1 (((ru4 LV).env.get t).getD .u) (tmps.getD t undef)) (hsz : tmps.size = 19) (hlog : ∀ q ∈ (ru4 LV).env.log, q.1 < 1073741824) {a : Act} (h : Rel 25 w ρ (lv LV k) a) (f : FE w1 ρ1 (ru4 LV).H ((ru4 LV).nx + 1) w ρ (lv LV k).H (lv LV k).nx)
    {Q : Exit → Act → World → Prop} (hQ : ∀ w' ρ' a', Rel 25 w' ρ' (lv LV (k + 1)) a' → FE w1 ρ1 (ru4 LV).H ((ru4 LV).nx + 1) w' ρ' (lv LV (k + 1)).H (lv LV (k + 1)).nx → Q .normal a' w') :
    (Code.seq lA (.block 1 (.seq lB (.seq lC (.seq (.region 6 lq6 false) lD))))).wpIn (FR none) m Tryz.prog Q a w := by
  have hn : 25 ≤ 1073741824 := by omega
  have hn2 : 19 ≤ 1073741824 := by omega
  have hm := mixed
  have hz := line_ok k hk
  unfold lineOK wantL at hz
  simp only [Bool.and_eq_true] at hz
  obtain ⟨⟨⟨⟨⟨⟨⟨⟨⟨⟨⟨g1, g2⟩, g3⟩, g4⟩, g5⟩, g6⟩, g7⟩, g8⟩, g9⟩, g10⟩, g11⟩, hp1, hp2⟩ := hz
  have hw : aWant lq6 (opAt (lq6.toList.drop 2)) (ga4 LV (lv LV k)).env = some true := by
    split at hp1
    · rename_i b e; rw [e, hp1]
    · cases hp1
  have hy : rd (ga4 LV (lv LV k)).env (.tmp 21) = .yl (ru4 LV).nx := by
    unfold isYl at hp2
    split at hp2
    · rename_i j e; rw [e, Nat.eq_of_beq_eq_true hp2]
    · cases hp2
  refine wpIn_seq (cC_in hm KT_ok XD_ok FD_ok.1 FD_ok.2 hn (isN_ok (d := lv LV k) g1) h fun w2 ρ2 a2 r2 f2 => ?_)
  refine wpIn_block (wpIn_seq (cC_in hm KT_ok XD_ok FD_ok.1 FD_ok.2 hn (isN_ok (d := lv LV k) g2) r2 fun w3 ρ3 a3 r3 f3 => ?_))
  refine wpIn_seq (cC_in hm KT_ok XD_ok FD_ok.1 FD_ok.2 hn (isN_ok (d := lv LV k) g3) r3 fun w4 ρ4 a4 r4 f4 => ?_)
  have fA : FE w1 ρ1 (ru4 LV).H ((ru4 LV).nx + 1) w4 ρ4 (ga3 LV (lv LV k)).H (ga3 LV (lv LV k)).nx := ((f.trans f2).trans f3).trans f4
  have r4 : Rel 25 w4 ρ4 (ga3 LV (lv LV k)) a4 := r4
  refine wpIn_seq ?_
  refine yield_region KT_ok XD_ok FD_ok.1 FD_ok.2 hn lq_split lq_nd lq_o (dfs_ok g9) (isS_ok (d := lv LV k) g4) hw hy (isS_ok (d := lv LV k) g7) (l := l) (r := recOf fn tmps #[10] (.region 4 ro4 false) (.block 1 (.region 5 ro5 true)) D) r4 (fA.ext.far _ _ _ hid) (pin.keep fA) rfl ?_ ?_
  · intro w5 ρ5 a5 r5 f5 pin5
    have henv5 : ∀ t, CR ρ5 (((ru4 LV).env.get t).getD .u) (tmps.getD t undef) := fun t => (henv t).ext (fA.trans f5).ext
    have c22 : CR ρ5 (rd (ga4 LV (lv LV k)).env (.tmp 22)) (a5.eval (.tmp 22)) := rd_CR r5.inv.glob r5.env _
    have e1 := put_CR (a := { tmps := tmps, defers := [] }) (d := some 10) hn2 hsz henv5 c22
    have hr : Rel 19 w5 ρ5 (gb0 LV (lv LV k)) { tmps := tmps.setIfInBounds 10 (a5.eval (.tmp 22)), defers := [] } :=
      ⟨by simpa using hsz, put_log hn2 hlog, e1, r5.inv, .nil⟩
    have := round_of (m := m - 1) (f := fn) (s2 := (gb2 LV (lv LV k)).flush) (InRun.region KT_ok XD_ok FD_ok.1 FD_ok.2 hn2 (id := 4) ro4_nd rfl (isS_ok (d := lv LV k) g5)) (InRun.block (id := 1) (InRun.drawn hm KT_ok XD_ok FD_ok.1 FD_ok.2 hn2 (id := 5) ro5_nd (dfs_ok g10) (dfs_ok g11) (isS_ok (d := lv LV k) g6))) hr pin5 rfl rfl
    show RoundIn Fence.wide (m - 1) Tryz.prog l fn (((#[10] : Array Tmp).zip ((#[.tmp 22] : Array Operand).map a5.eval)).foldl (fun t (p, v) => t.setIfInBounds p v) tmps) (.region 4 ro4 false) (.block 1 (.region 5 ro5 true)) w5 _
    rw [args1]
    exact this
  · intro w5 ρ5 a5 r5 f5
    refine cC_in hm KT_ok XD_ok FD_ok.1 FD_ok.2 hn (isN_ok (d := lv LV k) g8) r5 fun w6 ρ6 a6 r6 f6 => ?_
    exact hQ w6 ρ6 a6 r6 ((fA.trans f5).trans f6)

/-- strings.Lines's own loop. -/
theorem lines_calls {m : Nat} {w1 : World} {ρ1 : Map} {tmps : Array Value} {fn : FuncId} {l D : Nat} {vlb : List Value} (hid : ρ1 (ru4 LV).nx = .far l 0) (hI : InvH w1 ρ1 (ru4 LV).H ((ru4 LV).nx + 1))
    (pin : Pin l (.loop (recOf fn tmps #[10] (.region 4 ro4 false) (.block 1 (.region 5 ro5 true)) D)) w1 ρ1) (hlb : CRs ρ1 [.p (lbx LV) 0] vlb)
    (henv : ∀ t, CR ρ1 (((ru4 LV).env.get t).getD .u) (tmps.getD t undef)) (hsz : tmps.size = 19) (hlog : ∀ q ∈ (ru4 LV).env.log, q.1 < 1073741824) :
    CallsIn (FR none) m Tryz.prog 20 (#[.func (.yield l) #[] #[]] ++ vlb.toArray) w1 fun e w2 => (∃ v, e = .returned v) ∧ ∃ ρ2, InvH w2 ρ2 rvE.H rvE.nx ∧ FE w1 ρ1 (ru4 LV).H ((ru4 LV).nx + 1) w2 ρ2 rvE.H rvE.nx := by
  have hn : 25 ≤ 1073741824 := by omega
  have hm := mixed
  refine callsIn_of_wp Tryz.func20 lbody trivial ?_ rfl
  have h0 : Rel 25 w1 ρ1 (lv0 LV) _ := frame_rel (n := 25) (args := [.yl (ru4 LV).nx, .p (lbx LV) 0]) (vargs := Value.func (.yield l) #[] #[] :: vlb) hI (.cons _ _ _ _ (.yl _ _ hid) hlb) (by simp) hn
  have ht : ({ tmps := (#[Value.func (.yield l) #[] #[]] ++ vlb.toArray) ++ Array.replicate (Tryz.f20.ntmps - (#[Value.func (.yield l) #[] #[]] ++ vlb.toArray).size) undef, defers := [] } : Act) = { tmps := (Value.func (.yield l) #[] #[] :: vlb).toArray ++ Array.replicate (25 - (Value.func (.yield l) #[] #[] :: vlb).toArray.size) undef, defers := [] } := by
    have e1 : #[Value.func (.yield l) #[] #[]] ++ vlb.toArray = (Value.func (.yield l) #[] #[] :: vlb).toArray := by simp
    rw [e1]; rfl
  rw [ht]
  have key : ∀ j k : Nat, k + j = 5 → ∀ w ρ a, Rel 25 w ρ (lv LV k) a → FE w1 ρ1 (ru4 LV).H ((ru4 LV).nx + 1) w ρ (lv LV k).H (lv LV k).nx →
      Code.roundsIn (FR none) m Tryz.prog (.seq lA (.block 1 (.seq lB (.seq lC (.seq (.region 6 lq6 false) lD))))) (Exit.inBlock 0 (bodyPost Tryz.prog Tryz.f20 fun e w2 => (∃ v, e = .returned v) ∧ ∃ ρ2, InvH w2 ρ2 rvE.H rvE.nx ∧ FE w1 ρ1 (ru4 LV).H ((ru4 LV).nx + 1) w2 ρ2 rvE.H rvE.nx)) (j + 1) a w := by
    intro j
    induction j with
    | zero =>
      intro k hk w ρ a h f
      obtain rfl : k = 5 := by omega
      rw [roundsIn_succ]
      refine wpIn_seq (cC_in hm KT_ok XD_ok FD_ok.1 FD_ok.2 hn nE h fun w3 ρ3 a3 r3 f3 => ?_)
      have hd : a3.defers = [] := defers_nil r3 (dfs_ok (by kernel_rfl))
      simp only [Exit.then, Exit.inBlock, if_true]
      exact ⟨hd, _, results_none (fn := Tryz.f20) rfl _ _ _, ⟨_, rfl⟩, ρ3, r3.inv, f.trans f3⟩
    | succ j ih =>
      intro k hk w ρ a h f
      rw [roundsIn_succ]
      exact line_round (by omega) hid pin henv hsz hlog h f fun w' ρ' a' r' f' => ih (k + 1) (by omega) w' ρ' a' r' f'
  exact wpIn_block (wpIn_loop_rounds 6 (key 5 0 rfl w1 ρ1 _ h0 .refl))

theorem setHN_H {s : St} {H : Heap} {nx : Nat} : ({ s with H := H, nx := nx } : St).H = H := rfl
theorem setHN_nx {s : St} {H : Heap} {nx : Nat} : ({ s with H := H, nx := nx } : St).nx = nx := rfl
theorem ru5_H : ru5.H = rvE.H := by unfold ru5; exact setHN_H
theorem ru5_nx : ru5.nx = rvE.nx := by unfold ru5; exact setHN_nx
theorem flush_H {st : St} : st.flush.H = st.H := rfl
theorem flush_nx {st : St} : st.flush.nx = st.nx := rfl
theorem r6' : dfs ru5 = true := by kernel_rfl
theorem hd5 : ru5.df = [] := dfs_ok r6'
theorem e12 : ru6.flush.nx = 5974 := by kernel_rfl
theorem run_valid : ValidAt Tryz.prog 7 [.s (.str theText)] (layB l0 .e) 16 (.sl 5973 0 1 5 5 false) ru6.flush.H 5974 := by
  intro w ρ vargs hI hc
  have hn : 19 ≤ 1073741824 := by omega
  have hm := mixed
  have hlen := hc.length
  refine (callsIn_wide (n := 0)).1 (callsIn_of_wp_marks (F := Fence.wide) Tryz.func7 rbody trivial ?_ rfl)
  have h0 : Rel 19 w ρ ru0 _ := frame_rel (n := 19) (args := [.s (.str theText)]) (vargs := vargs) hI hc (by simp) hn
  refine wpIn_seq (cC_in hm KT_ok XD_ok FD_ok.1 FD_ok.2 hn (isN_ok (d := ru0) r0) h0 fun w1 ρ1 a1 q1 f1 => ?_)
  refine wpIn_seq (cC_in hm KT_ok XD_ok FD_ok.1 FD_ok.2 hn (isN_ok (d := ru0) r1) q1 fun w2 ρ2 a2 q2 f2 => ?_)
  refine wpIn_seq (cC_in hm KT_ok XD_ok FD_ok.1 FD_ok.2 hn (isN_ok (d := ru0) r2) q2 fun w3 ρ3 a3 q3 f3 => ?_)
  refine wpIn_seq (wpIn_seq (cC_in hm KT_ok XD_ok FD_ok.1 FD_ok.2 hn (isN_ok (d := ru0) r3) q3 fun w4 ρ4 a4 q4' f4 => ?_))
  have q4' : Rel 19 w4 ρ4 (ru4 LV) a4 := q4'
  have f4 : FE w ρ (layB l0 .e) 16 w4 ρ4 (ru4 LV).H (ru4 LV).nx := ((f1.trans f2).trans f3).trans f4
  refine wpIn_block (range_bm (H2 := rvE.H) (nx2 := rvE.nx) q4' (dfs_ok r6) r4 (enters_of Tryz.func20 (by kernel_rfl) rfl) r5 ?_ ?_)
  · intro w5 ρ5 fn l D vlb hid hI pin hlb henv
    exact lines_calls hid hI pin hlb henv q4'.size q4'.log
  · intro w5 ρ5 D q5 f5 pD hD
    have q5 : Rel 19 w5 ρ5 ru5 a4 := q5
    refine wpIn_seq (region_in (ds := [{ target := .collected D, args := #[] }]) KT_ok XD_ok FD_ok.1 FD_ok.2 hn ro6_nd q5 hd5 (isS_ok (d := ru0) r7) fun w6 ρ6 a6 q6 d6 f6 => ?_)
    have q6 : Rel 19 w6 ρ6 ru6.flush a6 := q6
    have f6 : FE w5 ρ5 ru5.H ru5.nx w6 ρ6 ru6.H ru6.nx := f6
    rw [ru5_H, ru5_nx] at f6
    have f46 : FE w ρ (layB l0 .e) 16 w6 ρ6 ru6.flush.H ru6.flush.nx := by rw [flush_H, flush_nx]; exact f4.trans (f5.trans f6)
    refine wpIn_ret ?_
    refine leaves_mark (a := a6) (w0 := w) KT_ok q6 (Nat.le_trans f4.size hD) f46 (pD.keep f6) r8 ?_
    intro w7 v hi hf hc
    exact ⟨v, ρ6, rfl, e12 ▸ hi, hc, e12 ▸ hf⟩

/-- What Run comes to. -/
noncomputable def runV : Kn := pickV 128 (partV 7 [.s (.str theText)] (.sl 5973 0 1 5 5 false) l0 16 l1 5974) LV
theorem runV_ok : runV.ok Tryz.prog := pickV_ok (partV_of run_valid ⟨_, Tryz.func7, rfl, by show ("jointure/desk.Run" : String) ≠ "runtime.NumGoroutine"; decide⟩ r10 r11) LV_ok
theorem saysRun : (match yTab KT Tryz.prog XD runV 1000 40 4 [] (layB l0 .e) 16 with | some (.s (.b b), _, _) => b | _ => false) = true := by kernel_rfl
end Go.Proofs.YtcakgpfemeholaaGreatDoor
