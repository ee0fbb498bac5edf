/-
  The law's function: true, whatever the number is.
-/
import Derived.Test.YtcakgpfemeholaaGreatDoorD12
set_option linter.unusedSimpArgs false
set_option linter.unusedVariables false
namespace Go.Proofs.YtcakgpfemeholaaGreatDoor
open Go Go.RowKit Go.Bm Go.Lib
open Go.Am (Sc)
set_option maxRecDepth 100000

theorem dqnd {l : List Oper} (hs : ∀ o, o ∈ l → o ∈ dq.toList) : ∀ o ∈ l, ∀ c, o.op ≠ .defer c := fun o ho => noDefer_ok dq_nd o (hs o ho)
theorem at_of {k : Nat} {l : List Oper} (h : dq.toList.drop k = l ++ dq.toList.drop (k + l.length)) : ∀ (j : Nat) o, l[j]? = some o → dq[k + j]? = some o := fun j o hj => by
  have hlt : j < l.length := (List.getElem?_eq_some_iff.1 hj).1
  have : (dq.toList.drop k)[j]? = some o := by rw [h, List.getElem?_append_left hlt]; exact hj
  rw [List.getElem?_drop] at this
  simpa using this
theorem drop0 : dq.toList.drop 0 = dq.toList.take 3 ++ dq.toList.drop (0 + (dq.toList.take 3).length) := by kernel_rfl
theorem drop4 : dq.toList.drop 4 = (dq.toList.drop 4).take 1 ++ dq.toList.drop (4 + ((dq.toList.drop 4).take 1).length) := by kernel_rfl
theorem drop7 : dq.toList.drop 7 = dq.toList.drop 7 ++ dq.toList.drop (7 + (dq.toList.drop 7).length) := by kernel_rfl
theorem idx : List.range dq.size = (List.range (dq.toList.take 3).length).map (0 + ·) ++ (3 :: ((List.range ((dq.toList.drop 4).take 1).length).map (4 + ·) ++ (5 :: (6 :: ((List.range (dq.toList.drop 7).length).map (7 + ·) ++ []))))) := by kernel_rfl

theorem eql_run {ρ : Operand → Value} {o : Oper} {S : ByteArray} {w : World} (ho : o.op = .binOp .eql 9 (.tmp 6) (.tmp 8) 9) (h1 : ρ (.tmp 6) = .string S) (h2 : ρ (.tmp 8) = .string S) : (execOp ρ o).run Tryz.prog w = .ok (.value (.bool true)) w := by
  obtain ⟨dst, op, ty, pos, after, guard⟩ := o
  simp only at ho; subst ho
  simp [execOp, h1, h2, go_sem, uStr]

set_option maxHeartbeats 2000000 in
theorem law_calls (e : Int) (h1 : -9223372036854775808 ≤ e) (h2 : e ≤ 9223372036854775807) (W : World) (hL : Laid W) (ht : TabIs Tryz.prog W "internal/strconv.uint64pow10" .u64 pow10Tab) :
    Calls Tryz.prog 3 #[.int .i64 e] W fun E W' => E = .returned (.bool true) ∧ Below W.heap.size W W' := by
  have hn : 11 ≤ 1073741824 := by omega
  have hm := mixed
  have hI := laid_inv hL
  refine (callsIn_wide (n := 1)).1 (callsIn_of_wp (F := Fence.wide) Tryz.func3 dbody trivial ?_ rfl)
  have r0 : Rel 11 W mapD (d0 e) _ := frame_rel (n := 11) (args := [.s (.i .i64 e)]) (vargs := [.int .i64 e]) hI (.cons _ _ _ _ (.s (.i .i64 e)) .nil) (by simp) hn
  refine wpIn_seq (cC_in hm KT_ok XD_ok FZ_ok.1 FZ_ok.2 hn (isN_ok (d := d0 e) (i1' e)) r0 fun w1 ρ1 a1 r1 f1 => ?_)
  have r1 : Rel 11 w1 ρ1 (d1 e) a1 := r1
  have f1 : FE W mapD (layB l0 .e) 16 w1 ρ1 (d1 e).H (d1 e).nx := f1
  refine wpIn_seq ?_
  rw [← wd_self (defers_nil r1 (dfs_ok (i1d e)))]
  refine wpIn_region ?_
  rw [idx]
  refine sOps_in (ds := []) KT_ok XD_ok FZ_ok.1 FZ_ok.2 hn (dq.toList.take 3) 0 (at_of drop0) (dqnd fun o ho => List.mem_of_mem_take ho) r1 (dfs_ok (i1d e)) (isS_ok (d := d0 e) (i2' e)) _ ?_
  intro w2 ρ2 a2 r2 df2 f2
  have r2 : Rel 11 w2 ρ2 (d2 e) a2 := r2
  have f2 : FE W mapD (layB l0 .e) 16 w2 ρ2 (d2 e).H (d2 e).nx := f1.trans f2
  have x3 : a2.eval (.tmp 5) = .int .i64 e := by
    have hc := rd_CR r2.inv.glob r2.env (.tmp 5)
    rw [i3x e] at hc
    generalize a2.eval (.tmp 5) = v at hc
    cases hc; rfl
  refine call_step (r := .s (.str (sayS e))) (R := fun _ => True) hn dq_g3 dq_o3 (enters_of Tryz.func5 (by kernel_rfl) rfl) (i3w e) r2 (dfs_ok (i2d e)) ?_ ?_
  · simp only [List.map_toArray, List.map_cons, List.map_nil, x3]
    refine (say5 e h1 h2 w2 (tab_fe ht f2)).mono ?_
    rintro E w' ⟨rfl, hB⟩
    exact ⟨_, rfl, .s (.str _), hB, trivial⟩
  intro w3 a3 r3 f3 _
  have r3 : Rel 11 w3 ρ2 (d3 e (sayS e)) a3 := r3
  have f3 : FE W mapD (layB l0 .e) 16 w3 ρ2 (d3 e (sayS e)).H (d3 e (sayS e)).nx := f2.trans f3
  refine sOps_in (ds := []) KT_ok XD_ok FZ_ok.1 FZ_ok.2 hn ((dq.toList.drop 4).take 1) 4 (at_of drop4) (dqnd fun o ho => List.mem_of_mem_drop (List.mem_of_mem_take ho)) r3 (dfs_ok (i2d e)) (isS_ok (d := d0 e) (i4' e (sayS e))) _ ?_
  intro w4 ρ4 a4 r4 df4 f4
  have r4 : Rel 11 w4 ρ4 (d4 e (sayS e)) a4 := r4
  have f4 : FE W mapD (layB l0 .e) 16 w4 ρ4 (d4 e (sayS e)).H (d4 e (sayS e)).nx := f3.trans f4
  have x5 : a4.eval (.tmp 7) = .int .i64 e := by
    have hc := rd_CR r4.inv.glob r4.env (.tmp 7)
    rw [i5x e] at hc
    generalize a4.eval (.tmp 7) = v at hc
    cases hc; rfl
  refine call_step (r := .s (.str (sayS e))) (R := fun _ => True) hn dq_g5 dq_o5 (enters_of Tryz.func6 (by kernel_rfl) rfl) (i5w e _) r4 (dfs_ok (i4d e _)) ?_ ?_
  · simp only [List.map_toArray, List.map_cons, List.map_nil, x5]
    refine (say6 e h1 h2 w4 (tab_fe ht f4)).mono ?_
    rintro E w' ⟨rfl, hB⟩
    exact ⟨_, rfl, .s (.str _), hB, trivial⟩
  intro w5 a5 r5 f5 _
  have r5 : Rel 11 w5 ρ4 (d5 e (sayS e)) a5 := r5
  have f5 : FE W mapD (layB l0 .e) 16 w5 ρ4 (d5 e (sayS e)).H (d5 e (sayS e)).nx := f4.trans f5
  have x6 : a5.eval (.tmp 6) = .string (sayS e) := by
    have hc := rd_CR r5.inv.glob r5.env (.tmp 6)
    rw [i6x e] at hc
    generalize a5.eval (.tmp 6) = v at hc
    cases hc; rfl
  have x8 : a5.eval (.tmp 8) = .string (sayS e) := by
    have hc := rd_CR r5.inv.glob r5.env (.tmp 8)
    rw [i6y e] at hc
    generalize a5.eval (.tmp 8) = v at hc
    cases hc; rfl
  refine pure_step (r := .s (.b true)) (v := .bool true) hn dq_g6 (fun c h => by rw [dq_o6] at h; cases h) (i6w e _) r5 ?_ (.s (.b true)) ?_
  · exact eql_run dq_o6 x6 x8
  intro a6 r6
  have r6 : Rel 11 w5 ρ4 (d6 e (sayS e)) a6 := r6
  refine sOps_in (ds := []) KT_ok XD_ok FZ_ok.1 FZ_ok.2 hn (dq.toList.drop 7) 7 (at_of drop7) (dqnd fun o ho => List.mem_of_mem_drop ho) r6 (dfs_ok (i4d e _)) (isS_ok (d := d0 e) (i7' e (sayS e))) _ ?_
  intro w7 ρ7 a7 r7 df7 f7
  have r7 : Rel 11 w7 ρ7 (d7 e (sayS e)).flush a7 := r7.flush
  have f7 : FE W mapD (layB l0 .e) 16 w7 ρ7 (d7 e (sayS e)).flush.H (d7 e (sayS e)).flush.nx := by rw [flush_H, flush_nx]; exact f5.trans f7
  show Exit.then _ _ .normal (wd a7 []) w7
  rw [wd_self (defers_nil r7 df7)]
  refine wpIn_ret ?_
  obtain ⟨u, g1, g2⟩ := results_sound (P := Tryz.prog) (a := a7) KT_ok r7.inv r7.env (i8' e (sayS e))
  refine ⟨defers_nil r7 df7, u, g1, ?_, end_below hL r7.inv f7 (i9' e _)⟩
  have g2 : CR ρ7 (.s (.b true)) u := g2
  cases g2; rfl
end Go.Proofs.YtcakgpfemeholaaGreatDoor
