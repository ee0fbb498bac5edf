/-
  num.Parse at one digit: put together.
-/
import Derived.Test.YtcakgpfemeholaaGreatDoorE3
set_option linter.unusedSimpArgs false
set_option linter.unusedVariables false
namespace Go.Proofs.YtcakgpfemeholaaGreatDoor
open Go Go.RowKit Go.Bm
open Go.Am (Sc)
set_option maxRecDepth 100000

theorem then_normal {P : Program} {x y : Code} {Q : Exit → Act → World → Prop} {a : Act} {w : World} {R : Act → World → Prop} (h : x.wp P (fun e a' w' => e = .normal ∧ R a' w') a w) (k : ∀ a' w', R a' w' → y.wp P Q a' w') : (Code.seq x y).wp P Q a w := by
  refine wp_seq (wp_mono h ?_)
  rintro e a' w' ⟨rfl, hr⟩
  exact k a' w' hr

theorem parse_calls (d : Nat) (hd : isD d) (w : World) : Calls Tryz.prog 25 #[.string (dig d)] w fun e W' => e = .returned (.tuple #[.agg #[.int .u64 d, .int .u64 0, .int .u64 0, .int .u64 0], .int .i64 0]) ∧ Below w.heap.size w W' := by
  have hn : 54 ≤ 1073741824 := by omega
  have hm := mixed
  refine calls_of_wp_defers Tryz.func25 pbody (wp_mono (Q := fun e a' w' => e = .ret ∧ ∃ ρ', Rel 54 w' ρ' (t10 d) a' ∧ FE w baseMap .e 16 w' ρ' (t10 d).H (t10 d).nx) ?_ ?_)
  · have r0 : Rel 54 w baseMap (t0 d) _ := frame_rel (args := [.s (.str (dig d))]) (vargs := [.string (dig d)]) (InvH.base w) (.cons _ _ _ _ (.s (.str _)) .nil) (by simp) hn
    refine then_normal (R := fun a' w' => ∃ ρ', Rel 54 w' ρ' (t1 d) a' ∧ FE w baseMap .e 16 w' ρ' (t1 d).H (t1 d).nx) (cC_firm hm KT_ok XD_ok FP_ok.1 FP_ok.2 hn FE.firm (x1 d hd) r0 .refl) ?_
    rintro a1 w1 ⟨ρ1, r1, f1⟩
    refine then_normal (R := fun a' w' => ∃ ρ', Rel 54 w' ρ' (t2 d) a' ∧ FE w baseMap .e 16 w' ρ' (t2 d).H (t2 d).nx) (cC_firm hm KT_ok XD_ok FP_ok.1 FP_ok.2 hn FE.firm (x2 d hd) r1 f1) ?_
    rintro a2 w2 ⟨ρ2, r2, f2⟩
    refine then_normal (R := fun a' w' => ∃ ρ', Rel 54 w' ρ' (t3 d) a' ∧ FE w baseMap .e 16 w' ρ' (t3 d).H (t3 d).nx) (cC_firm hm KT_ok XD_ok FP_ok.1 FP_ok.2 hn FE.firm (x3 d hd) r2 f2) ?_
    rintro a3 w3 ⟨ρ3, r3, f3⟩
    refine then_normal (R := fun a' w' => ∃ ρ', Rel 54 w' ρ' (t4 d) a' ∧ FE w baseMap .e 16 w' ρ' (t4 d).H (t4 d).nx) (cC_firm hm KT_ok XD_ok FP_ok.1 FP_ok.2 hn FE.firm (x4 d hd) r3 f3) ?_
    rintro a4 w4 ⟨ρ4, r4, f4⟩
    refine then_normal (R := fun a' w' => ∃ ρ', Rel 54 w' ρ' (t9 d) a' ∧ FE w baseMap .e 16 w' ρ' (t9 d).H (t9 d).nx) ?_ ?_
    · -- the range
      refine then_normal (R := fun a' w' => ∃ ρ', Rel 54 w' ρ' (t5 d) a' ∧ Since w baseMap .e 16 (t5a d).nx (dig d) 0 w' ρ' (t5b d).H (t5b d).nx) (region_hand KT_ok XD_ok FP_ok.1 FP_ok.2 hn x5s FE.firm Since.firm (x5 d hd) (range_hand (T := 9) hn (by kernel_rfl) x5o (x5w d hd) (x5r d hd) (x5d d hd) rfl) rfl r4 f4) ?_
      rintro a5 w5 ⟨ρ5, r5, f5⟩
      have f5 : Since w baseMap .e 16 (t5a d).nx (dig d) 0 w5 ρ5 (t5 d).H (t5 d).nx := f5
      refine wp_block (Am.wp_loopN (fun m a' w' => (m = 2 ∧ ∃ ρ', Rel 54 w' ρ' (t5 d) a' ∧ Since w baseMap .e 16 (t5a d).nx (dig d) 0 w' ρ' (t5 d).H (t5 d).nx) ∨ (m = 1 ∧ ∃ ρ', Rel 54 w' ρ' (t7 d) a' ∧ Since w baseMap .e 16 (t5a d).nx (dig d) 1 w' ρ' (t7 d).H (t7 d).nx)) 2 (.inl ⟨rfl, ρ5, r5, f5⟩) ?_)
      rintro m a6 w6 (⟨rfl, ρ6, r6, f6⟩ | ⟨rfl, ρ6, r6, f6⟩)
      · refine then_normal (R := fun a' w' => ∃ ρ', Rel 54 w' ρ' (t6b d).flush a' ∧ Since w baseMap .e 16 (t5a d).nx (dig d) (0 + 1) w' ρ' (t6b d).H (t6b d).nx) (region_hand KT_ok XD_ok FP_ok.1 FP_ok.2 hn x6s Since.firm Since.firm rfl (next_hand hn x6o (x6w d hd) (x6r d hd) (by show 0 < 1; omega) (x6c d hd) rfl) (x6 d hd) r6 f6) ?_
        rintro a7 w7 ⟨ρ7, r7, f7⟩
        refine wp_mono (cC_firm hm KT_ok XD_ok FP_ok.1 FP_ok.2 hn Since.firm (x7 d hd) r7 f7) ?_
        rintro e8 a8 w8 ⟨rfl, ρ8, r8, f8⟩
        exact ⟨1, by omega, .inr ⟨rfl, ρ8, r8, f8⟩⟩
      · refine then_normal (R := fun a' w' => ∃ ρ', Rel 54 w' ρ' (t8b d).flush a' ∧ Since w baseMap .e 16 (t5a d).nx (dig d) 1 w' ρ' (t8b d).H (t8b d).nx) (region_hand KT_ok XD_ok FP_ok.1 FP_ok.2 hn x6s Since.firm Since.firm rfl (over_hand hn x6o (x8w d hd) (x8r d hd) (by show ¬ 1 < 1; omega) rfl) (x8 d hd) r6 f6) ?_
        rintro a7 w7 ⟨ρ7, r7, f7⟩
        refine wp_mono (cC_firm hm KT_ok XD_ok FP_ok.1 FP_ok.2 hn Since.firm (x9 d hd) r7 f7) ?_
        rintro e8 a8 w8 ⟨rfl, ρ8, r8, f8⟩
        exact ⟨rfl, ρ8, r8, f8.1⟩
    · rintro a9 w9 ⟨ρ9, r9, f9⟩
      exact cC_firm hm KT_ok XD_ok FP_ok.1 FP_ok.2 hn FE.firm (x10 d hd) r9 f9
  · rintro e a' w' ⟨rfl, ρ', hr, hfe⟩
    have hdf := hr.df
    rw [x12 d hd] at hdf
    refine xDef_sound (K := KT) (X := XD) (F := FP) (k := 1000) (fn := Tryz.f25) (env := (t10 d).env) (H1 := (t10 d).H) (nx1 := (t10 d).nx) (xs := [q4 d 0 0 0, .s (.i .i64 0)]) (Rr := fun e W' => e = .returned (.tuple #[.agg #[.int .u64 d, .int .u64 0, .int .u64 0, .int .u64 0], .int .i64 0]) ∧ Below w.heap.size w W') hm KT_ok XD_ok FP_ok.1 FP_ok.2 [] a'.defers (t10 d).H (t10 d).nx w' ρ' rfl hr.inv hdf hr.env (x11 d hd) ?_
    intro w2 ρ2 u g1 g2 g3 g4
    have hall := hfe.trans g2
    refine ⟨?_, ⟨hall.os, hall.tape, hall.output, hall.size, fun k hk => (hall.old k hk (fun i s h => baseMap_at h)).1⟩⟩
    have g4 : CR ρ2 (.t [q4 d 0 0 0, .s (.i .i64 0)]) u := g4
    cases g4 with | t _ us hu =>
    cases hu with | cons _ v0 _ _ q0 hu =>
    cases hu with | cons _ v1 _ _ q1 hu =>
    cases hu; cases q1
    cases q0 with | a _ us hu =>
    cases hu with | cons _ y0 _ _ p0 hu =>
    cases hu with | cons _ y1 _ _ p1 hu =>
    cases hu with | cons _ y2 _ _ p2 hu =>
    cases hu with | cons _ y3 _ _ p3 hu =>
    cases hu; cases p0; cases p1; cases p2; cases p3
    rfl

theorem parse_ok (d : Nat) (hd : isD d) : (factV 25 [.s (.str (dig d))] (.t [q4 d 0 0 0, .s (.i .i64 0)])).ok Tryz.prog := by
  refine factV_ok (vs := [.string (dig d)]) (v := .tuple #[.agg #[.int .u64 d, .int .u64 0, .int .u64 0, .int .u64 0], .int .i64 0]) ⟨_, Tryz.func25, rfl, by show ("jointure/num.Parse" : String) ≠ "runtime.NumGoroutine"; decide⟩ (fun ρ us h => ?_) (fun ρ => ?_) (fun w => parse_calls d hd w)
  · cases h with | cons _ v _ vs h1 h2 => cases h2; cases h1; rfl
  · exact .t _ _ (.cons _ _ _ _ (.a _ _ (.cons _ _ _ _ (.s (.i .u64 _)) (.cons _ _ _ _ (.s (.i .u64 _)) (.cons _ _ _ _ (.s (.i .u64 _)) (.cons _ _ _ _ (.s (.i .u64 _)) .nil))))) (.cons _ _ _ _ (.s (.i .i64 _)) .nil))
noncomputable def paV : Kn := orV (factV 25 [.s (.str (dig 0))] (.t [q4 0 0 0 0, .s (.i .i64 0)])) (orV (factV 25 [.s (.str (dig 1))] (.t [q4 1 0 0 0, .s (.i .i64 0)])) (orV (factV 25 [.s (.str (dig 4))] (.t [q4 4 0 0 0, .s (.i .i64 0)])) (orV (factV 25 [.s (.str (dig 9))] (.t [q4 9 0 0 0, .s (.i .i64 0)])) baseV)))
theorem paV_ok : paV.ok Tryz.prog := orV_ok (parse_ok 0 (.inl rfl)) (orV_ok (parse_ok 1 (.inr (.inl rfl))) (orV_ok (parse_ok 4 (.inr (.inr (.inl rfl)))) (orV_ok (parse_ok 9 (.inr (.inr (.inr rfl)))) baseV_ok)))
end Go.Proofs.YtcakgpfemeholaaGreatDoor
