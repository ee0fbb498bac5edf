/-
  The law's function on a slice that lies elsewhere.
-/
import Derived.Test.YtikbjhoocpbpiaaGreatDoorD12
set_option linter.unusedSimpArgs false
set_option linter.unusedVariables false
namespace Go.Proofs.YtikbjhoocpbpiaaGreatDoor
open Go Go.RowKit Go.Bm
open Go.Am (Sc)
set_option maxRecDepth 100000

noncomputable def farMap (b s : Nat) : Map := fun i => if i = 0 then .far b s else .no

theorem far_inv (W : World) (b s : Nat) : InvH W (farMap b s) .e 1 := by
  have hno : ∀ i l, farMap b s i = l → l = .no ∨ (i = 0 ∧ l = .far b s) := fun i l h => by
    unfold farMap at h
    split at h
    · exact .inr ⟨by assumption, h.symm⟩
    · exact .inl h.symm
  refine ⟨fun i j b' s1 s2 hi hj => ?_, fun i b' s' hi => ?_, fun i hi => ?_, fun i b' s' hi => ?_⟩
  · rcases hno _ _ hi with h | ⟨_, h⟩ <;> cases h
  · rcases hno _ _ hi with h | ⟨_, h⟩ <;> cases h
  · rcases hno _ _ hi with h | ⟨_, h⟩ <;> cases h
  · rcases hno _ _ hi with h | ⟨h, _⟩
    · cases h
    · subst h; exact ⟨Nat.zero_lt_one, rfl⟩

theorem p_CR (b off len cap : Nat) (hle : len ≤ cap) (hcap : cap ≤ maxLen) : CRs (farMap b (off + cap)) [pAV off len] [.slice (some ⟨b, off, none⟩) len cap] :=
  .cons _ _ _ _ (.sl 0 off 1 len len false b (off + cap) cap (.inr rfl) (Nat.le_refl _) hle (fun h => by cases h) hcap (by omega) (by omega)) .nil

/-- At the end: true, and what was there is as it was. -/
def AtEnd (W : World) (ρ0 : Map) (e : Exit) (a' : Act) (w' : World) : Prop :=
  e = .ret ∧ ∃ ρ' st', Rel 54 w' ρ' st' a' ∧ FE W ρ0 .e 1 w' ρ' st'.H st'.nx ∧ st'.df = [] ∧ st'.env.get 2 = some (.s (.b true))

theorem body_wp (W : World) (b off len cap : Nat) (hle : len ≤ cap) (hcap : cap ≤ maxLen) (a : Act) (ha : Rel 54 W (farMap b (off + cap)) (s0 off len) a) :
    (Code.seq R0 (.seq (.seq (.region 1 ops1 false) C1) Rest)).wp Tryz.prog (AtEnd W (farMap b (off + cap))) a W := by
  have hn : 54 ≤ 1073741824 := by omega
  refine wp_seq (wp_mono (cC_sound mixed KT_ok XT_ok FT_ok.1 FT_ok.2 hn R0 1000 _ _ _ (h1 off len) W _ a ha) ?_)
  rintro e1 a1 w1 ⟨rfl, ρ1, r1, fe1⟩
  have fe1 : FE W (farMap b (off + cap)) .e 1 w1 ρ1 (s1 off len).H (s1 off len).nx := fe1
  refine wp_seq (wp_seq ?_)
  have hreg : (Code.region 1 ops1 false).wp Tryz.prog (fun e a' w' => e = .normal ∧ ∃ ρ', Rel 54 w' ρ' (s4 off len).flush a' ∧ FE w1 ρ1 (s1 off len).H (s1 off len).nx w' ρ' (s4 off len).H (s4 off len).nx) a1 w1 := by
    refine wp_region ?_
    have hlist : ops1.toList.length = ops1.size := by simp
    have := sOps_mid (P := Tryz.prog) (Q := fun e a' w' => e = .normal ∧ ∃ ρ', Rel 54 w' ρ' (s4 off len).flush a' ∧ FE w1 ρ1 (s1 off len).H (s1 off len).nx w' ρ' (s4 off len).H (s4 off len).nx) KT_ok XT_ok FT_ok.1 FT_ok.2 hn (ops := ops1) (o := o4) (st1 := s2 off len) (st2 := s3 off len) ⟨rfl, rfl⟩ (h4 off len) (ops1.toList.take 4) 0 (fun j => by rw [← hops]; simp) r1 (h2 off len)
      (fun w' ρ' he => ?_) (fun w' ρ' a' q1 q2 => ⟨rfl, ρ', q1.flush, q2⟩)
    · rw [← hops] at this
      simpa using this
    · have hf : ρ' 0 = .far b (off + cap) := he.far 0 b (off + cap) (fe1.ext.far 0 b (off + cap) rfl)
      exact far_len (ty := 0) KT_ok hn ho4 hu22 (hw4 off len) (hx4 off len) hf (by rw [hd4]; rfl)
  refine wp_mono hreg ?_
  rintro e2 a2 w2 ⟨rfl, ρ2, r2, fe2⟩
  obtain ⟨t, ht⟩ : ∃ t, Nat.blt 300 len = t := ⟨_, rfl⟩
  have r5 : Rel 54 w2 ρ2 (s5 off len t) a2 := by
    refine ⟨r2.size, fun q hq => ?_, fun k => ?_, r2.inv, r2.df⟩
    · have hq' : q ∈ (((s4 off len).flush).env.put 11 (.s (.b t))).log := hq
      have hl : (((s4 off len).flush).env.put 11 (.s (.b t))).log = (11, .s (.b t)) :: ((s4 off len).flush).env.log := rfl
      rw [hl, l4] at hq'
      simp at hq'
      subst hq'; show 11 < 1073741824; omega
    · show CR ρ2 (((((s4 off len).flush).env.put 11 (.s (.b t))).get k).getD .u) _
      rw [Env.get_put]
      by_cases hk : k = 11
      · rw [if_pos hk]
        have := r2.env 11
        rw [g11, ht] at this
        rw [hk]; exact this
      · rw [if_neg hk]; exact r2.env k
  have fe2 : FE W (farMap b (off + cap)) .e 1 w2 ρ2 (s5 off len t).H (s5 off len t).nx := fe1.trans fe2
  clear ht r2
  cases t with
  | true =>
    refine wp_mono (cC_sound mixed KT_ok XT_ok FT_ok.1 FT_ok.2 hn C1 1000 _ _ _ (h6t off len) w2 ρ2 a2 r5) ?_
    rintro e3 a3 w3 ⟨rfl, ρ3, r3, fe3⟩
    exact ⟨rfl, ρ3, _, r3, fe2.trans fe3, f6 off len, t6 off len⟩
  | false =>
    refine wp_mono (cC_sound mixed KT_ok XT_ok FT_ok.1 FT_ok.2 hn C1 1000 _ _ _ (h6f off len) w2 ρ2 a2 r5) ?_
    rintro e3 a3 w3 ⟨rfl, ρ3, r3, fe3⟩
    refine wp_mono (cC_sound mixed KT_ok XT_ok FT_ok.1 FT_ok.2 hn Rest 1000 _ _ _ (h7 off len) w3 ρ3 a3 r3) ?_
    rintro e4 a4 w4 ⟨rfl, ρ4, r4, fe4⟩
    exact ⟨rfl, ρ4, _, r4, (fe2.trans fe3).trans fe4, f7 off len, t7 off len⟩

theorem far_comes {W : World} (b off len cap : Nat) (hle : len ≤ cap) (hcap : cap ≤ maxLen) : Calls Tryz.prog 3 #[.slice (some ⟨b, off, none⟩) len cap] W fun e W' => e = .returned (.bool true) ∧ Below W.heap.size W W' := by
  refine calls_of_wp_defers Tryz.func3 hbody (wp_mono (body_wp W b off len cap hle hcap _ (frame_rel (args := [pAV off len]) (vargs := [.slice (some ⟨b, off, none⟩) len cap]) (far_inv W b (off + cap)) (p_CR b off len cap hle hcap) (by simp) (by omega))) ?_)
  rintro e a' w' ⟨rfl, ρ', st', hr, hfe, hdf, h2⟩
  have hd := hr.df
  rw [hdf] at hd
  refine xDef_sound (K := KT) (X := XT) (F := FT) (k := 1000) (fn := Tryz.f3) (env := st'.env) (H1 := st'.H) (nx1 := st'.nx) (xs := [.s (.b true)]) (Rr := fun e W' => e = .returned (.bool true) ∧ Below W.heap.size W W') mixed KT_ok XT_ok FT_ok.1 FT_ok.2 [] a'.defers st'.H st'.nx w' ρ' rfl hr.inv hd hr.env ?_ ?_
  · show resList KT st'.H st'.env [.tmp 2] = some [.s (.b true)]
    simp [resList, resOne, h2]
  · intro w2 ρ2 u g1 g2 g3 g4
    have hu : u = .bool true := by
      have g4 : CR ρ2 (.s (.b true)) u := g4
      cases g4; rfl
    subst hu
    have hall := hfe.trans g2
    exact ⟨rfl, ⟨hall.os, hall.tape, hall.output, hall.size, fun k hk => (hall.old k hk (fun i s h => by
      unfold farMap at h
      split at h <;> cases h)).1⟩⟩
end Go.Proofs.YtikbjhoocpbpiaaGreatDoor
