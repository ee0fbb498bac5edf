/-
  The law's function, called with whatever.
-/
import Derived.Test.YtcakgpfemeholaaGreatDoorE10
set_option linter.unusedSimpArgs false
set_option linter.unusedVariables false
namespace Go.Proofs.YtcakgpfemeholaaGreatDoor
open Go Go.RowKit Go.Bm Go.Lib
open Go.Am (Sc)
set_option maxRecDepth 100000

noncomputable def dB : Code := bodyOf Tryz.f3
noncomputable def dA0 : Code := sel1 dB
noncomputable def dq : Array Oper := opsOf (sel1 (sel2 dB))
theorem dbody : Tryz.f3.body = some (.seq dA0 (.seq (.region 1 dq false) .ret)) := by kernel_rfl
noncomputable def FZ : Tab := yTab KT Tryz.prog XD runV 1000 60
theorem FZ_ok : FZ.valid Tryz.prog ∧ FZ.bodied Tryz.prog := yTab_valid mixed KT_ok XD_ok runV_ok (k := 1000) 60
noncomputable def ccD (c : Code) (s : St) : Option (Exit × St) := (cC KT Tryz.prog XD FZ 11 c).run 1000 s
noncomputable def soD (l : List Oper) (s : St) : Option St := sOps KT Tryz.prog XD FZ 11 dq l s
noncomputable def d0 (e : Int) : St := ⟨⟨2047, [], envOf [.s (.i .i64 e)] 0 .e⟩, layB l0 .e, 16, []⟩
noncomputable def d1 (e : Int) : St := outS (ccD dA0 (d0 e)) (d0 e)
noncomputable def d2 (e : Int) : St := outO (soD (dq.toList.take 3) (d1 e)) (d0 e)
noncomputable def d3 (e : Int) (S : ByteArray) : St := { d2 e with env := putE 11 (d2 e).env (opAt (dq.toList.drop 3)).dst (.s (.str S)) }
noncomputable def d4 (e : Int) (S : ByteArray) : St := outO (soD ((dq.toList.drop 4).take 1) (d3 e S)) (d0 e)
noncomputable def d5 (e : Int) (S : ByteArray) : St := { d4 e S with env := putE 11 (d4 e S).env (opAt (dq.toList.drop 5)).dst (.s (.str S)) }
noncomputable def d6 (e : Int) (S : ByteArray) : St := { d5 e S with env := putE 11 (d5 e S).env (opAt (dq.toList.drop 6)).dst (.s (.b true)) }
noncomputable def d7 (e : Int) (S : ByteArray) : St := outO (soD (dq.toList.drop 7) (d6 e S)) (d0 e)

theorem i1' (e : Int) : isN (ccD dA0 (d0 e)) = true := by kernel_rfl
theorem i2' (e : Int) : (soD (dq.toList.take 3) (d1 e)).isSome = true := by kernel_rfl
theorem i2d (e : Int) : dfs (d2 e) = true := by kernel_rfl
theorem i1d (e : Int) : dfs (d1 e) = true := by kernel_rfl
theorem i3w (e : Int) : aWant dq (opAt (dq.toList.drop 3)) (d2 e).env = some true := by kernel_rfl
theorem i3x (e : Int) : rd (d2 e).env (.tmp 5) = .s (.i .i64 e) := by kernel_rfl
theorem i4' (e : Int) (S : ByteArray) : (soD ((dq.toList.drop 4).take 1) (d3 e S)).isSome = true := by kernel_rfl
theorem i4d (e : Int) (S : ByteArray) : dfs (d4 e S) = true := by kernel_rfl
theorem i5w (e : Int) (S : ByteArray) : aWant dq (opAt (dq.toList.drop 5)) (d4 e S).env = some true := by kernel_rfl
theorem i5x (e : Int) (S : ByteArray) : rd (d4 e S).env (.tmp 7) = .s (.i .i64 e) := by kernel_rfl
theorem i6w (e : Int) (S : ByteArray) : aWant dq (opAt (dq.toList.drop 6)) (d5 e S).env = some true := by kernel_rfl
theorem i6x (e : Int) (S : ByteArray) : rd (d5 e S).env (.tmp 6) = .s (.str S) := by kernel_rfl
theorem i6y (e : Int) (S : ByteArray) : rd (d5 e S).env (.tmp 8) = .s (.str S) := by kernel_rfl
theorem i7' (e : Int) (S : ByteArray) : (soD (dq.toList.drop 7) (d6 e S)).isSome = true := by kernel_rfl
theorem i8' (e : Int) (S : ByteArray) : resList KT (d7 e S).flush.H (d7 e S).flush.env Tryz.f3.results.toList = some [.s (.b true)] := by kernel_rfl
theorem i9' (e : Int) (S : ByteArray) : tells l0 (d7 e S).flush.H = true := by kernel_rfl
theorem iH (e : Int) (S : ByteArray) : (d7 e S).flush.H = (d7 e S).H ∧ (d7 e S).flush.nx = (d7 e S).nx := ⟨flush_H, flush_nx⟩
theorem dq_nd : noDefer dq.toList = true := by kernel_rfl
theorem dq_split : dq.toList = dq.toList.take 3 ++ opAt (dq.toList.drop 3) :: ((dq.toList.drop 4).take 1 ++ opAt (dq.toList.drop 5) :: opAt (dq.toList.drop 6) :: dq.toList.drop 7) := by kernel_rfl
theorem dq_o3 : (opAt (dq.toList.drop 3)).op = .call { callee := .value (.func 5), args := #[.tmp 5], argTypes := #[24] } := by kernel_rfl
theorem dq_o5 : (opAt (dq.toList.drop 5)).op = .call { callee := .value (.func 6), args := #[.tmp 7], argTypes := #[24] } := by kernel_rfl
theorem dq_o6 : (opAt (dq.toList.drop 6)).op = .binOp .eql 9 (.tmp 6) (.tmp 8) 9 := by kernel_rfl
theorem dq_g3 : dq[3]? = some (opAt (dq.toList.drop 3)) := by kernel_rfl
theorem dq_g5 : dq[5]? = some (opAt (dq.toList.drop 5)) := by kernel_rfl
theorem dq_g6 : dq[6]? = some (opAt (dq.toList.drop 6)) := by kernel_rfl
theorem dq_sz : dq.size = 9 := by kernel_rfl
theorem uStr : Tryz.prog.underlying 9 = some .string := by kernel_rfl

/-- Where the desk's tables lie; the other package variables lie elsewhere. -/
def mapD : Map := fun i => if i = 0 then .at 0 18 else if i = 1 then .at 1 45 else if i = 2 then .at 2 33 else if i < 16 then .far i 0 else .no
noncomputable def rowOf (i : Nat) : List AV := match (layB l0 .e).at i with | .row _ cs => cs | .dead => []
theorem far_dead : (List.range 13).all (fun j => match (layB l0 .e).at (j + 3) with | .dead => true | _ => false) = true := by kernel_rfl
theorem at0 : (layB l0 .e).at 0 = .row 49 (rowOf 0) := by kernel_rfl
theorem at1 : (layB l0 .e).at 1 = .row 50 (rowOf 1) := by kernel_rfl
theorem at2 : (layB l0 .e).at 2 = .row 51 (rowOf 2) := by kernel_rfl

/-- The cells that say a row. -/
structure Laid (W : World) : Prop where
  b0 : ∃ vs, W.heap[0]? = some (.cells vs 49 (0, 0)) ∧ vs.size = 18 ∧ ∀ ρ, CRs ρ (rowOf 0) vs.toList
  b1 : ∃ vs, W.heap[1]? = some (.cells vs 50 (0, 0)) ∧ vs.size = 45 ∧ ∀ ρ, CRs ρ (rowOf 1) vs.toList
  b2 : ∃ vs, W.heap[2]? = some (.cells vs 51 (0, 0)) ∧ vs.size = 33 ∧ ∀ ρ, CRs ρ (rowOf 2) vs.toList

theorem mapD_at {i b s : Nat} (h : mapD i = .at b s) : (i = 0 ∧ b = 0 ∧ s = 18) ∨ (i = 1 ∧ b = 1 ∧ s = 45) ∨ (i = 2 ∧ b = 2 ∧ s = 33) := by
  unfold mapD at h
  split at h
  · injection h with h1 h2; omega
  · split at h
    · injection h with h1 h2; omega
    · split at h
      · injection h with h1 h2; omega
      · split at h <;> cases h

theorem laid_inv {W : World} (h : Laid W) : InvH W mapD (layB l0 .e) 16 := by
  have hrow : ∀ (i T : Nat) (n : Nat), (layB l0 .e).at i = .row T (rowOf i) → (∃ vs : Array Value, W.heap[i]? = some (.cells vs T (0, 0)) ∧ vs.size = n ∧ ∀ ρ, CRs ρ (rowOf i) vs.toList) →
      ∃ T cs vs, (layB l0 .e).at i = .row T cs ∧ W.heap[i]? = some (.cells vs T (0, 0)) ∧ vs.size = n ∧ cs.length ≤ n ∧ CRs mapD cs (vs.toList.take cs.length) := by
    rintro i T n ha ⟨vs, h1, h2, h3⟩
    have hl := (h3 mapD).length
    have hl' : (rowOf i).length = n := by rw [hl]; simpa using h2
    exact ⟨T, rowOf i, vs, ha, h1, h2, Nat.le_of_eq hl', by rw [List.take_of_length_le (by rw [hl]; exact Nat.le_refl _)]; exact h3 _⟩
  refine ⟨fun g hg => .inl ?_, fun i j b s s' hi hj => ?_, fun i b s hi => ?_, fun i hi => ?_, fun i b s hi => ?_⟩
  · unfold mapD
    by_cases e0 : g = 0
    · exact ⟨18, .inl (by simp [e0])⟩
    · by_cases e1 : g = 1
      · exact ⟨45, .inl (by simp [e1])⟩
      · by_cases e2 : g = 2
        · exact ⟨33, .inl (by simp [e2])⟩
        · exact ⟨0, .inr (by simp [e0, e1, e2, hg])⟩
  · rcases mapD_at hi with h | h | h <;> rcases mapD_at hj with h' | h' | h' <;> omega
  · rcases mapD_at hi with ⟨rfl, rfl, rfl⟩ | ⟨rfl, rfl, rfl⟩ | ⟨rfl, rfl, rfl⟩
    · exact ⟨by omega, hrow 0 49 18 at0 h.b0⟩
    · exact ⟨by omega, hrow 1 50 45 at1 h.b1⟩
    · exact ⟨by omega, hrow 2 51 33 at2 h.b2⟩
  · unfold mapD at hi
    split at hi
    · cases hi
    · split at hi
      · cases hi
      · split at hi
        · cases hi
        · split at hi <;> cases hi
  · unfold mapD at hi
    split at hi
    · cases hi
    · split at hi
      · cases hi
      · split at hi
        · cases hi
        · split at hi
          · have := List.all_eq_true.1 far_dead (i - 3) (by simp; omega)
            rw [show i - 3 + 3 = i by omega] at this
            refine ⟨by assumption, ?_⟩
            split at this
            · assumption
            · cases this
          · cases hi

/-- At the end all that was there lies as it lay. -/
theorem end_below {W w' : World} {ρ' : Map} {H : Heap} {nx : Nat} (h : Laid W) (hI : InvH w' ρ' H nx) (hf : FE W mapD (layB l0 .e) 16 w' ρ' H nx) (ht : tells l0 H = true) : Below W.heap.size W w' := by
  have hat : ∀ i, i = 0 ∨ i = 1 ∨ i = 2 → H.at i = (layB l0 .e).at i := by
    intro i hi
    have hall := List.all_eq_true.1 (show l0.all (fun q => Nat.blt q.1 1073741824 && sameB (H.at q.1) q.2) = true from ht)
    have hmem : ∃ b, (i, b) ∈ l0 ∧ (layB l0 .e).at i = b := by
      rcases hi with rfl | rfl | rfl
      · exact ⟨_, List.mem_cons_self .., by kernel_rfl⟩
      · exact ⟨_, List.mem_cons_of_mem _ (List.mem_cons_self ..), by kernel_rfl⟩
      · exact ⟨_, List.mem_cons_of_mem _ (List.mem_cons_of_mem _ (List.mem_cons_self ..)), by kernel_rfl⟩
    obtain ⟨b, hb, hb2⟩ := hmem
    have := hall _ hb
    simp only [Bool.and_eq_true] at this
    rw [hb2]
    exact sameB_eq this.2
  have key : ∀ (i T n : Nat), i = 0 ∨ i = 1 ∨ i = 2 → mapD i = .at i n → (layB l0 .e).at i = .row T (rowOf i) → (∃ vs : Array Value, W.heap[i]? = some (.cells vs T (0, 0)) ∧ vs.size = n ∧ ∀ ρ, CRs ρ (rowOf i) vs.toList) → w'.heap[i]? = W.heap[i]? := by
    rintro i T n hi hm ha ⟨vs, h1, h2, h3⟩
    have hH : H.at i = .row T (rowOf i) := (hat i hi).trans ha
    have hρ : ρ' i = .at i n := by
      rcases hf.ext.at_ i i n hm with h | h
      · exact h
      · have := (hI.dead i h).2; rw [hH] at this; cases this
    obtain ⟨_, T', cs, us, g1, g2, g3, g4, g5⟩ := hI.row i i n hρ
    rw [hH] at g1
    injection g1 with g1a g1b
    subst g1a; subst g1b
    rw [g2, h1]
    have hl := (h3 ρ').length
    have hl' : (rowOf i).length = n := by rw [hl]; simpa using h2
    rw [List.take_of_length_le (by simp; omega)] at g5
    have : us = vs := by
      apply Array.toList_inj.1
      have hsc : ∀ (xs : List AV) (us1 us2 : List Value), (∀ ρ, CRs ρ xs us1) → CRs ρ' xs us2 → (xs.all fun x => match x with | .s _ => true | _ => false) = true → us2 = us1 := by
        intro xs
        induction xs with
        | nil => intro us1 us2 h1 h2 _; cases h1 ρ'; cases h2; rfl
        | cons x xs ih =>
          intro us1 us2 h1 h2 h3
          simp only [List.all_cons, Bool.and_eq_true] at h3
          cases us1 with
          | nil => cases h1 ρ'
          | cons a us1 =>
            cases h2 with
            | cons _ b _ us2 q1 q2 =>
              have e1 : a = b := by
                have := h1 ρ'
                cases this with | cons _ _ _ _ r1 _ =>
                cases x with
                | s x => cases r1; cases q1; rfl
                | _ => cases h3.1
              rw [e1, ih us1 us2 (fun ρ => by have := h1 ρ; cases this; assumption) q2 h3.2]
      refine hsc _ _ _ h3 g5 ?_
      rcases hi with rfl | rfl | rfl <;> kernel_rfl
    rw [this]
  refine ⟨hf.os, hf.tape, hf.output, hf.size, fun k hk => ?_⟩
  by_cases e : k = 0 ∨ k = 1 ∨ k = 2
  · rcases e with rfl | rfl | rfl
    · exact key 0 49 18 (.inl rfl) rfl at0 h.b0
    · exact key 1 50 45 (.inr (.inl rfl)) rfl at1 h.b1
    · exact key 2 51 33 (.inr (.inr rfl)) rfl at2 h.b2
  · exact (hf.old k hk (fun i s hi => e (by rcases mapD_at hi with h | h | h <;> omega))).1

theorem tab_fe {W w' : World} {ρ' : Map} {H : Heap} {nx : Nat} (h : TabIs Tryz.prog W "internal/strconv.uint64pow10" .u64 pow10Tab) (hf : FE W mapD (layB l0 .e) 16 w' ρ' H nx) : TabIs Tryz.prog w' "internal/strconv.uint64pow10" .u64 pow10Tab := by
  have hg : Tryz.prog.globalNamed "internal/strconv.uint64pow10" = some 3 := by kernel_rfl
  unfold TabIs World.var? at h ⊢
  rw [hg] at h ⊢
  simp only [Option.bind_some] at h ⊢
  have hlt : 3 < W.heap.size := by
    cases hh : W.heap[3]? with
    | none => rw [hh] at h; cases h
    | some o => exact (Array.getElem?_eq_some_iff.1 hh).1
  rw [(hf.old 3 hlt (fun i s hi => by rcases mapD_at hi with h | h | h <;> omega)).1]
  exact h
end Go.Proofs.YtcakgpfemeholaaGreatDoor
