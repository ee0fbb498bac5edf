/-
  A region in whatever order, by what holds of each state that can be reached.
-/
import Derived.Test.YtgbckdmdjoldkaaGreatDoorD2
import Derived.OrdersIn
set_option linter.unusedSimpArgs false
set_option linter.unusedVariables false
namespace Go.Proofs.YtgbckdmdjoldkaaGreatDoor
open Go.RowKit Go.Shelf Go.Proofs

theorem wpAny_inv {F : Fence} {n : Nat} {P : Program} {md : Region.Mode} {ops : Array Oper} {Q : Exit → Act → World → Prop} {St : Array Bool → Act → World → Prop}
    (hord : ∀ (i : Nat) (o : Oper), ops[i]? = some o → ∀ e ∈ o.after, e.on < i)
    (hsz : ∀ L a w, St L a w → L.size = ops.size)
    (hstep : ∀ L a w i o, St L a w → ops[i]? = some o → L.getD i true = false → (∀ e ∈ o.after, Region.binds md e = true → L.getD e.on false = true) →
      wpOpIn F n P ops Q i (fun a' w' => St (L.setIfInBounds i true) a' w') a w)
    (hend : ∀ L a w, St L a w → (∀ i, i < ops.size → L.getD i true = true) → Q .normal a w) :
    ∀ (fuel : Nat) (L : Array Bool) (a : Act) (w : World), St L a w → L.count false ≤ fuel → wpAnyIn F n P md ops Q fuel L a w := by
  have hdone : ∀ L a w, St L a w → Region.ready md ops L = [] → ∀ i, i < ops.size → L.getD i true = true := by
    intro L a w hs hr i
    induction i using Nat.strongRecOn with
    | _ i ih =>
      intro hi
      cases hL : L.getD i true with
      | true => rfl
      | false =>
        have : i ∈ Region.ready md ops L := mem_ready.2 ⟨hL, ops[i], by simp [hi], fun e he hb => by
          have h1 := hord i ops[i] (by simp [hi]) e he
          have h2 := ih e.on h1 (by omega)
          rw [Array.getD_eq_getD_getElem?] at h2 ⊢
          have h3 : e.on < L.size := by rw [hsz L a w hs]; omega
          simpa [h3] using h2⟩
        rw [hr] at this
        cases this
  intro fuel
  induction fuel with
  | zero =>
    intro L a w hs hc
    have hall : ∀ i, i < ops.size → L.getD i true = true := by
      intro i hi
      have h0 : L.count false = 0 := by omega
      rw [Array.count_eq_zero] at h0
      cases hL : L.getD i true with
      | true => rfl
      | false =>
        exfalso
        apply h0
        have h3 : i < L.size := by rw [hsz L a w hs]; omega
        rw [Array.getD_eq_getD_getElem?] at hL
        simp [h3] at hL
        rw [← hL]
        exact Array.getElem_mem h3
    refine ⟨?_, hend L a w hs hall⟩
    cases hr : Region.ready md ops L with
    | nil => rfl
    | cons j l =>
      exfalso
      have hj : j ∈ Region.ready md ops L := by rw [hr]; simp
      obtain ⟨h1, o, h2, _⟩ := mem_ready.1 hj
      have := hall j (Array.getElem?_eq_some_iff.1 h2).1
      rw [h1] at this
      cases this
  | succ fuel ih =>
    intro L a w hs hc
    refine ⟨fun hr => hend L a w hs (hdone L a w hs hr), fun i hi => ?_⟩
    obtain ⟨h1, o, h2, h3⟩ := mem_ready.1 hi
    refine wpOpIn_mono (fun a' w' h => ih _ _ _ h ?_) (hstep L a w i o hs h2 h1 h3)
    have h4 : i < L.size := by rw [hsz L a w hs]; exact (Array.getElem?_eq_some_iff.1 h2).1
    have h5 : L[i] = false := by rw [Array.getD_eq_getD_getElem?] at h1; simpa [h4] using h1
    have : (L.setIfInBounds i true).count false + 1 = L.count false := by
      rw [Array.setIfInBounds, dif_pos h4, Array.count_set]
      have : 0 < L.count false := Array.count_pos_iff.2 (by rw [← h5]; exact Array.getElem_mem h4)
      simp [h5]
      omega
    omega

theorem wpOpIn_plain {F : Fence} {n : Nat} {P : Program} {ops : Array Oper} {Q : Exit → Act → World → Prop} {i : Nat} {o : Oper} {K : Act → World → Prop} {a : Act} {w w' : World} {v : Value} (ho : ops[i]? = some o) (hg : o.guard = none)
    (hab : o.about P w a.eval = none) (hd : ∀ c, o.op ≠ .defer c) (hr : (execOp a.eval o).run P w = .ok (.value v) w') (hK : K (a.put o.dst v) w') : wpOpIn F n P ops Q i K a w := by
  unfold wpOpIn
  simp only [ho]
  have hw : Region.wanted o (yielded ops a.tmps) = true := by simp [Region.wanted, hg]
  rw [if_pos hw]
  have h1 : ∀ f, o.about P w a.eval = some f → F.fn f := by intro f hf; rw [hab] at hf; exact absurd hf (by simp)
  refine And.intro h1 ?_
  rw [Oper.semAt_eq _ _ _ hd, hr]
  exact hK

theorem wpOpIn_skipv {F : Fence} {n : Nat} {P : Program} {ops : Array Oper} {Q : Exit → Act → World → Prop} {i : Nat} {o : Oper} {K : Act → World → Prop} {a : Act} {w w' : World} (ho : ops[i]? = some o) (hg : o.guard = none)
    (hab : o.about P w a.eval = none) (hd : ∀ c, o.op ≠ .defer c) (hr : (execOp a.eval o).run P w = .ok .skip w') (hK : K (a.put o.dst undef) w') : wpOpIn F n P ops Q i K a w := by
  unfold wpOpIn
  simp only [ho]
  have hw : Region.wanted o (yielded ops a.tmps) = true := by simp [Region.wanted, hg]
  rw [if_pos hw]
  have h1 : ∀ f, o.about P w a.eval = some f → F.fn f := by intro f hf; rw [hab] at hf; exact absurd hf (by simp)
  refine And.intro h1 ?_
  rw [Oper.semAt_eq _ _ _ hd, hr]
  exact hK

theorem gs (L : Array Bool) (i k : Nat) (d : Bool) : (L.setIfInBounds i true).getD k d = if i = k ∧ i < L.size then true else L.getD k d := by
  rw [Array.getD_eq_getD_getElem?, Array.getElem?_setIfInBounds, Array.getD_eq_getD_getElem?]
  by_cases h : i = k
  · subst h
    by_cases h2 : i < L.size
    · simp [h2]
    · simp [h2]
  · simp [h]
end Go.Proofs.YtgbckdmdjoldkaaGreatDoor
