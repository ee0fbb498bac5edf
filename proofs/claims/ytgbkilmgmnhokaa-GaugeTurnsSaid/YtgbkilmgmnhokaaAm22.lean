/-
  THE ABSTRACT MACHINE: whatever reads as plain data is such a value of the machine.
-/
import Derived.Test.YtgbkilmgmnhokaaAm21
import Derived.OpenShut
set_option linter.unusedSimpArgs false
set_option linter.unusedVariables false
namespace Go.Am
open Go Go.ChangeShapes Go.WideShapes Go.ChangeAt Go.RowKit

section
variable {P : Program} {w w' : World} {H : Type} {enc : TypeId × Value → H} {base : Nat} {spare : Nat → Bool} {held : Bool}

theorem cells?_spec {b : Nat} {a : Addr} {n : Nat} {cs : List Value} (h : w.cells? b a n = some cs) : cs.length = n ∧ ∀ j, j < n → ∃ y, cs[j]? = some y ∧ w.cell? (a.add j) = some y := by
  unfold World.cells? at h
  split at h
  · obtain ⟨h1, h2⟩ := mapM_some h
    refine ⟨by simpa using h1, fun j hj => ?_⟩
    exact h2 j j (by simp [hj])
  · cases h

theorem slice_vals {b : Nat} {a : Addr} {sz len : Nat} (hsz : 0 < sz) (hlen : 0 < len) {css : Nat → List Value} (h : ∀ i, i < len → w.cells? b (a.add (i * sz)) sz = some (css i)) :
    ∃ vs : List Value, vs.length = len * sz ∧ Stable w noG a vs ∧ ∀ i, i < len → (vs.drop (i * sz)).take sz = css i := by
  have h0 := (cells?_spec (h 0 hlen)).2 0 hsz
  obtain ⟨y0, _, hy0⟩ := h0
  have hsp0 := World.cell?_spot hy0
  have hsp : a.spot = none := by
    have : ((a.add (0 * sz)).add 0).spot = none := hsp0
    unfold Addr.add at this
    split at this
    · rename_i h1; simp at h1
      cases hs : a.spot with
      | none => rfl
      | some s => simp_all
    · split at this <;> simp_all
  have hcell : ∀ i r, i < len → r < sz → ∃ y, (css i)[r]? = some y ∧ w.cell? (a.add (i * sz + r)) = some y := by
    intro i r hi hr
    obtain ⟨y, h1, h2⟩ := (cells?_spec (h i hi)).2 r hr
    refine ⟨y, h1, ?_⟩
    rw [add_eq (add_spot hsp _), add_eq hsp] at h2
    rw [add_eq hsp]
    simpa [Nat.add_assoc] using h2
  refine ⟨(List.range (len * sz)).map fun j => (w.cell? (a.add j)).getD undef, by simp, ⟨?_, rfl, hsp, fun j y hy => ?_⟩, fun i hi => ?_⟩
  · have hb : (a.add (0 * sz)).add 0 = a.add 0 := by rw [add_eq (add_spot hsp _), add_eq hsp, add_eq hsp]; simp
    rw [hb, add_eq hsp] at hy0
    unfold World.cell? at hy0
    split at hy0
    · rename_i hh; exact (Array.getElem?_eq_some_iff.1 hh).1
    · cases hy0
  · rw [List.getElem?_map] at hy
    simp only [Option.map_eq_some_iff] at hy
    obtain ⟨j', hj', rfl⟩ := hy
    have hlt : j < len * sz := by
      have := (List.getElem?_eq_some_iff.1 hj').1
      simpa using this
    · rw [List.getElem?_range hlt] at hj'
      injection hj' with hj'; subst hj'
      obtain ⟨y, _, h2⟩ := hcell (j / sz) (j % sz) (Nat.div_lt_of_lt_mul (by rw [Nat.mul_comm]; exact hlt)) (Nat.mod_lt _ hsz)
      rw [show j / sz * sz + j % sz = j from Nat.div_add_mod' j sz] at h2
      rw [h2]; rfl
  · apply List.ext_getElem?
    intro r
    by_cases hr : r < sz
    · rw [List.getElem?_take, if_pos hr, List.getElem?_drop, List.getElem?_map]
      have hlt : i * sz + r < len * sz := by
        have : (i + 1) * sz ≤ len * sz := Nat.mul_le_mul_right _ hi
        rw [Nat.succ_mul] at this; omega
      rw [List.getElem?_range hlt]
      obtain ⟨y, h1, h2⟩ := hcell i r hi hr
      simp [h1, h2]
    · rw [List.getElem?_take, if_neg hr, List.getElem?_eq_none]
      rw [(cells?_spec (h i hi)).1]; omega

theorem open_sh : ∀ (k fuel : Nat) (t : TypeId) (cs : List Value) (x : DataW H × List MemPlace), okT P k t = true → DataW.trod enc P w base spare held fuel t cs = some x → DataL w P k t cs := by
  intro k
  induction k with
  | zero => intro fuel t cs x hk; simp [okT] at hk
  | succ k ih =>
    intro fuel t cs x hk h
    cases fuel with
    | zero => simp [DataW.trod] at h
    | succ fuel =>
      simp only [okT] at hk
      unfold DataL
      simp only [Sh]
      cases hu : P.underlying t with
      | none => rw [hu] at hk; cases hk
      | some d =>
        rw [hu] at hk
        cases d with
        | bool =>
          rcases cs with _ | ⟨v, _ | ⟨v2, cs⟩⟩
          · simp [DataW.trod, hu] at h
          · cases v <;> simp [DataW.trod, hu] at h
            rename_i b
            exact ⟨[.s (.b b)], .cons _ _ _ _ (.s (.b b)) .nil, ⟨b, rfl⟩, by simp [AV.data]⟩
          · simp [DataW.trod, hu] at h
        | int i =>
          rcases cs with _ | ⟨v, _ | ⟨v2, cs⟩⟩
          · simp [DataW.trod, hu] at h
          · cases v <;> simp [DataW.trod, hu] at h
            rename_i i' n
            obtain ⟨⟨rfl, hw⟩, _⟩ := h
            exact ⟨[.s (.i i' n)], .cons _ _ _ _ (.s (.i i' n)) .nil, ⟨n, rfl, hw⟩, by simp [AV.data]⟩
          · simp [DataW.trod, hu] at h
        | string =>
          rcases cs with _ | ⟨v, _ | ⟨v2, cs⟩⟩
          · simp [DataW.trod, hu] at h
          · cases v <;> simp [DataW.trod, hu] at h
            rename_i s
            exact ⟨[.s (.str s)], .cons _ _ _ _ (.s (.str s)) .nil, ⟨s, rfl, h.1⟩, by simp [AV.data]⟩
          · simp [DataW.trod, hu] at h
        | slice e =>
          simp only [Bool.and_eq_true, decide_eq_true_eq] at hk
          obtain ⟨hk, hsz⟩ := hk
          rcases cs with _ | ⟨v, _ | ⟨v2, cs⟩⟩
          · simp [DataW.trod, hu] at h
          · cases v
            case slice A n c =>
              cases A with
              | none =>
                cases n with
                | zero =>
                  cases c with
                  | zero => exact ⟨[.s .sn], .cons _ _ _ _ (.s .sn) .nil, .inl rfl, by simp [AV.data]⟩
                  | succ c => simp [DataW.trod, hu] at h
                | succ n => simp [DataW.trod, hu] at h
              | some a =>
                simp only [DataW.trod, hu] at h
                split at h
                rotate_left
                · cases h
                rename_i hc
                simp only [Option.bind_eq_some_iff] at h
                obtain ⟨elems, he, _⟩ := h
                obtain ⟨h1, h2⟩ := mapM_some he
                simp only [List.length_range] at h1
                have hel : ∀ i, i < n → ∃ css y, w.cells? base (a.add (i * P.cellsOf e)) (P.cellsOf e) = some css ∧ DataW.trod enc P w base spare held fuel e css = some y := by
                  intro i hi
                  obtain ⟨y, _, hy⟩ := h2 i i (by simp [hi])
                  simp only [Option.bind_eq_some_iff] at hy
                  obtain ⟨css, q1, q2⟩ := hy
                  exact ⟨css, y, q1, q2⟩
                by_cases hn : n = 0
                · subst hn
                  exact ⟨[.l 0 []], .cons _ _ _ _ (.l 0 [] _ _ [] .nil hc.2.1 hc.2.2 (fun _ h => by cases h) (fun h => absurd rfl h) (fun _ => rfl)) .nil, .inr ⟨[], rfl, Nat.zero_le _, fun _ h => by cases h⟩, by simp [AV.data]⟩
                · let css : Nat → List Value := fun i => (w.cells? base (a.add (i * P.cellsOf e)) (P.cellsOf e)).getD []
                  have hcss : ∀ i, i < n → w.cells? base (a.add (i * P.cellsOf e)) (P.cellsOf e) = some (css i) := fun i hi => by
                    obtain ⟨c, _, q1, _⟩ := hel i hi
                    simp only [css, q1, Option.getD_some]
                  obtain ⟨vs, v1, v2, v3⟩ := slice_vals hsz (Nat.pos_of_ne_zero hn) hcss
                  have hdl : ∀ i ∈ List.range n, ∃ xs, CRs w noG [] xs (css i) ∧ Sh P k e xs ∧ ∀ x ∈ xs, x.data = true := fun i hi => by
                    have hi' : i < n := by simpa using hi
                    obtain ⟨c, y, q1, q2⟩ := hel i hi'
                    have : c = css i := by have := hcss i hi'; rw [q1] at this; injection this
                    subst this
                    exact ih fuel e _ y hk q2
                  obtain ⟨els, e1, e2⟩ := pieces (R := fun i xs => CRs w noG [] xs (css i) ∧ Sh P k e xs ∧ ∀ x ∈ xs, x.data = true) _ hdl
                  simp only [List.length_range] at e1
                  have hget : ∀ (i : Nat) (l : List AV), els[i]? = some l → i < n ∧ CRs w noG [] l (css i) ∧ Sh P k e l ∧ ∀ x ∈ l, x.data = true := fun i l hl => by
                    have hi : i < n := by rw [← e1]; exact (List.getElem?_eq_some_iff.1 hl).1
                    exact ⟨hi, e2 i i l (by simp [hi]) hl⟩
                  have hmem : ∀ l ∈ els, Sh P k e l ∧ ∀ x ∈ l, x.data = true := fun l hl => by
                    obtain ⟨i, hi, rfl⟩ := List.getElem_of_mem hl
                    exact (hget i _ (List.getElem?_eq_getElem hi)).2.2
                  have hdat : ∀ x ∈ els.flatten, x.data = true := fun x hx => by
                    obtain ⟨l, hl, hxl⟩ := List.mem_flatten.1 hx
                    exact (hmem l hl).2 x hxl
                  have hcr : CRs w noG [] els.flatten vs := by
                    rw [← chunks (P.cellsOf e) n vs v1]
                    refine CRs.flatten (by simp [e1]) fun i l v hl hv => ?_
                    obtain ⟨hi, hc1, _⟩ := hget i l hl
                    rw [List.getElem?_map] at hv
                    simp only [Option.map_eq_some_iff] at hv
                    obtain ⟨i', hi', rfl⟩ := hv
                    rw [List.getElem?_range hi] at hi'
                    injection hi' with hi'; subst hi'
                    rw [v3 i hi]; exact hc1
                  refine ⟨[.l n els.flatten], .cons _ _ _ _ (.l n _ (some a) c vs hcr hc.2.1 hc.2.2 hdat (fun _ => ⟨a, rfl, v2⟩) (fun h => absurd h hn)) .nil, .inr ⟨els, by rw [e1], by rw [e1]; exact Nat.le_trans hc.2.1 hc.2.2, fun l hl => (hmem l hl).1⟩, by simp [AV.data]⟩
            all_goals simp [DataW.trod, hu] at h
          · simp [DataW.trod, hu] at h
        | array n e =>
          simp only [Bool.and_eq_true, beq_iff_eq] at hk
          obtain ⟨hk, hsz⟩ := hk
          obtain ⟨xs, m, hf, _, hlen, hxl, hx⟩ := DataW.trod_array hu h
          have hdl : ∀ i ∈ List.range n, DataL w P k e ((cs.drop (i * P.cellsOf e)).take (P.cellsOf e)) := fun i hi => by
            have hi' : i < n := by simpa using hi
            have := hx i hi'
            have hlt : i < xs.length := by omega
            rw [List.getElem?_eq_getElem hlt] at this
            exact ih m e _ _ hk this
          obtain ⟨els, e1, e2⟩ := pieces (R := fun i xs => CRs w noG [] xs ((cs.drop (i * P.cellsOf e)).take (P.cellsOf e)) ∧ Sh P k e xs ∧ ∀ x ∈ xs, x.data = true) _ hdl
          simp only [List.length_range] at e1
          have hget : ∀ (i : Nat) (l : List AV), els[i]? = some l → i < n ∧ CRs w noG [] l ((cs.drop (i * P.cellsOf e)).take (P.cellsOf e)) ∧ Sh P k e l ∧ ∀ x ∈ l, x.data = true := fun i l hl => by
            have hi : i < n := by rw [← e1]; exact (List.getElem?_eq_some_iff.1 hl).1
            exact ⟨hi, e2 i i l (by simp [hi]) hl⟩
          refine ⟨els.flatten, ?_, ⟨els, rfl, e1, fun l hl => ?_⟩, fun x hx => ?_⟩
          · rw [← chunks (P.cellsOf e) n cs (by rw [hlen, hsz])]
            refine CRs.flatten (by simp [e1]) fun i l v hl hv => ?_
            obtain ⟨hi, hc1, _⟩ := hget i l hl
            rw [List.getElem?_map, List.getElem?_range hi] at hv
            injection hv with hv; subst hv
            exact hc1
          · obtain ⟨i, hi, rfl⟩ := List.getElem_of_mem hl
            exact (hget i _ (List.getElem?_eq_getElem hi)).2.2.1
          · obtain ⟨l, hl, hxl⟩ := List.mem_flatten.1 hx
            obtain ⟨i, hi, rfl⟩ := List.getElem_of_mem hl
            exact (hget i _ (List.getElem?_eq_getElem hi)).2.2.2 x hxl
        | struct fs =>
          simp only [Bool.and_eq_true, List.all_eq_true] at hk
          obtain ⟨hk, hsz⟩ := hk
          simp only [DataW.trod, hu] at h
          split at h
          rotate_left
          · cases h
          rename_i hlen
          simp only [Option.map_eq_some_iff] at h
          obtain ⟨ys, hys, _⟩ := h
          obtain ⟨_, h2⟩ := mapM_some hys
          have hdl : ∀ f ∈ fs.toList, DataL w P k f.type ((cs.drop f.offset).take (P.cellsOf f.type)) := fun f hf => by
            obtain ⟨i, hi, rfl⟩ := List.getElem_of_mem hf
            obtain ⟨y, _, hy⟩ := h2 i _ (List.getElem?_eq_getElem hi)
            exact ih fuel _ _ _ (hk _ hf) hy
          obtain ⟨els, e1, e2⟩ := pieces (R := fun (f : Field) xs => CRs w noG [] xs ((cs.drop f.offset).take (P.cellsOf f.type)) ∧ Sh P k f.type xs ∧ ∀ x ∈ xs, x.data = true) _ hdl
          have hget : ∀ (i : Nat) (l : List AV), els[i]? = some l → ∃ f, fs.toList[i]? = some f ∧ CRs w noG [] l ((cs.drop f.offset).take (P.cellsOf f.type)) ∧ Sh P k f.type l ∧ ∀ x ∈ l, x.data = true := fun i l hl => by
            have hi : i < fs.toList.length := by rw [← e1]; exact (List.getElem?_eq_some_iff.1 hl).1
            exact ⟨_, List.getElem?_eq_getElem hi, e2 i _ l (List.getElem?_eq_getElem hi) hl⟩
          refine ⟨els.flatten, ?_, ⟨els, rfl, by rw [e1]; simp, fun i f l hf hl => ?_⟩, fun x hx => ?_⟩
          · have ht := tiles fs.toList 0 _ cs hsz hlen (Nat.zero_le _)
            rw [List.drop_zero] at ht
            rw [← ht]
            refine CRs.flatten (by simp [e1]) fun i l v hl hv => ?_
            obtain ⟨f, hf, hc1, _⟩ := hget i l hl
            rw [List.getElem?_map, hf] at hv
            injection hv with hv; subst hv
            exact hc1
          · obtain ⟨f', hf', _, hs, _⟩ := hget i l hl
            rw [Array.getElem?_toList, hf] at hf'
            injection hf' with hf'; subst hf'
            exact hs
          · obtain ⟨l, hl, hxl⟩ := List.mem_flatten.1 hx
            obtain ⟨i, hi, rfl⟩ := List.getElem_of_mem hl
            obtain ⟨_, _, _, _, hd⟩ := hget i _ (List.getElem?_eq_getElem hi)
            exact hd x hxl
        | _ => exact absurd hk Bool.false_ne_true
end
end Go.Am
