/-
  THE ABSTRACT MACHINE: a law that comes to 'true' at every input of its types.
-/
import Derived.Test.YtgbkilmgmnhokaaAm22
set_option linter.unusedSimpArgs false
set_option linter.unusedVariables false
namespace Go.Am
open Go Go.ChangeShapes Go.WideShapes Go.ChangeAt Go.RowKit

/-- An argument of those cells. -/
def argAV (P : Program) (t : TypeId) (xs : List AV) : AV :=
  match P.underlying t with
  | some (.struct _) => .a xs
  | some (.array _ _) => .a xs
  | _ => xs.headD .u

/-- Arguments of those types. -/
def ShArgs (P : Program) (k : Nat) : List TypeId → List AV → Prop
  | [], avs => avs = []
  | t :: ts, avs => ∃ xs rest, avs = argAV P t xs :: rest ∧ Sh P k t xs ∧ ShArgs P k ts rest

section
variable {P : Program} {w W W' : World} {H : Type} {enc : TypeId × Value → H} {spare : Nat → Bool} {held : Bool}

theorem arg_CR {b base k : Nat} {r : Reach} {t : TypeId} {v : Value} {d : DataW H} {ps : List MemPlace} (hk : okT P k t = true) (hv : Value.okWide P W r b t v) (h : DataW.Trod enc P W base spare held t v d ps) :
    ∃ xs, Sh P k t xs ∧ CR W noG [] (argAV P t xs) v := by
  obtain ⟨fuel, h⟩ := h
  obtain ⟨xs, h1, h2, _⟩ := open_sh k fuel t _ _ hk h
  refine ⟨xs, h2, ?_⟩
  cases k with
  | zero => simp [okT] at hk
  | succ k =>
    simp only [okT] at hk
    unfold argAV
    cases hu : P.underlying t with
    | none => rw [hu] at hk; cases hk
    | some e =>
      rw [hu] at hk
      have single : v.cells = #[v] → (∃ x, xs = [x]) → CR W noG [] (xs.headD .u) v := by
        rintro hc ⟨x, rfl⟩
        rw [hc] at h1
        cases h1 with | cons _ _ _ _ q _ => exact q
      cases e with
      | bool =>
        obtain ⟨b, rfl⟩ := okWide_bool hu hv
        refine single rfl ?_
        simp only [Sh, hu] at h2
        obtain ⟨b, rfl⟩ := h2; exact ⟨_, rfl⟩
      | int i =>
        simp only [Value.okWide, hu, Cell.okWide] at hv
        simp only [Sh, hu] at h2
        obtain ⟨n, rfl, _⟩ := h2
        refine single ?_ ⟨_, rfl⟩
        cases v <;> first | rfl | (simp [Cell.ok, hu] at hv)
      | string =>
        simp only [Value.okWide, hu, Cell.okWide] at hv
        simp only [Sh, hu] at h2
        obtain ⟨n, rfl, _⟩ := h2
        refine single ?_ ⟨_, rfl⟩
        cases v <;> first | rfl | (simp [Cell.ok, hu] at hv)
      | slice e =>
        simp only [Value.okWide, hu, Cell.okWide] at hv
        simp only [Sh, hu] at h2
        refine single ?_ ?_
        · cases v <;> first | rfl | (simp [Cell.ok, hu] at hv)
        · rcases h2 with rfl | ⟨els, rfl, _⟩ <;> exact ⟨_, rfl⟩
      | array n e =>
        simp only [Value.okWide, hu] at hv
        obtain ⟨cs, rfl, _⟩ := hv
        exact .a xs _ (by simpa [Value.cells] using h1)
      | struct fs =>
        simp only [Value.okWide, hu] at hv
        obtain ⟨cs, rfl, _⟩ := hv
        exact .a xs _ (by simpa [Value.cells] using h1)
      | _ => exact absurd hk Bool.false_ne_true

theorem args_CR {b base k : Nat} {r : Reach} : ∀ (ts : List TypeId) (vs : List Value) (ds : List (DataW H)) (ps : List MemPlace), (∀ t ∈ ts, okT P k t = true) → (∀ (j : Nat) t v, ts[j]? = some t → vs[j]? = some v → Value.okWide P W r b t v) → DataW.TrodAll enc P W base spare held ts vs ds ps →
    ∃ avs, ShArgs P k ts avs ∧ CRs W noG [] avs vs
  | [], vs, ds, ps, _, _, h => by
    obtain ⟨rfl, _, _⟩ := trodAll_nil h
    exact ⟨[], rfl, .nil⟩
  | t :: ts, vs, ds, ps, hk, hv, h => by
    obtain ⟨v, vs1, d, ds1, p, q, rfl, rfl, rfl, h1, h2⟩ := trodAll_cons h
    obtain ⟨xs, q1, q2⟩ := arg_CR (hk t (by simp)) (hv 0 t v rfl rfl) h1
    obtain ⟨avs, q3, q4⟩ := args_CR ts vs1 ds1 q (fun t' ht => hk t' (by simp [ht])) (fun j t' v' hj hv' => hv (j + 1) t' v' (by simpa using hj) (by simpa using hv')) h2
    exact ⟨_, ⟨xs, avs, rfl, q1, q3⟩, .cons _ _ _ _ q2 q4⟩

theorem trodAll_below (hl : laidOutB P = true) (hb : Below W.heap.size W W') {sp : Nat → Bool} : ∀ (ts : List TypeId) (vs : List Value) (ds : List (DataW H)) (ps : List MemPlace), (∀ t ∈ ts, P.readableRec t = true ∧ t < P.types.size) →
    DataW.TrodAll enc P W 0 (fun _ => true) true ts vs ds ps → (∀ x ∈ ps, x.block < W.heap.size ∧ sp x.block = true) → DataW.TrodAll enc P W' 0 sp true ts vs ds ps
  | [], vs, ds, ps, _, h, _ => by
    obtain ⟨rfl, rfl, rfl⟩ := trodAll_nil h
    rfl
  | t :: ts, vs, ds, ps, ht, h, hp => by
    obtain ⟨v, vs1, d, ds1, p, q, rfl, rfl, rfl, h1, h2⟩ := trodAll_cons h
    exact ⟨p, q, WideElems.Trod_stays hl (ht t (by simp)).1 (ht t (by simp)).2 h1 (fun x hx => hb.same (hp x (by simp [hx])).1) (fun x hx => (hp x (by simp [hx])).2),
      trodAll_below hl hb ts vs1 ds1 q (fun t' h' => ht t' (by simp [h'])) h2 (fun x hx => hp x (by simp [hx])), rfl⟩

theorem post_of_below {f : Func} {s : ChangeSpec} {apart fresh handsOn again : Bool} {args : Array Value} {tb : TypeId} {ds gs : List (DataW H)} {before : List MemPlace}
    (hl : laidOutB P = true) (hts : ∀ t ∈ f.params.toList, P.readableRec t = true ∧ t < P.types.size) (hsv : s.vars = []) (hr : f.resultTypes = #[tb]) (htb : P.underlying tb = some .bool)
    (hsf : (s.fn H ds).results = [.lit (.bool true)] ∧ (s.fn H ds).args = ds ∧ (s.fn H ds).vars = [])
    (hW : DataW.Whole enc P f.params.toList s.vars apart W args.toList ds gs before) (hb : Below W.heap.size W W') : s.post enc P f apart fresh handsOn again W args (.bool true) W' := by
  have hlt := hW.lt
  have hW' := hW
  obtain ⟨p, q, hA, hV, rfl, hz, hn⟩ := hW'
  rw [hsv] at hV
  obtain ⟨rfl, rfl⟩ := trodVars_none hV
  simp only [List.append_nil] at hW hlt hz hn ⊢
  have hargs : ∀ sp : Nat → Bool, (∀ x ∈ p, sp x.block = true) → DataW.TrodAll enc P W' 0 sp true f.params.toList args.toList ds p := fun sp hsp =>
    trodAll_below hl hb _ _ _ _ hts hA (fun x hx => ⟨hlt x hx, hsp x hx⟩)
  have hres : ∀ (b : Nat) (sp : Nat → Bool) (hd : Bool), DataW.TrodAll enc P W' b sp hd f.resultTypes.toList ((Value.bool true).resultList f.resultTypes.size) (s.fn H (ds ++ [])).results [] := fun b sp hd => by
    rw [List.append_nil, hsf.1, hr]
    exact trodAll_mk1 (shut_bool htb true)
  have hvars : ∀ sp : Nat → Bool, DataW.TrodVars enc P W' sp s.vars (s.fn H (ds ++ [])).vars [] := fun sp => by
    rw [List.append_nil, hsf.2.2, hsv]; rfl
  have hargs' : ∀ sp : Nat → Bool, (∀ x ∈ p, sp x.block = true) → DataW.TrodAll enc P W' 0 sp true f.params.toList args.toList (s.fn H (ds ++ [])).args p := fun sp hsp => by
    rw [List.append_nil, hsf.2.1]; exact hargs sp hsp
  have hold : ∀ x ∈ p, (fun b => decide (b < W.heap.size)) x.block = true := fun x hx => by simpa using hlt x hx
  refine ⟨ds, [], p, [], p, [], hW, hres _ _ _, hargs' _ hold, hvars _, World.keptBut_mono (fun x hx => ⟨hx, ?_⟩) (hb.frame (· ∈ p)), fun _ => ?_⟩
  · simpa using hx
  · refine ⟨ok_one hr rfl (okWide_bool_mk htb true), _, _, ([] ++ p) ++ [], ⟨[] ++ p, [], trodAll_append (hargs' _ (fun _ _ => rfl)) (hres _ _ _), hvars _, rfl, ?_, ?_⟩, ?_⟩
    · intro b off hp
      have hp' : MemPlace.cell b off ∈ p := by simpa using hp
      rw [hb.frozen (hlt _ hp')]
      exact hz b off hp'
    · intro ha
      have := hn ha
      simpa using this
    · intro x hx _
      simpa using hx

/-- What the machine works out of a law alone, the law comes to; and nothing that was there is turned. -/
theorem law_calls {f : FuncId} {args : Array Value} {avs : List AV} (h : ValidAt P f avs [] [] (.s (.b true)) [] []) (hc : CRs W noG [] avs args.toList) : Calls P f args W fun e W' => e = .returned (.bool true) ∧ Below W.heap.size W W' := by
  have hno : ∀ b o, noG b = some o → False := fun b o h => by simp [noG] at h
  have hI : InvH W noG [] [] := by
    refine ⟨fun b b' o h _ => (hno b o h).elim, fun b o h => (hno b o h).elim, fun b o h => (hno b o h).elim, fun k e sz n cs h => ?_, fun m e sz n cs b h _ => ?_, fun id T cs h => ?_⟩
    · simp at h
    · simp at h
    · cases id <;> simp [getB] at h
  have := h W noG args.toList hI ⟨fun _ _ _ h => by simp at h, fun _ _ _ h => by simp at h⟩ hc
  rw [Array.toArray_toList] at this
  refine this.mono ?_
  rintro e w' ⟨v, G', rfl, _, _, hcr, hev⟩
  cases hcr
  exact ⟨rfl, ⟨hev.os, hev.tape, hev.output, hev.keep.size, fun k hk => (hev.keep.free k hk rfl).1⟩⟩

/-- A law, whole. -/
theorem law_post {f : FuncId} {fn : Func} {s : ChangeSpec} {b k : Nat} {apart fresh handsOn again : Bool} {args : Array Value} {tb : TypeId} {ds gs : List (DataW H)} {before : List MemPlace}
    (hl : laidOutB P = true) (hts : ∀ t ∈ fn.params.toList, okT P k t = true ∧ P.readableRec t = true ∧ t < P.types.size) (hsv : s.vars = []) (hr : fn.resultTypes = #[tb]) (htb : P.underlying tb = some .bool)
    (hsf : (s.fn H ds).results = [.lit (.bool true)] ∧ (s.fn H ds).args = ds ∧ (s.fn H ds).vars = [])
    (hrun : ∀ avs, ShArgs P k fn.params.toList avs → ValidAt P f avs [] [] (.s (.b true)) [] [])
    (hval : ∀ (j : Nat) t v, fn.params[j]? = some t → args[j]? = some v → Value.okWide P W .any b t v)
    (hW : DataW.Whole enc P fn.params.toList s.vars apart W args.toList ds gs before) :
    Calls P f args W fun e W' => ∃ v, e = .returned v ∧ s.post enc P fn apart fresh handsOn again W args v W' := by
  obtain ⟨p, q, hA, hrest⟩ := hW
  obtain ⟨avs, h1, h2⟩ := args_CR _ _ _ _ (fun t ht => (hts t ht).1) (fun j t v hj hv => hval j t v (by simpa using hj) (by simpa using hv)) hA
  refine (law_calls (hrun avs h1) h2).mono ?_
  rintro e W' ⟨rfl, hb⟩
  exact ⟨_, rfl, post_of_below hl (fun t ht => (hts t ht).2) hsv hr htb hsf ⟨p, q, hA, hrest⟩ hb⟩
end
end Go.Am
