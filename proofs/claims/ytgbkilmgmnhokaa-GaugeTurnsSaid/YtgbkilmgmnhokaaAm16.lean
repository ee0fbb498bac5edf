/-
  THE ABSTRACT MACHINE: a region whose order is drawn, by its run in the order of the text.
-/
import Derived.Test.YtgbkilmgmnhokaaAm15
set_option linter.unusedSimpArgs false
set_option linter.unusedVariables false
namespace Go.Am
open Go

def clsOK : Nat → Nat → Bool
  | 4, _ => false
  | _, 4 => false
  | 0, _ => true
  | _, 0 => true
  | 1, 1 => true
  | 1, 2 => true
  | 2, 1 => true
  | 2, 2 => true
  | _, _ => false

/-- An operation that keeps its place among all. -/
def wild (esc : Nat → Bool) (quiet : FuncId → Bool) (o : Oper) : Bool := cls quiet o == 4 || o.dst.any esc

def dRun (P : Program) (F : Tab) (esc : Nat → Bool) (quiet : FuncId → Bool) (base : Nat) (ops : Array Oper) (o : Oper) (st : St) : Option St :=
  if wild esc quiet o then xStep P F esc base ops o st else yRun P F base ops o st

def dOps (P : Program) (F : Tab) (esc : Nat → Bool) (quiet : FuncId → Bool) (base : Nat) (ops : Array Oper) : List Oper → St → Option St
  | [], st => some st
  | o :: os, st => (dRun P F esc quiet base ops o st).bind (dOps P F esc quiet base ops os)

def pairOK (esc : Nat → Bool) (quiet : FuncId → Bool) (ops : Array Oper) (x y : Oper) : Bool := !wild esc quiet x && (!wild esc quiet y && (x.apart ops y && clsOK (cls quiet x) (cls quiet y)))

/-- Stands that operation ahead of this one in every order? -/
inductive Anc (ops : Array Oper) : Nat → Nat → Prop
  | one (j : Nat) (o : Oper) (e : Edge) : ops[j]? = some o → e ∈ o.after → Region.binds .any e = true → Anc ops e.on j
  | up (i j : Nat) (o : Oper) (e : Edge) : ops[j]? = some o → e ∈ o.after → Region.binds .any e = true → Anc ops i e.on → Anc ops i j

def maskOf (ms : List Nat) (o : Oper) : Nat := (o.after.toList.filter (Region.binds .any)).foldl (fun s e => s ||| 2 ^ e.on ||| ms.getD e.on 0) 0

def calmAt (esc : Nat → Bool) (quiet : FuncId → Bool) (ops : Array Oper) (o : Oper) (m : Nat) : Nat → List Oper → Bool
  | _, [] => true
  | i, x :: xs => (m.testBit i || pairOK esc quiet ops x o) && calmAt esc quiet ops o m (i + 1) xs

/-- Every two operations of the region are in order, or may change places. -/
def calmGo (esc : Nat → Bool) (quiet : FuncId → Bool) (ops : Array Oper) : List Oper → List Oper → List Nat → Bool
  | _, [], _ => true
  | seen, o :: os, ms =>
    let m := maskOf ms o
    (o.after.toList.all fun e => !Region.binds .any e || decide (e.on < seen.length)) && calmAt esc quiet ops o m 0 seen && calmGo esc quiet ops (seen ++ [o]) os (ms ++ [m])

def calm (esc : Nat → Bool) (quiet : FuncId → Bool) (ops : Array Oper) : Bool := calmGo esc quiet ops [] ops.toList []

section
variable {base : Nat} {w w' w'' : World} {G G' G'' : Ghost} {S S' S'' O O' O'' : List Blk} {P : Program} {F : Tab} {ops : Array Oper} {esc : Nat → Bool} {quiet : FuncId → Bool}

theorem apart_comm {x y : Oper} (h : x.apart ops y = true) : y.apart ops x = true := by
  obtain ⟨h1, h2, h3⟩ := Oper.apart_spec h
  unfold Oper.apart
  simp only [Bool.and_eq_true]
  constructor
  · cases hd : y.dst with
    | none => rfl
    | some d => simp only [Bool.and_eq_true, Bool.not_eq_true', bne_iff_ne, ne_eq]; exact ⟨by simpa using h3 d hd, fun hx => h2 d hx hd⟩
  · cases hd : x.dst with
    | none => rfl
    | some d => simpa using h1 d hd

/-- A state that some world has. -/
def Good (base : Nat) (st : St) : Prop := ∃ w G a, Rel base w G st a

theorem yRun_esc {o : Oper} {st st' : St} (he : o.dst.any esc = false) (h : yRun P F base ops o st = some st') : xStep P F esc base ops o st = some st' := by
  have h1 := yRun_x h
  rw [← h1]
  unfold xStep
  have hn : ∀ T cs s, newBox esc base o.dst T cs s = newBox (fun _ => false) base o.dst T cs s := fun T cs s => by
    unfold newBox
    cases hd : o.dst with
    | none => rfl
    | some d => rw [hd] at he; simp only [Option.any_some] at he; simp only [he]
  have hx : xOp P esc base o st = xOp P (fun _ => false) base o st := by
    obtain ⟨dst, op, type, pos, after, guard⟩ := o
    cases op <;> try rfl
    case call c => obtain ⟨callee, args, tys⟩ := c; cases callee <;> first | rfl | (rename_i b; cases b <;> rfl)
    case alloc T => simp only [xOp, hn]
    case box T x => simp only [xOp, hn, he, Option.any_false]
  rw [hx]

theorem dRun_x {o : Oper} {st st' : St} (h : dRun P F esc quiet base ops o st = some st') : xStep P F esc base ops o st = some st' := by
  unfold dRun at h
  split at h
  · exact h
  · rename_i hw
    simp only [wild, Bool.or_eq_true, not_or, Bool.not_eq_true] at hw
    exact yRun_esc hw.2 h

theorem Good.step (hF : F.valid P) {o : Oper} {st st' : St} (h : Good base st) (hy : dRun P F esc quiet base ops o st = some st') : Good base st' := by
  obtain ⟨w, G, a, hr⟩ := h
  have := xStep_sound (K := fun a' w' => ∃ G', Rel base w' G' st' a') (Q := fun _ _ _ => False) hF hr (dRun_x hy) (fun w' G' a' h1 _ => ⟨G', h1⟩)
  split at this
  · rcases this with this | ⟨_, _, _, hf⟩
    · unfold Oper.wp at this
      generalize (execOp a.eval o).run P w = r at this
      cases r with
      | ok n w' =>
        cases n <;> simp only [Oper.upon] at this
        case value v => obtain ⟨G', h⟩ := this; exact ⟨_, _, _, h⟩
        case skip => obtain ⟨G', h⟩ := this; exact ⟨_, _, _, h⟩
        case defer d => obtain ⟨G', h⟩ := this; exact ⟨_, _, _, h⟩
        case enter f args =>
          obtain ⟨e, w2, fr, hR, _⟩ := this []
          cases e with
          | returned v => obtain ⟨G', h⟩ := hR; exact ⟨_, _, _, h⟩
          | panicked c => exact hR.elim
          | outgrown => obtain ⟨_, _, hf⟩ := hR; exact hf.elim
        case row row args =>
          obtain ⟨v, w2, ⟨G', h⟩, _⟩ := this default []
          exact ⟨_, _, _, h⟩
      | halt x w' => cases x <;> simp only [Oper.upon] at this
    · exact hf.elim
  · obtain ⟨G', h⟩ := this; exact ⟨_, _, _, h⟩

theorem Good.free {st : St} (h : Good base st) {m : Nat} (hd : st.S[m]? = some .dead) (o : Oper) : free o st.env m := by
  obtain ⟨w, G, a, hr⟩ := h
  intro x _ ow hx
  exact dead_at hd (has_live hr.inv (rd_sound hr.env x) hx)

theorem pair_parts (hq : Calm F quiet) {x y : Oper} (hap : x.apart ops y = true) (hc : clsOK (cls quiet x) (cls quiet y) = true) {st : St} (hg : Good base st)
    {v z : AV} {S1 O1 S2 O2 : List Blk} (hx : yStep P F base ops x st.env st.S st.O = some (v, S1, O1)) (hy : yStep P F base ops y st.env S1 O1 = some (z, S2, O2)) :
    ∃ S3 O3, yStep P F base ops y st.env st.S st.O = some (z, S3, O3) ∧ yStep P F base ops x st.env S3 O3 = some (v, S2, O2) := by
  have caseE1 : (∃ v', (v, S1, O1) = (v', st.S, st.O) ∧ ∀ S2 O2, yStep P F base ops x st.env S2 O2 = some (v', S2, O2)) → ∃ S3 O3, yStep P F base ops y st.env st.S st.O = some (z, S3, O3) ∧ yStep P F base ops x st.env S3 O3 = some (v, S2, O2) := by
    rintro ⟨v', he, hi⟩
    simp only [Prod.mk.injEq] at he
    obtain ⟨rfl, rfl, rfl⟩ := he
    exact ⟨S2, O2, hy, hi S2 O2⟩
  have caseE2 : (∃ v', (z, S2, O2) = (v', S1, O1) ∧ ∀ S2 O2, yStep P F base ops y st.env S2 O2 = some (v', S2, O2)) → ∃ S3 O3, yStep P F base ops y st.env st.S st.O = some (z, S3, O3) ∧ yStep P F base ops x st.env S3 O3 = some (v, S2, O2) := by
    rintro ⟨v', he, hi⟩
    simp only [Prod.mk.injEq] at he
    obtain ⟨rfl, rfl, rfl⟩ := he
    exact ⟨_, _, hi _ _, hx⟩
  by_cases e1 : cls quiet x = 0
  · exact caseE1 (kE hq e1 hx)
  by_cases e2 : cls quiet y = 0
  · exact caseE2 (kE hq e2 hy)
  have hx12 : (cls quiet x = 1 ∨ cls quiet x = 2) ∧ (cls quiet y = 1 ∨ cls quiet y = 2) := by
    generalize cls quiet x = a at *
    generalize cls quiet y = b at *
    rcases a with _ | _ | _ | _ | _ | a <;> rcases b with _ | _ | _ | _ | _ | b <;> simp_all [clsOK]
  obtain ⟨hx1 | hx2, hy1 | hy2⟩ := hx12
  · obtain ⟨q, q1, _⟩ := kR (P := P) (F := F) (base := base) (ops := ops) hx1 st.env st.S st.O
    rw [q1] at hx
    simp only [Option.map_eq_some_iff, Prod.mk.injEq] at hx
    obtain ⟨v', hv, rfl, rfl, rfl⟩ := hx
    obtain ⟨p, p1, _⟩ := kR (P := P) (F := F) (base := base) (ops := ops) hy1 st.env st.S st.O
    rw [p1] at hy
    simp only [Option.map_eq_some_iff, Prod.mk.injEq] at hy
    obtain ⟨u', hu, rfl, rfl, rfl⟩ := hy
    exact ⟨_, _, by rw [p1, hu]; rfl, by rw [q1, hv]; rfl⟩
  · obtain ⟨q, q1, q2⟩ := kR (P := P) (F := F) (base := base) (ops := ops) hx1 st.env st.S st.O
    rw [q1] at hx
    simp only [Option.map_eq_some_iff, Prod.mk.injEq] at hx
    obtain ⟨v', hv, rfl, rfl, rfl⟩ := hx
    rcases kI hy2 hy with hE | ⟨d, u', blk, hd, hS, he, hi⟩
    · exact caseE2 hE
    · simp only [Prod.mk.injEq] at he
      obtain ⟨rfl, rfl, rfl⟩ := he
      exact ⟨_, _, hy, by rw [q2 _ blk (hg.free hS x), hv]; rfl⟩
  · rcases kI hx2 hx with hE | ⟨d, v', blk, hd, hS, he, hi⟩
    · exact caseE1 hE
    · simp only [Prod.mk.injEq] at he
      obtain ⟨rfl, rfl, rfl⟩ := he
      obtain ⟨q, q1, q2⟩ := kR (P := P) (F := F) (base := base) (ops := ops) hy1 st.env st.S st.O
      rw [q2 _ blk (hg.free hS y)] at hy
      simp only [Option.map_eq_some_iff, Prod.mk.injEq] at hy
      obtain ⟨u', hu, rfl, rfl, rfl⟩ := hy
      exact ⟨_, _, by rw [q1, hu]; rfl, hx⟩
  · rcases kI hx2 hx with hE | ⟨d, v', blk, hd, hS, he, hi⟩
    · exact caseE1 hE
    rcases kI hy2 hy with hE | ⟨d', u', blk', hd', hS', he', hi'⟩
    · exact caseE2 hE
    simp only [Prod.mk.injEq] at he he'
    obtain ⟨rfl, rfl, rfl⟩ := he
    obtain ⟨rfl, rfl, rfl⟩ := he'
    have hne : base + d ≠ base + d' := fun e => (Oper.apart_spec hap).2.1 d hd (by rw [hd', Nat.add_left_cancel e])
    have h1 : st.S[base + d']? = some .dead := by rw [List.getElem?_set_ne hne] at hS'; exact hS'
    refine ⟨_, _, hi' _ _ h1, ?_⟩
    rw [hi _ _ (by rw [List.getElem?_set_ne (Ne.symm hne)]; exact hS), List.set_comm _ _ hne]

theorem pair_comm (hq : Calm F quiet) {x y : Oper} (hp : pairOK esc quiet ops x y = true) {st a b : St} (hg : Good base st) (hx : dRun P F esc quiet base ops x st = some a) (hy : dRun P F esc quiet base ops y a = some b) :
    ∃ c, dRun P F esc quiet base ops y st = some c ∧ dRun P F esc quiet base ops x c = some b := by
  unfold pairOK at hp
  simp only [Bool.and_eq_true, Bool.not_eq_true'] at hp
  obtain ⟨hw1, hw2, hap, hc⟩ := hp
  simp only [dRun, hw1, hw2, Bool.false_eq_true, if_false] at hx hy ⊢
  obtain ⟨h1, h2, h3⟩ := Oper.apart_spec hap
  unfold yRun at *
  simp only [Option.map_eq_some_iff] at hx hy ⊢
  obtain ⟨⟨v, S1, O1⟩, hx, rfl⟩ := hx
  obtain ⟨⟨z, S2, O2⟩, hy, rfl⟩ := hy
  have e1 : ∀ (env : List AV) (S O : List Blk) (d : Option Tmp) (v : AV), (St.mk env S O).put d v = ⟨putE env d v, S, O⟩ := fun env S O d v => by cases d <;> rfl
  rw [e1] at hy
  simp only at hy
  rw [yStep_put h1] at hy
  obtain ⟨S3, O3, g1, g2⟩ := pair_parts hq hap hc hg hx hy
  refine ⟨_, ⟨_, g1, rfl⟩, ⟨(v, S2, O2), ?_, ?_⟩⟩
  · rw [e1]; simp only; rw [yStep_put h3]; exact g2
  · simp only [e1]
    congr 1
    cases hdx : x.dst with
    | none => cases hdy : y.dst <;> rfl
    | some d =>
      cases hdy : y.dst with
      | none => rfl
      | some d' =>
        have hne : d ≠ d' := fun e => h2 d hdx (by rw [hdy, e])
        simp only [putE, List.set_comm _ _ hne]

/-! ### Every order -/
def AnyA (P : Program) (F : Tab) (esc : Nat → Bool) (quiet : FuncId → Bool) (base : Nat) (ops : Array Oper) (R : St → Prop) : Nat → Array Bool → St → Prop
  | 0, listed, st => Region.ready .any ops listed = [] ∧ R st
  | fuel + 1, listed, st =>
    (Region.ready .any ops listed = [] → R st) ∧
    ∀ i ∈ Region.ready .any ops listed, ∃ o st', ops[i]? = some o ∧ dRun P F esc quiet base ops o st = some st' ∧ AnyA P F esc quiet base ops R fuel (listed.setIfInBounds i true) st'

theorem AnyA.sound (hF : F.valid P) {R : St → Prop} {Q : Exit → Act → World → Prop} {w₀ : World} {G₀ : Ghost} {S₀ O₀ : List Blk} (hQ : ∀ st w G a, R st → Rel base w G st a → FEvol base w₀ G₀ S₀ O₀ w G st.S st.O → Q .normal a w) :
    ∀ (fuel : Nat) (listed : Array Bool) (st : St) (w : World) (G : Ghost) (a : Act), AnyA P F esc quiet base ops R fuel listed st → Rel base w G st a → FEvol base w₀ G₀ S₀ O₀ w G st.S st.O → wpAny P .any ops Q fuel listed a w
  | 0, listed, st, w, G, a, h, hr, hev => ⟨h.1, hQ st w G a h.2 hr hev⟩
  | fuel + 1, listed, st, w, G, a, h, hr, hev => by
    refine ⟨fun h0 => hQ st w G a (h.1 h0) hr hev, fun i hi => ?_⟩
    obtain ⟨o, st', ho, hy, hrest⟩ := h.2 i hi
    unfold wpOp
    simp only [ho]
    exact xStep_sound hF hr (dRun_x hy) (fun w' G' a' h1 h2 => AnyA.sound hF hQ fuel _ st' w' G' a' hrest h1 (hev.trans h2))

def closed (ops : Array Oper) (listed : Array Bool) : Prop := ∀ j o, ops[j]? = some o → listed.getD j false = true → ∀ e ∈ o.after, Region.binds .any e = true → listed.getD e.on false = true

theorem anc_listed {listed : Array Bool} (hc : closed ops listed) {i j : Nat} (h : Anc ops i j) (hj : ∀ o, ops[j]? = some o → ∀ e ∈ o.after, Region.binds .any e = true → listed.getD e.on false = true) : listed.getD i false = true := by
  induction h with
  | one j o e ho he hb => exact hj o ho e he hb
  | up i j o e ho he hb _ ih => exact ih fun o' ho' => hc e.on o' ho' (hj o ho e he hb)

theorem closed_set {listed : Array Bool} (hc : closed ops listed) {j : Nat} (hj : j ∈ Region.ready .any ops listed) : closed ops (listed.setIfInBounds j true) := by
  intro k o hk hl e he hb
  obtain ⟨_, oj, hoj, hall⟩ := mem_ready.1 hj
  by_cases hkj : j = k
  · subst hkj
    rw [hk] at hoj; injection hoj with hoj; subst hoj
    exact getD_set_true (hall e he hb)
  · rw [getD_set_ne false hkj] at hl
    exact getD_set_true (hc k o hk hl e he hb)

theorem AnyA.first (hF : F.valid P) (hq : Calm F quiet) {R : St → Prop} {i : Nat} {oi : Oper} (hi : ops[i]? = some oi) :
    ∀ (fuel : Nat) (listed : Array Bool) (st st1 : St), Good base st → closed ops listed →
      (∀ j oj, ops[j]? = some oj → j ≠ i → listed.getD j true = false → ¬ Anc ops i j → pairOK esc quiet ops oi oj = true) →
      i ∈ Region.ready .any ops listed → dRun P F esc quiet base ops oi st = some st1 → AnyA P F esc quiet base ops R fuel (listed.setIfInBounds i true) st1 → AnyA P F esc quiet base ops R (fuel + 1) listed st := by
  intro fuel
  induction fuel with
  | zero =>
    intro listed st st1 _ _ _ hr hy H
    refine ⟨fun h => (by rw [h] at hr; cases hr), fun j hj => ?_⟩
    by_cases hji : j = i
    · subst hji; exact ⟨oi, st1, hi, hy, H⟩
    · have := ready_mono hj hji
      rw [H.1] at this
      cases this
  | succ fuel ih =>
    intro listed st st1 hg hcl hfree hr hy H
    refine ⟨fun h => (by rw [h] at hr; cases hr), fun j hj => ?_⟩
    by_cases hji : j = i
    · subst hji; exact ⟨oi, st1, hi, hy, H⟩
    · obtain ⟨oj, b, hoj, hyj, H'⟩ := H.2 j (ready_mono hj hji)
      obtain ⟨hjun, oj', hoj', hall⟩ := mem_ready.1 hj
      rw [hoj] at hoj'; injection hoj' with hoj'; subst hoj'
      have hnot : ¬ Anc ops i j := fun ha => by
        have h1 := anc_listed hcl ha (fun o ho e he hb => by rw [hoj] at ho; injection ho with ho; subst ho; exact hall e he hb)
        have h0 := (mem_ready.1 hr).1
        rcases Nat.lt_or_ge i listed.size with h' | h'
        · simp [h'] at h0 h1; rw [h0] at h1; cases h1
        · simp [Array.getElem?_eq_none h'] at h1
      obtain ⟨c, hc1, hc2⟩ := pair_comm hq (hfree j oj hoj hji hjun hnot) hg hy hyj
      refine ⟨oj, c, hoj, hc1, ih (listed.setIfInBounds j true) c b (hg.step hF hc1) (closed_set hcl hj) (fun k ok hk hki hun hno => ?_) (ready_mono hr (Ne.symm hji)) hc2 ?_⟩
      · refine hfree k ok hk hki ?_ hno
        by_cases hjk : j = k
        · subst hjk; exact hjun
        · rw [getD_set_ne true hjk] at hun; exact hun
      · rw [Array.setIfInBounds_comm _ _ hji]; exact H'
end
end Go.Am
