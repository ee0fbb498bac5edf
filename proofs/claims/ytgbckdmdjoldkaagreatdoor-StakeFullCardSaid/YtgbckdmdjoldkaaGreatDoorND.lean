import Derived.Shelf.Bytes.SlEqualAll
import Derived.Test.YtgbckdmdjoldkaaGreatDoorNC
import Derived.Shelf.SlSorted.Search
set_option linter.unusedSimpArgs false
set_option linter.unusedVariables false
/-
  THE SECOND MACHINE: bytes in many lanes, compared cell by cell; bytes.Equal of such bytes.
-/
namespace Go.Bm
open Go
open Go.Am (Sc)

/-- A byte's values in the lanes: n of them. -/
noncomputable def laneV (i n : Nat) : AV → Option (List Int)
  | .s (.i .u8 x) => some (List.replicate n x)
  | .w i' .u8 l => bif Nat.beq i' i && Nat.beq l.length n then some l else none
  | _ => none

/-- Small numbers. -/
noncomputable def ltN (x y : Int) : Option Int :=
  match x, y with
  | .ofNat a, .ofNat b => bif Nat.blt a (nat_lit 256) && Nat.blt b (nat_lit 256) then (bif Nat.blt a b then some (-1) else bif Nat.blt b a then some 1 else some 0) else none
  | _, _ => none

/-- What is known in each lane behind one more cell (0: alike so far). -/
noncomputable def stepW : List Int → List Int → List Int → Option (List Int)
  | [], _, _ => some []
  | s :: st, x :: xs, y :: ys => match stepW st xs ys with
    | some r => match s with
      | .ofNat 0 => match ltN x y with
        | some q => some (q :: r)
        | none => none
      | s => some (s :: r)
    | none => none
  | _, _, _ => none

noncomputable def isZ : Int → Bool
  | .ofNat 0 => true
  | _ => false

noncomputable def eqI : Int → Int → Bool
  | .ofNat a, .ofNat b => Nat.beq a b
  | .negSucc a, .negSucc b => Nat.beq a b
  | _, _ => false

theorem eqI_eq : ∀ {x y : Int}, eqI x y = true → x = y
  | .ofNat a, .ofNat b, h => by rw [Nat.eq_of_beq_eq_true h]
  | .negSucc a, .negSucc b, h => by rw [Nat.eq_of_beq_eq_true h]
  | .ofNat a, .negSucc b, h => by cases h
  | .negSucc a, .ofNat b, h => by cases h

theorem isZ_eq : ∀ {x : Int}, isZ x = true → x = 0
  | .ofNat 0, _ => rfl
  | .ofNat (n + 1), h => by cases h
  | .negSucc n, h => by cases h

/-- All lanes agree; who is alike so far is d. -/
noncomputable def agreeW (d : Int) : List Int → Option Int
  | [] => none
  | s :: r => match (bif isZ s then d else s) with
    | q => bif r.all (fun s' => eqI (bif isZ s' then d else s') q) then some q else none

noncomputable def noZ (st : List Int) : Bool := st.all fun s => Bool.not (isZ s)

noncomputable def cellB : AV → Bool
  | .s (.i .u8 _) => true
  | .w _ .u8 _ => true
  | _ => false

noncomputable def cmpGo (i n : Nat) : List Int → List AV → List AV → Option Int
  | st, [], [] => agreeW 0 st
  | st, [], _ :: _ => agreeW (-1) st
  | st, _ :: _, [] => agreeW 1 st
  | st, x :: xs, y :: ys => match laneV i n x, laneV i n y with
    | some l, some m => match stepW st l m with
      | some st' => bif noZ st' then agreeW 0 st' else cmpGo i n st' xs ys
      | none => none
    | _, _ => none

noncomputable def cmpPre (i n : Nat) : List AV → List AV → Option Int
  | x :: xs, y :: ys => bif AV.beq x y then cmpPre i n xs ys else cmpGo i n (List.replicate n 0) (x :: xs) (y :: ys)
  | xs, ys => cmpGo i n (List.replicate n 0) xs ys

noncomputable def cmpW (cs ds : List AV) : Option Int :=
  match firstW (cs ++ ds) with
  | some (i, n) => bif cs.all cellB && ds.all cellB then cmpPre i n cs ds else none
  | none => none

noncomputable def xCmpV (H : Heap) (args : List AV) : Option Int :=
  match args with
  | [a, b] => match srcCells H 1 a, srcCells H 1 b with
    | some (_, cs), some (_, ds) => cmpW cs ds
    | _, _ => none
  | _ => none

noncomputable def laneX2 (fC : FuncId) (X : Ext1) : Ext1 := fun f args H =>
  match X f args H with
  | some r => some r
  | none => bif Nat.beq f fC then (match xCmpV H args with | some x => some (.s (.i .i64 x)) | none => none) else none

section
variable {P : Program} {w : World} {ρ : Map} {H : Heap} {nx : Nat}

theorem cells_u8 : ∀ {cs : List AV} {us : List Value}, cs.all cellB = true → CRs ρ cs us → ∃ ns : List Int, us = ns.map (Value.int .u8) ∧ ns.length = cs.length
  | [], _, _, .nil => ⟨[], rfl, rfl⟩
  | x :: cs, _, h, .cons _ v _ us h1 h2 => by
    simp only [List.all_cons, Bool.and_eq_true] at h
    obtain ⟨ns, rfl, hl⟩ := cells_u8 h.2 h2
    have hx := h.1
    unfold cellB at hx
    split at hx
    · cases h1; exact ⟨_ :: ns, rfl, by simp [hl]⟩
    · cases h1; exact ⟨_ :: ns, rfl, by simp [hl]⟩
    · cases hx

theorem laneV_get {i n L : Nat} (hr : ρ i = .far i L) (hL : L < n) {x : AV} {l : List Int} {z : Int} (h : laneV i n x = some l) (hc : CR ρ x (.int .u8 z)) : l.length = n ∧ l[L]? = some z := by
  unfold laneV at h
  split at h
  · injection h with h; subst h
    cases hc
    exact ⟨by simp, by rw [List.getElem?_replicate, if_pos hL]⟩
  · rename_i i' l'
    cases hb : (Nat.beq i' i && Nat.beq l'.length n) with
    | false => rw [hb] at h; cases h
    | true =>
      rw [hb] at h
      simp only [cond_true, Option.some.injEq] at h
      subst h
      simp only [Bool.and_eq_true] at hb
      obtain rfl := Nat.eq_of_beq_eq_true hb.1
      cases hc with | w _ _ _ L' _ _ _ g3 g4 =>
      rw [hr] at g3; injection g3 with _ e; subst e
      exact ⟨Nat.eq_of_beq_eq_true hb.2, g4⟩
  · cases h

theorem blt_of {a b : Nat} (h : a < b) : Nat.blt a b = true := by rw [Nat.blt_eq]; exact h

/-- As bytes are compared. -/
def cmpZ (s : Int) (ns ms : List Int) : Int := if s = 0 then Lib.compareBytes (Lib.bytesOf ns) (Lib.bytesOf ms) else s

theorem ltN_cmp {x y q : Int} {ns ms : List Int} (h : ltN x y = some q) : Lib.compareBytes (Lib.bytesOf (x :: ns)) (Lib.bytesOf (y :: ms)) = cmpZ q ns ms := by
  unfold ltN at h
  split at h
  · rename_i a b
    cases hb : (Nat.blt a 256 && Nat.blt b 256) with
    | false => rw [hb] at h; cases h
    | true =>
      rw [hb] at h
      simp only [cond_true] at h
      simp only [Bool.and_eq_true, Nat.blt_eq] at hb
      obtain ⟨ha, hb⟩ := hb
      have e1 : (UInt8.ofNat (Int.ofNat a).toNat < UInt8.ofNat (Int.ofNat b).toNat) ↔ a < b := by
        rw [UInt8.lt_iff_toNat_lt]; simp [Nat.mod_eq_of_lt ha, Nat.mod_eq_of_lt hb]
      have e2 : (UInt8.ofNat (Int.ofNat b).toNat < UInt8.ofNat (Int.ofNat a).toNat) ↔ b < a := by
        rw [UInt8.lt_iff_toNat_lt]; simp [Nat.mod_eq_of_lt ha, Nat.mod_eq_of_lt hb]
      show (if UInt8.ofNat (Int.ofNat a).toNat < UInt8.ofNat (Int.ofNat b).toNat then (-1 : Int) else if UInt8.ofNat (Int.ofNat b).toNat < UInt8.ofNat (Int.ofNat a).toNat then 1 else Lib.compareBytes (Lib.bytesOf ns) (Lib.bytesOf ms)) = _
      cases hab : Nat.blt a b with
      | true =>
        rw [hab] at h
        simp only [cond_true, Option.some.injEq] at h
        subst h
        rw [if_pos (e1.2 (of_blt hab))]; rfl
      | false =>
        rw [hab] at h
        simp only [cond_false] at h
        have hn : ¬ a < b := fun hh => by rw [blt_of hh] at hab; cases hab
        rw [if_neg (fun hh => hn (e1.1 hh))]
        cases hba : Nat.blt b a with
        | true =>
          rw [hba] at h
          simp only [cond_true, Option.some.injEq] at h
          subst h
          rw [if_pos (e2.2 (of_blt hba))]; rfl
        | false =>
          rw [hba] at h
          simp only [cond_false, Option.some.injEq] at h
          subst h
          have hn2 : ¬ b < a := fun hh => by rw [blt_of hh] at hba; cases hba
          rw [if_neg (fun hh => hn2 (e2.1 hh))]; rfl
  · cases h

theorem stepW_get {L : Nat} : ∀ {st l m r : List Int} {s x y : Int}, stepW st l m = some r → st[L]? = some s → l[L]? = some x → m[L]? = some y →
    ∃ q, r[L]? = some q ∧ ∀ ns ms, cmpZ s (x :: ns) (y :: ms) = cmpZ q ns ms := by
  induction L with
  | zero =>
    intro st l m r s x y h h1 h2 h3
    cases st with | nil => simp at h1 | cons s' st =>
    cases l with | nil => simp at h2 | cons x' l =>
    cases m with | nil => simp at h3 | cons y' m =>
    simp only [List.getElem?_cons_zero, Option.some.injEq] at h1 h2 h3
    subst h1 h2 h3
    unfold stepW at h
    split at h
    rotate_left
    · cases h
    split at h
    · split at h
      · rename_i q hq
        injection h with h; subst h
        refine ⟨q, rfl, fun ns ms => ?_⟩
        rw [← ltN_cmp hq]; rfl
      · cases h
    · rename_i hs
      injection h with h; subst h
      refine ⟨_, rfl, fun ns ms => ?_⟩
      unfold cmpZ
      have hs' : ¬ s' = 0 := hs
      rw [if_neg hs', if_neg hs']
  | succ L ih =>
    intro st l m r s x y h h1 h2 h3
    cases st with | nil => simp at h1 | cons s' st =>
    cases l with | nil => simp at h2 | cons x' l =>
    cases m with | nil => simp at h3 | cons y' m =>
    simp only [List.getElem?_cons_succ] at h1 h2 h3
    unfold stepW at h
    split at h
    rotate_left
    · cases h
    rename_i r' hr'
    obtain ⟨q, g1, g2⟩ := ih hr' h1 h2 h3
    split at h
    · split at h
      · injection h with h; subst h; exact ⟨q, by simpa using g1, g2⟩
      · cases h
    · injection h with h; subst h; exact ⟨q, by simpa using g1, g2⟩

theorem agreeW_get {d q : Int} {L : Nat} {st : List Int} {s : Int} (h : agreeW d st = some q) (hs : st[L]? = some s) : q = if s = 0 then d else s := by
  have hz : ∀ s : Int, (bif isZ s then d else s) = if s = 0 then d else s := fun s => by
    cases h : isZ s with
    | true => rw [isZ_eq h]; rfl
    | false =>
      have : ¬ s = 0 := fun e => by subst e; cases h
      rw [if_neg this]; rfl
  cases st with
  | nil => cases h
  | cons s0 r =>
    unfold agreeW at h
    simp only at h
    cases ha : r.all (fun s' => eqI (bif isZ s' then d else s') (bif isZ s0 then d else s0)) with
    | false => rw [ha] at h; cases h
    | true =>
      rw [ha] at h
      simp only [cond_true, Option.some.injEq] at h
      subst h
      cases L with
      | zero => simp only [List.getElem?_cons_zero, Option.some.injEq] at hs; subst hs; exact hz _
      | succ L =>
        have hm : s ∈ r := List.mem_of_getElem? (by simpa using hs)
        have := eqI_eq (List.all_eq_true.1 ha s hm)
        rw [← this]; exact hz _

theorem noZ_get {L : Nat} {st : List Int} {s : Int} (h : noZ st = true) (hs : st[L]? = some s) : ¬ s = 0 := fun e => by
  subst e
  have := List.all_eq_true.1 h 0 (List.mem_of_getElem? hs)
  cases this

theorem cmpGo_ok {i n L : Nat} (hr : ρ i = .far i L) (hL : L < n) : ∀ {cs ds : List AV} {st : List Int} {ns ms : List Int} {s q : Int}, cmpGo i n st cs ds = some q → st[L]? = some s →
    CRs ρ cs (ns.map (Value.int .u8)) → CRs ρ ds (ms.map (Value.int .u8)) → cmpZ s ns ms = q
  | [], [], st, ns, ms, s, q, h, hs, h1, h2 => by
    have e1 : ns = [] := by have := h1.length; simpa using this.symm
    have e2 : ms = [] := by have := h2.length; simpa using this.symm
    subst e1 e2
    unfold cmpGo at h
    rw [agreeW_get h hs]; rfl
  | [], d :: ds, st, ns, ms, s, q, h, hs, h1, h2 => by
    have e1 : ns = [] := by have := h1.length; simpa using this.symm
    subst e1
    cases ms with
    | nil => have := h2.length; simp at this
    | cons z ms =>
    unfold cmpGo at h
    rw [agreeW_get h hs]; rfl
  | c :: cs, [], st, ns, ms, s, q, h, hs, h1, h2 => by
    have e2 : ms = [] := by have := h2.length; simpa using this.symm
    subst e2
    cases ns with
    | nil => have := h1.length; simp at this
    | cons z ns =>
    unfold cmpGo at h
    rw [agreeW_get h hs]; rfl
  | c :: cs, d :: ds, st, ns, ms, s, q, h, hs, h1, h2 => by
    cases ns with
    | nil => have := h1.length; simp at this
    | cons x ns =>
    cases ms with
    | nil => have := h2.length; simp at this
    | cons y ms =>
    simp only [List.map_cons] at h1 h2
    cases h1 with | cons _ _ _ _ p1 p2 =>
    cases h2 with | cons _ _ _ _ q1 q2 =>
    unfold cmpGo at h
    split at h
    rotate_left
    · cases h
    rename_i l m hl hm
    split at h
    rotate_left
    · cases h
    rename_i st' hst
    obtain ⟨_, g1⟩ := laneV_get hr hL hl p1
    obtain ⟨_, g2⟩ := laneV_get hr hL hm q1
    obtain ⟨s', g3, g4⟩ := stepW_get hst hs g1 g2
    rw [g4]
    cases hz : noZ st' with
    | true =>
      rw [hz] at h
      simp only [cond_true] at h
      have hn := noZ_get hz g3
      rw [agreeW_get h g3, if_neg hn]
      unfold cmpZ; rw [if_neg hn]
    | false =>
      rw [hz] at h
      simp only [cond_false] at h
      exact cmpGo_ok hr hL h g3 p2 q2

theorem same_u8 (hlane : ∀ i L L', ρ i = .far i L → ρ i = .far i L' → L = L') {x : AV} {a b : Int} (hb : cellB x = true) (h1 : CR ρ x (.int .u8 a)) (h2 : CR ρ x (.int .u8 b)) : a = b := by
  unfold cellB at hb
  split at hb
  · cases h1; cases h2; rfl
  · cases h1 with | w _ _ _ L1 _ _ _ g3 g4 =>
    cases h2 with | w _ _ _ L2 _ _ _ k3 k4 =>
    have := hlane _ _ _ g3 k3
    subst this
    rw [g4] at k4; injection k4
  · cases hb

theorem compare_same {x : Int} {ns ms : List Int} : Lib.compareBytes (Lib.bytesOf (x :: ns)) (Lib.bytesOf (x :: ms)) = Lib.compareBytes (Lib.bytesOf ns) (Lib.bytesOf ms) := by
  show (if UInt8.ofNat x.toNat < UInt8.ofNat x.toNat then (-1 : Int) else if UInt8.ofNat x.toNat < UInt8.ofNat x.toNat then 1 else Lib.compareBytes (Lib.bytesOf ns) (Lib.bytesOf ms)) = _
  rw [if_neg (by rw [UInt8.lt_iff_toNat_lt]; omega), if_neg (by rw [UInt8.lt_iff_toNat_lt]; omega)]

theorem cmpPre_ok {i n L : Nat} (hr : ρ i = .far i L) (hL : L < n) : ∀ {cs ds : List AV} {ns ms : List Int} {q : Int}, cs.all cellB = true → cmpPre i n cs ds = some q →
    CRs ρ cs (ns.map (Value.int .u8)) → CRs ρ ds (ms.map (Value.int .u8)) → Lib.compareBytes (Lib.bytesOf ns) (Lib.bytesOf ms) = q := by
  intro cs
  have h0 : (List.replicate n (0 : Int))[L]? = some 0 := by rw [List.getElem?_replicate, if_pos hL]
  have go : ∀ {cs ds : List AV} {ns ms : List Int} {q : Int}, cmpGo i n (List.replicate n 0) cs ds = some q → CRs ρ cs (ns.map (Value.int .u8)) → CRs ρ ds (ms.map (Value.int .u8)) → Lib.compareBytes (Lib.bytesOf ns) (Lib.bytesOf ms) = q := fun h h1 h2 => by
    have := cmpGo_ok hr hL h h0 h1 h2
    rw [← this]; rfl
  induction cs with
  | nil =>
    intro ds ns ms q hb h h1 h2
    unfold cmpPre at h
    exact go h h1 h2
  | cons c cs ih =>
    intro ds ns ms q hb h h1 h2
    cases ds with
    | nil => unfold cmpPre at h; exact go h h1 h2
    | cons d ds =>
      unfold cmpPre at h
      cases he : AV.beq c d with
      | false => rw [he] at h; exact go h h1 h2
      | true =>
        rw [he] at h
        simp only [cond_true] at h
        have e := AV.beq_eq he
        subst e
        cases ns with
        | nil => have := h1.length; simp at this
        | cons x ns =>
        cases ms with
        | nil => have := h2.length; simp at this
        | cons y ms =>
        simp only [List.map_cons] at h1 h2
        cases h1 with | cons _ _ _ _ p1 p2 =>
        cases h2 with | cons _ _ _ _ q1 q2 =>
        simp only [List.all_cons, Bool.and_eq_true] at hb
        have := same_u8 (fun i L L' h h' => by rw [h] at h'; injection h') hb.1 p1 q1
        subst this
        rw [compare_same]
        exact ih hb.2 h p2 q2

theorem cells_one : ∀ {cs : List AV} {us us' : List Value}, cs.all cellB = true → CRs ρ cs us → CRs ρ cs us' → us = us'
  | [], _, _, _, .nil, .nil => rfl
  | x :: cs, _, _, h, .cons _ v _ us h1 h2, .cons _ v' _ us' k1 k2 => by
    simp only [List.all_cons, Bool.and_eq_true] at h
    rw [cells_one h.2 h2 k2]
    have hx := h.1
    have : v = v' := by
      unfold cellB at hx
      split at hx
      · cases h1; cases k1; rfl
      · cases h1 with | w _ _ _ L1 z1 _ _ g3 g4 =>
        cases k1 with | w _ _ _ L2 z2 _ _ k3 k4 =>
        rw [g3] at k3; injection k3 with _ e; subst e
        rw [g4] at k4; injection k4 with k4; subst k4; rfl
      · cases hx
    rw [this]

/-- What two slices' bytes are, and how they compare. -/
theorem cmpW_ok {cs ds : List AV} {us vs : List Value} {x : Int} (h : cmpW cs ds = some x) (h1 : CRs ρ cs us) (h2 : CRs ρ ds vs) :
    ∃ ns ms : List Int, us = ns.map (Value.int .u8) ∧ vs = ms.map (Value.int .u8) ∧ Lib.compareBytes (Lib.bytesOf ns) (Lib.bytesOf ms) = x ∧ cs.all cellB = true ∧ ds.all cellB = true := by
  unfold cmpW at h
  split at h
  rotate_left
  · cases h
  rename_i i n hfw
  cases hb : (cs.all cellB && ds.all cellB) with
  | false => rw [hb] at h; cases h
  | true =>
    rw [hb] at h
    simp only [cond_true] at h
    simp only [Bool.and_eq_true] at hb
    obtain ⟨ns, rfl, _⟩ := cells_u8 hb.1 h1
    obtain ⟨ms, rfl, _⟩ := cells_u8 hb.2 h2
    obtain ⟨k, l, hmem, hln⟩ := firstW_mem hfw
    obtain ⟨L, hL, hr⟩ : ∃ L, L < n ∧ ρ i = .far i L := by
      have hcc := h1.append h2
      obtain ⟨j, hj, he⟩ := List.getElem_of_mem hmem
      obtain ⟨v, _, hv⟩ := hcc.get (j := j) (x := .w i k l) (by rw [List.getElem?_eq_getElem hj, he])
      cases hv with | w _ _ _ L z _ _ g3 g4 => exact ⟨L, by rw [← hln]; exact (List.getElem?_eq_some_iff.1 g4).1, g3⟩
    exact ⟨ns, ms, rfl, rfl, cmpPre_ok hr hL hb.1 h h1 h2, hb.1, hb.2⟩

theorem laneX2_valid {fC : FuncId} {X : Ext1} (hX : X.valid P) (hcmp : ∀ (args : Array Value) (w : World), (callFunc fC args).run P w = ((Extern.BytealgCompare.compare args).run P w).andThen fun v w' => .ok (.value v) w') : (laneX2 fC X).valid P := by
  intro f args H r hx w ρ nx vargs hI hc
  unfold laneX2 at hx
  split at hx
  · rename_i r' hr
    injection hx with hx; subst hx
    exact hX f args H _ hr w ρ nx vargs hI hc
  · cases hb : Nat.beq f fC with
    | false => rw [hb] at hx; cases hx
    | true =>
      rw [hb] at hx
      simp only [cond_true] at hx
      obtain rfl := Nat.eq_of_beq_eq_true hb
      split at hx
      rotate_left
      · cases hx
      rename_i x hxc
      injection hx with hx; subst hx
      unfold xCmpV at hxc
      split at hxc
      rotate_left
      · cases hxc
      rename_i a b
      split at hxc
      rotate_left
      · cases hxc
      rename_i ka cs kb ds ha hb'
      cases hc with | cons _ v0 _ vs0 hc0 hc =>
      cases hc with | cons _ v1 _ vs1 hc1 hc =>
      cases hc
      obtain ⟨A0, c0, us0, e0, hcs0, _, _⟩ := src_sound hI ha hc0
      obtain ⟨A1, c1, us1, e1, hcs1, _, _⟩ := src_sound hI hb' hc1
      obtain ⟨ns, ms, rfl, rfl, hq, hA, hB⟩ := cmpW_ok hxc hcs0 hcs1
      refine ⟨_, ?_, .s (.i .i64 _)⟩
      rw [hcmp]
      have : (Extern.BytealgCompare.compare #[v0, v1]).run P w = .ok (.int .i64 x) w := by
        change Sem.run P (do pure (goInt (Extern.BytealgCompare.cmp (← Extern.Bytes.bytesOf v0) (← Extern.Bytes.bytesOf v1)))) w = _
        simp only [Sem.run_bind, bytes_run hI ha hc0 (fun us hu => cells_one hA hu hcs0), bytes_run hI hb' hc1 (fun us hu => cells_one hB hu hcs1), Result.andThen_ok, Sem.run_pure, Lib.cmp_eq]
        rw [← hq]; rfl
      show ((Extern.BytealgCompare.compare #[v0, v1]).run P w).andThen _ = _
      rw [this]; rfl

theorem compare_zero : ∀ {a b : List UInt8}, Lib.compareBytes a b = 0 ↔ a = b
  | [], [] => by simp [Lib.compareBytes]
  | [], _ :: _ => by simp [Lib.compareBytes]
  | _ :: _, [] => by simp [Lib.compareBytes]
  | x :: a, y :: b => by
    unfold Lib.compareBytes
    by_cases h1 : x < y
    · rw [if_pos h1]
      refine ⟨fun h => by omega, fun h => ?_⟩
      injection h with e _; subst e
      rw [UInt8.lt_iff_toNat_lt] at h1; omega
    · rw [if_neg h1]
      by_cases h2 : y < x
      · rw [if_pos h2]
        refine ⟨fun h => by omega, fun h => ?_⟩
        injection h with e _; subst e
        rw [UInt8.lt_iff_toNat_lt] at h2; omega
      · rw [if_neg h2, compare_zero]
        have : x = y := by
          rw [UInt8.lt_iff_toNat_lt] at h1 h2
          exact UInt8.toNat_inj.1 (by omega)
        subst this
        simp

/-- bytes.Equal of bytes in lanes. -/
noncomputable def eqW (fE : FuncId) : Kn := fun f args H nx =>
  bif Nat.beq f fE then (match xCmpV H args with | some x => some (.s (.b (isZ x)), H, nx) | none => none) else none

/-- What a slice of bytes is as a string. -/
theorem bytes_conv {x : AV} {v : Value} {k : Nat} {cs : List AV} {ns : List Int} {src e dst : TypeId} (hI : InvH w ρ H nx) (hsrc : srcCells H 1 x = some (k, cs)) (hx : CR ρ x v) (hn : ∀ us, CRs ρ cs us → us = ns.map (Value.int .u8))
    (hs : P.underlying src = some (.slice e)) (he : P.underlying e = some (.int .u8)) (hd : P.underlying dst = some .string) : (convert src dst v).run P w = .ok (.string (strOfNums ns)) w := by
  obtain ⟨A, c, us, rfl, hcs, hl, hA⟩ := src_sound hI hsrc hx
  obtain rfl := hn _ hcs
  have hk : ns.length = k := by simpa using hl
  rcases Nat.eq_zero_or_pos k with h | h
  · subst h
    have : ns = [] := List.eq_nil_of_length_eq_zero hk
    subst this
    exact Go.Proofs.run_convert_bytes_zero w src e hs he A c dst hd
  · obtain ⟨ad, rfl, hc⟩ := hA (by omega)
    have hl : (loadCells ad k).run P w = .ok (ns.map (Value.int .u8)).toArray w := by
      have := run_loadCells_list (P := P) w ad (ns.map (Value.int .u8)) hc
      simpa [hk] using this
    rw [run_convert_bytes_string w src dst e _ k c hs he hd, run_bytesToString w _ k c ns hl, foldl_push_bytes]
    simp [strOfNums, ByteArray.empty, ByteArray.emptyWithCapacity]
    rfl

theorem eqW_ok {fE : FuncId} (hb : Bodied P fE) (h : ∀ (v1 v2 : Value) (xs ys : List Int) (w : World),
    (∀ (src e dst : TypeId), P.underlying src = some (.slice e) → P.underlying e = some (.int .u8) → P.underlying dst = some .string → (convert src dst v1).run P w = .ok (.string (strOfNums xs)) w) →
    (∀ (src e dst : TypeId), P.underlying src = some (.slice e) → P.underlying e = some (.int .u8) → P.underlying dst = some .string → (convert src dst v2).run P w = .ok (.string (strOfNums ys)) w) →
    Calls P fE #[v1, v2] w fun e w' => e = .returned (.bool (Lib.bytesOf xs == Lib.bytesOf ys)) ∧ w' = w) : (eqW fE).ok P := by
  refine ⟨fun f args H nx r H' nx' hv => ?_, fun f args H nx r hv => ?_⟩
  · unfold eqW at hv
    cases hbq : Nat.beq f fE with
    | false => rw [hbq] at hv; cases hv
    | true =>
      rw [hbq] at hv
      simp only [cond_true] at hv
      obtain rfl := Nat.eq_of_beq_eq_true hbq
      split at hv
      rotate_left
      · cases hv
      rename_i x hxc
      simp only [Option.some.injEq, Prod.mk.injEq] at hv
      obtain ⟨rfl, rfl, rfl⟩ := hv
      intro w ρ vargs hI hc
      unfold xCmpV at hxc
      split at hxc
      rotate_left
      · cases hxc
      rename_i a b
      split at hxc
      rotate_left
      · cases hxc
      rename_i ka cs kb ds ha hb'
      cases hc with | cons _ v0 _ vs0 hc0 hc =>
      cases hc with | cons _ v1 _ vs1 hc1 hc =>
      cases hc
      obtain ⟨A0, c0, us0, e0, hcs0, _, _⟩ := src_sound hI ha hc0
      obtain ⟨A1, c1, us1, e1, hcs1, _, _⟩ := src_sound hI hb' hc1
      obtain ⟨ns, ms, rfl, rfl, hq, hA, hB⟩ := cmpW_ok hxc hcs0 hcs1
      refine (h v0 v1 ns ms w (fun src e dst g1 g2 g3 => bytes_conv hI ha hc0 (fun us hu => cells_one hA hu hcs0) g1 g2 g3) (fun src e dst g1 g2 g3 => bytes_conv hI hb' hc1 (fun us hu => cells_one hB hu hcs1) g1 g2 g3)).mono ?_
      rintro e w' ⟨rfl, rfl⟩
      have : (Lib.bytesOf ns == Lib.bytesOf ms) = isZ x := by
        rw [← hq]
        cases hz : isZ (Lib.compareBytes (Lib.bytesOf ns) (Lib.bytesOf ms)) with
        | true => rw [compare_zero.1 (isZ_eq hz)]; simp
        | false =>
          have : ¬ Lib.bytesOf ns = Lib.bytesOf ms := fun e => by rw [compare_zero.2 e] at hz; cases hz
          simp [this]
      rw [this]
      exact ⟨_, ρ, rfl, hI, .s (.b _), .refl⟩
  · unfold eqW at hv
    cases hbq : Nat.beq f fE with
    | false => rw [hbq] at hv; cases hv
    | true => rw [Nat.eq_of_beq_eq_true hbq]; exact hb
end
end Go.Bm
/-
  THE SECOND MACHINE: store.find told by the keys alone (a binary search over keys in order).
-/
namespace Go.Bm
open Go Go.Sort
open Go.Am (Sc)

/-- The first of n at which it is so: how many are ahead of it. -/
def lessN (n : Nat) (z : Nat → Int) : Nat := (List.range n).countP fun i => !decide (0 ≤ z i)

/-- What is asked of the function fF (store.find), fE being bytes.Equal. -/
def FindSays (P : Program) (fF fE : FuncId) : Prop :=
  ∀ (S so R ro n c : Nat) (A : Option Addr) (kn kc : Nat) (kv : Nat → Value) (z : Nat → Int) (eq : Bool) (w : World), S < w.heap.size → R < w.heap.size → n < 4611686018427387904 →
    w.cell? ⟨S, so, none⟩ = some (.slice (some ⟨R, ro, none⟩) n c) →
    (∀ i, i < n → w.cell? ⟨R, ro + i * 2, none⟩ = some (kv i)) →
    (∀ (m : Nat) (os : Array Obj) (i : Nat), i < n → (Extern.BytealgCompare.compare #[kv i, .slice A kn kc]).run P (Go.Sort.grow (w.drewN m) os) = .ok (.int .i64 (z i)) (Go.Sort.grow (w.drewN m) os)) →
    (∀ a b, a ≤ b → b < n → 0 ≤ z a → 0 ≤ z b) →
    (lessN n z < n → ∀ (m : Nat) (os : Array Obj), Calls P fE #[kv (lessN n z), .slice A kn kc] (Go.Sort.grow (w.drewN m) os) fun e w' => e = .returned (.bool eq) ∧ w' = Go.Sort.grow (w.drewN m) os) →
    Calls P fF #[.pointer (some ⟨S, so, none⟩), .slice A kn kc] w fun e w' => e = .returned (.tuple #[.int .i64 (lessN n z : Nat), .bool (decide (lessN n z < n) && eq)]) ∧ RowKit.Below w.heap.size w w'

/-- What is asked of bytes.Equal. -/
def EqualSays (P : Program) (fE : FuncId) : Prop :=
  ∀ (v1 v2 : Value) (xs ys : List Int) (w : World),
    (∀ (src e dst : TypeId), P.underlying src = some (.slice e) → P.underlying e = some (.int .u8) → P.underlying dst = some .string → (convert src dst v1).run P w = .ok (.string (strOfNums xs)) w) →
    (∀ (src e dst : TypeId), P.underlying src = some (.slice e) → P.underlying e = some (.int .u8) → P.underlying dst = some .string → (convert src dst v2).run P w = .ok (.string (strOfNums ys)) w) →
    Calls P fE #[v1, v2] w fun e w' => e = .returned (.bool (Lib.bytesOf xs == Lib.bytesOf ys)) ∧ w' = w

/-- Two rows of bytes, plain or in lanes. -/
noncomputable def cmpA : List AV → List AV → Option Int
  | [], [] => some 0
  | [], _ :: _ => some (-1)
  | _ :: _, [] => some 1
  | x :: xs, y :: ys =>
    match x, y with
    | .s (.i .u8 a), .s (.i .u8 b) => match ltN a b with
      | some q => bif isZ q then cmpA xs ys else some q
      | none => none
    | x, y => bif AV.beq x y then cmpA xs ys else match firstW [x, y] with
      | some (i, n) => cmpGo i n (List.replicate n 0) (x :: xs) (y :: ys)
      | none => none

noncomputable def zsOf (H : Heap) (ds : List AV) : Nat → List AV → Option (List Int)
  | 0, _ => some []
  | k + 1, kv :: _ :: rest => match srcCells H 1 kv with
    | some (_, cs) => bif cs.all cellB then (match cmpA cs ds, zsOf H ds k rest with
      | some z, some l => some (z :: l)
      | _, _ => none) else none
    | none => none
  | _, _ => none

noncomputable def isNeg : Int → Bool
  | .negSucc _ => true
  | _ => false

/-- How many are ahead; is the next one the same? None where they are not in order. -/
noncomputable def splitZ : List Int → Option (Nat × Bool)
  | [] => some (0, false)
  | z :: l => bif isNeg z then (match splitZ l with
      | some (r, e) => some (Nat.succ r, e)
      | none => none)
    else bif l.all (fun z => Bool.not (isNeg z)) then some (0, isZ z) else none

noncomputable def findV (fF : FuncId) : Kn := fun f args H nx =>
  bif Nat.beq f fF then
    match args with
    | [.p S so, x] => match H.at S with
      | .row _ scs => match scs[so]? with
        | some (.sl R ro 2 n c _) => match H.at R, srcCells H 1 x with
          | .row _ rcs, some (_, ds) => bif ds.all cellB && Nat.blt n 1000000 then (match zsOf H ds n (rcs.drop ro) with
            | some zs => match splitZ zs with
              | some (r, e) => some (.t [.s (.i .i64 (Int.ofNat r)), .s (.b e)], H, nx)
              | none => none
            | none => none) else none
          | _, _ => none
        | _ => none
      | _ => none
    | _ => none
  else none

section
variable {P : Program} {w : World} {ρ : Map} {H : Heap} {nx : Nat}

theorem InvH.grown (hI : InvH w ρ H nx) (m : Nat) (os : Array Obj) : InvH (Go.Sort.grow (w.drewN m) os) ρ H nx := by
  refine ⟨hI.glob, hI.inj, fun i b s hi => ?_, hI.dead, hI.far⟩
  obtain ⟨h1, T, cs, vs, h2, h3, h4⟩ := hI.row i b s hi
  refine ⟨h1, T, cs, vs, h2, ?_, h4⟩
  have hlt := hI.lt hi
  show (w.heap ++ os)[b]? = _
  rw [Array.getElem?_append_left hlt]; exact h3

theorem cmpA_ok : ∀ {cs ds : List AV} {ns ms : List Int} {q : Int}, cs.all cellB = true → cmpA cs ds = some q → CRs ρ cs (ns.map (Value.int .u8)) → CRs ρ ds (ms.map (Value.int .u8)) →
    Lib.compareBytes (Lib.bytesOf ns) (Lib.bytesOf ms) = q
  | [], [], ns, ms, q, hb, h, h1, h2 => by
    have e1 : ns = [] := by have := h1.length; simpa using this.symm
    have e2 : ms = [] := by have := h2.length; simpa using this.symm
    subst e1 e2
    unfold cmpA at h; injection h
  | [], d :: ds, ns, ms, q, hb, h, h1, h2 => by
    have e1 : ns = [] := by have := h1.length; simpa using this.symm
    subst e1
    cases ms with
    | nil => have := h2.length; simp at this
    | cons z ms => unfold cmpA at h; injection h
  | c :: cs, [], ns, ms, q, hb, h, h1, h2 => by
    have e2 : ms = [] := by have := h2.length; simpa using this.symm
    subst e2
    cases ns with
    | nil => have := h1.length; simp at this
    | cons z ns => unfold cmpA at h; injection h
  | c :: cs, d :: ds, ns, ms, q, hb, h, h1, h2 => by
    cases ns with
    | nil => have := h1.length; simp at this
    | cons x ns =>
    cases ms with
    | nil => have := h2.length; simp at this
    | cons y ms =>
    have h1' := h1
    have h2' := h2
    simp only [List.map_cons] at h1 h2
    cases h1 with | cons _ _ _ _ p1 p2 =>
    cases h2 with | cons _ _ _ _ q1 q2 =>
    have hb' := hb
    simp only [List.all_cons, Bool.and_eq_true] at hb
    unfold cmpA at h
    split at h
    · rename_i a b
      cases p1; cases q1
      split at h
      rotate_left
      · cases h
      rename_i q' hq'
      rw [ltN_cmp hq']
      cases hz : isZ q' with
      | true =>
        rw [hz] at h
        rw [isZ_eq hz]
        exact cmpA_ok hb.2 h p2 q2
      | false =>
        rw [hz] at h
        simp only [cond_false, Option.some.injEq] at h
        subst h
        unfold cmpZ
        rw [if_neg (fun e => by rw [e] at hz; cases hz)]
    · cases he : AV.beq c d with
      | true =>
        rw [he] at h
        simp only [cond_true] at h
        have e := AV.beq_eq he
        subst e
        have := same_u8 (fun i L L' h h' => by rw [h] at h'; injection h') hb.1 p1 q1
        subst this
        rw [compare_same]
        exact cmpA_ok hb.2 h p2 q2
      | false =>
        rw [he] at h
        simp only [cond_false] at h
        split at h
        rotate_left
        · cases h
        rename_i i n hfw
        obtain ⟨k, l, hmem, hln⟩ := firstW_mem hfw
        obtain ⟨L, hL, hr⟩ : ∃ L, L < n ∧ ρ i = .far i L := by
          simp only [List.mem_cons, List.not_mem_nil, or_false] at hmem
          rcases hmem with e | e
          · rw [← e] at p1
            cases p1 with | w _ _ _ L z _ _ g3 g4 => exact ⟨L, by rw [← hln]; exact (List.getElem?_eq_some_iff.1 g4).1, g3⟩
          · rw [← e] at q1
            cases q1 with | w _ _ _ L z _ _ g3 g4 => exact ⟨L, by rw [← hln]; exact (List.getElem?_eq_some_iff.1 g4).1, g3⟩
        have h0 : (List.replicate n (0 : Int))[L]? = some 0 := by rw [List.getElem?_replicate, if_pos hL]
        have := cmpGo_ok hr hL h h0 h1' h2'
        rw [← this]; rfl

theorem isNeg_iff {z : Int} : isNeg z = true ↔ ¬ 0 ≤ z := by
  cases z with
  | ofNat n => simp [isNeg]
  | negSucc n =>
    refine ⟨fun _ => by omega, fun _ => rfl⟩

theorem lessN_succ {n : Nat} {z : Nat → Int} : lessN (n + 1) z = (if 0 ≤ z 0 then 0 else 1) + lessN n (fun i => z (i + 1)) := by
  unfold lessN
  rw [List.range_succ_eq_map, List.countP_cons, List.countP_map]
  simp only [Function.comp_def]
  by_cases h : 0 ≤ z 0 <;> simp [h] <;> omega

theorem lessN_zero : ∀ {n : Nat} {z : Nat → Int}, (∀ i, i < n → 0 ≤ z i) → lessN n z = 0
  | 0, _, _ => rfl
  | n + 1, z, h => by rw [lessN_succ, if_pos (h 0 (by omega)), lessN_zero (fun i hi => h (i + 1) (by omega))]

theorem splitZ_ok : ∀ {zs : List Int} {r : Nat} {e : Bool} {z : Nat → Int}, splitZ zs = some (r, e) → (∀ i q, zs[i]? = some q → z i = q) →
    lessN zs.length z = r ∧ (∀ a b, a ≤ b → b < zs.length → 0 ≤ z a → 0 ≤ z b) ∧ e = (decide (r < zs.length) && isZ (z r))
  | [], r, e, z, h, hz => by
    unfold splitZ at h
    simp only [Option.some.injEq, Prod.mk.injEq] at h
    obtain ⟨rfl, rfl⟩ := h
    exact ⟨rfl, fun a b _ h => absurd h (Nat.not_lt_zero _), by simp⟩
  | q :: l, r, e, z, h, hz => by
    have hz0 : z 0 = q := hz 0 q rfl
    have hzs : ∀ i p, l[i]? = some p → z (i + 1) = p := fun i p hp => hz (i + 1) p (by simpa using hp)
    unfold splitZ at h
    cases hn : isNeg q with
    | true =>
      rw [hn] at h
      simp only [cond_true] at h
      split at h
      rotate_left
      · cases h
      rename_i r' e' hs
      simp only [Option.some.injEq, Prod.mk.injEq] at h
      obtain ⟨rfl, rfl⟩ := h
      obtain ⟨g1, g2, g3⟩ := splitZ_ok (z := fun i => z (i + 1)) hs hzs
      have hneg : ¬ 0 ≤ z 0 := by rw [hz0]; exact isNeg_iff.1 hn
      refine ⟨?_, fun a b hab hb ha => ?_, ?_⟩
      · rw [List.length_cons, lessN_succ, if_neg hneg, g1]; omega
      · cases a with
        | zero => exact absurd ha hneg
        | succ a =>
          cases b with
          | zero => omega
          | succ b => exact g2 a b (by omega) (by simpa using hb) ha
      · rw [g3]; simp
    | false =>
      rw [hn] at h
      simp only [cond_false] at h
      have h0 : 0 ≤ z 0 := by
        rw [hz0]
        by_cases hq : 0 ≤ q
        · exact hq
        · rw [isNeg_iff.2 hq] at hn; cases hn
      cases ha : l.all (fun z => Bool.not (isNeg z)) with
      | false => rw [ha] at h; cases h
      | true =>
        rw [ha] at h
        simp only [cond_true, Option.some.injEq, Prod.mk.injEq] at h
        obtain ⟨rfl, rfl⟩ := h
        have hall : ∀ i, i < (q :: l).length → 0 ≤ z i := fun i hi => by
          cases i with
          | zero => exact h0
          | succ i =>
            have hi' : i < l.length := by simpa using hi
            rw [hzs i l[i] (List.getElem?_eq_getElem hi')]
            have := List.all_eq_true.1 ha l[i] (List.getElem_mem hi')
            by_cases hq : 0 ≤ l[i]
            · exact hq
            · rw [isNeg_iff.2 hq] at this; cases this
        refine ⟨lessN_zero hall, fun a b _ hb _ => hall b hb, ?_⟩
        rw [hz0]; simp

/-- The keys' values and how each compares, in a world that has grown. -/
theorem zsOf_ok (hI : InvH w ρ H nx) {x : AV} {v : Value} {k : Nat} {ds : List AV} (hx : srcCells H 1 x = some (k, ds)) (hv : CR ρ x v) (hds : ds.all cellB = true) :
    ∀ {n : Nat} {l : List AV} {us : List Value} {zs : List Int}, zsOf H ds n l = some zs → CRs ρ l us → zs.length = n ∧ ∀ i z, zs[i]? = some z → ∃ kv kc ns ms k', us[i * 2]? = some kv ∧ ∃ y cs, srcCells H 1 y = some (k', cs) ∧ CR ρ y kv ∧
      (∀ us, CRs ρ cs us → us = ns.map (Value.int .u8)) ∧ (∀ us, CRs ρ ds us → us = ms.map (Value.int .u8)) ∧ Lib.compareBytes (Lib.bytesOf ns) (Lib.bytesOf ms) = z ∧ kc = 0
  | 0, l, us, zs, h, hc => by
    unfold zsOf at h; injection h with h; subst h
    exact ⟨rfl, fun i z hz => by simp at hz⟩
  | n + 1, [], us, zs, h, hc => by unfold zsOf at h; cases h
  | n + 1, [a], us, zs, h, hc => by unfold zsOf at h; cases h
  | n + 1, kvA :: b :: rest, us, zs, h, hc => by
    unfold zsOf at h
    split at h
    rotate_left
    · cases h
    rename_i k1 cs hsrc
    cases hb : cs.all cellB with
    | false => rw [hb] at h; cases h
    | true =>
    rw [hb] at h
    simp only [cond_true] at h
    split at h
    rotate_left
    · cases h
    rename_i z l' hz hl'
    injection h with h; subst h
    cases hc with | cons _ u1 _ us1 c1 hc =>
    cases hc with | cons _ u2 _ us2 c2 c3 =>
    obtain ⟨g1, g2⟩ := zsOf_ok hI hx hv hds hl' c3
    refine ⟨by simp [g1], fun i q hq => ?_⟩
    cases i with
    | zero =>
      simp only [List.getElem?_cons_zero, Option.some.injEq] at hq
      subst hq
      obtain ⟨A0, c0, us0, e0, hcs0, _, _⟩ := src_sound hI hsrc c1
      obtain ⟨A1, c1', us1', e1, hcs1, _, _⟩ := src_sound hI hx hv
      obtain ⟨ns, rfl, _⟩ := cells_u8 hb hcs0
      obtain ⟨ms, rfl, _⟩ := cells_u8 hds hcs1
      exact ⟨u1, 0, ns, ms, k1, rfl, kvA, cs, hsrc, c1, fun us hu => cells_one hb hu hcs0, fun us hu => cells_one hds hu hcs1, cmpA_ok hb hz hcs0 hcs1, rfl⟩
    | succ i =>
      obtain ⟨kv, kc, ns, ms, k', q1, q2⟩ := g2 i q (by simpa using hq)
      refine ⟨kv, kc, ns, ms, k', ?_, q2⟩
      rw [show (i + 1) * 2 = i * 2 + 1 + 1 by omega]
      simpa using q1

theorem findV_ok {fF fE : FuncId} (hF : FindSays P fF fE) (hE : EqualSays P fE) (hb : Bodied P fF) : (findV fF).ok P := by
  refine ⟨fun f args H nx r H' nx' hv => ?_, fun f args H nx r hv => ?_⟩
  · unfold findV at hv
    cases hbq : Nat.beq f fF with
    | false => rw [hbq] at hv; cases hv
    | true =>
    rw [hbq] at hv
    simp only [cond_true] at hv
    obtain rfl := Nat.eq_of_beq_eq_true hbq
    split at hv
    rotate_left
    · cases hv
    rename_i S so x
    split at hv
    rotate_left
    · cases hv
    rename_i TS scs hS
    split at hv
    rotate_left
    · cases hv
    rename_i R ro n c ex hso
    split at hv
    rotate_left
    · cases hv
    rename_i TR rcs k ds hR hx
    cases hds : (ds.all cellB && Nat.blt n 1000000) with
    | false => rw [hds] at hv; cases hv
    | true =>
    rw [hds] at hv
    simp only [cond_true] at hv
    simp only [Bool.and_eq_true] at hds
    split at hv
    rotate_left
    · cases hv
    rename_i zs hzs
    split at hv
    rotate_left
    · cases hv
    rename_i r e hsp
    simp only [Option.some.injEq, Prod.mk.injEq] at hv
    obtain ⟨rfl, rfl, rfl⟩ := hv
    intro w ρ vargs hI hc
    cases hc with | cons _ v0 _ vs0 hc0 hc =>
    cases hc with | cons _ v1 _ vs1 hc1 hc =>
    cases hc
    obtain ⟨bS, sS, hbS, rfl⟩ := p_inv hI hS hc0
    obtain ⟨vS, s1, s2, s3, s4, s5⟩ := hI.cells hS hbS
    obtain ⟨vsl, hvsl, hcsl⟩ := s4.get hso
    obtain ⟨bR, sR, cap, hbR, rfl, r1, r2, r3, r4, r5, r6⟩ := sl_inv hI hR hcsl
    obtain ⟨vR, t1, t2, t3, t4, t5⟩ := hI.cells hR hbR
    obtain ⟨hlen, hks⟩ := zsOf_ok hI hx hc1 hds.1 hzs (t4.drop ro)
    obtain ⟨A, kc, us, rfl, hcs, hl, hA⟩ := src_sound hI hx hc1
    -- functions of the place
    let z : Nat → Int := fun i => zs[i]?.getD 0
    let kv : Nat → Value := fun i => ((vR.toList.take rcs.length).drop ro)[i * 2]?.getD undef
    have hzi : ∀ i q, zs[i]? = some q → z i = q := fun i q h => by show zs[i]?.getD 0 = q; rw [h]; rfl
    have hz : ∀ i, i < n → zs[i]? = some (z i) := fun i hi => by
      show zs[i]? = some (zs[i]?.getD 0)
      rw [List.getElem?_eq_getElem (by omega)]; rfl
    have hkv : ∀ i, i < n → ((vR.toList.take rcs.length).drop ro)[i * 2]? = some (kv i) := fun i hi => by
      obtain ⟨kv', _, _, _, _, q1, _⟩ := hks i (z i) (hz i hi)
      show _ = some ((((vR.toList.take rcs.length).drop ro)[i * 2]?).getD undef)
      rw [q1]; rfl
    have hcmp : ∀ i, i < n → ∃ ns ms, Lib.compareBytes (Lib.bytesOf ns) (Lib.bytesOf ms) = z i ∧ ∀ (m : Nat) (os : Array Obj),
        (Extern.BytealgCompare.compare #[kv i, .slice A k kc]).run P (Go.Sort.grow (w.drewN m) os) = .ok (.int .i64 (z i)) (Go.Sort.grow (w.drewN m) os) ∧
        (∀ (src e dst : TypeId), P.underlying src = some (.slice e) → P.underlying e = some (.int .u8) → P.underlying dst = some .string → (convert src dst (kv i)).run P (Go.Sort.grow (w.drewN m) os) = .ok (.string (strOfNums ns)) (Go.Sort.grow (w.drewN m) os)) ∧
        (∀ (src e dst : TypeId), P.underlying src = some (.slice e) → P.underlying e = some (.int .u8) → P.underlying dst = some .string → (convert src dst (.slice A k kc)).run P (Go.Sort.grow (w.drewN m) os) = .ok (.string (strOfNums ms)) (Go.Sort.grow (w.drewN m) os)) := fun i hi => by
      obtain ⟨kv', _, ns, ms, k', q1, y, cs, q2, q3, q4, q5, q6, _⟩ := hks i (z i) (hz i hi)
      have e : kv i = kv' := by have := hkv i hi; rw [q1] at this; injection this with this; exact this.symm
      rw [e]
      refine ⟨ns, ms, q6, fun m os => ⟨?_, fun src e dst g1 g2 g3 => bytes_conv (hI.grown m os) q2 q3 q4 g1 g2 g3, fun src e dst g1 g2 g3 => bytes_conv (hI.grown m os) hx hc1 q5 g1 g2 g3⟩⟩
      change Sem.run P (do pure (goInt (Extern.BytealgCompare.cmp (← Extern.Bytes.bytesOf kv') (← Extern.Bytes.bytesOf (.slice A k kc))))) _ = _
      simp only [Sem.run_bind, bytes_run (hI.grown m os) q2 q3 q4, bytes_run (hI.grown m os) hx hc1 q5, Result.andThen_ok, Sem.run_pure, Lib.cmp_eq]
      rw [← q6]; rfl
    obtain ⟨g1, g2, g3⟩ := splitZ_ok hsp hzi
    rw [hlen] at g1 g2 g3
    have hcall := hF bS so bR ro n cap A k kc kv z (isZ (z r)) w (hI.lt hbS) (hI.lt hbR) (by have := of_blt hds.2; omega) (s5 _ _ hvsl)
      (fun i hi => by
        have := hkv i hi
        rw [List.getElem?_drop] at this
        exact t5 _ _ this)
      (fun m os i hi => (hcmp i hi).elim fun ns h => h.elim fun ms h => (h.2 m os).1) g2
      (fun hlt m os => by
        rw [g1] at hlt ⊢
        obtain ⟨ns, ms, h1, h2⟩ := hcmp r hlt
        obtain ⟨_, h3, h4⟩ := h2 m os
        refine (hE _ _ ns ms _ h3 h4).mono ?_
        rintro e w' ⟨rfl, rfl⟩
        refine ⟨?_, rfl⟩
        congr 2
        rw [← h1]
        cases hz : isZ (Lib.compareBytes (Lib.bytesOf ns) (Lib.bytesOf ms)) with
        | true => rw [compare_zero.1 (isZ_eq hz)]; simp
        | false =>
          have : ¬ Lib.bytesOf ns = Lib.bytesOf ms := fun e => by rw [compare_zero.2 e] at hz; cases hz
          simp [this])
    refine hcall.mono ?_
    rintro e' w' ⟨rfl, hB⟩
    rw [g1, ← g3]
    refine ⟨_, ρ, rfl, ⟨hI.glob, hI.inj, fun i b s hi => ?_, hI.dead, hI.far⟩, .t _ _ (.cons _ _ _ _ (.s (.i .i64 _)) (.cons _ _ _ _ (.s (.b _)) .nil)), ⟨.refl, fun i _ h => ⟨h, rfl⟩, Nat.le_refl _, fun b hb hn => ⟨hB.block b hb, hn⟩, hB.size, hB.os, hB.tape, hB.output⟩⟩
    obtain ⟨h1, T, cs, us, h2, h3, h4⟩ := hI.row i b s hi
    exact ⟨h1, T, cs, us, h2, by rw [hB.block b (hI.lt hi)]; exact h3, h4⟩
  · unfold findV at hv
    cases hbq : Nat.beq f fF with
    | false => rw [hbq] at hv; cases hv
    | true => rw [Nat.eq_of_beq_eq_true hbq]; exact hb
end
end Go.Bm
