/-
  num.Cmp and num.Read as known to the machine.
-/
import Derived.Test.YtgbckdmdjoldkaaGreatDoorNC
import Derived.Test.YtgbckdmdjoldkaaGreatDoorD3
set_option linter.unusedSimpArgs false
set_option linter.unusedVariables false
namespace Go.Bm
open Go Go.RowKit
open Go.Am (Sc)

theorem of_below {w w' : World} {ρ : Map} {H : Heap} {nx : Nat} (hI : InvH w ρ H nx) (hB : Below w.heap.size w w') : InvH w' ρ H nx ∧ FE w ρ H nx w' ρ H nx := by
  refine ⟨⟨hI.glob, hI.inj, fun i b s hi => ?_, hI.dead, hI.far⟩, ⟨.refl, fun i _ h => ⟨h, rfl⟩, Nat.le_refl _, fun b hb hn => ⟨hB.block b hb, hn⟩, hB.size, hB.os, hB.tape, hB.output⟩⟩
  obtain ⟨h1, T, cs, vs, h2, h3, h4⟩ := hI.row i b s hi
  exact ⟨h1, T, cs, vs, h2, by rw [hB.block b (hI.lt hi)]; exact h3, h4⟩
end Go.Bm
namespace Go.Proofs.YtgbckdmdjoldkaaGreatDoor
open Go Go.RowKit Go.Bm
open Go.Am (Sc)

theorem cmp1_nat (x y : Nat) : cmp1 (Int.ofNat x) (Int.ofNat y) = bif Nat.beq x y then 0 else bif Nat.blt x y then -1 else 1 := by
  unfold cmp1
  cases h1 : Nat.beq x y with
  | true => obtain rfl := Nat.eq_of_beq_eq_true h1; simp
  | false =>
    have hne : x ≠ y := fun e => by subst e; rw [Nat.beq_refl] at h1; cases h1
    cases h2 : Nat.blt x y with
    | true => have := of_blt h2; simp only [cond_false, cond_true]; rw [if_pos (by simpa using this)]
    | false => have := not_blt h2; simp only [cond_false]; rw [if_neg (by simp; omega), if_pos (by simp; omega)]

noncomputable def cmp4 (a0 a1 a2 a3 b0 b1 b2 b3 : Nat) : Int :=
  bif Nat.beq a3 b3 then (bif Nat.beq a2 b2 then (bif Nat.beq a1 b1 then (bif Nat.beq a0 b0 then 0 else bif Nat.blt a0 b0 then -1 else 1) else bif Nat.blt a1 b1 then -1 else 1) else bif Nat.blt a2 b2 then -1 else 1) else bif Nat.blt a3 b3 then -1 else 1

theorem cmpG_nat (a0 a1 a2 a3 b0 b1 b2 b3 : Nat) : cmpG [.ofNat a0, .ofNat a1, .ofNat a2, .ofNat a3] [.ofNat b0, .ofNat b1, .ofNat b2, .ofNat b3] 4 = cmp4 a0 a1 a2 a3 b0 b1 b2 b3 := by
  have key : ∀ (x y : Nat) (r : Int), (if cmp1 (Int.ofNat x) (Int.ofNat y) = 0 then r else cmp1 (Int.ofNat x) (Int.ofNat y)) = bif Nat.beq x y then r else bif Nat.blt x y then -1 else 1 := by
    intro x y r
    rw [cmp1_nat]
    cases h1 : Nat.beq x y with
    | true => simp
    | false => cases h2 : Nat.blt x y <;> simp
  simp only [cmpG, List.getElem?_cons_succ, List.getElem?_cons_zero, Option.getD_some, key]
  rfl

noncomputable def limN (zs : List Nat) : Nat → Nat → Nat
  | 0, _ => 0
  | k + 1, j => bif Nat.beq j (Nat.div k 8) then Nat.lor (limN zs k j) (Nat.mul (zs.getD (Nat.sub (Nat.sub zs.length 1) k) 0) (Nat.pow 2 (Nat.mul 8 (Nat.mod k 8)))) else limN zs k j

theorem shl_nat (x s : Nat) (hx : x < 256) (hs : s ≤ 56) : shlV (Int.ofNat x) s = Int.ofNat (x * 2 ^ s) ∧ x * 2 ^ s < 18446744073709551616 := by
  have h1 : x * 2 ^ s < 18446744073709551616 := by
    have h2 : 2 ^ s ≤ 2 ^ 56 := Nat.pow_le_pow_right (by omega) hs
    have h3 : x * 2 ^ s ≤ 255 * 2 ^ 56 := Nat.mul_le_mul (by omega) h2
    omega
  refine ⟨?_, h1⟩
  unfold shlV
  rw [IntKind.wrap_u64]
  have : (Int.ofNat x) * 2 ^ s = ((x * 2 ^ s : Nat) : Int) := by simp
  rw [this]
  simp only [Int.ofNat_eq_natCast]
  omega

theorem or_nat (a b : Nat) (ha : a < 18446744073709551616) (hb : b < 18446744073709551616) : orU (Int.ofNat a) (Int.ofNat b) = Int.ofNat (Nat.lor a b) ∧ Nat.lor a b < 18446744073709551616 := by
  have h1 : Nat.lor a b < 2 ^ 64 := Nat.or_lt_two_pow (n := 64) ha hb
  refine ⟨?_, h1⟩
  unfold orU
  have e : (BitVec.ofInt IntKind.u64.bits (Int.ofNat a) ||| BitVec.ofInt IntKind.u64.bits (Int.ofNat b)).toNat = Nat.lor a b := by
    rw [BitVec.toNat_or]
    have ea : (BitVec.ofInt IntKind.u64.bits (Int.ofNat a)).toNat = a := by
      rw [show IntKind.u64.bits = 64 from rfl, BitVec.toNat_ofInt]
      simp only [Int.ofNat_eq_natCast]
      omega
    have eb : (BitVec.ofInt IntKind.u64.bits (Int.ofNat b)).toNat = b := by
      rw [show IntKind.u64.bits = 64 from rfl, BitVec.toNat_ofInt]
      simp only [Int.ofNat_eq_natCast]
      omega
    rw [ea, eb]
    rfl
  rw [e, IntKind.wrap_u64]
  simp only [Int.ofNat_eq_natCast]
  omega

theorem lim_nat (ns : List Nat) (hb : ∀ z ∈ ns, z < 256) : ∀ k j, k ≤ ns.length → lim (ns.map Int.ofNat) (List.range k) j = Int.ofNat (limN ns k j) ∧ limN ns k j < 18446744073709551616
  | 0, j, _ => ⟨rfl, by simp [limN]⟩
  | k + 1, j, hk => by
    obtain ⟨h1, h2⟩ := lim_nat ns hb k j (by omega)
    have e1 : lim (ns.map Int.ofNat) (List.range (k + 1)) j = rdStep (ns.map Int.ofNat) (lim (ns.map Int.ofNat) (List.range k)) k j := by
      unfold lim; rw [List.range_succ, List.foldl_append]; rfl
    rw [e1]
    have hm : ns.length - 1 - k < ns.length := by omega
    have e2 : back (ns.map Int.ofNat) k = (ns.length - 1 - k, Int.ofNat (ns.getD (ns.length - 1 - k) 0)) := by
      simp [back, hm]
    unfold rdStep
    rw [e2]
    simp only [List.length_map]
    rw [show ns.length - 1 - (ns.length - 1 - k) = k by omega]
    simp only [limN]
    have e3 : Nat.beq j (k / 8) = Nat.beq j (Nat.div k 8) := rfl
    rw [e3]
    cases hbq : Nat.beq j (Nat.div k 8) with
    | false => simp only [cond_false]; exact ⟨h1, h2⟩
    | true =>
      simp only [cond_true]
      have hx : ns.getD (ns.length - 1 - k) 0 < 256 := by
        rw [List.getD_eq_getElem?_getD]
        simp only [List.getElem?_eq_getElem hm, Option.getD_some]
        exact hb _ (List.getElem_mem hm)
      obtain ⟨p1, p2⟩ := shl_nat (ns.getD (ns.length - 1 - k) 0) (8 * (k % 8)) hx (by omega)
      rw [h1, p1]
      exact or_nat _ _ h2 p2

noncomputable def natsOf : List Int → Option (List Nat)
  | [] => some []
  | .ofNat n :: l => bif Nat.blt n 256 then (match natsOf l with | some r => some (n :: r) | none => none) else none
  | _ => none

theorem natsOf_spec : ∀ {l : List Int} {r : List Nat}, natsOf l = some r → l = r.map Int.ofNat ∧ ∀ z ∈ r, z < 256
  | [], r, h => by simp [natsOf] at h; subst h; simp
  | .ofNat n :: l, r, h => by
    simp only [natsOf] at h
    cases hb : Nat.blt n 256 with
    | false => rw [hb] at h; cases h
    | true =>
      rw [hb] at h
      simp only [cond_true] at h
      split at h
      · rename_i r' hr
        injection h with h; subst h
        obtain ⟨h1, h2⟩ := natsOf_spec hr
        refine ⟨by rw [h1]; rfl, fun z hz => ?_⟩
        rcases List.mem_cons.1 hz with rfl | hz
        · exact of_blt hb
        · exact h2 z hz
      · cases h
  | .negSucc n :: l, r, h => by simp [natsOf] at h

noncomputable def headOk : List Nat → Bool
  | [] => true
  | 0 :: _ => false
  | _ => true

noncomputable def readR (ns : List Nat) : Option AV :=
  bif Nat.ble ns.length 32 && headOk ns then some (.t [.a [.s (.i .u64 (.ofNat (limN ns ns.length 0))), .s (.i .u64 (.ofNat (limN ns ns.length 1))), .s (.i .u64 (.ofNat (limN ns ns.length 2))), .s (.i .u64 (.ofNat (limN ns ns.length 3)))], .s (.i .i64 0)]) else none

noncomputable def crV : Kn := fun f args H nx =>
  bif Nat.beq f 85 then
    match args with
    | [.a [.s (.i .u64 (.ofNat a0)), .s (.i .u64 (.ofNat a1)), .s (.i .u64 (.ofNat a2)), .s (.i .u64 (.ofNat a3))], .a [.s (.i .u64 (.ofNat b0)), .s (.i .u64 (.ofNat b1)), .s (.i .u64 (.ofNat b2)), .s (.i .u64 (.ofNat b3))]] =>
      some (.s (.i .i64 (cmp4 a0 a1 a2 a3 b0 b1 b2 b3)), H, nx)
    | _ => none
  else bif Nat.beq f 96 then
    match args with
    | [x] => match bytesAV H x with
      | some is => match natsOf is with
        | some ns => match readR ns with
          | some r => some (r, H, nx)
          | none => none
        | none => none
      | none => none
    | _ => none
  else none

theorem crV_ok : crV.ok Tryz.prog := by
  refine ⟨fun f args H nx r H' nx' hv => ?_, fun f args H nx r hv => ?_⟩
  · unfold crV at hv
    cases h85 : Nat.beq f 85 with
    | true =>
      rw [h85] at hv
      simp only [cond_true] at hv
      obtain rfl := Nat.eq_of_beq_eq_true h85
      split at hv
      rotate_left
      · cases hv
      rename_i a0 a1 a2 a3 b0 b1 b2 b3
      simp only [Option.some.injEq, Prod.mk.injEq] at hv
      obtain ⟨rfl, rfl, rfl⟩ := hv
      intro w ρ vargs hI hc
      cases hc with | cons _ v0 _ vs0 h0 hc =>
      cases hc with | cons _ v1 _ vs1 h1 hc =>
      cases hc
      cases h0 with | a _ us hu =>
      cases h1 with | a _ us' hu' =>
      cases hu with | cons _ x0 _ _ q0 hu =>
      cases hu with | cons _ x1 _ _ q1 hu =>
      cases hu with | cons _ x2 _ _ q2 hu =>
      cases hu with | cons _ x3 _ _ q3 hu =>
      cases hu
      cases hu' with | cons _ y0 _ _ p0 hu' =>
      cases hu' with | cons _ y1 _ _ p1 hu' =>
      cases hu' with | cons _ y2 _ _ p2 hu' =>
      cases hu' with | cons _ y3 _ _ p3 hu' =>
      cases hu'
      cases q0; cases q1; cases q2; cases q3; cases p0; cases p1; cases p2; cases p3
      refine ((cmp_in Fence.wide 6 (fun _ => trivial) rfl (Nat.le_refl _) [.ofNat a0, .ofNat a1, .ofNat a2, .ofNat a3] [.ofNat b0, .ofNat b1, .ofNat b2, .ofNat b3] rfl rfl _ _ rfl rfl rfl rfl w).calls (fun _ _ h => by cases h)).mono ?_
      rintro e w' ⟨rfl, hB⟩
      obtain ⟨g1, g2⟩ := of_below hI hB
      refine ⟨_, ρ, rfl, g1, ?_, g2⟩
      rw [← cmpG_nat]
      exact .s (.i .i64 _)
    | false =>
    rw [h85] at hv
    simp only [cond_false] at hv
    cases h96 : Nat.beq f 96 with
    | false => rw [h96] at hv; cases hv
    | true =>
      rw [h96] at hv
      simp only [cond_true] at hv
      obtain rfl := Nat.eq_of_beq_eq_true h96
      split at hv
      rotate_left
      · cases hv
      rename_i x
      split at hv
      rotate_left
      · cases hv
      rename_i is his
      split at hv
      rotate_left
      · cases hv
      rename_i ns hns
      split at hv
      rotate_left
      · cases hv
      rename_i r' hr
      simp only [Option.some.injEq, Prod.mk.injEq] at hv
      obtain ⟨rfl, rfl, rfl⟩ := hv
      unfold readR at hr
      cases hcond : (Nat.ble ns.length 32 && headOk ns) with
      | false => rw [hcond] at hr; cases hr
      | true =>
      rw [hcond] at hr
      simp only [cond_true, Option.some.injEq] at hr
      subst hr
      simp only [Bool.and_eq_true] at hcond
      obtain ⟨h32, hhead⟩ := hcond
      have h32 := Nat.le_of_ble_eq_true h32
      obtain ⟨rfl, hb256⟩ := natsOf_spec hns
      intro w ρ vargs hI hc
      cases hc with | cons _ v0 _ vs0 h0 hc =>
      cases hc
      unfold bytesAV at his
      split at his
      rotate_left
      · cases his
      rename_i k cs hsrc
      obtain ⟨A, c, us, rfl, hcs, hl, hA⟩ := src_sound hI hsrc h0
      obtain rfl := u8s_CR his hcs
      have hk : ns.length = k := by simpa using hl
      have hfin : ∀ e w', (e = Ending.returned (.tuple #[.agg #[.int .u64 (Int.ofNat (limN ns ns.length 0)), .int .u64 (Int.ofNat (limN ns ns.length 1)), .int .u64 (Int.ofNat (limN ns ns.length 2)), .int .u64 (Int.ofNat (limN ns ns.length 3))], .int .i64 0]) ∧ Below w.heap.size w w') →
          ∃ v ρ', e = .returned v ∧ InvH w' ρ' H nx ∧ CR ρ' (.t [.a [.s (.i .u64 (.ofNat (limN ns ns.length 0))), .s (.i .u64 (.ofNat (limN ns ns.length 1))), .s (.i .u64 (.ofNat (limN ns ns.length 2))), .s (.i .u64 (.ofNat (limN ns ns.length 3)))], .s (.i .i64 0)]) v ∧ FE w ρ H nx w' ρ' H nx := by
        rintro e w' ⟨rfl, hB⟩
        obtain ⟨g1, g2⟩ := of_below hI hB
        exact ⟨_, ρ, rfl, g1, .t _ _ (.cons _ _ _ _ (.a _ _ (.cons _ _ _ _ (.s (.i .u64 _)) (.cons _ _ _ _ (.s (.i .u64 _)) (.cons _ _ _ _ (.s (.i .u64 _)) (.cons _ _ _ _ (.s (.i .u64 _)) .nil))))) (.cons _ _ _ _ (.s (.i .i64 _)) .nil)), g2⟩
      rcases Nat.eq_zero_or_pos k with hk0 | hkp
      · have : ns = [] := List.eq_nil_of_length_eq_zero (by omega)
        subst this
        subst hk0
        exact ((read0_in Fence.wide 6 (fun _ => trivial) rfl (Nat.le_refl _) A c w).calls (fun _ _ h => by cases h)).mono fun e w' h => hfin e w' h
      · obtain ⟨ad, rfl, hcell⟩ := hA (by omega)
        obtain ⟨bk, off, spot⟩ := ad
        have hspot : spot = none := by
          cases x with
          | sl id o sz n cc ex =>
            simp only [srcCells] at hsrc
            cases hH : H.at id with
            | dead => rw [hH] at hsrc; cases hsrc
            | row T ccs =>
              obtain ⟨b, bs, cap, _, e, _⟩ := sl_inv hI hH h0
              injection e with e1 e2 e3
              injection e1 with e1
              injection e1
          | _ =>
            exfalso
            unfold srcCells at hsrc
            have hk0 : k = 0 := by
              split at hsrc
              all_goals first
                | (cases hsrc; done)
                | (injection hsrc with hsrc; injection hsrc with e1 e2; exact e1.symm)
                | (exfalso; rename_i e; cases e; done)
            omega
        subst hspot
        have hcz : ∀ j, j < k → w.cell? ⟨bk, off + j, none⟩ = some (.int .u8 (((ns.map Int.ofNat))[j]?.getD 0)) := fun j hj => by
          have := hcell j (.int .u8 (((ns.map Int.ofNat))[j]?.getD 0)) (by simp [show j < ns.length by omega])
          rw [show (⟨bk, off, none⟩ : Addr).add j = ⟨bk, off + j, none⟩ from by simp only [Addr.add]; split <;> simp_all] at this
          exact this
        have hbw : bk < w.heap.size := by
          have := hcz 0 hkp
          unfold World.cell? at this
          rcases Nat.lt_or_ge bk w.heap.size with h | h
          · exact h
          · simp [Array.getElem?_eq_none h] at this
        obtain ⟨z, zs, rfl⟩ : ∃ z zs, ns = z :: zs := by
          cases ns with
          | nil => simp at hk; omega
          | cons z zs => exact ⟨z, zs, rfl⟩
        have hz0 : z ≠ 0 := by rintro rfl; simp [headOk] at hhead
        have hlim := fun j => (lim_nat (z :: zs) hb256 (z :: zs).length j (Nat.le_refl _)).1
        refine ((read_in Fence.wide 6 (fun _ => trivial) rfl (Nat.le_refl _) bk off k c (Int.ofNat z) ((z :: zs).map Int.ofNat) _ _ _ _ ⟨by rw [List.length_map]; exact hlim 0, by rw [List.length_map]; exact hlim 1, by rw [List.length_map]; exact hlim 2, by rw [List.length_map]; exact hlim 3⟩ (by simpa using hk) (by omega) hkp
          (fun q hq => by
            obtain ⟨y, hy, rfl⟩ := List.mem_map.1 hq
            have := hb256 y hy
            simp only [Int.ofNat_eq_natCast]
            omega) w hbw (by simpa using hcz 0 hkp) (by simpa using hz0) hcz).calls (fun _ _ h => by cases h)).mono fun e w' h => hfin e w' h
  · unfold crV at hv
    cases h85 : Nat.beq f 85 with
    | true => obtain rfl := Nat.eq_of_beq_eq_true h85; exact ⟨_, Tryz.func85, rfl, by show ("jointure/num.Cmp" : String) ≠ "runtime.NumGoroutine"; decide⟩
    | false =>
      rw [h85] at hv
      simp only [cond_false] at hv
      cases h96 : Nat.beq f 96 with
      | true => obtain rfl := Nat.eq_of_beq_eq_true h96; exact ⟨_, Tryz.func96, rfl, by show ("jointure/num.Read" : String) ≠ "runtime.NumGoroutine"; decide⟩
      | false => rw [h96] at hv; cases hv
end Go.Proofs.YtgbckdmdjoldkaaGreatDoor
