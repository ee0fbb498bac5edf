/-
  THE WALKS: what is known of functions, told by a function of their arguments.
-/
import Derived.Test.YtgbkilmgmnhokaaG10
import Derived.Test.YtgbkilmgmnhokaaMF
set_option linter.unusedSimpArgs false
set_option linter.unusedVariables false
namespace Go.Am
open Go Go.Proofs Go.Fl

open Classical in
/-- What g tells, where it is so. -/
noncomputable def FK (P : Program) (g : FuncId → List AV → AV) : Tab := fun f args S O =>
  if ValidAt P f args [] [] (g f args) [] [] ∧ AV.stillL args = true ∧ (g f args).still = true then some (g f args, S, O) else none

theorem FK_valid (P : Program) (g : FuncId → List AV → AV) : (FK P g).valid P := by
  intro f args S O r S' O' h
  unfold FK at h
  split at h
  · rename_i hc
    injection h with h
    injection h with h1 h2
    injection h2 with h2 h3
    subst h1 h2 h3
    exact hc.1.lift hc.2.1 hc.2.2 S O
  · cases h

theorem FK_calm (P : Program) (g : FuncId → List AV → AV) (q : FuncId → Bool) : Calm (FK P g) q := by
  intro f _ xs S O r h
  unfold FK at h
  split at h
  · rename_i hc
    injection h with h
    subst h
    exact ⟨_, rfl, fun _ _ => by unfold FK; rw [if_pos hc]⟩
  · cases h

theorem FK_eq {P : Program} {g : FuncId → List AV → AV} {f : FuncId} {args : List AV} {r : AV} (h : ValidAt P f args [] [] r [] []) (hg : g f args = r) (ha : AV.stillL args = true) (hr : r.still = true) (S O : List Blk) : FK P g f args S O = some (r, S, O) := by
  subst hg
  unfold FK
  rw [if_pos ⟨h, ha, hr⟩]

/-- A number of four parts. -/
def num (a0 a1 a2 a3 : Nat) : Nat := a0 + a1 * 2 ^ 64 + a2 * 2 ^ 128 + a3 * 2 ^ 192

def intOf : AV → Int
  | .s (.i _ n) => n
  | _ => 0

def digAV (a : Nat) (s : Nat) : AV := .s (.i .u64 (((a : Int).fdiv (2 ^ (min s 64))).tmod 65536))

def digsAV (a0 a1 a2 a3 : Nat) : List AV :=
  [digAV a0 0, digAV a0 16, digAV a0 32, digAV a0 48, digAV a1 0, digAV a1 16, digAV a1 32, digAV a1 48,
   digAV a2 0, digAV a2 16, digAV a2 32, digAV a2 48, digAV a3 0, digAV a3 16, digAV a3 32, digAV a3 48]

/-- So many quarters. -/
def kq (k : Int) : Nat := ((IntKind.i64.wrap (k.tmod 4 + 4)).tmod 4).toNat

/-- Two numbers, which is the greater one. -/
def cmpv (m n : Nat) : Int := if m < n then -1 else if n < m then 1 else 0

/-- How far two points are from one another. -/
def apw (a b c d : Nat) : Nat := apv (sv a - sv c).natAbs (sv b - sv d).natAbs

def g35 : List AV → AV
  | [.s (.i _ x)] => .s (.i .i64 (bl x.toNat : Nat))
  | _ => .u
def g28 : List AV → AV
  | [.s (.i _ x)] => .s (.i .i64 (64 - bl x.toNat : Nat))
  | _ => .u
def g30 : List AV → AV
  | [.s (.i _ x)] => .s (.b (x != 0))
  | _ => .u
def g36 : List AV → AV
  | [.l _ xs, _] => .s (.i .i64 (firstOf (xs.map intOf) 0))
  | _ => .u
def g29 : List AV → AV
  | [.l _ xs, _] => .s (.b ((xs.map intOf).any (· != 0)))
  | _ => .u
def g46 : List AV → AV
  | [x] => x
  | _ => .u
def g39 : List AV → AV
  | _ => .s (.b false)
def g40 : List AV → AV
  | _ => .s (.b false)
def g41 : List AV → AV
  | [x] => .t [x, .s (.i .i64 0)]
  | _ => .u
def g38 : List AV → AV
  | [.s (.fl _ x), .s (.i _ e)] => .s (.fl .f64 (x + e.toNat * 2 ^ 52))
  | _ => .u
def g31 : List AV → AV
  | [.s (.fl _ x), .s (.i _ e)] => .s (.fl .f64 (x + e.toNat * 2 ^ 52))
  | _ => .u
def g12 : List AV → AV
  | [.a [.s (.i _ a), .s (.i _ b), .s (.i _ c), .s (.i _ d)]] => .s (.fl .f64 (nr (num a.toNat b.toNat c.toNat d.toNat)))
  | _ => .u
def g32 : List AV → AV
  | [.a [.s (.i _ a), .s (.i _ b), .s (.i _ c), .s (.i _ d)]] => .l 16 (digsAV a.toNat b.toNat c.toNat d.toNat)
  | _ => .u
def g13 : List AV → AV
  | [.a [.s (.i _ a), .s (.i _ b), .s (.i _ c), .s (.i _ d)]] => .s (.fl .f64 (nr (num a.toNat b.toNat c.toNat d.toNat)))
  | _ => .u
def g17 : List AV → AV
  | [.a [.s (.i _ a), .s (.i _ b), .s (.i _ c), .s (.i _ d)], .a [.s (.i _ e), .s (.i _ f), .s (.i _ g), .s (.i _ h)]] => .s (.cx .f64 (nr (num a.toNat b.toNat c.toNat d.toNat)) (nr (num e.toNat f.toNat g.toNat h.toNat)))
  | _ => .u
def g16 : List AV → AV
  | [.a [.s (.fl _ x), .s (.fl _ y)], .s (.cx _ u v)] => .s (.b ((Ieee.double.order x u == some .eq) && (Ieee.double.order y v == some .eq)))
  | _ => .u
def g21 : List AV → AV
  | [.s (.cx _ a b), .s (.i _ k)] => .s (.cx .f64 (turnN (kq k) a b).1 (turnN (kq k) a b).2)
  | _ => .u
def g22 : List AV → AV
  | [.a [.s (.fl _ a), .s (.fl _ b)], .s (.i _ k)] => .a [.s (.fl .f64 (turnR (kq k) a b).1), .s (.fl .f64 (turnR (kq k) a b).2)]
  | _ => .u
def g23 : List AV → AV
  | [.s (.cx _ a b)] => .a [.s (.fl .f64 a), .s (.fl .f64 b)]
  | _ => .u
def g24 : List AV → AV
  | [.s (.cx _ a b), .s (.cx _ c d)] => .s (.fl .f64 (apw a b c d))
  | _ => .u
def g25 : List AV → AV
  | [.a [.s (.fl _ a), .s (.fl _ b)], .a [.s (.fl _ c), .s (.fl _ d)]] => .s (.fl .f64 (apw a b c d))
  | _ => .u
def g11 : List AV → AV
  | [] => .s (.b true)
  | _ => .u
def g14 : List AV → AV
  | [.a [.s (.i _ a), .s (.i _ b), .s (.i _ c), .s (.i _ d)], .a [.s (.i _ e), .s (.i _ f), .s (.i _ g), .s (.i _ h)]] => .s (.i .i64 (cmpv (num a.toNat b.toNat c.toNat d.toNat) (num e.toNat f.toNat g.toNat h.toNat)))
  | _ => .u

/-- The points that pairs of numbers are. -/
def ptsOf : List AV → List (Nat × Nat)
  | .s (.i _ a) :: .s (.i _ b) :: .s (.i _ c) :: .s (.i _ d) :: .s (.i _ e) :: .s (.i _ f) :: .s (.i _ g) :: .s (.i _ h) :: r => (nr (num a.toNat b.toNat c.toNat d.toNat), nr (num e.toNat f.toNat g.toNat h.toNat)) :: ptsOf r
  | _ => []
def cxL : List AV → List (Nat × Nat)
  | .s (.cx _ a b) :: r => (a, b) :: cxL r
  | _ => []
def flL : List AV → List (Nat × Nat)
  | .s (.fl _ a) :: .s (.fl _ b) :: r => (a, b) :: flL r
  | _ => []
def ofCx (ps : List (Nat × Nat)) : List AV := ps.map fun q => .s (.cx .f64 q.1 q.2)
def ofFl (ps : List (Nat × Nat)) : List AV := ps.flatMap fun q => [.s (.fl .f64 q.1), .s (.fl .f64 q.2)]
def addv (a b : Nat) : Nat := (Ieee.double.add a b).getD 0
/-- The sum of so many, one by one. -/
def sumL (xs : List Nat) : Nat := xs.foldl addv 0
/-- The first of the least ones. -/
def nearL : List Nat → Option Nat
  | [] => none
  | v :: vs => match nearL vs with
    | none => some 0
    | some i => if v ≤ vs.getD i 0 then some 0 else some (i + 1)
def optI : Option Nat → Int
  | none => -1
  | some i => i
def dists (ps : List (Nat × Nat)) (a b : Nat) : List Nat := ps.map fun q => apw q.1 q.2 a b

def g18 : List AV → AV
  | [.l n cs] => .t [.l n (ofCx (ptsOf cs)), .l n (ofFl (ptsOf cs))]
  | _ => .u
def g19 : List AV → AV
  | [.l _ cs] => .a [.s (.fl .f64 (sumL ((flL cs).map (·.1)))), .s (.fl .f64 (sumL ((flL cs).map (·.2))))]
  | _ => .u
def g20 : List AV → AV
  | [.l _ cs] => .s (.cx .f64 (sumL ((cxL cs).map (·.1))) (sumL ((cxL cs).map (·.2))))
  | _ => .u
def g26 : List AV → AV
  | [.l _ cs, .s (.cx _ a b)] => .s (.i .i64 (optI (nearL (dists (cxL cs) a b))))
  | _ => .u
def g27 : List AV → AV
  | [.l _ cs, .a [.s (.fl _ a), .s (.fl _ b)]] => .s (.i .i64 (optI (nearL (dists (flL cs) a b))))
  | _ => .u

/-- What is known of the gauge's functions. -/
def gg (f : FuncId) (args : List AV) : AV :=
  match f with
  | 35 => g35 args
  | 28 => g28 args
  | 30 => g30 args
  | 36 => g36 args
  | 29 => g29 args
  | 46 => g46 args
  | 39 => g39 args
  | 40 => g40 args
  | 41 => g41 args
  | 38 => g38 args
  | 31 => g31 args
  | 12 => g12 args
  | 32 => g32 args
  | 13 => g13 args
  | 17 => g17 args
  | 16 => g16 args
  | 21 => g21 args
  | 22 => g22 args
  | 23 => g23 args
  | 24 => g24 args
  | 25 => g25 args
  | 11 => g11 args
  | 14 => g14 args
  | 18 => g18 args
  | 19 => g19 args
  | 20 => g20 args
  | 26 => g26 args
  | 27 => g27 args
  | _ => .u

noncomputable abbrev FG : Tab := FK Try.prog gg
theorem hFG : FG.valid Try.prog := FK_valid _ _
theorem qFG : Calm FG (fun _ => true) := FK_calm _ _ _

theorem bl_le {x : Nat} (h : x < 2 ^ 64) : bl x ≤ 64 := by
  unfold bl
  split
  · omega
  · rename_i h0
    have := (Nat.log2_lt h0).2 h
    omega

theorem k35 (x : Nat) (h : x < 2 ^ 64) (S O : List Blk) : FG 35 [.s (.i .u64 x)] S O = some (.s (.i .i64 (bl x : Nat)), S, O) :=
  FK_eq (len64 hFG qFG x h) rfl rfl rfl S O
theorem k28 (x : Nat) (h : x < 2 ^ 64) (S O : List Blk) : FG 28 [.s (.i .u64 x)] S O = some (.s (.i .i64 (64 - bl x : Nat)), S, O) :=
  FK_eq (lz28 hFG qFG x (bl_le h) (k35 x h)) rfl rfl rfl S O
theorem k30 (x : Int) (S O : List Blk) : FG 30 [.s (.i .u64 x)] S O = some (.s (.b (x != 0)), S, O) :=
  FK_eq (cl30 hFG qFG x) rfl rfl rfl S O

theorem intOf_map (xs : List Int) : (xs.map fun x => (AV.s (.i .u64 x))).map intOf = xs := by
  induction xs with
  | nil => rfl
  | cons x xs ih => simp only [List.map_cons, ih, intOf]
theorem still_map (xs : List Int) : AV.stillL (xs.map fun x => (AV.s (.i .u64 x))) = true := by
  induction xs with
  | nil => rfl
  | cons x xs ih => simp only [List.map_cons, AV.stillL, ih, AV.still, Bool.and_self]
theorem k36 (xs : List Int) (hlen : xs.length < 1000) (S O : List Blk) : FG 36 [.l xs.length (xs.map fun x => .s (.i .u64 x)), .f 30 [] []] S O = some (.s (.i .i64 (firstOf xs 0)), S, O) :=
  FK_eq (ix36 hFG qFG xs hlen k30) (by simp only [gg, g36, intOf_map]) (by simp only [AV.stillL, AV.still, still_map, Bool.and_self]) rfl S O
theorem k29 (xs : List Int) (hlen : xs.length < 1000) (S O : List Blk) : FG 29 [.l xs.length (xs.map fun x => .s (.i .u64 x)), .f 30 [] []] S O = some (.s (.b (xs.any (· != 0))), S, O) :=
  FK_eq (cf29 hFG qFG xs (k36 xs hlen)) (by simp only [gg, g29, intOf_map]) (by simp only [AV.stillL, AV.still, still_map, Bool.and_self]) rfl S O

theorem k46 (x : Nat) (h : x < 2047 * 2 ^ 52) (S O : List Blk) : FG 46 [.s (.fl .f64 x)] S O = some (.s (.fl .f64 x), S, O) :=
  FK_eq (abs46 hFG qFG x (by omega)) rfl rfl rfl S O
theorem k39 (x : Nat) (h : x < 2047 * 2 ^ 52) (S O : List Blk) : FG 39 [.s (.fl .f64 x), .s (.i .i64 0)] S O = some (.s (.b false), S, O) :=
  FK_eq (inf39 hFG qFG x h (k46 x h)) rfl rfl rfl S O
theorem k40 (x : Nat) (h : x < 2047 * 2 ^ 52) (S O : List Blk) : FG 40 [.s (.fl .f64 x)] S O = some (.s (.b false), S, O) :=
  FK_eq (nan40 hFG qFG x h) rfl rfl rfl S O
theorem k41 (x : Nat) (h0 : 2 ^ 52 ≤ x) (h : x < 2047 * 2 ^ 52) (S O : List Blk) : FG 41 [.s (.fl .f64 x)] S O = some (.t [.s (.fl .f64 x), .s (.i .i64 0)], S, O) :=
  FK_eq (norm41 hFG qFG x h0 h (k46 x h)) rfl rfl rfl S O
theorem k38 (x e : Nat) (h0 : 2 ^ 52 ≤ x) (h : x < 2047 * 2 ^ 52) (he : x + e * 2 ^ 52 < 2047 * 2 ^ 52) (S O : List Blk) : FG 38 [.s (.fl .f64 x), .s (.i .i64 e)] S O = some (.s (.fl .f64 (x + e * 2 ^ 52)), S, O) :=
  FK_eq (ldexp38 hFG qFG x e h0 h he (k39 x h) (k40 x h) (k41 x h0 h)) rfl rfl rfl S O
theorem k31 (x e : Nat) (h0 : 2 ^ 52 ≤ x) (h : x < 2047 * 2 ^ 52) (he : x + e * 2 ^ 52 < 2047 * 2 ^ 52) (S O : List Blk) : FG 31 [.s (.fl .f64 x), .s (.i .i64 e)] S O = some (.s (.fl .f64 (x + e * 2 ^ 52)), S, O) :=
  FK_eq (ldexp31 hFG qFG x _ e (k38 x e h0 h he)) rfl rfl rfl S O

theorem k31n (H e : Nat) (h0 : 2 ^ 63 ≤ H) (h : H < 2 ^ 64) (he : e ≤ 256) (S O : List Blk) : FG 31 [.s (.fl .f64 (nr H)), .s (.i .i64 e)] S O = some (.s (.fl .f64 (nr H + e * 2 ^ 52)), S, O) := by
  have h1 : 2 ^ 52 ≤ nr H := nr_low (by omega) (by omega)
  have h2 : nr H < 1300 * 2 ^ 52 := (nr_fin (by omega)).2.1
  exact k31 _ _ h1 (by omega) (by omega) S O

theorem pick {c : Bool} {p : Prop} [Decidable p] (h : c = true ↔ p) (x y e : Nat) : (if c = true then x + e else y + e) = (if p then x else y) + e := by
  by_cases hp : p
  · rw [if_pos hp, if_pos (h.2 hp)]
  · rw [if_neg hp, if_neg (fun hc => hp (h.1 hc))]

theorem nz (x : Nat) : ((x : Int) != 0) = true ↔ x ≠ 0 := by
  rw [bne_iff_ne]; omega

theorem k12_3 {a0 a1 a2 a3 : Nat} (h0 : a0 < 2 ^ 64) (h1 : a1 < 2 ^ 64) (h2 : a2 < 2 ^ 64) (h3 : a3 < 2 ^ 64) (hn : a3 ≠ 0) : ValidAt Try.prog 12 [.a [.s (.i .u64 a0), .s (.i .u64 a1), .s (.i .u64 a2), .s (.i .u64 a3)]] [] [] (.s (.fl .f64 (nr (num a0 a1 a2 a3)))) [] [] := by
  have e : num a0 a1 a2 a3 = (a3 * 2 ^ 64 + a2) * 2 ^ 128 + (a0 + a1 * 2 ^ 64) := by unfold num; omega
  obtain ⟨z1, z2, z3, z4, z5, z6⟩ := high_join (b := a0 + a1 * 2 ^ 64) (w := 128) (z := 64 - bl a3) hn h3 h2 (by omega) (by omega) (by rw [bl, if_neg hn])
  have kz := k28 a3 h3
  rw [e, z6]
  generalize hz : 64 - bl a3 = z at *
  have hor : (a3 * 2 ^ z + a2 / 2 ^ (64 - z) ||| 1) < 2 ^ 64 ∧ 2 ^ 63 ≤ (a3 * 2 ^ z + a2 / 2 ^ (64 - z) ||| 1) := by
    rw [or_one]; omega
  have hw := float12_3 hFG qFG a0 a1 a2 a3 z _ _ (by simpa using hn) z1 z2 z3 z4
    (by rw [wrap64 (by omega) (by omega)]; omega) kz (by intro S O; have := k29 [(a0 : Int), (a1 : Int)] (by simp) S O; simp only [List.any_cons, List.any_nil, Bool.or_false] at this; exact this) (k31n _ (192 - z) z5 z4 (by omega)) (k31n _ (192 - z) hor.2 hor.1 (by omega))
  rw [pick (p := a2 * 2 ^ z % 2 ^ 64 ≠ 0 ∨ a0 + a1 * 2 ^ 64 ≠ 0) (by rw [Bool.or_eq_true, Bool.or_eq_true, nz, nz, nz]; omega)] at hw
  exact hw

theorem k12_2 {a0 a1 a2 : Nat} (h0 : a0 < 2 ^ 64) (h1 : a1 < 2 ^ 64) (h2 : a2 < 2 ^ 64) (hn : a2 ≠ 0) : ValidAt Try.prog 12 [.a [.s (.i .u64 a0), .s (.i .u64 a1), .s (.i .u64 a2), .s (.i .u64 0)]] [] [] (.s (.fl .f64 (nr (num a0 a1 a2 0)))) [] [] := by
  have e : num a0 a1 a2 0 = (a2 * 2 ^ 64 + a1) * 2 ^ 64 + a0 := by unfold num; omega
  obtain ⟨z1, z2, z3, z4, z5, z6⟩ := high_join (b := a0) (w := 64) (z := 64 - bl a2) hn h2 h1 (by omega) (by omega) (by rw [bl, if_neg hn])
  have kz := k28 a2 h2
  rw [e, z6]
  generalize hz : 64 - bl a2 = z at *
  have hor : (a2 * 2 ^ z + a1 / 2 ^ (64 - z) ||| 1) < 2 ^ 64 ∧ 2 ^ 63 ≤ (a2 * 2 ^ z + a1 / 2 ^ (64 - z) ||| 1) := by
    rw [or_one]; omega
  have hw := float12_2 hFG qFG a0 a1 a2 z _ _ (by simpa using hn) z1 z2 z3 z4
    (by rw [wrap64 (by omega) (by omega)]; omega) kz (by intro S O; have := k29 [(a0 : Int)] (by simp) S O; simp only [List.any_cons, List.any_nil, Bool.or_false] at this; exact this) (k31n _ (128 - z) z5 z4 (by omega)) (k31n _ (128 - z) hor.2 hor.1 (by omega))
  rw [pick (p := a1 * 2 ^ z % 2 ^ 64 ≠ 0 ∨ a0 ≠ 0) (by rw [Bool.or_eq_true, nz, nz])] at hw
  exact hw

theorem k12_1 {a0 a1 : Nat} (h0 : a0 < 2 ^ 64) (h1 : a1 < 2 ^ 64) (hn : a1 ≠ 0) : ValidAt Try.prog 12 [.a [.s (.i .u64 a0), .s (.i .u64 a1), .s (.i .u64 0), .s (.i .u64 0)]] [] [] (.s (.fl .f64 (nr (num a0 a1 0 0)))) [] [] := by
  have e : num a0 a1 0 0 = (a1 * 2 ^ 64 + a0) * 2 ^ 0 + 0 := by unfold num; omega
  obtain ⟨z1, z2, z3, z4, z5, z6⟩ := high_join (b := 0) (w := 0) (z := 64 - bl a1) hn h1 h0 (by omega) (by omega) (by rw [bl, if_neg hn])
  have kz := k28 a1 h1
  rw [e, z6]
  generalize hz : 64 - bl a1 = z at *
  have hor : (a1 * 2 ^ z + a0 / 2 ^ (64 - z) ||| 1) < 2 ^ 64 ∧ 2 ^ 63 ≤ (a1 * 2 ^ z + a0 / 2 ^ (64 - z) ||| 1) := by
    rw [or_one]; omega
  have hw := float12_1 hFG qFG a0 a1 z _ _ (by simpa using hn) z1 z2 z3 z4
    (by rw [wrap64 (by omega) (by omega)]; omega) kz (by intro S O; have := k29 [] (by simp) S O; simp only [List.any_cons, List.any_nil, Bool.or_false] at this; exact this) (k31n _ (64 - z) z5 z4 (by omega)) (k31n _ (64 - z) hor.2 hor.1 (by omega))
  rw [pick (p := a0 * 2 ^ z % 2 ^ 64 ≠ 0 ∨ 0 ≠ 0) (by rw [Bool.or_false, nz]; omega)] at hw
  rw [show 0 + 64 - z = 64 - z by omega]
  exact hw

theorem k12v {a0 a1 a2 a3 : Nat} (h0 : a0 < 2 ^ 64) (h1 : a1 < 2 ^ 64) (h2 : a2 < 2 ^ 64) (h3 : a3 < 2 ^ 64) : ValidAt Try.prog 12 [.a [.s (.i .u64 a0), .s (.i .u64 a1), .s (.i .u64 a2), .s (.i .u64 a3)]] [] [] (.s (.fl .f64 (nr (num a0 a1 a2 a3)))) [] [] := by
  by_cases n3 : a3 = 0
  · subst n3
    by_cases n2 : a2 = 0
    · subst n2
      by_cases n1 : a1 = 0
      · subst n1
        have := float12_low hFG qFG a0 h0
        rw [show num a0 0 0 0 = a0 by unfold num; omega]
        exact this
      · exact k12_1 h0 h1 n1
    · exact k12_2 h0 h1 h2 n2
  · exact k12_3 h0 h1 h2 h3 n3

theorem k12 {a0 a1 a2 a3 : Nat} (h0 : a0 < 2 ^ 64) (h1 : a1 < 2 ^ 64) (h2 : a2 < 2 ^ 64) (h3 : a3 < 2 ^ 64) (S O : List Blk) : FG 12 [.a [.s (.i .u64 a0), .s (.i .u64 a1), .s (.i .u64 a2), .s (.i .u64 a3)]] S O = some (.s (.fl .f64 (nr (num a0 a1 a2 a3))), S, O) :=
  FK_eq (k12v h0 h1 h2 h3) rfl rfl rfl S O
end Go.Am
