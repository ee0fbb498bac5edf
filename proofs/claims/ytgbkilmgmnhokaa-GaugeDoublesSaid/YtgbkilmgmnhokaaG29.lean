/-
  THE WALKS: digits, carried over; and the number that digits are.
-/
import Derived.Test.YtgbkilmgmnhokaaG19
import Derived.Test.YtgbkilmgmnhokaaMB
set_option linter.unusedSimpArgs false
set_option linter.unusedVariables false
namespace Go.Am
open Go Go.Proofs Go.Fl

/-- The row that a function hands on, worked out. -/
def moveRun (P : Program) (F : Tab) (k : Nat) (f : FuncId) (args : List AV) (X : Option (Nat × Nat × Nat × List AV)) : Option (Nat × Nat × Nat × List AV) :=
  match P.funcs[f]? with
  | some fn =>
    match fn.body with
    | some c =>
      if args.length ≤ fn.ntmps ∧ 1 ≤ fn.ntmps then
        match xCode P F (fun _ => false) (fun _ => true) 0 k c (frameM args X fn.ntmps) with
        | some (.normal, st) => moveFin fn st
        | some (.ret, st) => moveFin fn st
        | _ => none
      else none
    | none => none
  | none => none

theorem moveRun_sound {P : Program} {F : Tab} (hm : P.follows .mixedOrders = true) (hF : F.valid P) (hq : Calm F (fun _ => true)) {k : Nat} {f : FuncId} {args : List AV} {X : Option (Nat × Nat × Nat × List AV)} {e sz n : Nat} {cs : List AV} (h : moveRun P F k f args X = some (e, sz, n, cs)) : MoveAt P f args X e sz n cs := by
  unfold moveRun at h
  split at h
  rotate_left
  · cases h
  rename_i fn hf
  split at h
  rotate_left
  · cases h
  rename_i c hc
  split at h
  rotate_left
  · cases h
  rename_i hn
  split at h
  · rename_i st hx
    exact move_of_awp hf hc hn.1 hn.2 (xCode_sound hm hF hq k c _ hx ⟨.inl rfl, h⟩)
  · rename_i st hx
    exact move_of_awp hf hc hn.1 hn.2 (xCode_sound hm hF hq k c _ hx ⟨.inr rfl, h⟩)
  · cases h

theorem mv32 (a0 a1 a2 a3 : Nat) : MoveAt Try.prog 32 [.a [.s (.i .u64 a0), .s (.i .u64 a1), .s (.i .u64 a2), .s (.i .u64 a3)]] none 22 1 16 (digsAV a0 a1 a2 a3) :=
  moveRun_sound (k := 1000) orders hFG qFG (by kernel_rfl)

def iAV (x : Int) : AV := .s (.i .u64 x)

/-- Digits carried over. -/
def carI : List Int → Int → List Int
  | [], c => [c]
  | x :: xs, c => (IntKind.u64.wrap (c + x)).tmod 65536 :: carI xs (IntKind.u64.wrap ((IntKind.u64.wrap (c + x)).tdiv 65536))

theorem mv34 (x0 x1 x2 x3 x4 x5 x6 x7 x8 x9 xa xb xc xd xe xf : Int) : MoveAt Try.prog 34 [.r 0] (some (22, 1, 16, [iAV x0, iAV x1, iAV x2, iAV x3, iAV x4, iAV x5, iAV x6, iAV x7, iAV x8, iAV x9, iAV xa, iAV xb, iAV xc, iAV xd, iAV xe, iAV xf])) 22 1 17
    ((carI [x0, x1, x2, x3, x4, x5, x6, x7, x8, x9, xa, xb, xc, xd, xe, xf] 0).map iAV) :=
  moveRun_sound (k := 1000) orders hFG qFG (by kernel_rfl)
end Go.Am
