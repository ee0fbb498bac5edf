/-
  What both desks say of an error.
-/
import Derived.Test.YtcakgpfemeholaaGreatDoorE9
import Derived.Test.YtcakgpfemeholaaGreatDoorNC
import Derived.WalkKit
import Derived.OwnWalkIn
import Derived.TacticsInMore
import Derived.Lib.SmallJoins
import Derived.Lib.ItoaLen
set_option linter.unusedSimpArgs false
set_option linter.unusedVariables false
namespace Go.Proofs.YtcakgpfemeholaaGreatDoor
open Go Go.RowKit Go.Shelf Go.Proofs Go.Lib
set_option maxRecDepth 100000

/-- "ok", or the error's number. -/
noncomputable def sayS (e : Int) : ByteArray := if e = 0 then ⟨#[111, 107]⟩ else ⟨#[110, 111, 32]⟩ ++ ⟨(itoa e).toArray⟩

theorem grow_below (w : World) (k : Nat) (os : Array Obj) : Below w.heap.size w («Sort».grow (w.drewN k) os) := by
  refine ⟨rfl, rfl, rfl, ?_, fun b hb => ?_⟩
  · simp [«Sort».grow, World.drewN]
  · simp [«Sort».grow, World.drewN, Array.getElem?_append, hb]

theorem say5_in (F : Fence) (hF : ∀ f, F.fn f) (hro : F.round = none) (e : Int) (hlen : (itoa e).length ≤ 21) (w : World) (hC : ∀ m, CallsIn F m Tryz.prog 8 #[.int .i64 e] w fun E w' => E = .returned (.string ⟨(itoa e).toArray⟩) ∧ Below w.heap.size w w') :
    CallsIn F 6 Tryz.prog 5 #[.int .i64 e] w fun E w' => E = .returned (.string (sayS e)) ∧ Below w.heap.size w w' := by
  refine callsIn_of_wp Tryz.func5 rfl (hF _) ?_ hro
  simp only [Tryz.ntmps5, List.size_toArray, List.length_cons, List.length_nil, Nat.reduceAdd, Nat.reduceSub, Array.replicate_succ, Array.replicate_zero, List.push_toArray, List.append_toArray, List.nil_append, List.cons_append]
  gi_wp2_with (gi_at_call 8; refine (hC _).mono ?_; rintro e' w' ⟨rfl, hB⟩)
  · go_ret
    rename_i h
    refine ⟨?_, Below.refl _ _⟩
    have h0 : e = 0 := by simpa using h
    simp only [sayS, if_pos h0]
    rfl
  · refine bodyPost_ret (results_tmp rfl _ _ _) rfl ⟨?_, by assumption⟩
    have h0 : ¬ e = 0 := by
      have hh : (e == 0) = false := by assumption
      simpa using hh
    simp only [sayS, if_neg h0]
    rfl

theorem say5 (e : Int) (h1 : -9223372036854775808 ≤ e) (h2 : e ≤ 9223372036854775807) (w : World) (ht : TabIs Tryz.prog w "internal/strconv.uint64pow10" .u64 pow10Tab) :
    Calls Tryz.prog 5 #[.int .i64 e] w fun E w' => E = .returned (.string (sayS e)) ∧ Below w.heap.size w w' := by
  refine (callsIn_wide (n := 6)).1 (say5_in Fence.wide (fun _ => trivial) rfl e (itoa_length_le e h1 h2) w fun m => CallsIn.mono (callsIn_wide.2 (Any.strconv_Itoa Tryz.laysM171 e h1 h2 w ht)) ?_)
  rintro E w' ⟨rfl, k, os, rfl⟩
  exact ⟨rfl, grow_below w k os⟩

theorem say6_in (F : Fence) (hF : ∀ f, F.fn f) (hro : F.round = none) (e : Int) (hlen : (itoa e).length ≤ 21) (w : World) (hC : ∀ m, CallsIn F m Tryz.prog 8 #[.int .i64 e] w fun E w' => E = .returned (.string ⟨(itoa e).toArray⟩) ∧ Below w.heap.size w w') :
    CallsIn F 6 Tryz.prog 6 #[.int .i64 e] w fun E w' => E = .returned (.string (sayS e)) ∧ Below w.heap.size w w' := by
  refine callsIn_of_wp Tryz.func6 rfl (hF _) ?_ hro
  simp only [Tryz.ntmps6, List.size_toArray, List.length_cons, List.length_nil, Nat.reduceAdd, Nat.reduceSub, Array.replicate_succ, Array.replicate_zero, List.push_toArray, List.append_toArray, List.nil_append, List.cons_append]
  gi_wp2_with (gi_at_call 8; refine (hC _).mono ?_; rintro e' w' ⟨rfl, hB⟩)
  · go_ret
    rename_i h
    refine ⟨?_, Below.refl _ _⟩
    have h0 : e = 0 := by simpa using h
    simp only [sayS, if_pos h0]
    rfl
  · refine bodyPost_ret (results_tmp rfl _ _ _) rfl ⟨?_, by assumption⟩
    have h0 : ¬ e = 0 := by
      have hh : (e == 0) = false := by assumption
      simpa using hh
    simp only [sayS, if_neg h0]
    rfl

theorem say6 (e : Int) (h1 : -9223372036854775808 ≤ e) (h2 : e ≤ 9223372036854775807) (w : World) (ht : TabIs Tryz.prog w "internal/strconv.uint64pow10" .u64 pow10Tab) :
    Calls Tryz.prog 6 #[.int .i64 e] w fun E w' => E = .returned (.string (sayS e)) ∧ Below w.heap.size w w' := by
  refine (callsIn_wide (n := 6)).1 (say6_in Fence.wide (fun _ => trivial) rfl e (itoa_length_le e h1 h2) w fun m => CallsIn.mono (callsIn_wide.2 (Any.strconv_Itoa Tryz.laysM171 e h1 h2 w ht)) ?_)
  rintro E w' ⟨rfl, k, os, rfl⟩
  exact ⟨rfl, grow_below w k os⟩

end Go.Proofs.YtcakgpfemeholaaGreatDoor
