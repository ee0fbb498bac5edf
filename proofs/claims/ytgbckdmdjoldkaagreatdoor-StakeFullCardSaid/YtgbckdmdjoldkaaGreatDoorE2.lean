/-
  What is known inside, and of the law's own function; short names.
-/
import Derived.Test.YtgbckdmdjoldkaaGreatDoorNC
import Derived.Test.YtgbckdmdjoldkaaGreatDoorD11
import Derived.Test.YtgbckdmdjoldkaaGreatDoorE1
import Derived.Test.YtgbckdmdjoldkaaGreatDoorE5
set_option linter.unusedSimpArgs false
set_option linter.unusedVariables false
namespace Go.Proofs.YtgbckdmdjoldkaaGreatDoor
open Go Go.RowKit Go.Bm
open Go.Am (Sc)
set_option maxRecDepth 100000

noncomputable def inW : Kn := pickV 22835963083295358096932575511191922182123945984 (eqW 154) (pickV 649037107316853453566312041152512 (findV 109) knownV)
theorem findV_ok' : (findV 109).ok Tryz.prog := findV_ok Tryz.find_says (fun v1 v2 xs ys w h1 h2 => Any.bytes_Equal Tryz.laysEq v1 v2 xs ys w (h1 _ _ _ Tryz.underlying129 Tryz.underlying5 Tryz.underlying9) (h2 _ _ _ Tryz.underlying129 Tryz.underlying5 Tryz.underlying9)) ⟨_, Tryz.func109, rfl, by show ("(*jointure/store.Store).find" : String) ≠ "runtime.NumGoroutine"; decide⟩
theorem inW_ok : inW.ok Tryz.prog := pickV_ok eqV_ok (pickV_ok findV_ok' knownV_ok)
noncomputable def lawB : Kn := pickV 16 (keepV 4 [([], .s (.b true))]) (pickV 32 (litV 5 (.p 18 0) hBegin 12856) inW)
theorem lawB_ok : lawB.ok Tryz.prog := pickV_ok kEx (pickV_ok kBegin inW_ok)

@[reducible] def s2 (i n : Nat) : AV := .sl i 0 1 n n false
/-- Without these names. -/
noncomputable def memN (i : Nat) : List Nat → Bool
  | [] => false
  | j :: l => Nat.beq i j || memN i l
noncomputable def less (ids : List Nat) : List (Nat × Blk) → List (Nat × Blk)
  | [] => []
  | q :: l => bif memN q.1 ids then less ids l else q :: less ids l
noncomputable def isTrue (q : Option (AV × Heap × Nat)) : Bool := match q with | some (.s (.b b), _, _) => b | _ => false
end Go.Proofs.YtgbckdmdjoldkaaGreatDoor
