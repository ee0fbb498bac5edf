/-
  No cell of these rows narrows 'for every input' (looked for: loops, veiled, ifaces, maps, wideKeys, modest, calm, conditions, laid).
  DERIVED. THE GIVEN ROWS OF THIS SEAT. 8 by the template 'for every input the law returns true; each argument reads behind the call as it read before'; 0 by the template 'total and deterministic' (their statements: YtgbkilmgmnhokaaTotals.lean).
  GIVEN WITH THE SEED: the statements are not yours to turn. If you find one false, say at which input.
  Laid BY PROGRAM, IN A SANDBOX (cutbox-rows.mjs): the forced cells as the released guide's own fill.sh prints them over the translation 250da4798d88f542… (all of the seat's roots in one cut). By AI agents, Wed Nov 11 2026. No macro, syntax, notation, axiom, sorry.
-/
import Derived.Test.YtgbkilmgmnhokaaChecked
import GoSem.Claim
import GoSem.ClaimJoined
import GoSem.ClaimMapViews
import Derived.JoinedTies
import Derived.KernelRfl
namespace Go.Proofs.Ytgbkilmgmnhokaa
/- THE CELL 'sum', in the pinned program and in every row, IS THE sha256 OF THE DUMP (.gsa) THAT YtgbkilmgmnhokaaProg.lean LOADS. Nothing in Lean hashes anything: it is a label: what it is worth is what the hold of that sum in a sandbox is worth. -/
noncomputable def Try.pinned : Pinned := { name := "ytgbkilmgmnhokaa", sum := "250da4798d88f542b27627406efae3721ff50b83f50799c9208a34a1f62ee0ab", checked := Try.checked }
namespace Rows
def none {H : Type} : Left H := { results := [], args := [] }

/-- 'jointurelaw03.GaugeFloats': WHATEVER THE INPUT: true; the input reads as it did. -/
def gaugeFloatsSpec : ChangeSpec := { name := "gaugeFloats", fn := fun _ => fun
  | [d] => { results := [.lit (.bool true)], args := [d] }
  | _ => none }
def gaugeFloatsRow : OpenClaim := { program := "ytgbkilmgmnhokaa", sum := "250da4798d88f542b27627406efae3721ff50b83f50799c9208a34a1f62ee0ab", func := "jointure/jointurelaw03.GaugeFloats", spec := "gaugeFloats", inPlace := ["math.Float64bits", "math.Float64frombits"], unfollowed := true, recurses := true, apart := false }
def GaugeFloatsSaid : Prop := gaugeFloatsRow.holds Try.pinned (OpenSpec.ofChange gaugeFloatsSpec)

/-- ITS FALSE NEIGHBOUR: 'it returns false'. Refute it at one input. -/
def gaugeFloatsWrong : ChangeSpec := { name := "gaugeFloats", fn := fun _ => fun
  | [d] => { results := [.lit (.bool false)], args := [d] }
  | _ => none }
def GaugeFloatsWrongFalsely : Prop := gaugeFloatsRow.holds Try.pinned (OpenSpec.ofChange gaugeFloatsWrong)

/-- 'jointurelaw03.GaugeRises': WHATEVER THE INPUT: true; the input reads as it did. -/
def gaugeRisesSpec : ChangeSpec := { name := "gaugeRises", fn := fun _ => fun
  | [d1, d2, d3] => { results := [.lit (.bool true)], args := [d1, d2, d3] }
  | _ => none }
def gaugeRisesRow : OpenClaim := { program := "ytgbkilmgmnhokaa", sum := "250da4798d88f542b27627406efae3721ff50b83f50799c9208a34a1f62ee0ab", func := "jointure/jointurelaw03.GaugeRises", spec := "gaugeRises", inPlace := ["math.Float64bits", "math.Float64frombits"], unfollowed := true, recurses := true, apart := false }
def GaugeRisesSaid : Prop := gaugeRisesRow.holds Try.pinned (OpenSpec.ofChange gaugeRisesSpec)

/-- ITS FALSE NEIGHBOUR: 'it returns false'. Refute it at one input. -/
def gaugeRisesWrong : ChangeSpec := { name := "gaugeRises", fn := fun _ => fun
  | [d1, d2, d3] => { results := [.lit (.bool false)], args := [d1, d2, d3] }
  | _ => none }
def GaugeRisesWrongFalsely : Prop := gaugeRisesRow.holds Try.pinned (OpenSpec.ofChange gaugeRisesWrong)

/-- 'jointurelaw03.GaugeDoubles': WHATEVER THE INPUT: true; the input reads as it did. -/
def gaugeDoublesSpec : ChangeSpec := { name := "gaugeDoubles", fn := fun _ => fun
  | [d] => { results := [.lit (.bool true)], args := [d] }
  | _ => none }
def gaugeDoublesRow : OpenClaim := { program := "ytgbkilmgmnhokaa", sum := "250da4798d88f542b27627406efae3721ff50b83f50799c9208a34a1f62ee0ab", func := "jointure/jointurelaw03.GaugeDoubles", spec := "gaugeDoubles", inPlace := ["math.Float64bits", "math.Float64frombits"], unfollowed := true, recurses := true, apart := false }
def GaugeDoublesSaid : Prop := gaugeDoublesRow.holds Try.pinned (OpenSpec.ofChange gaugeDoublesSpec)

/-- ITS FALSE NEIGHBOUR: 'it returns false'. Refute it at one input. -/
def gaugeDoublesWrong : ChangeSpec := { name := "gaugeDoubles", fn := fun _ => fun
  | [d] => { results := [.lit (.bool false)], args := [d] }
  | _ => none }
def GaugeDoublesWrongFalsely : Prop := gaugeDoublesRow.holds Try.pinned (OpenSpec.ofChange gaugeDoublesWrong)

/-- 'jointurelaw03.GaugePoints': WHATEVER THE INPUT: true; the input reads as it did. -/
def gaugePointsSpec : ChangeSpec := { name := "gaugePoints", fn := fun _ => fun
  | [d1, d2] => { results := [.lit (.bool true)], args := [d1, d2] }
  | _ => none }
def gaugePointsRow : OpenClaim := { program := "ytgbkilmgmnhokaa", sum := "250da4798d88f542b27627406efae3721ff50b83f50799c9208a34a1f62ee0ab", func := "jointure/jointurelaw03.GaugePoints", spec := "gaugePoints", inPlace := ["math.Float64bits", "math.Float64frombits"], unfollowed := true, recurses := true, apart := false }
def GaugePointsSaid : Prop := gaugePointsRow.holds Try.pinned (OpenSpec.ofChange gaugePointsSpec)

/-- ITS FALSE NEIGHBOUR: 'it returns false'. Refute it at one input. -/
def gaugePointsWrong : ChangeSpec := { name := "gaugePoints", fn := fun _ => fun
  | [d1, d2] => { results := [.lit (.bool false)], args := [d1, d2] }
  | _ => none }
def GaugePointsWrongFalsely : Prop := gaugePointsRow.holds Try.pinned (OpenSpec.ofChange gaugePointsWrong)

/-- 'jointurelaw03.GaugeSums': WHATEVER THE INPUT: true; the input reads as it did. -/
def gaugeSumsSpec : ChangeSpec := { name := "gaugeSums", fn := fun _ => fun
  | [d] => { results := [.lit (.bool true)], args := [d] }
  | _ => none }
def gaugeSumsRow : OpenClaim := { program := "ytgbkilmgmnhokaa", sum := "250da4798d88f542b27627406efae3721ff50b83f50799c9208a34a1f62ee0ab", func := "jointure/jointurelaw03.GaugeSums", spec := "gaugeSums", inPlace := ["math.Float64bits", "math.Float64frombits"], unfollowed := true, recurses := true, apart := false }
def GaugeSumsSaid : Prop := gaugeSumsRow.holds Try.pinned (OpenSpec.ofChange gaugeSumsSpec)

/-- ITS FALSE NEIGHBOUR: 'it returns false'. Refute it at one input. -/
def gaugeSumsWrong : ChangeSpec := { name := "gaugeSums", fn := fun _ => fun
  | [d] => { results := [.lit (.bool false)], args := [d] }
  | _ => none }
def GaugeSumsWrongFalsely : Prop := gaugeSumsRow.holds Try.pinned (OpenSpec.ofChange gaugeSumsWrong)

/-- 'jointurelaw03.GaugeTurns': WHATEVER THE INPUT: true; the input reads as it did. -/
def gaugeTurnsSpec : ChangeSpec := { name := "gaugeTurns", fn := fun _ => fun
  | [d1, d2] => { results := [.lit (.bool true)], args := [d1, d2] }
  | _ => none }
def gaugeTurnsRow : OpenClaim := { program := "ytgbkilmgmnhokaa", sum := "250da4798d88f542b27627406efae3721ff50b83f50799c9208a34a1f62ee0ab", func := "jointure/jointurelaw03.GaugeTurns", spec := "gaugeTurns", inPlace := ["math.Float64bits", "math.Float64frombits"], unfollowed := true, recurses := true, apart := false }
def GaugeTurnsSaid : Prop := gaugeTurnsRow.holds Try.pinned (OpenSpec.ofChange gaugeTurnsSpec)

/-- ITS FALSE NEIGHBOUR: 'it returns false'. Refute it at one input. -/
def gaugeTurnsWrong : ChangeSpec := { name := "gaugeTurns", fn := fun _ => fun
  | [d1, d2] => { results := [.lit (.bool false)], args := [d1, d2] }
  | _ => none }
def GaugeTurnsWrongFalsely : Prop := gaugeTurnsRow.holds Try.pinned (OpenSpec.ofChange gaugeTurnsWrong)

/-- 'jointurelaw03.GaugeAparts': WHATEVER THE INPUT: true; the input reads as it did. -/
def gaugeApartsSpec : ChangeSpec := { name := "gaugeAparts", fn := fun _ => fun
  | [d1, d2, d3] => { results := [.lit (.bool true)], args := [d1, d2, d3] }
  | _ => none }
def gaugeApartsRow : OpenClaim := { program := "ytgbkilmgmnhokaa", sum := "250da4798d88f542b27627406efae3721ff50b83f50799c9208a34a1f62ee0ab", func := "jointure/jointurelaw03.GaugeAparts", spec := "gaugeAparts", inPlace := ["math.Float64bits", "math.Float64frombits"], unfollowed := true, recurses := true, apart := false }
def GaugeApartsSaid : Prop := gaugeApartsRow.holds Try.pinned (OpenSpec.ofChange gaugeApartsSpec)

/-- ITS FALSE NEIGHBOUR: 'it returns false'. Refute it at one input. -/
def gaugeApartsWrong : ChangeSpec := { name := "gaugeAparts", fn := fun _ => fun
  | [d1, d2, d3] => { results := [.lit (.bool false)], args := [d1, d2, d3] }
  | _ => none }
def GaugeApartsWrongFalsely : Prop := gaugeApartsRow.holds Try.pinned (OpenSpec.ofChange gaugeApartsWrong)

/-- 'jointurelaw03.GaugeNearests': WHATEVER THE INPUT: true; the input reads as it did. -/
def gaugeNearestsSpec : ChangeSpec := { name := "gaugeNearests", fn := fun _ => fun
  | [d1, d2] => { results := [.lit (.bool true)], args := [d1, d2] }
  | _ => none }
def gaugeNearestsRow : OpenClaim := { program := "ytgbkilmgmnhokaa", sum := "250da4798d88f542b27627406efae3721ff50b83f50799c9208a34a1f62ee0ab", func := "jointure/jointurelaw03.GaugeNearests", spec := "gaugeNearests", inPlace := ["math.Float64bits", "math.Float64frombits"], unfollowed := true, recurses := true, apart := false }
def GaugeNearestsSaid : Prop := gaugeNearestsRow.holds Try.pinned (OpenSpec.ofChange gaugeNearestsSpec)

/-- ITS FALSE NEIGHBOUR: 'it returns false'. Refute it at one input. -/
def gaugeNearestsWrong : ChangeSpec := { name := "gaugeNearests", fn := fun _ => fun
  | [d1, d2] => { results := [.lit (.bool false)], args := [d1, d2] }
  | _ => none }
def GaugeNearestsWrongFalsely : Prop := gaugeNearestsRow.holds Try.pinned (OpenSpec.ofChange gaugeNearestsWrong)

/- THE SECOND FORM. 'bulk': how many values and letters a reading holds, each counted each time it is reached (what is shared counts as often as it is met; a slice's spare places count too). A statement '..UptoSaid' is the law's where the arguments, and the package variables that the reading takes, are together of bulk at most 1048576: NARROWER than '..Said'. Prove '..Said' where nothing that the law and all that it calls make is longer than what came in: it says more and counts as full. Else prove '..UptoSaid'. A law counts once. -/
mutual
def uptoBulk {H : Type} : DataW H → Nat
  | .lit (.string bytes) => bytes.length + 1
  | .lit _ => 1
  | .nil => 1
  | .ptr d => uptoBulk d + 1
  | .slice elems spare => uptoBulkAll elems + uptoBulkAll spare + 1
  | .agg parts => uptoBulkAll parts + 1
  | .iface _ d => uptoBulk d + 1
  | .map entries => uptoBulkEntries entries + 1
  | .held _ => 1
def uptoBulkAll {H : Type} : List (DataW H) → Nat
  | [] => 0
  | d :: r => uptoBulk d + uptoBulkAll r
def uptoBulkEntries {H : Type} : List (Lit × DataW H) → Nat
  | [] => 0
  | x :: r => uptoBulkEntry x + uptoBulkEntries r
def uptoBulkEntry {H : Type} : Lit × DataW H → Nat
  | (.string bytes, d) => bytes.length + uptoBulk d + 1
  | (_, d) => uptoBulk d + 1
 end
def uptoSmall : (H : Type) → List (DataW H) → Bool := fun _ ds => decide (uptoBulkAll ds ≤ 1048576)
def OpenSpec.upto (s : _root_.Go.ChangeSpec) : _root_.Go.OpenSpec := { _root_.Go.OpenSpec.ofChange s with cond := some uptoSmall }

/-- 'jointurelaw03.GaugeFloats', WHERE WHAT IT READS IS OF BULK AT MOST 1048576: true; the input reads as it did. -/
def gaugeFloatsUptoRow : OpenClaim := { program := "ytgbkilmgmnhokaa", sum := "250da4798d88f542b27627406efae3721ff50b83f50799c9208a34a1f62ee0ab", func := "jointure/jointurelaw03.GaugeFloats", spec := "gaugeFloats", inPlace := ["math.Float64bits", "math.Float64frombits"], unfollowed := true, recurses := true, apart := false, narrowed := true }
def GaugeFloatsUptoSaid : Prop := gaugeFloatsUptoRow.holds Try.pinned (OpenSpec.upto gaugeFloatsSpec)

/-- 'jointurelaw03.GaugeRises', WHERE WHAT IT READS IS OF BULK AT MOST 1048576: true; the input reads as it did. -/
def gaugeRisesUptoRow : OpenClaim := { program := "ytgbkilmgmnhokaa", sum := "250da4798d88f542b27627406efae3721ff50b83f50799c9208a34a1f62ee0ab", func := "jointure/jointurelaw03.GaugeRises", spec := "gaugeRises", inPlace := ["math.Float64bits", "math.Float64frombits"], unfollowed := true, recurses := true, apart := false, narrowed := true }
def GaugeRisesUptoSaid : Prop := gaugeRisesUptoRow.holds Try.pinned (OpenSpec.upto gaugeRisesSpec)

/-- 'jointurelaw03.GaugeDoubles', WHERE WHAT IT READS IS OF BULK AT MOST 1048576: true; the input reads as it did. -/
def gaugeDoublesUptoRow : OpenClaim := { program := "ytgbkilmgmnhokaa", sum := "250da4798d88f542b27627406efae3721ff50b83f50799c9208a34a1f62ee0ab", func := "jointure/jointurelaw03.GaugeDoubles", spec := "gaugeDoubles", inPlace := ["math.Float64bits", "math.Float64frombits"], unfollowed := true, recurses := true, apart := false, narrowed := true }
def GaugeDoublesUptoSaid : Prop := gaugeDoublesUptoRow.holds Try.pinned (OpenSpec.upto gaugeDoublesSpec)

/-- 'jointurelaw03.GaugePoints', WHERE WHAT IT READS IS OF BULK AT MOST 1048576: true; the input reads as it did. -/
def gaugePointsUptoRow : OpenClaim := { program := "ytgbkilmgmnhokaa", sum := "250da4798d88f542b27627406efae3721ff50b83f50799c9208a34a1f62ee0ab", func := "jointure/jointurelaw03.GaugePoints", spec := "gaugePoints", inPlace := ["math.Float64bits", "math.Float64frombits"], unfollowed := true, recurses := true, apart := false, narrowed := true }
def GaugePointsUptoSaid : Prop := gaugePointsUptoRow.holds Try.pinned (OpenSpec.upto gaugePointsSpec)

/-- 'jointurelaw03.GaugeSums', WHERE WHAT IT READS IS OF BULK AT MOST 1048576: true; the input reads as it did. -/
def gaugeSumsUptoRow : OpenClaim := { program := "ytgbkilmgmnhokaa", sum := "250da4798d88f542b27627406efae3721ff50b83f50799c9208a34a1f62ee0ab", func := "jointure/jointurelaw03.GaugeSums", spec := "gaugeSums", inPlace := ["math.Float64bits", "math.Float64frombits"], unfollowed := true, recurses := true, apart := false, narrowed := true }
def GaugeSumsUptoSaid : Prop := gaugeSumsUptoRow.holds Try.pinned (OpenSpec.upto gaugeSumsSpec)

/-- 'jointurelaw03.GaugeTurns', WHERE WHAT IT READS IS OF BULK AT MOST 1048576: true; the input reads as it did. -/
def gaugeTurnsUptoRow : OpenClaim := { program := "ytgbkilmgmnhokaa", sum := "250da4798d88f542b27627406efae3721ff50b83f50799c9208a34a1f62ee0ab", func := "jointure/jointurelaw03.GaugeTurns", spec := "gaugeTurns", inPlace := ["math.Float64bits", "math.Float64frombits"], unfollowed := true, recurses := true, apart := false, narrowed := true }
def GaugeTurnsUptoSaid : Prop := gaugeTurnsUptoRow.holds Try.pinned (OpenSpec.upto gaugeTurnsSpec)

/-- 'jointurelaw03.GaugeAparts', WHERE WHAT IT READS IS OF BULK AT MOST 1048576: true; the input reads as it did. -/
def gaugeApartsUptoRow : OpenClaim := { program := "ytgbkilmgmnhokaa", sum := "250da4798d88f542b27627406efae3721ff50b83f50799c9208a34a1f62ee0ab", func := "jointure/jointurelaw03.GaugeAparts", spec := "gaugeAparts", inPlace := ["math.Float64bits", "math.Float64frombits"], unfollowed := true, recurses := true, apart := false, narrowed := true }
def GaugeApartsUptoSaid : Prop := gaugeApartsUptoRow.holds Try.pinned (OpenSpec.upto gaugeApartsSpec)

/-- 'jointurelaw03.GaugeNearests', WHERE WHAT IT READS IS OF BULK AT MOST 1048576: true; the input reads as it did. -/
def gaugeNearestsUptoRow : OpenClaim := { program := "ytgbkilmgmnhokaa", sum := "250da4798d88f542b27627406efae3721ff50b83f50799c9208a34a1f62ee0ab", func := "jointure/jointurelaw03.GaugeNearests", spec := "gaugeNearests", inPlace := ["math.Float64bits", "math.Float64frombits"], unfollowed := true, recurses := true, apart := false, narrowed := true }
def GaugeNearestsUptoSaid : Prop := gaugeNearestsUptoRow.holds Try.pinned (OpenSpec.upto gaugeNearestsSpec)

end Rows
end Go.Proofs.Ytgbkilmgmnhokaa
