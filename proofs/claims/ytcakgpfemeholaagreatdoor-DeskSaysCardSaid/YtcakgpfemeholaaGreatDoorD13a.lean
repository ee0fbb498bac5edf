/-
  What is laid, cell for cell.
-/
import Derived.Test.YtcakgpfemeholaaGreatDoorD12b
import Derived.Test.YtcakgpfemeholaaGreatDoorRows
import Derived.Lib.LaidU8
import Derived.Lib.LaidTab
import Derived.ProofKit
import Derived.LaidMore
import Derived.OpenShut
import Derived.ChangeArms
import Derived.MakeChecks
set_option linter.unusedSimpArgs false
set_option linter.unusedVariables false
namespace Go.Proofs.YtcakgpfemeholaaGreatDoor
open Go Go.RowKit Go.Bm Go.Lib
open Go.Am (Sc)
set_option maxRecDepth 100000

abbrev Vb := List UInt8 × List UInt8 × Int
def vbD (x : Vb) : DataW Unit := .agg [.lit (.string x.1), .lit (.string x.2.1), .lit (.int .u8 x.2.2)]
def vbV (x : Vb) : List Value := [.string ⟨x.1.toArray⟩, .string ⟨x.2.1.toArray⟩, .int .u8 x.2.2]
def earlyL : List Vb := [
  ([97, 99, 99, 111, 117, 110, 116], [97, 110], 0),
  ([101, 118, 101, 110], [97, 110, 116, 116], 1),
  ([108, 97, 116, 101], [97, 110, 116], 2),
  ([110, 101, 118, 101, 114], [97, 110], 4),
  ([118, 97, 108, 105, 100, 97, 116, 111, 114], [97, 115], 0),
  ([111, 112, 101, 110], [116], 0)]
def deedsL : List Vb := [
  ([115, 101, 110, 100], [97, 97, 110], 1),
  ([100, 101, 108, 101, 103, 97, 116, 101], [97, 97, 110], 3),
  ([117, 110, 100, 101, 108, 101, 103, 97, 116, 101], [97, 97, 110], 4),
  ([114, 101, 100, 101, 108, 101, 103, 97, 116, 101], [97, 97, 97, 110], 5),
  ([119, 105, 116, 104, 100, 114, 97, 119], [97, 97], 6),
  ([99, 111, 109, 109, 105, 115, 115, 105, 111, 110], [97, 97], 7),
  ([112, 97, 121], [97, 97], 8),
  ([99, 108, 97, 119], [97, 97], 10),
  ([117, 110, 106, 97, 105, 108], [97, 97], 11),
  ([103, 114, 97, 110, 116], [97, 97, 110, 116], 9),
  ([97, 100, 118, 97, 110, 99, 101], [116], 32),
  ([115, 108, 97, 115, 104], [97, 116, 115, 97], 33),
  ([114, 101, 119, 97, 114, 100], [97, 110], 34),
  ([103, 97, 116, 104, 101, 114], [97], 35),
  ([101, 110, 100], [], 36)]
def asksL : List Vb := [
  ([102, 101, 101], [110], 0),
  ([98, 97, 108, 97, 110, 99, 101], [97], 0),
  ([115, 112, 101, 110, 100, 97, 98, 108, 101], [97], 0),
  ([100, 117, 101], [97], 0),
  ([119, 111, 114, 116, 104], [97], 0),
  ([108, 101, 97, 118, 105, 110, 103], [97], 0),
  ([115, 104, 97, 114, 101, 115], [97, 97], 0),
  ([115, 101, 113], [97], 0),
  ([116, 105, 109, 101], [], 0),
  ([115, 117, 112, 112, 108, 121], [], 0),
  ([106, 117, 100, 103, 101], [], 0)]

noncomputable def fs48 : Array Field := match Tryz.prog.underlying 48 with | some (.struct fs) => fs | _ => #[]
theorem u48 : Tryz.prog.underlying 48 = some (.struct fs48) := by kernel_rfl
theorem fs48n : fs48.size = 3 := by kernel_rfl
theorem fs48a : (fs48[0]?).map (fun f => (f.type, f.offset)) = some (9, 0) := by kernel_rfl
theorem fs48b : (fs48[1]?).map (fun f => (f.type, f.offset)) = some (9, 1) := by kernel_rfl
theorem fs48c : (fs48[2]?).map (fun f => (f.type, f.offset)) = some (5, 2) := by kernel_rfl
theorem c48 : Tryz.prog.cellsOf 48 = 3 := by kernel_rfl
theorem c9 : Tryz.prog.cellsOf 9 = 1 := by kernel_rfl
theorem c5 : Tryz.prog.cellsOf 5 = 1 := by kernel_rfl
theorem uB5 : Tryz.prog.underlying 5 = some (.int .u8) := by kernel_rfl

section
variable {w : World} {base : Nat} {sp : Nat → Bool} {held : Bool} {enc : TypeId × Value → Unit}

theorem three {α : Type} {l : List α} (h : l.length = 3) : ∃ a b c, l = [a, b, c] := by
  match l, h with
  | [a, b, c], _ => exact ⟨a, b, c, rfl⟩

theorem verb_cells {fuel : Nat} {cs : List Value} {x : Vb} {p : List MemPlace} (h : DataW.trod enc Tryz.prog w base sp held fuel 48 cs = some (vbD x, p)) : cs = vbV x := by
  obtain ⟨xs, n, rfl, hx, hl, hxl, hall⟩ := DataW.trod_struct u48 h
  rw [fs48n] at hxl
  rw [c48] at hl
  have hxs : xs.map (·.1) = [.lit (.string x.1), .lit (.string x.2.1), .lit (.int .u8 x.2.2)] := (DataW.agg.inj (Prod.mk.inj hx).1).symm
  obtain ⟨a, b, c, rfl⟩ := three hxl
  have e1 : a.1 = .lit (.string x.1) := (List.cons.inj hxs).1
  have e2 : b.1 = .lit (.string x.2.1) := (List.cons.inj (List.cons.inj hxs).2).1
  have e3 : c.1 = .lit (.int .u8 x.2.2) := (List.cons.inj (List.cons.inj (List.cons.inj hxs).2).2).1
  obtain ⟨v1, v2, v3, rfl⟩ := three hl
  obtain ⟨f1, g1, k1⟩ := Option.map_eq_some_iff.1 fs48a
  obtain ⟨f2, g2, k2⟩ := Option.map_eq_some_iff.1 fs48b
  obtain ⟨f3, g3, k3⟩ := Option.map_eq_some_iff.1 fs48c
  simp only [Prod.mk.injEq] at k1 k2 k3
  have h1 := hall 0 f1 g1
  have h2 := hall 1 f2 g2
  have h3 := hall 2 f3 g3
  rw [k1.1, k1.2, c9] at h1
  rw [k2.1, k2.2, c9] at h2
  rw [k3.1, k3.2, c5] at h3
  simp only [List.drop_zero, List.take_succ_cons, List.take_zero, List.drop_succ_cons, List.getElem?_cons_zero, List.getElem?_cons_succ] at h1 h2 h3
  obtain ⟨s1, q1, r1, _⟩ := DataW.trod_string uStr h1
  obtain ⟨s2, q2, r2, _⟩ := DataW.trod_string uStr h2
  obtain ⟨z, q3, r3, _⟩ := DataW.trod_int uB5 h3
  rw [r1] at e1
  rw [r2] at e2
  rw [r3] at e3
  simp only [DataW.lit.injEq, Lit.string.injEq, Lit.int.injEq, true_and] at e1 e2 e3
  simp only [List.cons.injEq, and_true] at q1 q2 q3
  subst q1 q2 q3
  unfold vbV
  rw [← e1, ← e2, ← e3]

theorem chunks : ∀ (l : List (List Value)) (cs : List Value), cs.length = 3 * l.length → (∀ (i : Nat) x, l[i]? = some x → (cs.drop (i * 3)).take 3 = x) → cs = l.flatten
  | [], cs, hl, _ => by
    have : cs.length = 0 := by simpa using hl
    rw [List.eq_nil_of_length_eq_zero this]; rfl
  | x :: l, cs, hl, h => by
    have h0 := h 0 x rfl
    simp only [Nat.zero_mul, List.drop_zero] at h0
    have := chunks l (cs.drop 3) (by simp only [List.length_cons] at hl; simp only [List.length_drop]; omega) (fun i y hy => by
      have := h (i + 1) y (by simpa using hy)
      rw [List.drop_drop]
      rw [show 3 + i * 3 = (i + 1) * 3 by omega]
      exact this)
    rw [List.flatten_cons, ← this, ← h0, List.take_append_drop]

theorem verbs_cells {T n fuel : Nat} {cs : List Value} {l : List Vb} {p : List MemPlace} (hT : Tryz.prog.underlying T = some (.array n 48)) (hc : Tryz.prog.cellsOf T = 3 * n) (hn : l.length = n)
    (h : DataW.trod enc Tryz.prog w base sp held fuel T cs = some (.agg (l.map vbD), p)) : cs = (l.map vbV).flatten := by
  obtain ⟨xs, m, rfl, hx, hl, hxl, hall⟩ := DataW.trod_array hT h
  have hxs : xs.map (·.1) = l.map vbD := (DataW.agg.inj (Prod.mk.inj hx).1).symm
  refine chunks _ _ (by rw [hl, hc, List.length_map, hn]) ?_
  intro i x hi
  rw [List.getElem?_map, Option.map_eq_some_iff] at hi
  obtain ⟨v, hv, rfl⟩ := hi
  have hlt : i < n := by rw [← hn]; exact (List.getElem?_eq_some_iff.1 hv).1
  have h1 := hall i hlt
  rw [c48] at h1
  obtain ⟨y, hy⟩ : ∃ y, xs[i]? = some y := ⟨xs[i]'(by omega), List.getElem?_eq_getElem (by omega)⟩
  rw [hy] at h1
  have h2 : (xs.map (·.1))[i]? = some y.1 := by rw [List.getElem?_map, hy]; rfl
  rw [hxs, List.getElem?_map, hv] at h2
  simp only [Option.map_some, Option.some.injEq] at h2
  obtain ⟨d, p'⟩ := y
  simp only at h2
  subst h2
  exact verb_cells h1
end

theorem CRs_toSc {ρ : Map} : ∀ {xs : List AV} {vs : List Value}, toSc xs = some vs → CRs ρ xs vs
  | [], vs, h => by simp [toSc] at h; subst h; exact .nil
  | x :: xs, vs, h => by
    cases x <;> simp only [toSc, Option.map_eq_some_iff, reduceCtorEq] at h
    obtain ⟨l, hl, rfl⟩ := h
    exact .cons _ _ _ _ (.s _) (CRs_toSc hl)

/-- One table: from what is laid, and the world's shape. -/
theorem table_of {W : World} {nm : String} {g T n : Nat} {l : List Vb} (hs : W.ShapedOpen Tryz.prog) (hr : VarReads Tryz.prog W nm (.agg (l.map vbD))) (hg : Tryz.prog.globalNamed nm = some g) (hty : (Tryz.prog.globals[g]?).map (·.type) = some T) (hlt : g < Tryz.prog.globals.size)
    (hT : Tryz.prog.underlying T = some (.array n 48)) (hc : Tryz.prog.cellsOf T = 3 * n) (hn : l.length = n) (hrow : (((begin Tryz.prog (fun _ _ => 0) default).world.heap[g]?).bind Obj.row?).map (·.2) = some T) (hsc : toSc (rowOf g) = some (l.map vbV).flatten) :
    ∃ vs, W.heap[g]? = some (.cells vs T (0, 0)) ∧ vs.size = 3 * n ∧ ∀ ρ, CRs ρ (rowOf g) vs.toList := by
  obtain ⟨g', t', cs, fuel, p, hg', ht', hv, hd⟩ := hr
  obtain rfl := Option.some.inj (hg.symm.trans hg')
  obtain rfl := Option.some.inj (hty.symm.trans ht')
  obtain ⟨⟨zero, t⟩, hz, rfl⟩ := Option.map_eq_some_iff.1 hrow
  obtain ⟨cs', h1, h2, _⟩ := hs.1 g zero t hlt hz
  have hcs : cs' = cs := by
    unfold World.var? at hv
    rw [hg] at hv
    simp only [Option.bind_some, h1, Option.some.injEq] at hv
    exact hv
  subst hcs
  have hval := verbs_cells hT hc hn hd
  refine ⟨cs', h1, ?_, fun ρ => ?_⟩
  · have : cs'.toList.length = (l.map vbV).flatten.length := by rw [hval]
    rw [← Array.length_toList, this, List.length_flatten, List.map_map]
    have : ∀ l : List Vb, (l.map (List.length ∘ vbV)).sum = 3 * l.length := fun l => by
      induction l with
      | nil => rfl
      | cons x l ih => simp only [List.map_cons, List.sum_cons, ih, Function.comp, vbV, List.length_cons, List.length_nil]; omega
    rw [this, hn]
  · rw [hval]; exact CRs_toSc hsc

theorem laid_of {W : World} (hs : W.ShapedOpen Tryz.prog) (h : laidMetH Tryz.prog Rows.deskSaysRow.laid W) : Laid W ∧ TabIs Tryz.prog W "internal/strconv.uint64pow10" .u64 pow10Tab := by
  rw [MakeChecks.laidMetH_plain _ _ _ (by kernel_rfl)] at h
  have m0 : ("jointure/desk.early", DataW.agg (earlyL.map vbD)) ∈ Rows.deskSaysRow.laid := List.mem_of_getElem? (i := 5) (by kernel_rfl)
  have m1 : ("jointure/desk.deeds", DataW.agg (deedsL.map vbD)) ∈ Rows.deskSaysRow.laid := List.mem_of_getElem? (i := 6) (by kernel_rfl)
  have m2 : ("jointure/desk.asks", DataW.agg (asksL.map vbD)) ∈ Rows.deskSaysRow.laid := List.mem_of_getElem? (i := 7) (by kernel_rfl)
  have m3 : ("internal/strconv.uint64pow10", (tabData .u64 pow10Tab : DataW Unit)) ∈ Rows.deskSaysRow.laid := List.mem_of_getElem? (i := 2) (by kernel_rfl)
  refine ⟨⟨table_of (n := 6) hs (laidMet.reads h m0) (by kernel_rfl) (by kernel_rfl) (of_decide_eq_true (by kernel_rfl)) (by kernel_rfl) (by kernel_rfl) (by kernel_rfl) (by kernel_rfl) (by kernel_rfl),
    table_of (n := 15) hs (laidMet.reads h m1) (by kernel_rfl) (by kernel_rfl) (of_decide_eq_true (by kernel_rfl)) (by kernel_rfl) (by kernel_rfl) (by kernel_rfl) (by kernel_rfl) (by kernel_rfl),
    table_of (n := 11) hs (laidMet.reads h m2) (by kernel_rfl) (by kernel_rfl) (of_decide_eq_true (by kernel_rfl)) (by kernel_rfl) (by kernel_rfl) (by kernel_rfl) (by kernel_rfl) (by kernel_rfl)⟩, ?_⟩
  obtain ⟨g, t, cs, fuel, p, hg, ht, hv, hd⟩ := laidMet.reads h m3
  obtain rfl := Option.some.inj ((show Tryz.prog.globalNamed "internal/strconv.uint64pow10" = some 3 by kernel_rfl).symm.trans hg)
  unfold TabIs
  rw [hv]
  have htt : (Tryz.prog.globals[3]?).map (·.type) = some (194) := by kernel_rfl
  obtain rfl := Option.some.inj (htt.symm.trans ht)
  rw [← cells_of_tab (n := 20) (e := 36) (by kernel_rfl) (by kernel_rfl) (by kernel_rfl) (by kernel_rfl) hd]
end Go.Proofs.YtcakgpfemeholaaGreatDoor
