/-
  THE ABSTRACT MACHINE: operations that change nothing, and that they are sound.
-/
import Derived.Test.YtgbkilmgmnhokaaAm2
set_option linter.unusedSimpArgs false
set_option linter.unusedVariables false
namespace Go.Am
open Go

def rd (env : List AV) : Operand → AV
  | .tmp t => env.getD t .u
  | .const v => ofV v
  | .global _ => .u
  | .func f => .f f [] []

def strip : AV → AV
  | .w .. => .u
  | x => x

def fieldO (P : Program) (T : TypeId) (f : Nat) : Option Field :=
  match P.underlying T with
  | some (.struct fs) => fs[f]?
  | _ => none

/-- The index of an array's or a slice's element, and its size. -/
def arrO (P : Program) (T : TypeId) : Option (Nat × TypeId) :=
  match P.underlying T with
  | some (.array n e) => some (n, e)
  | _ => none
def sliceO (P : Program) (T : TypeId) : Option TypeId :=
  match P.underlying T with
  | some (.slice e) => some e
  | _ => none

def idx (x : AV) (n : Nat) : Option Nat :=
  match x with
  | .s (.i _ i) => if 0 ≤ i ∧ i < n then some i.toNat else none
  | _ => none

/-- Two numbers. -/
def intBin (op : BinOp) (k : IntKind) (a b : Int) : Option Sc :=
  match op with
  | .add => some (.i k (k.wrap (a + b)))
  | .sub => some (.i k (k.wrap (a - b)))
  | .mul => some (.i k (k.wrap (a * b)))
  | .quo => if b = 0 then none else some (.i k (k.wrap (a.tdiv b)))
  | .rem => if b = 0 then none else some (.i k (a.tmod b))
  | .and => some (.i k (k.wrap (BitVec.ofInt k.bits a &&& BitVec.ofInt k.bits b).toNat))
  | .or => some (.i k (k.wrap (BitVec.ofInt k.bits a ||| BitVec.ofInt k.bits b).toNat))
  | .xor => some (.i k (k.wrap (BitVec.ofInt k.bits a ^^^ BitVec.ofInt k.bits b).toNat))
  | .andNot => some (.i k (k.wrap (BitVec.ofInt k.bits a &&& ~~~(BitVec.ofInt k.bits b)).toNat))
  | .eql => some (.b (a == b))
  | .neq => some (.b (a != b))
  | .lss => some (.b (a < b))
  | .leq => some (.b (a ≤ b))
  | .gtr => some (.b (a > b))
  | .geq => some (.b (a ≥ b))
  | _ => none

def shiftBin (op : BinOp) (k : IntKind) (a b : Int) : Option Sc :=
  if b < 0 then none else
  match op with
  | .shl => some (.i k (k.wrap (a * 2 ^ (min b.toNat k.bits))))
  | .shr => some (.i k (a.fdiv (2 ^ (min b.toNat k.bits))))
  | _ => none

def isShift : BinOp → Bool
  | .shl | .shr => true
  | _ => false

def scVal (P : Program) (s : Sem Value) : Option AV := (evalPure P s).map ofV

def binAV (P : Program) (op : BinOp) (T : TypeId) (x y : Operand) (a b : AV) : Option AV :=
  match a, b with
  | .s (.i k m), .s (.i k' n) =>
    if isShift op then (shiftBin op k m n).map .s
    else if k = k' then (intBin op k m n).map .s else none
  | .p _ _, .s .pn =>
    match P.underlying T, op with
    | some (.pointer _), .eql => some (.s (.b false))
    | some (.pointer _), .neq => some (.s (.b true))
    | _, _ => none
  | _, _ =>
    match toV a, toV b with
    | some v, some u => scVal P (do eqGuard op T x y v u; binOp op T v u)
    | _, _ => none

def lenAV (P : Program) (S : List Blk) (T : TypeId) (x : AV) : Option AV :=
  match P.underlying T, x with
  | some (.slice _), .s .sn => some (.s (.i .i64 0))
  | some (.slice _), .l n _ => some (.s (.i .i64 n))
  | some (.slice _), .r m => match S[m]? with | some (.row _ _ n _) => some (.s (.i .i64 n)) | _ => none
  | some .string, .s (.str s) => some (.s (.i .i64 s.size))
  | some (.array n _), _ => some (.s (.i .i64 n))
  | _, _ => none

/-- The operations that change nothing. -/
def xPure (P : Program) (st : St) (o : Oper) : Option AV :=
  match o.op with
  | .move x | .assign x => some (rd st.env x)
  | .pick c a b => match rd st.env c with | .s (.b t) => some (if t then rd st.env a else rd st.env b) | _ => none
  | .nilCheck x => match rd st.env x with | .p id off => some (.p id off) | .e cs => some (.e cs) | .f fn fs cs => some (.f fn fs cs) | _ => none
  | .load T x =>
    match rd st.env x with
    | .p id off => match getB st.S st.O id with | some (.box _ cs) => partAV P T ((cs.map strip).drop off) 0 | some (.row _ _ _ cs) => partAV P T (cs.drop off) 0 | _ => none
    | .e cs => partAV P T cs 0
    | _ => none
  | .fieldAddr T x f =>
    match fieldO P T f with
    | some fd => match szO P fd.type with
      | some (_ + 1) => match rd st.env x with
        | .p id off => some (.p id (off + fd.offset))
        | .e cs => some (.e (cs.drop fd.offset))
        | _ => none
      | _ => none
    | none => none
  | .field T x f =>
    match fieldO P T f, rd st.env x with
    | some fd, .a cs => partAV P fd.type cs fd.offset
    | _, _ => none
  | .indexAddr T x i =>
    match rd st.env x with
    | .p id off => match arrO P T with
      | some (n, e) => match szO P e, idx (rd st.env i) n with | some sz, some j => some (.p id (off + j * sz)) | _, _ => none
      | none => none
    | .e cs => match arrO P T with
      | some (n, e) => match szO P e, idx (rd st.env i) n with | some sz, some j => some (.e (cs.drop (j * sz))) | _, _ => none
      | none => none
    | .l n cs => match sliceO P T with
      | some e => match szO P e, idx (rd st.env i) n with | some sz, some j => some (.e (cs.drop (j * sz))) | _, _ => none
      | none => none
    | .r m => match st.S[m]?, sliceO P T with
      | some (.row _ _ n _), some e => match szO P e, idx (rd st.env i) n with | some sz, some j => some (.p (.s m) (j * sz)) | _, _ => none
      | _, _ => none
    | _ => none
  | .index T x i =>
    match rd st.env x with
    | .a cs => match arrO P T with
      | some (n, e) => match szO P e, idx (rd st.env i) n with | some sz, some j => partAV P e cs (j * sz) | _, _ => none
      | none => none
    | .s (.str s) => match toV (rd st.env i) with | some v => scVal P (Instr.index T (.string s) v) | none => none
    | _ => none
  | .extract x k => match rd st.env x with | .t vs => vs[k]? | _ => none
  | .binOp op T x y _ => binAV P op T x y (rd st.env x) (rd st.env y)
  | .unOp op _ x => match rd st.env x with
    | .s (.b t) => match op with | .not => some (.s (.b !t)) | _ => none
    | x => match toV x with | some v => scVal P (Op.unary op v) | none => none
  | .convert T T' x => match rd st.env x with
    | .s (.i k n) => match P.underlying T, P.underlying T' with
      | some (.int _), some (.int k') => some (.s (.i k' (k'.wrap n)))
      | _, _ => scVal P (convert T T' (.int k n))
    | x => match toV x with | some v => scVal P (convert T T' v) | none => none
  | .makeFunc (.func f) fs cs => some (.f f (fs.toList.map (rd st.env)) (cs.toList.map (rd st.env)))
  | .slice T x lo hi none =>
    match rd st.env x with
    | .s (.str s) => match (lo.map fun y => toV (rd st.env y)), (hi.map fun y => toV (rd st.env y)) with
      | some none, _ => none
      | _, some none => none
      | lo', hi' => scVal P (Instr.sliceAt T (.string s) (lo'.bind id) (hi'.bind id) none)
    | _ => none
  | .call { callee := .builtin b, args, argTypes } =>
    match b, args.toList, argTypes.toList with
    | .len, [x], [T] => lenAV P st.S T (rd st.env x)
    | .append, _, _ | .copy, _, _ | .clear, _, _ | .panic, _, _ | .recover, _, _ => none
    | .real, [x], _ => match rd st.env x with | .s (.cx k re _) => some (.s (.fl k re)) | _ => none
    | .imag, [x], _ => match rd st.env x with | .s (.cx k _ im) => some (.s (.fl k im)) | _ => none
    | .complex, [x, y], _ => match rd st.env x, rd st.env y with | .s (.fl k re), .s (.fl k' im) => if k = k' then some (.s (.cx k re im)) else none | _, _ => none
    | _, _, _ => none
  | _ => none

section
variable {P : Program} {w : World} {G : Ghost} {S O : List Blk}

theorem scVal_sound {s : Sem Value} {x : AV} (h : scVal P s = some x) : ∃ v, s.run P w = .ok v w ∧ CR w G S x v := by
  unfold scVal at h
  simp only [Option.map_eq_some_iff] at h
  obtain ⟨v, hv, rfl⟩ := h
  exact ⟨v, evalPure_run hv w, CR_ofV v⟩

theorem intBin_sound {op : BinOp} {k : IntKind} {a b : Int} {r : Sc} (h : intBin op k a b = some r) (hs : isShift op = false) (T : TypeId) (x y : Operand) :
    (do eqGuard op T x y (.int k a) (.int k b); binOp op T (.int k a) (.int k b) : Sem Value).run P w = .ok r.val w := by
  cases op <;> simp only [intBin, Option.some.injEq, reduceCtorEq, isShift] at h hs <;>
    first
      | (subst h; simp [eqGuard, binOp, Op.intArith, Op.intBits, Op.intCmp, Sc.val]; done)
      | (split at h <;> simp at h; subst h; rename_i hb; simp [eqGuard, binOp, Op.intDiv, Sc.val, hb])

theorem shiftBin_sound {op : BinOp} {k k' : IntKind} {a b : Int} {r : Sc} (h : shiftBin op k a b = some r) (T : TypeId) (x y : Operand) :
    (do eqGuard op T x y (.int k a) (.int k' b); binOp op T (.int k a) (.int k' b) : Sem Value).run P w = .ok r.val w := by
  unfold shiftBin at h
  split at h
  · cases h
  · rename_i hb
    cases op <;> simp only [Option.some.injEq, reduceCtorEq] at h <;> (subst h; simp [eqGuard, binOp, Op.shift, Sc.val, hb])

theorem eqIn_ptr_nil {T e : TypeId} (hu : P.underlying T = some (.pointer e)) (d : Nat) (a : Addr) : (Op.equalIn (d + 1) T (.pointer (some a)) (.pointer none)).run P w = .ok false w := by
  unfold Op.equalIn
  simp [run_underlying hu]

theorem eq_ptr_nil {T e : TypeId} (hu : P.underlying T = some (.pointer e)) (a : Addr) (x y : Operand) :
    (do eqGuard .eql T x y (.pointer (some a)) (.pointer none); binOp .eql T (.pointer (some a)) (.pointer none) : Sem Value).run P w = .ok (.bool false) w := by
  have h : (Op.equal T (.pointer (some a)) (.pointer none)).run P w = .ok false w := eqIn_ptr_nil hu 9999 a
  have hg : (eqGuard .eql T x y (.pointer (some a)) (.pointer none)).run P w = .ok () w := by simp [eqGuard]
  rw [Sem.run_bind, hg, Result.andThen_ok]
  simp only [binOp, Sem.run_bind, h, Result.andThen_ok, Sem.run_pure]

theorem neq_ptr_nil {T e : TypeId} (hu : P.underlying T = some (.pointer e)) (a : Addr) (x y : Operand) :
    (do eqGuard .neq T x y (.pointer (some a)) (.pointer none); binOp .neq T (.pointer (some a)) (.pointer none) : Sem Value).run P w = .ok (.bool true) w := by
  have h : (Op.equal T (.pointer (some a)) (.pointer none)).run P w = .ok false w := eqIn_ptr_nil hu 9999 a
  have hg : (eqGuard .neq T x y (.pointer (some a)) (.pointer none)).run P w = .ok () w := by simp [eqGuard]
  rw [Sem.run_bind, hg, Result.andThen_ok]
  simp only [binOp, Sem.run_bind, h, Result.andThen_ok, Sem.run_pure, Bool.not_false]

theorem binAV_sound {op : BinOp} {T : TypeId} {x y : Operand} {a b r : AV} {v u : Value} (h : binAV P op T x y a b = some r) (ha : CR w G S a v) (hb : CR w G S b u) :
    ∃ q, (do eqGuard op T x y v u; binOp op T v u : Sem Value).run P w = .ok q w ∧ CR w G S r q := by
  unfold binAV at h
  split at h
  · rename_i k m k' n
    cases ha; cases hb
    split at h
    · simp only [Option.map_eq_some_iff] at h
      obtain ⟨s, hs, rfl⟩ := h
      exact ⟨_, shiftBin_sound hs T x y, .s s⟩
    · rename_i hsh
      split at h
      · rename_i hk; subst hk
        simp only [Option.map_eq_some_iff] at h
        obtain ⟨s, hs, rfl⟩ := h
        exact ⟨_, intBin_sound hs (by simpa using hsh) T x y, .s s⟩
      · cases h
  · rename_i id off
    cases ha; cases hb
    split at h
    · rename_i e hu
      simp at h; subst h
      exact ⟨.bool false, eq_ptr_nil hu _ x y, .s (.b false)⟩
    · rename_i e hu
      simp at h; subst h
      exact ⟨.bool true, neq_ptr_nil hu _ x y, .s (.b true)⟩
    · cases h
  · split at h
    · rename_i v' u' hv hu
      rw [toV_CR hv ha, toV_CR hu hb]
      exact scVal_sound h
    · cases h

theorem rd_sound {env : List AV} {a : Act} (hc : CRs w G S env a.tmps.toList) (x : Operand) : CR w G S (rd env x) (a.eval x) := by
  cases x with
  | tmp t =>
    simp only [rd, Act.eval]
    cases ht : env[t]? with
    | none => simp [List.getD, ht]; exact .u _
    | some v =>
      obtain ⟨u, hu, hcr⟩ := hc.get ht
      have : a.tmps[t]? = some u := by simpa using hu
      simp [List.getD, ht, Array.getD_eq_getD_getElem?, this]; exact hcr
  | const v => exact CR_ofV v
  | global g => exact .u _
  | func f => exact .f f [] [] [] [] .nil .nil

theorem rds_sound {env : List AV} {a : Act} (hc : CRs w G S env a.tmps.toList) (l : List Operand) : CRs w G S (l.map (rd env)) (l.map a.eval) := by
  induction l with
  | nil => exact .nil
  | cons x l ih => exact .cons _ _ _ _ (rd_sound hc x) ih

theorem lenAV_sound {T : TypeId} {x r : AV} {v : Value} (h : lenAV P S T x = some r) (hx : CR w G S x v) (tys : Array TypeId) (ht : tys = #[T]) (ty : TypeId) :
    ∃ q, (Builtin.len_ tys ty #[v]).run P w = .ok q w ∧ CR w G S r q := by
  subst ht
  unfold lenAV at h
  split at h
  · rename_i e hu; simp at h; subst h; cases hx
    exact ⟨.int .i64 0, by simp [Builtin.len_, run_underlying hu, Sc.val, goInt], .s (.i .i64 0)⟩
  · rename_i e n cs hu; simp at h; subst h
    cases hx with | l n cs A c vs =>
    exact ⟨.int .i64 n, by simp [Builtin.len_, run_underlying hu, goInt], .s (.i .i64 n)⟩
  · rename_i e m hu
    split at h <;> simp at h
    subst h
    rename_i e' sz n cs hS
    cases hx with | r m e2 sz2 n2 cs2 vs v hS2 hh =>
    rw [hS] at hS2; injection hS2 with hS2; injection hS2 with h1 h2 h3 h4; subst h1 h2 h3 h4
    obtain ⟨_, _, hh⟩ := hh
    rcases hh with ⟨rfl, rfl⟩ | ⟨b, cap, cur, rfl, _⟩
    · exact ⟨.int .i64 0, by simp [Builtin.len_, run_underlying hu, goInt], .s (.i .i64 0)⟩
    · exact ⟨.int .i64 n, by simp [Builtin.len_, run_underlying hu, goInt], .s (.i .i64 n)⟩
  · rename_i s hu; simp at h; subst h; cases hx
    exact ⟨.int .i64 s.size, by simp [Builtin.len_, run_underlying hu, Sc.val, goInt], .s (.i .i64 s.size)⟩
  · rename_i n e hu; simp at h; subst h
    exact ⟨.int .i64 n, by simp [Builtin.len_, run_underlying hu, goInt], .s (.i .i64 n)⟩
  · cases h

theorem idx_sound {x : AV} {v : Value} {n j : Nat} (h : idx x n = some j) (hx : CR w G S x v) : ∃ k i, v = .int k i ∧ 0 ≤ i ∧ i < n ∧ j = i.toNat := by
  unfold idx at h
  split at h
  · split at h <;> simp at h
    rename_i k i hb
    cases hx
    exact ⟨k, i, rfl, hb.1, hb.2, h.symm⟩
  · cases h
end
end Go.Am
