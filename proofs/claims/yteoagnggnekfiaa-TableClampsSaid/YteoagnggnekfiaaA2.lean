/- Operations over abstract values: what each needs and leaves, and that the machine's operation does so. No condition. -/
import Derived.Test.YteoagnggnekfiaaA1
import Derived.Laws.CopyRow
import Derived.Laws.StructEq
import Derived.Laws.Cells
import Derived.Laws.Tables
import Derived.Great.BuildSlice
namespace Go.Proofs.Yteoagnggnekfiaa
namespace Ab
open Go Go.RowKit

/-- Operands. -/
inductive AO where
  | t (n : Nat)
  | c (v : AV)
  | f (g : FuncId)
abbrev Env := Nat → AV
def aev (ρ : Env) : AO → AV
  | .t n => ρ n
  | .c v => v
  | .f g => .fn g [] []
def upd (ρ : Env) (d : Nat) (v : AV) : Env := fun i => if i = d then v else ρ i
def aput (ρ : Env) (d : Option Nat) (v : AV) : Env := match d with
  | some d => upd ρ d v
  | none => ρ

def ofC : Value → AV
  | .int k n => .int k n
  | .bool b => .bool b
  | .string s => .str s
  | .pointer none => .ptr none
  | .slice none 0 0 => .sl none 0 0 none
  | _ => .junk
def ofV : Value → AV
  | .agg cs => .agg (cs.toList.map ofC)
  | v => ofC v
theorem ofC_rel (μ : Mu) (v : Value) : Rel μ (ofC v) v := by
  unfold ofC
  split
  · exact .int _ _
  · exact .bool _
  · exact .str _
  · exact .pnil
  · exact .snil (fun x h => by cases h)
  · exact .junk _
theorem ofCs_rel (μ : Mu) (l : List Value) : RelA μ (l.map ofC) l := ⟨by simp, fun i u v hu hv => by
  rw [List.getElem?_map, hv] at hu
  simp at hu
  subst hu
  exact ofC_rel μ v⟩
theorem ofV_rel (μ : Mu) (v : Value) : Rel μ (ofV v) v := by
  unfold ofV
  split
  · exact (ofCs_rel μ _).agg
  · exact ofC_rel μ _

inductive AOp where
  | mv (x : AO)
  | pick (c a b : AO)
  | bin (op : BinOp) (x y : AO)
  | beq (neq : Bool) (x y : AO)
  | seq (neq : Bool) (x y : AO)
  | cat (x y : AO)
  | aeq (neq : Bool) (n : Nat) (x y : AO)
  | peq (neq : Bool) (x y : AO)
  | idxS (x i : AO)
  | un (op : UnOp) (x : AO)
  | cvI (k : IntKind) (x : AO)
  | idx (esz : Nat) (x i : AO)
  | idxA (n esz : Nat) (x i : AO)
  | fld (off : Nat) (x : AO)
  | ld (sz : Option Nat) (p : AO)
  | st (sz : Nat) (p v : AO)
  | nn (x : AO)
  | prt (sz : Option Nat) (off : Nat) (x : AO)
  | slc (esz : Nat) (x : AO) (lo hi : Option AO)
  | mk (e : TypeId) (esz bytes : Nat) (zero : List AV) (len cap : AO)
  | bsl (e : TypeId) (esz n : Nat) (zero : List AV) (parts : List (Nat × AO))
  | bld (zero : List AV) (parts : List (Nat × Nat × AO))
  | box (e : TypeId) (x : AO)
  | alloc (e : TypeId) (zero : List AV)
  | len (str : Bool) (x : AO)
  | capo (x : AO)
  | mnx (mx : Bool) (x : AO) (ys : List AO)
  | app (e : TypeId) (esz bytes : Nat) (s x : AO)
  | cpy (esz : Nat) (d s : AO)
  | mkf (f : FuncId) (first caps : List AO)
  | ext (x : AO) (i : Nat)
  | call (f : FuncId) (args : List AO)
  | callV (x : AO) (args : List AO)
  | bad

/-- A call, by what it needs and leaves. -/
def Inv (P : Program) (f : FuncId) (vs : Array Value) (w : World) (R : Value → World → Prop) : Prop :=
  ((callFunc f vs).run P w = .ok (.enter f vs) w ∧ Calls P f vs w (fun e w' => ∃ v, e = .returned v ∧ R v w')) ∨ (∃ v, (callFunc f vs).run P w = .ok (.value v) w ∧ R v w)
def ACalls (P : Program) (f : FuncId) (avs : List AV) (h : H) (K : AV → H → Prop) : Prop :=
  ∀ (base : Nat) (w0 : World) (μ : Mu) (w : World) (vs : List Value), Rep base w0 μ w h → RelA μ avs vs →
    Inv P f vs.toArray w (fun v w' => ∃ μ' r h', μ.le μ' ∧ Rel μ' r v ∧ Rep base w0 μ' w' h' ∧ K r h')

def abin (op : BinOp) (k : IntKind) (a b : Int) (K : AV → Prop) : Prop :=
  match op with
  | .add => K (.int k (k.wrap (a + b)))
  | .sub => K (.int k (k.wrap (a - b)))
  | .mul => K (.int k (k.wrap (a * b)))
  | .quo => b ≠ 0 ∧ K (.int k (k.wrap (a.tdiv b)))
  | .rem => b ≠ 0 ∧ K (.int k (a.tmod b))
  | .and => K (.int k (k.wrap (BitVec.ofInt k.bits a &&& BitVec.ofInt k.bits b).toNat))
  | .or => K (.int k (k.wrap (BitVec.ofInt k.bits a ||| BitVec.ofInt k.bits b).toNat))
  | .xor => K (.int k (k.wrap (BitVec.ofInt k.bits a ^^^ BitVec.ofInt k.bits b).toNat))
  | .eql => K (.bool (a == b))
  | .neq => K (.bool (a != b))
  | .lss => K (.bool (decide (a < b)))
  | .leq => K (.bool (decide (a ≤ b)))
  | .gtr => K (.bool (decide (a > b)))
  | .geq => K (.bool (decide (a ≥ b)))
  | _ => False
def ashift (op : BinOp) (k : IntKind) (a b : Int) (K : AV → Prop) : Prop :=
  match op with
  | .shl => 0 ≤ b ∧ K (.int k (k.wrap (a * 2 ^ (min b.toNat k.bits))))
  | .shr => 0 ≤ b ∧ K (.int k (a.fdiv (2 ^ (min b.toNat k.bits))))
  | _ => False
def abinV (op : BinOp) (x y : AV) (K : AV → Prop) : Prop :=
  match x, y with
  | .int k a, .int k' b =>
    match op with
    | .shl => ashift .shl k a b K
    | .shr => ashift .shr k a b K
    | op => k = k' ∧ abin op k a b K
  | _, _ => False
def putAt (l : List AV) (off : Nat) (m : List AV) : List AV := l.take off ++ m ++ l.drop (off + m.length)
def abuild : List AV → List (Nat × Nat × AV) → Option (List AV)
  | cs, [] => some cs
  | cs, (off, sz, v) :: rest => if v.held = true ∧ v.cells.length = sz ∧ off + sz ≤ cs.length then abuild (putAt cs off v.cells) rest else none
def boundOf (ρ : Env) (d : Nat) (lo : Option AO) (K : Nat → Prop) : Prop :=
  match lo with
  | none => K d
  | some x => match aev ρ x with
    | .int _ n => 0 ≤ n ∧ K n.toNat
    | _ => False
def zs (zero : List AV) (n : Nat) : List AV :=
  match zero with
  | [z] => List.replicate n z
  | _ => (List.replicate n zero).flatten
/-- Are rows of numbers one? -/
def eqs : List AV → List AV → Option Bool
  | [], [] => some true
  | .int k a :: l, .int k' b :: m => if k = k' then if a == b then eqs l m else some false else none
  | _, _ => none
def mnxs (mx : Bool) (k : IntKind) : Int → List AV → (AV → Prop) → Prop
  | a, [], K => K (.int k a)
  | a, .int k' b :: rest, K => k = k' ∧ mnxs mx k (if mx then max a b else min a b) rest K
  | _, _, _ => False

/-- What an operation needs and leaves. -/
def aexec (P : Program) (o : AOp) (ρ : Env) (h : H) (K : AV → H → Prop) : Prop :=
  match o with
  | .mv x => K (aev ρ x) h
  | .pick c a b => match aev ρ c with
    | .bool t => K (if t = true then aev ρ a else aev ρ b) h
    | _ => False
  | .bin op x y => abinV op (aev ρ x) (aev ρ y) (fun v => K v h)
  | .beq neq x y => match aev ρ x, aev ρ y with
    | .bool a, .bool b => K (.bool (if neq then a != b else a == b)) h
    | _, _ => False
  | .seq neq x y => match aev ρ x, aev ρ y with
    | .str a, .str b => K (.bool (neq != (a == b))) h
    | _, _ => False
  | .cat x y => match aev ρ x, aev ρ y with
    | .str a, .str b => a.size + b.size < 9223372036854775808 ∧ K (.str (a ++ b)) h
    | _, _ => False
  | .aeq neq n x y => match aev ρ x, aev ρ y with
    | .agg l, .agg m => l.length = n ∧ m.length = n ∧ ∃ b, eqs l m = some b ∧ K (.bool (neq != b)) h
    | _, _ => False
  | .peq neq x y => match aev ρ x, aev ρ y with
    | .ptr none, .ptr b => K (.bool (neq != b.isNone)) h
    | .ptr (some _), .ptr none => K (.bool neq) h
    | _, _ => False
  | .idxS x i => match aev ρ x, aev ρ i with
    | .str s, .int _ n => 0 ≤ n ∧ ∃ b, s[n.toNat]? = some b ∧ K (.int .u8 b.toNat) h
    | _, _ => False
  | .un op x => match op, aev ρ x with
    | .neg, .int k n => K (.int k (k.wrap (0 - n))) h
    | .xor, .int k n => K (.int k (k.wrap (BitVec.ofInt k.bits (if k.signed then -1 else k.max) ^^^ BitVec.ofInt k.bits n).toNat)) h
    | .not, .bool b => K (.bool (!b)) h
    | _, _ => False
  | .cvI k x => match aev ρ x with
    | .int _ n => K (.int k (k.wrap n)) h
    | _ => False
  | .idx esz x i => match aev ρ x, aev ρ i with
    | .sl (some id) off len _, .int _ n => 0 ≤ n ∧ n < len ∧ K (.ptr (some (id, off + n.toNat * esz))) h
    | _, _ => False
  | .idxA m esz x i => match aev ρ x, aev ρ i with
    | .ptr (some (id, off)), .int _ n => 0 ≤ n ∧ n < m ∧ K (.ptr (some (id, off + n.toNat * esz))) h
    | .gp g off, .int _ n => 0 ≤ n ∧ n < m ∧ K (.gp g (off + n.toNat * esz)) h
    | _, _ => False
  | .fld off x => match aev ρ x with
    | .ptr (some (id, o)) => K (.ptr (some (id, o + off))) h
    | _ => False
  | .ld sz p => match aev ρ p with
    | .ptr (some (id, off)) => match sz with
      | none => ∃ r v, h.rows id = some r ∧ r.cells[off]? = some v ∧ K v h
      | some n => ∃ r, h.rows id = some r ∧ off + n ≤ r.cells.length ∧ K (.agg ((r.cells.drop off).take n)) h
    | .gp g off => match sz with
      | none => ∃ n, gcell g off = some n ∧ K (.int .u8 n) h
      | some _ => False
    | _ => False
  | .st n p v => match aev ρ p with
    | .ptr (some (id, off)) => ∃ r, h.rows id = some r ∧ r.own ≠ none ∧ (aev ρ v).held = true ∧ (aev ρ v).cells.length = n ∧ off + n ≤ r.cells.length ∧ ((aev ρ v).cells.all (·.one)) = true ∧
        K .junk (h.set id { r with cells := putAt r.cells off (aev ρ v).cells })
    | _ => False
  | .nn x => match aev ρ x with
    | .ptr (some p) => K (.ptr (some p)) h
    | _ => False
  | .prt sz off x => match aev ρ x with
    | .agg l => match sz with
      | none => ∃ v, l[off]? = some v ∧ K v h
      | some n => off + n ≤ l.length ∧ K (.agg ((l.drop off).take n)) h
    | _ => False
  | .slc esz x lo hi => match aev ρ x with
    | .sl id off len cap => boundOf ρ len hi fun b => boundOf ρ 0 lo fun a => a ≤ b ∧ (b ≤ len ∨ ∃ c, cap = some c ∧ b ≤ c) ∧ (∀ i, id = some i → ∃ r, h.rows i = some r ∧ (r.own = none ∨ r.esz = esz)) ∧ K (.sl id (off + a * esz) (b - a) (cap.map (· - a))) h
    | _ => False
  | .mk e esz bytes zero len cap => match aev ρ len, aev ρ cap with
    | .int _ l, .int _ c => 0 ≤ l ∧ l ≤ c ∧ bytes * c ≤ 140737488355328 ∧ K (.sl (some h.next) 0 l.toNat (some c.toNat)) (h.new ⟨some e, esz, zs zero c.toNat⟩)
    | _, _ => False
  | .bsl e esz n zero parts => ∃ l, abuild (zs zero n) (parts.map fun p => (p.1 * esz, esz, aev ρ p.2)) = some l ∧ K (.sl (some h.next) 0 n (some n)) (h.new ⟨some e, esz, l⟩)
  | .bld zero parts => ∃ l, abuild zero (parts.map fun p => (p.1, p.2.1, aev ρ p.2.2)) = some l ∧ K (.agg l) h
  | .box e x => (aev ρ x).held = true ∧ K (.ptr (some (h.next, 0))) (h.new ⟨some e, (aev ρ x).cells.length, (aev ρ x).cells⟩)
  | .alloc e zero => K (.ptr (some (h.next, 0))) (h.new ⟨some e, zero.length, zero⟩)
  | .len str x => match str, aev ρ x with
    | false, .sl _ _ n _ => K (.int .i64 n) h
    | true, .str s => K (.int .i64 s.size) h
    | _, _ => False
  | .capo x => match aev ρ x with
    | .sl _ _ _ (some n) => K (.int .i64 n) h
    | _ => False
  | .mnx mx x ys => match aev ρ x with
    | .int k a => mnxs mx k a (ys.map (aev ρ)) fun v => K v h
    | _ => False
  | .app e esz bytes s x => match aev ρ s, aev ρ x with
    | .sl ids offs n cs, .sl idx offx m _ =>
      (m = 0 → K (.sl ids offs n cs) h) ∧
      (m ≠ 0 → ∃ j r, idx = some j ∧ h.rows j = some r ∧ offx + m * esz ≤ r.cells.length ∧ (((r.cells.drop offx).take (m * esz)).all (·.one)) = true ∧ (n + m) * bytes ≤ 140737488355328 ∧ n + m ≤ 140737488355328 ∧
        ((ids = none ∧ n = 0 ∧ K (.sl (some h.next) 0 m none) (h.new ⟨some e, esz, (r.cells.drop offx).take (m * esz)⟩)) ∨
         (∃ i q, ids = some i ∧ h.rows i = some q ∧ q.own = some e ∧ q.esz = esz ∧ offs = 0 ∧ n * esz ≤ q.cells.length ∧
          K (.sl (some h.next) 0 (n + m) none) ((h.del ids).new ⟨some e, esz, q.cells.take (n * esz) ++ (r.cells.drop offx).take (m * esz)⟩))))
    | _, _ => False
  | .cpy esz d s => match aev ρ d, aev ρ s with
    | .sl idd offd n _, .sl ids offs m _ =>
      (min m n = 0 → K (.int .i64 0) h) ∧
      (min m n ≠ 0 → ∃ i q j r, idd = some i ∧ h.rows i = some q ∧ q.own ≠ none ∧ ids = some j ∧ h.rows j = some r ∧ offs + min m n * esz ≤ r.cells.length ∧ offd + min m n * esz ≤ q.cells.length ∧
        (((r.cells.drop offs).take (min m n * esz)).all (·.one)) = true ∧ K (.int .i64 (min m n)) (h.set i { q with cells := putAt q.cells offd ((r.cells.drop offs).take (min m n * esz)) }))
    | _, _ => False
  | .mkf f first caps => K (.fn f (first.map (aev ρ)) (caps.map (aev ρ))) h
  | .ext x i => match aev ρ x with
    | .tup l => ∃ v, l[i]? = some v ∧ K v h
    | _ => False
  | .call f args => ACalls P f (args.map (aev ρ)) h K
  | .callV x args => match aev ρ x with
    | .fn f first caps => ACalls P f (first ++ args.map (aev ρ) ++ caps) h K
    | _ => False
  | .bad => False

/-- The machine's operation in this form. -/
def cop (n : Nat) : Operand → AO
  | .tmp t => if t < n then .t t else .c .junk
  | .const v => .c (ofV v)
  | .func f => .f f
  | .global g => .c (.gp g 0)
def szT (P : Program) (t : TypeId) : Option (Option Nat) :=
  match P.underlying t, P.info? t with
  | some (.struct _), some i => some (some i.size)
  | some (.array _ _), some i => some (some i.size)
  | some _, some _ => some none
  | _, _ => none
def aeqOk (P : Program) (t : TypeId) : Bool :=
  !P.stoodInHeld t && !P.eqGuardType P.depth t && (P.fieldsOf t).toList.zipIdx.all fun p => p.1.offset == p.2 && p.1.name != "_" && (match P.underlying p.1.type with | some (.int _) => true | _ => false) && szT P p.1.type == some none
def cop2 (n : Nat) (p : Nat × Operand) : Nat × AO := (p.1, cop n p.2)
def compileOp (P : Program) (n : Nat) (o : Op) : AOp :=
  match o with
  | .move x => .mv (cop n x)
  | .assign x => .mv (cop n x)
  | .pick c a b => .pick (cop n c) (cop n a) (cop n b)
  | .binOp op t x y _ => match op, P.underlying t with
    | .eql, some .bool => .beq false (cop n x) (cop n y)
    | .neq, some .bool => .beq true (cop n x) (cop n y)
    | .eql, some (.pointer _) => .peq false (cop n x) (cop n y)
    | .neq, some (.pointer _) => .peq true (cop n x) (cop n y)
    | .add, some .string => .cat (cop n x) (cop n y)
    | .eql, some .string => .seq false (cop n x) (cop n y)
    | .neq, some .string => .seq true (cop n x) (cop n y)
    | .eql, some (.struct fs) => if aeqOk P t then .aeq false fs.size (cop n x) (cop n y) else .bad
    | .neq, some (.struct fs) => if aeqOk P t then .aeq true fs.size (cop n x) (cop n y) else .bad
    | op, some (.int _) => .bin op (cop n x) (cop n y)
    | _, _ => .bad
  | .unOp op _ x => .un op (cop n x)
  | .convert s d x => match P.underlying s, P.underlying d with
    | some (.int _), some (.int k) => .cvI k (cop n x)
    | _, _ => .bad
  | .indexAddr t x i => match P.underlying t with
    | some (.slice e) => match P.info? e with
      | some ie => .idx ie.size (cop n x) (cop n i)
      | none => .bad
    | some (.array m e) => match P.info? e with
      | some ie => .idxA m ie.size (cop n x) (cop n i)
      | none => .bad
    | _ => .bad
  | .index t x i => match P.underlying t with
    | some .string => .idxS (cop n x) (cop n i)
    | _ => .bad
  | .fieldAddr t x i => match P.underlying t with
    | some (.struct fs) => match fs[i]? with
      | some f => match P.info? f.type with
        | some it => if it.size = 0 then .bad else .fld f.offset (cop n x)
        | none => .bad
      | none => .bad
    | _ => .bad
  | .load t p => match szT P t with
    | some s => .ld s (cop n p)
    | none => .bad
  | .store t p v => match P.info? t with
    | some i => .st i.size (cop n p) (cop n v)
    | none => .bad
  | .nilCheck x => .nn (cop n x)
  | .field t x i => match P.underlying t with
    | some (.struct fs) => match fs[i]? with
      | some f => match szT P f.type with
        | some s => .prt s f.offset (cop n x)
        | none => .bad
      | none => .bad
    | _ => .bad
  | .slice t x lo hi none => match P.underlying t with
    | some (.slice e) => match P.info? e with
      | some ie => .slc ie.size (cop n x) (lo.map (cop n)) (hi.map (cop n))
      | none => .bad
    | _ => .bad
  | .makeSlice t l c => match P.underlying t with
    | some (.slice e) => match P.info? e with
      | some ie => match ie.zero with
        | some z => if z.cells.size = ie.size ∧ 0 < ie.size ∧ 0 < ie.bytes then .mk e ie.size ie.bytes (z.cells.toList.map ofC) (cop n l) (cop n c) else .bad
        | none => .bad
      | none => .bad
    | _ => .bad
  | .buildSlice t len parts => match P.underlying t with
    | some (.slice e) => match P.info? e with
      | some ie => match ie.zero with
        | some z => if z.cells.size = ie.size ∧ len * ie.size ≤ 2 ^ 24 ∧ len * ie.size ≠ 0 then .bsl e ie.size len (z.cells.toList.map ofC) (parts.toList.map (cop2 n)) else .bad
        | none => .bad
      | none => .bad
    | _ => .bad
  | .build t parts => match P.info? t, P.underlying t with
    | some it, some (.array _ e) => match it.zero, P.info? e with
      | some z, some ie => .bld (z.cells.toList.map ofC) (parts.toList.map fun p => (p.1 * ie.size, ie.size, cop n p.2))
      | _, _ => .bad
    | some it, some (.struct fields) => match it.zero, fields.toList.mapM (fun f => (P.info? f.type).map fun i => (f.offset, i.size)) with
      | some z, some places => match parts.toList.mapM (fun p => (places[p.1]?).map fun q => (q.1, q.2, cop n p.2)) with
        | some l => .bld (z.cells.toList.map ofC) l
        | none => .bad
      | _, _ => .bad
    | _, _ => .bad
  | .box e x => .box e (cop n x)
  | .alloc e => match P.info? e with
    | some i => match i.zero with
      | some z => .alloc e (z.cells.toList.map ofC)
      | none => .bad
    | none => .bad
  | .extract x i => .ext (cop n x) i
  | .makeFunc (.func f) first caps => .mkf f (first.toList.map (cop n)) (caps.toList.map (cop n))
  | .call c => match c.callee with
    | .value (.func f) => .call f (c.args.toList.map (cop n))
    | .value x => .callV (cop n x) (c.args.toList.map (cop n))
    | .builtin .len => match c.args.toList, c.argTypes.toList with
      | [x], [t] => match P.underlying t with
        | some (.slice _) => .len false (cop n x)
        | some .string => .len true (cop n x)
        | _ => .bad
      | _, _ => .bad
    | .builtin .cap => match c.args.toList, c.argTypes.toList with
      | [x], [t] => match P.underlying t with
        | some (.slice _) => .capo (cop n x)
        | _ => .bad
      | _, _ => .bad
    | .builtin .min => match c.args.toList with
      | x :: ys => .mnx false (cop n x) (ys.map (cop n))
      | _ => .bad
    | .builtin .max => match c.args.toList with
      | x :: ys => .mnx true (cop n x) (ys.map (cop n))
      | _ => .bad
    | .builtin .append => match c.args.toList, c.argTypes.toList with
      | [s, x], [t, t'] => if t = t' then match P.underlying t with
        | some (.slice e) => match P.info? e with
          | some ie => match ie.zero with
            | some z => if z.cells.size = ie.size ∧ 0 < ie.size then .app e ie.size ie.bytes (cop n s) (cop n x) else .bad
            | none => .bad
          | none => .bad
        | _ => .bad else .bad
      | _, _ => .bad
    | .builtin .copy => match c.args.toList, c.argTypes.toList with
      | [d, s], [t, _] => match P.underlying t with
        | some (.slice e) => match P.info? e with
          | some ie => .cpy ie.size (cop n d) (cop n s)
          | none => .bad
        | _ => .bad
      | _, _ => .bad
    | _ => .bad
  | _ => .bad

def RelT (n : Nat) (μ : Mu) (ρ : Env) (a : Act) : Prop := a.tmps.size = n ∧ ∀ t, t < n → Rel μ (ρ t) (a.tmps.getD t undef)
theorem cop_rel {n : Nat} {μ : Mu} {ρ : Env} {a : Act} (h : RelT n μ ρ a) (x : Operand) : Rel μ (aev ρ (cop n x)) (a.eval x) := by
  cases x with
  | tmp t =>
    simp only [cop]
    by_cases ht : t < n
    · rw [if_pos ht]; exact h.2 t ht
    · rw [if_neg ht]; exact .junk _
  | const v => exact ofV_rel μ v
  | global g => exact .gp g 0
  | func f => exact .fn rfl (fun i u v hu => by simp at hu) rfl (fun i u v hu => by simp at hu)
theorem cops_rel {n : Nat} {μ : Mu} {ρ : Env} {a : Act} (h : RelT n μ ρ a) (l : List Operand) : RelA μ ((l.map (cop n)).map (aev ρ)) (l.map a.eval) :=
  ⟨by simp, fun i u v hu hv => by
    simp only [List.getElem?_map, Option.map_map] at hu hv
    cases hl : l[i]? with
    | none => rw [hl] at hu; simp at hu
    | some x =>
      rw [hl] at hu hv
      simp at hu hv
      subst hu; subst hv
      exact cop_rel h x⟩
end Ab
end Go.Proofs.Yteoagnggnekfiaa
