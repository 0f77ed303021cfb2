/- Symbolic steps: what each operation asks and leaves, in the form that simp runs. No condition. -/
import Derived.Test.YteoagnggnekfiaaA10
namespace Go.Proofs.Yteoagnggnekfiaa
namespace Ab
open Go Go.RowKit

section
variable {P : Program} {ρ : Env} {h : H} {K : AV → H → Prop}
def bAnd (k : IntKind) (a b : Int) : Int := k.wrap (BitVec.ofInt k.bits a &&& BitVec.ofInt k.bits b).toNat
def bOr (k : IntKind) (a b : Int) : Int := k.wrap (BitVec.ofInt k.bits a ||| BitVec.ofInt k.bits b).toNat
def bXor (k : IntKind) (a b : Int) : Int := k.wrap (BitVec.ofInt k.bits a ^^^ BitVec.ofInt k.bits b).toNat
def bCom (k : IntKind) (n : Int) : Int := k.wrap (BitVec.ofInt k.bits (if k.signed then -1 else k.max) ^^^ BitVec.ofInt k.bits n).toNat
def bShl (k : IntKind) (a : Int) (n : Nat) : Int := k.wrap (a * 2 ^ (min n k.bits))
def bShr (k : IntKind) (a : Int) (n : Nat) : Int := a.fdiv (2 ^ (min n k.bits))
def H.get (h : H) (id off : Nat) : Option AV := (h.rows id).bind fun r => r.cells[off]?
def H.gets (h : H) (id off n : Nat) : Option (List AV) := (h.rows id).bind fun r => if off + n ≤ r.cells.length then some ((r.cells.drop off).take n) else none

def vK (v : AV) (h : H) (K : AV → H → Prop) : Prop := K v h
def pickK (c a b : AV) (h : H) (K : AV → H → Prop) : Prop := match c with
  | .bool t => K (if t = true then a else b) h
  | _ => False
def binK (op : BinOp) (x y : AV) (h : H) (K : AV → H → Prop) : Prop := abinV op x y (fun v => K v h)
def beqK (ng : Bool) (x y : AV) (h : H) (K : AV → H → Prop) : Prop := match x, y with
  | .bool a, .bool b => K (.bool (if ng then a != b else a == b)) h
  | _, _ => False
def peqK (ng : Bool) (x y : AV) (h : H) (K : AV → H → Prop) : Prop := match x, y with
  | .ptr none, .ptr b => K (.bool (ng != b.isNone)) h
  | .ptr (some _), .ptr none => K (.bool ng) h
  | _, _ => False
def idxSK (x i : AV) (h : H) (K : AV → H → Prop) : Prop := match x, i with
  | .str s, .int _ n => 0 ≤ n ∧ ∃ b, s[n.toNat]? = some b ∧ K (.int .u8 b.toNat) h
  | _, _ => False
def seqK (ng : Bool) (x y : AV) (h : H) (K : AV → H → Prop) : Prop := match x, y with
  | .str a, .str b => K (.bool (ng != (a == b))) h
  | _, _ => False
def catK (x y : AV) (h : H) (K : AV → H → Prop) : Prop := match x, y with
  | .str a, .str b => a.size + b.size < 9223372036854775808 ∧ K (.str (a ++ b)) h
  | _, _ => False
def eqsK (ng : Bool) (b : Option Bool) (h : H) (K : AV → H → Prop) : Prop := match b with
  | some b => K (.bool (ng != b)) h
  | none => False
def aeqK (ng : Bool) (n : Nat) (x y : AV) (h : H) (K : AV → H → Prop) : Prop := match x, y with
  | .agg l, .agg m => l.length = n ∧ m.length = n ∧ eqsK ng (eqs l m) h K
  | _, _ => False
def gldK (o : Option Nat) (h : H) (K : AV → H → Prop) : Prop := match o with
  | some n => K (.int .u8 n) h
  | none => False
def unK (op : UnOp) (x : AV) (h : H) (K : AV → H → Prop) : Prop := match op, x with
  | .neg, .int k n => K (.int k (k.wrap (0 - n))) h
  | .xor, .int k n => K (.int k (k.wrap (BitVec.ofInt k.bits (if k.signed then -1 else k.max) ^^^ BitVec.ofInt k.bits n).toNat)) h
  | .not, .bool b => K (.bool (!b)) h
  | _, _ => False
def cvIK (k : IntKind) (x : AV) (h : H) (K : AV → H → Prop) : Prop := match x with
  | .int _ n => K (.int k (k.wrap n)) h
  | _ => False
def idxK (z : Nat) (x i : AV) (h : H) (K : AV → H → Prop) : Prop := match x, i with
  | .sl (some id) off len _, .int _ n => 0 ≤ n ∧ n < len ∧ K (.ptr (some (id, off + n.toNat * z))) h
  | _, _ => False
def idxAK (m z : Nat) (x i : AV) (h : H) (K : AV → H → Prop) : Prop := match x, i with
  | .ptr (some (id, off)), .int _ n => 0 ≤ n ∧ n < m ∧ K (.ptr (some (id, off + n.toNat * z))) h
  | .gp g off, .int _ n => 0 ≤ n ∧ n < m ∧ K (.gp g (off + n.toNat * z)) h
  | _, _ => False
def fldK (off : Nat) (x : AV) (h : H) (K : AV → H → Prop) : Prop := match x with
  | .ptr (some (id, o)) => K (.ptr (some (id, o + off))) h
  | _ => False
def getK (v : Option AV) (h : H) (K : AV → H → Prop) : Prop := match v with
  | some v => K v h
  | none => False
def getsK (v : Option (List AV)) (h : H) (K : AV → H → Prop) : Prop := match v with
  | some l => K (.agg l) h
  | none => False
def ldK (sz : Option Nat) (p : AV) (h : H) (K : AV → H → Prop) : Prop := match p with
  | .ptr (some (id, off)) => match sz with
    | none => getK (h.get id off) h K
    | some n => getsK (h.gets id off n) h K
  | .gp g off => match sz with
    | none => gldK (gcell g off) h K
    | some _ => False
  | _ => False
def putK (r : Option Row) (id off n : Nat) (l : List AV) (h : H) (K : AV → H → Prop) : Prop := match r with
  | some r => r.own ≠ none ∧ off + n ≤ r.cells.length ∧ K .junk (h.set id { r with cells := putAt r.cells off l })
  | none => False
def stK (n : Nat) (p v : AV) (h : H) (K : AV → H → Prop) : Prop := match p with
  | .ptr (some (id, off)) => v.held = true ∧ v.cells.length = n ∧ (v.cells.all (·.one)) = true ∧ putK (h.rows id) id off n v.cells h K
  | _ => False
def nnK (x : AV) (h : H) (K : AV → H → Prop) : Prop := match x with
  | .ptr (some p) => K (.ptr (some p)) h
  | _ => False
def prtK (sz : Option Nat) (off : Nat) (x : AV) (h : H) (K : AV → H → Prop) : Prop := match x with
  | .agg l => match sz with
    | none => getK l[off]? h K
    | some n => off + n ≤ l.length ∧ K (.agg ((l.drop off).take n)) h
  | _ => False
def natK (v : AV) (K : Nat → Prop) : Prop := match v with
  | .int _ n => 0 ≤ n ∧ K n.toNat
  | _ => False
def slcK (z : Nat) (x : AV) (lo hi : Option AV) (h : H) (K : AV → H → Prop) : Prop := match x with
  | .sl id off len cap => (match hi with | none => fun (k : Nat → Prop) => k len | some v => natK v) fun b => (match lo with | none => fun (k : Nat → Prop) => k 0 | some v => natK v) fun a =>
      a ≤ b ∧ (b ≤ len ∨ ∃ c, cap = some c ∧ b ≤ c) ∧ (∀ i, id = some i → ∃ r, h.rows i = some r ∧ (r.own = none ∨ r.esz = z)) ∧ K (.sl id (off + a * z) (b - a) (cap.map (· - a))) h
  | _ => False
def mkK (e : TypeId) (z b : Nat) (zr : List AV) (l c : AV) (h : H) (K : AV → H → Prop) : Prop := match l, c with
  | .int _ l, .int _ c => 0 ≤ l ∧ l ≤ c ∧ b * c ≤ 140737488355328 ∧ K (.sl (some h.next) 0 l.toNat (some c.toNat)) (h.new ⟨some e, z, zs zr c.toNat⟩)
  | _, _ => False
def aggK (l : Option (List AV)) (h : H) (K : AV → H → Prop) : Prop := match l with
  | some l => K (.agg l) h
  | none => False
def bslK (l : Option (List AV)) (e : TypeId) (z n : Nat) (h : H) (K : AV → H → Prop) : Prop := match l with
  | some l => K (.sl (some h.next) 0 n (some n)) (h.new ⟨some e, z, l⟩)
  | none => False
def boxK (e : TypeId) (x : AV) (h : H) (K : AV → H → Prop) : Prop := x.held = true ∧ K (.ptr (some (h.next, 0))) (h.new ⟨some e, x.cells.length, x.cells⟩)
def lenK (str : Bool) (x : AV) (h : H) (K : AV → H → Prop) : Prop := match str, x with
  | false, .sl _ _ n _ => K (.int .i64 n) h
  | true, .str s => K (.int .i64 s.size) h
  | _, _ => False
def capoK (x : AV) (h : H) (K : AV → H → Prop) : Prop := match x with
  | .sl _ _ _ (some n) => K (.int .i64 n) h
  | _ => False
def mnxK (mx : Bool) (x : AV) (ys : List AV) (h : H) (K : AV → H → Prop) : Prop := match x with
  | .int k a => mnxs mx k a ys fun v => K v h
  | _ => False
def appK (e : TypeId) (z b : Nat) (s x : AV) (h : H) (K : AV → H → Prop) : Prop := match s, x with
  | .sl ids offs n cs, .sl idx offx m _ =>
    (m = 0 → K (.sl ids offs n cs) h) ∧
    (m ≠ 0 → ∃ j r, idx = some j ∧ h.rows j = some r ∧ offx + m * z ≤ r.cells.length ∧ (((r.cells.drop offx).take (m * z)).all (·.one)) = true ∧ (n + m) * b ≤ 140737488355328 ∧ n + m ≤ 140737488355328 ∧
      ((ids = none ∧ n = 0 ∧ K (.sl (some h.next) 0 m none) (h.new ⟨some e, z, (r.cells.drop offx).take (m * z)⟩)) ∨
       (∃ i q, ids = some i ∧ h.rows i = some q ∧ q.own = some e ∧ q.esz = z ∧ offs = 0 ∧ n * z ≤ q.cells.length ∧
        K (.sl (some h.next) 0 (n + m) none) ((h.del ids).new ⟨some e, z, q.cells.take (n * z) ++ (r.cells.drop offx).take (m * z)⟩))))
  | _, _ => False
def cpyK (z : Nat) (d s : AV) (h : H) (K : AV → H → Prop) : Prop := match d, s with
  | .sl idd offd n _, .sl ids offs m _ =>
    (min m n = 0 → K (.int .i64 0) h) ∧
    (min m n ≠ 0 → ∃ i q j r, idd = some i ∧ h.rows i = some q ∧ q.own ≠ none ∧ ids = some j ∧ h.rows j = some r ∧ offs + min m n * z ≤ r.cells.length ∧ offd + min m n * z ≤ q.cells.length ∧
      (((r.cells.drop offs).take (min m n * z)).all (·.one)) = true ∧ K (.int .i64 (min m n)) (h.set i { q with cells := putAt q.cells offd ((r.cells.drop offs).take (min m n * z)) }))
  | _, _ => False
def extK (x : AV) (i : Nat) (h : H) (K : AV → H → Prop) : Prop := match x with
  | .tup l => getK l[i]? h K
  | _ => False
def callVK (P : Program) (f : AV) (as : List AV) (h : H) (K : AV → H → Prop) : Prop := match f with
  | .fn f first caps => ACalls P f (first ++ as ++ caps) h K
  | _ => False
def condK (v : AV) (X Y : Env → H → Prop) (ρ : Env) (h : H) : Prop := match v with
  | .bool t => (t = true → X ρ h) ∧ (t = false → Y ρ h)
  | _ => False
def grdK (P : Program) (v : AV) (b : Bool) (o : AOp) (ρ : Env) (h : H) (K : AV → H → Prop) : Prop := match v with
  | .bool c => if c = b then aexec P o ρ h K else K (.tup []) h
  | .tup [] => K (.tup []) h
  | _ => False
/-- What follows an operation. -/
def kOps (P : Program) (os : List AOper) (Q : Env → H → Prop) (ρ : Env) (d : Option Nat) (v : AV) (h : H) : Prop := aops P os Q (aput ρ d v) h
def kChk (P : Program) (cs : List (Option Nat × Option (Nat × Bool) × AOp)) (os : List AOper) (Q : Env → H → Prop) (ρ : Env) (d : Option Nat) (v : AV) (h : H) : Prop := achks P ρ h cs ∧ aops P os Q (aput ρ d v) h
def kFin (P : Program) (rs : List AR) (acc : List AV) (K : AV → H → Prop) (ρ : Env) (h0 : H) (v : AV) (_ : H) : Prop := afin P rs (acc ++ [v]) K ρ h0

-- an operation, by its kind
theorem x_mv {x : AO} : aexec P (.mv x) ρ h K = vK (aev ρ x) h K := _root_.id rfl
theorem x_pick {c a b : AO} : aexec P (.pick c a b) ρ h K = pickK (aev ρ c) (aev ρ a) (aev ρ b) h K := _root_.id rfl
theorem x_bin {op : BinOp} {x y : AO} : aexec P (.bin op x y) ρ h K = binK op (aev ρ x) (aev ρ y) h K := _root_.id rfl
theorem x_beq {ng : Bool} {x y : AO} : aexec P (.beq ng x y) ρ h K = beqK ng (aev ρ x) (aev ρ y) h K := _root_.id rfl
theorem x_peq {ng : Bool} {x y : AO} : aexec P (.peq ng x y) ρ h K = peqK ng (aev ρ x) (aev ρ y) h K := _root_.id rfl
theorem x_seq {ng : Bool} {x y : AO} : aexec P (.seq ng x y) ρ h K = seqK ng (aev ρ x) (aev ρ y) h K := _root_.id rfl
theorem x_cat {x y : AO} : aexec P (.cat x y) ρ h K = catK (aev ρ x) (aev ρ y) h K := _root_.id rfl
theorem x_aeq {ng : Bool} {n : Nat} {x y : AO} : aexec P (.aeq ng n x y) ρ h K = aeqK ng n (aev ρ x) (aev ρ y) h K := by
  apply propext
  simp only [aexec]
  generalize aev ρ x = p
  generalize aev ρ y = q
  cases p <;> try exact Iff.rfl
  cases q <;> try exact Iff.rfl
  rename_i l m
  simp only [aeqK]
  cases eqs l m <;> simp [eqsK]
theorem x_idxS {x y : AO} : aexec P (.idxS x y) ρ h K = idxSK (aev ρ x) (aev ρ y) h K := _root_.id rfl
theorem x_un {op : UnOp} {x : AO} : aexec P (.un op x) ρ h K = unK op (aev ρ x) h K := _root_.id rfl
theorem x_cvI {k : IntKind} {x : AO} : aexec P (.cvI k x) ρ h K = cvIK k (aev ρ x) h K := _root_.id rfl
theorem x_idx {z : Nat} {x i : AO} : aexec P (.idx z x i) ρ h K = idxK z (aev ρ x) (aev ρ i) h K := _root_.id rfl
theorem x_idxA {m z : Nat} {x i : AO} : aexec P (.idxA m z x i) ρ h K = idxAK m z (aev ρ x) (aev ρ i) h K := _root_.id rfl
theorem x_fld {off : Nat} {x : AO} : aexec P (.fld off x) ρ h K = fldK off (aev ρ x) h K := _root_.id rfl
theorem x_ld {sz : Option Nat} {p : AO} : aexec P (.ld sz p) ρ h K = ldK sz (aev ρ p) h K := by
  apply propext
  simp only [aexec]
  generalize aev ρ p = q
  cases q <;> try exact Iff.rfl
  case gp g off =>
    simp only [ldK]
    cases sz with
    | none =>
      simp only
      cases hg : gcell g off <;> simp [gldK]
    | some n => exact Iff.rfl
  rename_i o
  rcases o with _ | ⟨id, off⟩
  · exact Iff.rfl
  · simp only [ldK, H.get, H.gets]
    cases sz with
    | none =>
      cases hr : h.rows id with
      | none => simp [getK]
      | some r =>
        cases hl : r.cells[off]? with
        | none => simp [getK, hl]
        | some v => simp [getK, hl]
    | some n =>
      cases hr : h.rows id with
      | none => simp [getsK]
      | some r =>
        by_cases hl : off + n ≤ r.cells.length
        · simp [getsK, hl]
        · simp [getsK, hl]
theorem x_st {n : Nat} {p v : AO} : aexec P (.st n p v) ρ h K = stK n (aev ρ p) (aev ρ v) h K := by
  apply propext
  simp only [aexec]
  generalize aev ρ p = q
  cases q <;> try exact Iff.rfl
  rename_i o
  rcases o with _ | ⟨id, off⟩
  · exact Iff.rfl
  · simp only [stK]
    cases hr : h.rows id with
    | none => simp [putK]
    | some r =>
      simp only [putK, Option.some.injEq, exists_eq_left']
      constructor
      · rintro ⟨h1, h2, h3, h4, h5, h6⟩; exact ⟨h2, h3, h5, h1, h4, h6⟩
      · rintro ⟨h1, h2, h3, h4, h5, h6⟩; exact ⟨h4, h1, h2, h5, h3, h6⟩
theorem x_nn {x : AO} : aexec P (.nn x) ρ h K = nnK (aev ρ x) h K := _root_.id rfl
theorem x_prt {sz : Option Nat} {off : Nat} {x : AO} : aexec P (.prt sz off x) ρ h K = prtK sz off (aev ρ x) h K := by
  apply propext
  simp only [aexec]
  generalize aev ρ x = q
  cases q <;> try exact Iff.rfl
  rename_i l
  simp only [prtK]
  cases sz with
  | none =>
    cases hl : l[off]? with
    | none => simp [getK]
    | some v => simp [getK]
  | some n => exact Iff.rfl
theorem x_slc {z : Nat} {x : AO} {lo hi : Option AO} : aexec P (.slc z x lo hi) ρ h K = slcK z (aev ρ x) (lo.map (aev ρ)) (hi.map (aev ρ)) h K := by
  simp only [aexec]
  generalize aev ρ x = q
  cases q <;> try rfl
  cases lo <;> cases hi <;> rfl
theorem x_mk {e : TypeId} {z b : Nat} {zr : List AV} {l c : AO} : aexec P (.mk e z b zr l c) ρ h K = mkK e z b zr (aev ρ l) (aev ρ c) h K := _root_.id rfl
theorem x_bsl {e : TypeId} {z n : Nat} {zr : List AV} {ps : List (Nat × AO)} : aexec P (.bsl e z n zr ps) ρ h K = bslK (abuild (zs zr n) (ps.map fun p => (p.1 * z, z, aev ρ p.2))) e z n h K := by
  apply propext
  simp only [aexec, bslK]
  cases abuild (zs zr n) (ps.map fun p => (p.1 * z, z, aev ρ p.2)) <;> simp
theorem x_bld {zr : List AV} {ps : List (Nat × Nat × AO)} : aexec P (.bld zr ps) ρ h K = aggK (abuild zr (ps.map fun p => (p.1, p.2.1, aev ρ p.2.2))) h K := by
  apply propext
  simp only [aexec, aggK]
  cases abuild zr (ps.map fun p => (p.1, p.2.1, aev ρ p.2.2)) <;> simp
theorem x_box {e : TypeId} {x : AO} : aexec P (.box e x) ρ h K = boxK e (aev ρ x) h K := _root_.id rfl
theorem x_alloc {e : TypeId} {zr : List AV} : aexec P (.alloc e zr) ρ h K = K (.ptr (some (h.next, 0))) (h.new ⟨some e, zr.length, zr⟩) := _root_.id rfl
theorem x_len {s : Bool} {x : AO} : aexec P (.len s x) ρ h K = lenK s (aev ρ x) h K := _root_.id rfl
theorem x_capo {x : AO} : aexec P (.capo x) ρ h K = capoK (aev ρ x) h K := _root_.id rfl
theorem x_mnx {m : Bool} {x : AO} {ys : List AO} : aexec P (.mnx m x ys) ρ h K = mnxK m (aev ρ x) (ys.map (aev ρ)) h K := _root_.id rfl
theorem x_app {e : TypeId} {z b : Nat} {s x : AO} : aexec P (.app e z b s x) ρ h K = appK e z b (aev ρ s) (aev ρ x) h K := _root_.id rfl
theorem x_cpy {z : Nat} {d s : AO} : aexec P (.cpy z d s) ρ h K = cpyK z (aev ρ d) (aev ρ s) h K := _root_.id rfl
theorem x_mkf {f : FuncId} {a b : List AO} : aexec P (.mkf f a b) ρ h K = vK (.fn f (a.map (aev ρ)) (b.map (aev ρ))) h K := _root_.id rfl
theorem x_ext {x : AO} {i : Nat} : aexec P (.ext x i) ρ h K = extK (aev ρ x) i h K := by
  apply propext
  simp only [aexec]
  generalize aev ρ x = q
  cases q <;> try exact Iff.rfl
  rename_i l
  simp only [extK]
  cases hl : l[i]? with
  | none => simp [getK]
  | some v => simp [getK]
theorem x_call {f : FuncId} {as : List AO} : aexec P (.call f as) ρ h K = ACalls P f (as.map (aev ρ)) h K := _root_.id rfl
theorem x_callV {x : AO} {as : List AO} : aexec P (.callV x as) ρ h K = callVK P (aev ρ x) (as.map (aev ρ)) h K := _root_.id rfl
theorem x_bad : aexec P .bad ρ h K = False := _root_.id rfl
-- steps
theorem s_none {o : AOp} : astep P none o ρ h K = aexec P o ρ h K := _root_.id rfl
theorem s_some {t : Nat} {b : Bool} {o : AOp} : astep P (some (t, b)) o ρ h K = grdK P (ρ t) b o ρ h K := _root_.id rfl
theorem s_nil {Q : Env → H → Prop} : aops P [] Q ρ h = Q ρ h := _root_.id rfl
theorem s_cons {d : Option Nat} {g : Option (Nat × Bool)} {op : AOp} {os : List AOper} {Q : Env → H → Prop} : aops P (⟨d, g, op, []⟩ :: os) Q ρ h = astep P g op ρ h (kOps P os Q ρ d) := by
  simp only [aops, achks, true_and]
  rfl
theorem s_chks {d : Option Nat} {g : Option (Nat × Bool)} {op : AOp} {c : Option Nat × Option (Nat × Bool) × AOp} {cs : List (Option Nat × Option (Nat × Bool) × AOp)} {os : List AOper} {Q : Env → H → Prop} : aops P (⟨d, g, op, c :: cs⟩ :: os) Q ρ h = astep P g op ρ h (kChk P (c :: cs) os Q ρ d) := _root_.id rfl
theorem w_skip {Q : Post} : awp P .skip Q ρ h = Q .normal ρ h := _root_.id rfl
theorem w_reg {os : List AOper} {Q : Post} : awp P (.reg os) Q ρ h = aops P os (Q .normal) ρ h := _root_.id rfl
theorem w_seq {a b : AC} {Q : Post} : awp P (.seq a b) Q ρ h = awp P a (athen (awp P b Q) Q) ρ h := _root_.id rfl
theorem w_cond {c : AO} {x y : AC} {Q : Post} : awp P (.cond c x y) Q ρ h = condK (aev ρ c) (awp P x Q) (awp P y Q) ρ h := by
  apply propext
  simp only [awp]
  generalize aev ρ c = q
  cases q <;> simp [condK]
theorem w_block {id : Nat} {c : AC} {Q : Post} : awp P (.block id c) Q ρ h = awp P c (ablk id Q) ρ h := _root_.id rfl
theorem w_exit {id : Nat} {Q : Post} : awp P (.exit id) Q ρ h = Q (.exit id) ρ h := _root_.id rfl
theorem w_ret {Q : Post} : awp P .ret Q ρ h = Q .ret ρ h := _root_.id rfl
-- ways out
theorem t_normal {n : Env → H → Prop} {Q : Post} : athen n Q .normal ρ h = n ρ h := _root_.id rfl
theorem t_exit {n : Env → H → Prop} {Q : Post} {id : Nat} : athen n Q (.exit id) ρ h = Q (.exit id) ρ h := _root_.id rfl
theorem t_ret {n : Env → H → Prop} {Q : Post} : athen n Q .ret ρ h = Q .ret ρ h := _root_.id rfl
theorem b_normal {id : Nat} {Q : Post} : ablk id Q .normal ρ h = Q .normal ρ h := _root_.id rfl
theorem b_ret {id : Nat} {Q : Post} : ablk id Q .ret ρ h = Q .ret ρ h := _root_.id rfl
theorem b_exit {id id' : Nat} {Q : Post} : ablk id Q (.exit id') ρ h = if id' = id then Q .normal ρ h else Q (.exit id') ρ h := _root_.id rfl
theorem p_normal {rs : List AR} : apost P rs K .normal ρ h = afin P rs [] K ρ h := _root_.id rfl
theorem p_ret {rs : List AR} : apost P rs K .ret ρ h = afin P rs [] K ρ h := _root_.id rfl
theorem f_nil {acc : List AV} : afin P [] acc K ρ h = K (tupOf acc) h := _root_.id rfl
theorem f_t {n : Nat} {rs : List AR} {acc : List AV} : afin P (.t n :: rs) acc K ρ h = afin P rs (acc ++ [ρ n]) K ρ h := _root_.id rfl
theorem f_c {n : Nat} {sz : Option Nat} {rs : List AR} {acc : List AV} : afin P (.c n sz :: rs) acc K ρ h = ldK sz (ρ n) h (kFin P rs acc K ρ h) := x_ld
-- values
theorem e_t {n : Nat} : aev ρ (.t n) = ρ n := _root_.id rfl
theorem e_c {v : AV} : aev ρ (.c v) = v := _root_.id rfl
theorem e_f {f : FuncId} : aev ρ (.f f) = .fn f [] [] := _root_.id rfl
theorem u_some {d : Nat} {v : AV} : aput ρ (some d) v = upd ρ d v := _root_.id rfl
theorem u_none {v : AV} : aput ρ none v = ρ := _root_.id rfl
theorem u_at {d t : Nat} {v : AV} : upd ρ d v t = if t = d then v else ρ t := _root_.id rfl
theorem env_at {l : List AV} {t : Nat} : envOf l t = (l[t]?).getD .junk := _root_.id rfl
-- what remains where the values are known
theorem k_v {v : AV} : vK v h K = K v h := _root_.id rfl
theorem k_pick {t : Bool} {a b : AV} : pickK (.bool t) a b h K = K (if t = true then a else b) h := _root_.id rfl
theorem k_add {k : IntKind} {a b : Int} : binK .add (.int k a) (.int k b) h K = K (.int k (k.wrap (a + b))) h := by simp [binK, abinV, abin]
theorem k_sub {k : IntKind} {a b : Int} : binK .sub (.int k a) (.int k b) h K = K (.int k (k.wrap (a - b))) h := by simp [binK, abinV, abin]
theorem k_mul {k : IntKind} {a b : Int} : binK .mul (.int k a) (.int k b) h K = K (.int k (k.wrap (a * b))) h := by simp [binK, abinV, abin]
theorem k_quo {k : IntKind} {a b : Int} : binK .quo (.int k a) (.int k b) h K = (b ≠ 0 ∧ K (.int k (k.wrap (a.tdiv b))) h) := by simp [binK, abinV, abin]
theorem k_rem {k : IntKind} {a b : Int} : binK .rem (.int k a) (.int k b) h K = (b ≠ 0 ∧ K (.int k (a.tmod b)) h) := by simp [binK, abinV, abin]
theorem k_and {k : IntKind} {a b : Int} : binK .and (.int k a) (.int k b) h K = K (.int k (bAnd k a b)) h := by simp [binK, abinV, abin, bAnd]
theorem k_or {k : IntKind} {a b : Int} : binK .or (.int k a) (.int k b) h K = K (.int k (bOr k a b)) h := by simp [binK, abinV, abin, bOr]
theorem k_xor {k : IntKind} {a b : Int} : binK .xor (.int k a) (.int k b) h K = K (.int k (bXor k a b)) h := by simp [binK, abinV, abin, bXor]
theorem k_shl {k k' : IntKind} {a b : Int} : binK .shl (.int k a) (.int k' b) h K = (0 ≤ b ∧ K (.int k (bShl k a b.toNat)) h) := by simp [binK, abinV, ashift, bShl]
theorem k_shr {k k' : IntKind} {a b : Int} : binK .shr (.int k a) (.int k' b) h K = (0 ≤ b ∧ K (.int k (bShr k a b.toNat)) h) := by simp [binK, abinV, ashift, bShr]
theorem k_eql {k : IntKind} {a b : Int} : binK .eql (.int k a) (.int k b) h K = K (.bool (a == b)) h := by simp [binK, abinV, abin]
theorem k_neq {k : IntKind} {a b : Int} : binK .neq (.int k a) (.int k b) h K = K (.bool (a != b)) h := by simp [binK, abinV, abin]
theorem k_lss {k : IntKind} {a b : Int} : binK .lss (.int k a) (.int k b) h K = K (.bool (decide (a < b))) h := by simp [binK, abinV, abin]
theorem k_leq {k : IntKind} {a b : Int} : binK .leq (.int k a) (.int k b) h K = K (.bool (decide (a ≤ b))) h := by simp [binK, abinV, abin]
theorem k_gtr {k : IntKind} {a b : Int} : binK .gtr (.int k a) (.int k b) h K = K (.bool (decide (b < a))) h := by simp [binK, abinV, abin]
theorem k_geq {k : IntKind} {a b : Int} : binK .geq (.int k a) (.int k b) h K = K (.bool (decide (b ≤ a))) h := by simp [binK, abinV, abin]
theorem k_beq {ng a b : Bool} : beqK ng (.bool a) (.bool b) h K = K (.bool (if ng then a != b else a == b)) h := _root_.id rfl
theorem k_peqn {ng : Bool} {b : Option (Nat × Nat)} : peqK ng (.ptr none) (.ptr b) h K = K (.bool (ng != b.isNone)) h := _root_.id rfl
theorem k_peqs {ng : Bool} {b : Nat × Nat} : peqK ng (.ptr (some b)) (.ptr none) h K = K (.bool ng) h := _root_.id rfl
theorem k_neg {k : IntKind} {n : Int} : unK .neg (.int k n) h K = K (.int k (k.wrap (0 - n))) h := _root_.id rfl
theorem k_not {b : Bool} : unK .not (.bool b) h K = K (.bool (!b)) h := _root_.id rfl
theorem k_com {k : IntKind} {n : Int} : unK .xor (.int k n) h K = K (.int k (bCom k n)) h := _root_.id rfl
theorem k_cvI {k k' : IntKind} {n : Int} : cvIK k (.int k' n) h K = K (.int k (k.wrap n)) h := _root_.id rfl
theorem k_idxS {s : ByteArray} {k : IntKind} {n : Int} : idxSK (.str s) (.int k n) h K = (0 ≤ n ∧ ∃ b, s[n.toNat]? = some b ∧ K (.int .u8 b.toNat) h) := _root_.id rfl
theorem k_idx {z id off len : Nat} {c : Option Nat} {k : IntKind} {n : Int} : idxK z (.sl (some id) off len c) (.int k n) h K = (0 ≤ n ∧ n < len ∧ K (.ptr (some (id, off + n.toNat * z))) h) := _root_.id rfl
theorem k_idxA {m z id off : Nat} {k : IntKind} {n : Int} : idxAK m z (.ptr (some (id, off))) (.int k n) h K = (0 ≤ n ∧ n < m ∧ K (.ptr (some (id, off + n.toNat * z))) h) := _root_.id rfl
theorem k_idxG {m z g off : Nat} {k : IntKind} {n : Int} : idxAK m z (.gp g off) (.int k n) h K = (0 ≤ n ∧ n < m ∧ K (.gp g (off + n.toNat * z)) h) := _root_.id rfl
theorem k_ldG {g off : Nat} : ldK none (.gp g off) h K = gldK (gcell g off) h K := _root_.id rfl
theorem k_gld {n : Nat} : gldK (some n) h K = K (.int .u8 n) h := _root_.id rfl
theorem k_seq {ng : Bool} {a b : ByteArray} : seqK ng (.str a) (.str b) h K = K (.bool (ng != (a == b))) h := _root_.id rfl
theorem k_cat {a b : ByteArray} : catK (.str a) (.str b) h K = (a.size + b.size < 9223372036854775808 ∧ K (.str (a ++ b)) h) := _root_.id rfl
theorem k_aeq {ng : Bool} {n : Nat} {l m : List AV} : aeqK ng n (.agg l) (.agg m) h K = (l.length = n ∧ m.length = n ∧ eqsK ng (eqs l m) h K) := _root_.id rfl
theorem k_eqs {ng b : Bool} : eqsK ng (some b) h K = K (.bool (ng != b)) h := _root_.id rfl
theorem k_fld {off id o : Nat} : fldK off (.ptr (some (id, o))) h K = K (.ptr (some (id, o + off))) h := _root_.id rfl
theorem k_ld1 {id off : Nat} : ldK none (.ptr (some (id, off))) h K = getK (h.get id off) h K := _root_.id rfl
theorem k_ldn {id off n : Nat} : ldK (some n) (.ptr (some (id, off))) h K = getsK (h.gets id off n) h K := _root_.id rfl
theorem k_get {v : AV} : getK (some v) h K = K v h := _root_.id rfl
theorem k_gets {l : List AV} : getsK (some l) h K = K (.agg l) h := _root_.id rfl
theorem k_st {n id off : Nat} {v : AV} : stK n (.ptr (some (id, off))) v h K = (v.held = true ∧ v.cells.length = n ∧ (v.cells.all (·.one)) = true ∧ putK (h.rows id) id off n v.cells h K) := _root_.id rfl
theorem k_sti {id off : Nat} {k : IntKind} {x : Int} : stK 1 (.ptr (some (id, off))) (.int k x) h K = putK (h.rows id) id off 1 [.int k x] h K := by simp [stK, AV.held, AV.cells, AV.one]
theorem k_stb {id off : Nat} {b : Bool} : stK 1 (.ptr (some (id, off))) (.bool b) h K = putK (h.rows id) id off 1 [.bool b] h K := by simp [stK, AV.held, AV.cells, AV.one]
theorem k_stp {id off : Nat} {p : Option (Nat × Nat)} : stK 1 (.ptr (some (id, off))) (.ptr p) h K = putK (h.rows id) id off 1 [.ptr p] h K := by simp [stK, AV.held, AV.cells, AV.one]
theorem k_sts {id off : Nat} {i c : Option Nat} {o n : Nat} : stK 1 (.ptr (some (id, off))) (.sl i o n c) h K = putK (h.rows id) id off 1 [.sl i o n c] h K := by simp [stK, AV.held, AV.cells, AV.one]
theorem k_stf {id off : Nat} {f : FuncId} {a b : List AV} : stK 1 (.ptr (some (id, off))) (.fn f a b) h K = putK (h.rows id) id off 1 [.fn f a b] h K := by simp [stK, AV.held, AV.cells, AV.one]
theorem k_sta {n id off : Nat} {l : List AV} : stK n (.ptr (some (id, off))) (.agg l) h K = (l.length = n ∧ l.all (·.one) = true ∧ putK (h.rows id) id off n l h K) := by simp [stK, AV.held, AV.cells]
theorem k_put {r : Row} {id off n : Nat} {l : List AV} : putK (some r) id off n l h K = (r.own ≠ none ∧ off + n ≤ r.cells.length ∧ K .junk (h.set id { r with cells := putAt r.cells off l })) := _root_.id rfl
theorem k_nn {p : Nat × Nat} : nnK (.ptr (some p)) h K = K (.ptr (some p)) h := _root_.id rfl
theorem k_prt1 {off : Nat} {l : List AV} : prtK none off (.agg l) h K = getK l[off]? h K := _root_.id rfl
theorem k_prtn {off n : Nat} {l : List AV} : prtK (some n) off (.agg l) h K = (off + n ≤ l.length ∧ K (.agg ((l.drop off).take n)) h) := _root_.id rfl
theorem k_slc_a {z : Nat} {id cap : Option Nat} {off len : Nat} {k : IntKind} {n : Int} : slcK z (.sl id off len cap) none (some (.int k n)) h K = (0 ≤ n ∧ (n.toNat ≤ len ∨ ∃ c, cap = some c ∧ n.toNat ≤ c) ∧ (∀ i, id = some i → ∃ r, h.rows i = some r ∧ (r.own = none ∨ r.esz = z)) ∧ K (.sl id off n.toNat cap) h) := by
  simp [slcK, natK]
theorem k_slc_b {z : Nat} {id cap : Option Nat} {off len : Nat} {k : IntKind} {n : Int} : slcK z (.sl id off len cap) (some (.int k n)) none h K = (0 ≤ n ∧ n.toNat ≤ len ∧ (∀ i, id = some i → ∃ r, h.rows i = some r ∧ (r.own = none ∨ r.esz = z)) ∧ K (.sl id (off + n.toNat * z) (len - n.toNat) (cap.map (· - n.toNat))) h) := by
  simp [slcK, natK]
theorem k_slc_c {z : Nat} {id cap : Option Nat} {off len : Nat} {k k' : IntKind} {m n : Int} : slcK z (.sl id off len cap) (some (.int k m)) (some (.int k' n)) h K = (0 ≤ n ∧ 0 ≤ m ∧ m.toNat ≤ n.toNat ∧ (n.toNat ≤ len ∨ ∃ c, cap = some c ∧ n.toNat ≤ c) ∧ (∀ i, id = some i → ∃ r, h.rows i = some r ∧ (r.own = none ∨ r.esz = z)) ∧ K (.sl id (off + m.toNat * z) (n.toNat - m.toNat) (cap.map (· - m.toNat))) h) := rfl
theorem k_mk {e : TypeId} {z b : Nat} {zr : List AV} {k k' : IntKind} {l c : Int} : mkK e z b zr (.int k l) (.int k' c) h K = (0 ≤ l ∧ l ≤ c ∧ b * c ≤ 140737488355328 ∧ K (.sl (some h.next) 0 l.toNat (some c.toNat)) (h.new ⟨some e, z, zs zr c.toNat⟩)) := _root_.id rfl
theorem k_agg {l : List AV} : aggK (some l) h K = K (.agg l) h := _root_.id rfl
theorem k_bsl {l : List AV} {e : TypeId} {z n : Nat} : bslK (some l) e z n h K = K (.sl (some h.next) 0 n (some n)) (h.new ⟨some e, z, l⟩) := _root_.id rfl
theorem k_box {e : TypeId} {x : AV} : boxK e x h K = (x.held = true ∧ K (.ptr (some (h.next, 0))) (h.new ⟨some e, x.cells.length, x.cells⟩)) := _root_.id rfl
theorem k_len {id c : Option Nat} {off n : Nat} : lenK false (.sl id off n c) h K = K (.int .i64 n) h := _root_.id rfl
theorem k_lenS {s : ByteArray} : lenK true (.str s) h K = K (.int .i64 s.size) h := _root_.id rfl
theorem k_cap {id : Option Nat} {off n c : Nat} : capoK (.sl id off n (some c)) h K = K (.int .i64 c) h := _root_.id rfl
theorem k_max {k : IntKind} {a b : Int} : mnxK true (.int k a) [.int k b] h K = K (.int k (max a b)) h := by simp [mnxK, mnxs]
theorem k_min {k : IntKind} {a b : Int} : mnxK false (.int k a) [.int k b] h K = K (.int k (min a b)) h := by simp [mnxK, mnxs]
theorem k_ext {l : List AV} {i : Nat} : extK (.tup l) i h K = getK l[i]? h K := _root_.id rfl
theorem k_callV {f : FuncId} {a b as : List AV} : callVK P (.fn f a b) as h K = ACalls P f (a ++ as ++ b) h K := _root_.id rfl
theorem k_true {X Y : Env → H → Prop} : condK (.bool true) X Y ρ h = X ρ h := by simp [condK]
theorem k_false {X Y : Env → H → Prop} : condK (.bool false) X Y ρ h = Y ρ h := by simp [condK]
theorem k_gtt {o : AOp} : grdK P (.bool true) true o ρ h K = aexec P o ρ h K := _root_.id rfl
theorem k_gtf {o : AOp} : grdK P (.bool true) false o ρ h K = K (.tup []) h := _root_.id rfl
theorem k_gft {o : AOp} : grdK P (.bool false) true o ρ h K = K (.tup []) h := _root_.id rfl
theorem k_gsk {b : Bool} {o : AOp} : grdK P (.tup []) b o ρ h K = K (.tup []) h := _root_.id rfl
theorem k_gff {o : AOp} : grdK P (.bool false) false o ρ h K = aexec P o ρ h K := _root_.id rfl
theorem k_ops {os : List AOper} {Q : Env → H → Prop} {d : Option Nat} {v : AV} : kOps P os Q ρ d v h = aops P os Q (aput ρ d v) h := _root_.id rfl
theorem k_chk {cs : List (Option Nat × Option (Nat × Bool) × AOp)} {os : List AOper} {Q : Env → H → Prop} {d : Option Nat} {v : AV} : kChk P cs os Q ρ d v h = (achks P ρ h cs ∧ aops P os Q (aput ρ d v) h) := _root_.id rfl
theorem k_fin {rs : List AR} {acc : List AV} {h0 : H} {v : AV} : kFin P rs acc K ρ h0 v h = afin P rs (acc ++ [v]) K ρ h0 := _root_.id rfl
theorem k_c0 : achks P ρ h [] = True := _root_.id rfl
theorem k_c1 {c : Option Nat × Option (Nat × Bool) × AOp} {cs : List (Option Nat × Option (Nat × Bool) × AOp)} : achks P ρ h (c :: cs) = (achk P ρ h c ∧ achks P ρ h cs) := _root_.id rfl
theorem k_ck {d : Nat} {g : Option (Nat × Bool)} {o : AOp} : achk P ρ h (some d, g, o) = astep P g o ρ h (fun v _ => v = ρ d) := by
  unfold achk
  simp
theorem k_lit1 {z a : AV} (ha : a.one = true) : abuild (zs [z] 1) [(0, 1, a)] = some [a] := by
  cases a <;> first | rfl | simp [AV.one] at ha
theorem k_lit1i {z : AV} {k : IntKind} {a : Int} : abuild (zs [z] 1) [(0, 1, .int k a)] = some [.int k a] := _root_.id rfl
theorem k_lit2i {z : AV} {k : IntKind} {a b : Int} : abuild (zs [z] 2) [(0, 1, .int k a), (1, 1, .int k b)] = some [.int k a, .int k b] := _root_.id rfl
theorem k_lit3i {z : AV} {k : IntKind} {a b c : Int} : abuild (zs [z] 3) [(0, 1, .int k a), (1, 1, .int k b), (2, 1, .int k c)] = some [.int k a, .int k b, .int k c] := _root_.id rfl
/-- The end: going on, or handing back, with this. -/
def onN (M : Env → H → Prop) (Q : Post) : Post
  | .normal, ρ, h => M ρ h
  | e, ρ, h => Q e ρ h
theorem n_normal {M : Env → H → Prop} {Q : Post} : onN M Q .normal ρ h = M ρ h := _root_.id rfl
theorem n_exit {M : Env → H → Prop} {Q : Post} {id : Nat} : onN M Q (.exit id) ρ h = Q (.exit id) ρ h := _root_.id rfl
theorem n_ret {M : Env → H → Prop} {Q : Post} : onN M Q .ret ρ h = Q .ret ρ h := _root_.id rfl
theorem cond_split {t : Bool} {X Y : Env → H → Prop} (h1 : t = true → X ρ h) (h2 : t = false → Y ρ h) : condK (.bool t) X Y ρ h := ⟨h1, h2⟩
theorem grd_split {c b : Bool} {o : AOp} (h1 : c = b → aexec P o ρ h K) (h2 : c ≠ b → K (.tup []) h) : grdK P (.bool c) b o ρ h K := by
  by_cases e : c = b
  · simp only [grdK, if_pos e]; exact h1 e
  · simp only [grdK, if_neg e]; exact h2 e
end
end Ab
end Go.Proofs.Yteoagnggnekfiaa
