/- Abstract values and abstract memory, and what it means that the machine's values and memory are of that form. No condition. -/
import Derived.OwnWalk
import Derived.Maps.AppendAt
import Derived.Below
import Derived.Orders
import Derived.Laws.Slices
import Derived.Laws.MakeOwn
import Derived.Laws.Entries
import Derived.Deep.OwnRows
namespace Go.Proofs.Yteoagnggnekfiaa
namespace Ab
open Go Go.RowKit

/-- A value: memory by rows' numbers. -/
inductive AV where
  | int (k : IntKind) (n : Int)
  | bool (b : Bool)
  | str (s : ByteArray)
  | ptr (p : Option (Nat × Nat))
  | gp (g off : Nat)
  | sl (id : Option Nat) (off len : Nat) (cap : Option Nat)
  | fn (f : FuncId) (first caps : List AV)
  | agg (l : List AV)
  | tup (l : List AV)
  | junk

/-- Is it one cell? -/
def AV.one : AV → Bool
  | .agg _ | .tup _ | .junk => false
  | _ => true
/-- Its cells. -/
def AV.cells : AV → List AV
  | .agg l => l
  | v => [v]
/-- Has it cells? -/
def AV.held : AV → Bool
  | .tup _ | .junk => false
  | _ => true

/-- Where a row lies: its head, the cells of one element, how many cells in all (of a row of the call's own). -/
structure Pl where
  addr : Addr
  esz : Nat
  tot : Option Nat
abbrev Mu := Nat → Option Pl
def Mu.le (μ μ' : Mu) : Prop := ∀ id p, μ id = some p → μ' id = some p
theorem Mu.le_refl (μ : Mu) : μ.le μ := fun _ _ h => h
theorem Mu.le_trans {a b c : Mu} (h : a.le b) (k : b.le c) : a.le c := fun id p hp => k id p (h id p hp)

inductive Rel (μ : Mu) : AV → Value → Prop
  | int (k : IntKind) (n : Int) : Rel μ (.int k n) (.int k n)
  | bool (b : Bool) : Rel μ (.bool b) (.bool b)
  | str (s : ByteArray) : Rel μ (.str s) (.string s)
  | pnil : Rel μ (.ptr none) (.pointer none)
  | ptr {id off : Nat} {p : Pl} (hp : μ id = some p) : Rel μ (.ptr (some (id, off))) (.pointer (some (p.addr.add off)))
  | gp (g off : Nat) : Rel μ (.gp g off) (.pointer (some ⟨g, off, none⟩))
  | snil {A : Option Addr} {c : Option Nat} (hc : ∀ x, c = some x → x = 0) : Rel μ (.sl none 0 0 c) (.slice A 0 0)
  | sl {id off len : Nat} {c : Option Nat} {p : Pl} {cap : Nat} {A : Option Addr} (hp : μ id = some p) (hA : cap = 0 ∨ A = some (p.addr.add off)) (hl : len ≤ cap)
      (hc : ∀ x, c = some x → x = cap) (ht : ∀ T, p.tot = some T → off + cap * p.esz = T) : Rel μ (.sl (some id) off len c) (.slice A len cap)
  | fn {f : FuncId} {first caps : List AV} {vs ws : Array Value} (h1 : first.length = vs.size) (h2 : ∀ (i : Nat) (u : AV) (v : Value), first[i]? = some u → vs[i]? = some v → Rel μ u v)
      (h3 : caps.length = ws.size) (h4 : ∀ (i : Nat) (u : AV) (v : Value), caps[i]? = some u → ws[i]? = some v → Rel μ u v) : Rel μ (.fn f first caps) (.func (.func f) vs ws)
  | agg {l : List AV} {vs : Array Value} (h1 : l.length = vs.size) (h2 : ∀ (i : Nat) (u : AV) (v : Value), l[i]? = some u → vs[i]? = some v → Rel μ u v) : Rel μ (.agg l) (.agg vs)
  | tup {l : List AV} {vs : Array Value} (h1 : l.length = vs.size) (h2 : ∀ (i : Nat) (u : AV) (v : Value), l[i]? = some u → vs[i]? = some v → Rel μ u v) : Rel μ (.tup l) (.tuple vs)
  | junk (v : Value) : Rel μ .junk v

theorem Rel.mono {μ μ' : Mu} (h : μ.le μ') {u : AV} {v : Value} (r : Rel μ u v) : Rel μ' u v := by
  induction r with
  | int k n => exact .int k n
  | bool b => exact .bool b
  | str s => exact .str s
  | pnil => exact .pnil
  | ptr hp => exact .ptr (h _ _ hp)
  | gp g off => exact .gp g off
  | snil hc => exact .snil hc
  | sl hp hA hl hc ht => exact .sl (h _ _ hp) hA hl hc ht
  | fn h1 _ h3 _ ih2 ih4 => exact .fn h1 ih2 h3 ih4
  | agg h1 _ ih => exact .agg h1 ih
  | tup h1 _ ih => exact .tup h1 ih
  | junk v => exact .junk v

theorem Rel.oneCell {μ : Mu} {u : AV} {v : Value} (r : Rel μ u v) (h : u.one = true) : v.oneCell' = true := by
  cases r <;> simp_all [AV.one] <;> rfl
theorem Rel.one_cells {μ : Mu} {u : AV} {v : Value} (r : Rel μ u v) (h : u.one = true) : v.cells = #[v] ∧ u.cells = [u] := by
  cases r <;> simp_all [AV.one, AV.cells, Value.cells]

/-- Lists of values. -/
def RelA (μ : Mu) (l : List AV) (vs : List Value) : Prop := l.length = vs.length ∧ ∀ (i : Nat) (u : AV) (v : Value), l[i]? = some u → vs[i]? = some v → Rel μ u v
theorem RelA.mono {μ μ' : Mu} (h : μ.le μ') {l : List AV} {vs : List Value} (r : RelA μ l vs) : RelA μ' l vs := ⟨r.1, fun i u v hu hv => (r.2 i u v hu hv).mono h⟩
theorem RelA.nil (μ : Mu) : RelA μ [] [] := ⟨rfl, fun _ _ _ h => by simp at h⟩
theorem RelA.cons {μ : Mu} {u : AV} {v : Value} {l : List AV} {vs : List Value} (r : Rel μ u v) (h : RelA μ l vs) : RelA μ (u :: l) (v :: vs) :=
  ⟨by simp [h.1], fun i a b ha hb => by
    cases i with
    | zero => simp at ha hb; subst ha; subst hb; exact r
    | succ i => exact h.2 i a b (by simpa using ha) (by simpa using hb)⟩
theorem RelA.inv {μ : Mu} {u : AV} {l : List AV} {vs : List Value} (h : RelA μ (u :: l) vs) : ∃ v vs', vs = v :: vs' ∧ Rel μ u v ∧ RelA μ l vs' := by
  cases vs with
  | nil => simp [RelA] at h
  | cons v vs' => exact ⟨v, vs', rfl, h.2 0 u v rfl rfl, by simpa using h.1, fun i a b ha hb => h.2 (i + 1) a b (by simpa using ha) (by simpa using hb)⟩
theorem RelA.inv_nil {μ : Mu} {vs : List Value} (h : RelA μ [] vs) : vs = [] := List.eq_nil_of_length_eq_zero h.1.symm
theorem RelA.append {μ : Mu} {l l' : List AV} {vs vs' : List Value} (h : RelA μ l vs) (h' : RelA μ l' vs') : RelA μ (l ++ l') (vs ++ vs') := by
  refine ⟨by simp [h.1, h'.1], fun i u v hu hv => ?_⟩
  rcases Nat.lt_or_ge i l.length with hi | hi
  · rw [List.getElem?_append_left hi] at hu
    rw [List.getElem?_append_left (by rw [← h.1]; exact hi)] at hv
    exact h.2 i u v hu hv
  · rw [List.getElem?_append_right hi] at hu
    rw [List.getElem?_append_right (by rw [← h.1]; exact hi), ← h.1] at hv
    exact h'.2 _ u v hu hv
theorem RelA.take {μ : Mu} {l : List AV} {vs : List Value} (h : RelA μ l vs) (n : Nat) : RelA μ (l.take n) (vs.take n) :=
  ⟨by simp [h.1], fun i u v hu hv => by
    rw [List.getElem?_take] at hu hv
    split at hu
    · rename_i hi
      rw [if_pos hi] at hv
      exact h.2 i u v hu hv
    · cases hu⟩
theorem RelA.drop {μ : Mu} {l : List AV} {vs : List Value} (h : RelA μ l vs) (n : Nat) : RelA μ (l.drop n) (vs.drop n) :=
  ⟨by simp [h.1], fun i u v hu hv => by
    rw [List.getElem?_drop] at hu hv
    exact h.2 _ u v hu hv⟩
theorem RelA.set {μ : Mu} {l : List AV} {vs : List Value} (h : RelA μ l vs) (n : Nat) {u : AV} {v : Value} (r : Rel μ u v) : RelA μ (l.set n u) (vs.set n v) :=
  ⟨by simp [h.1], fun i a b ha hb => by
    rw [List.getElem?_set] at ha hb
    split at ha
    · rename_i hi
      rw [if_pos hi] at hb
      split at ha
      · rename_i hn
        rw [if_pos (by rw [← h.1]; exact hn)] at hb
        injection ha with ha
        injection hb with hb
        subst ha; subst hb
        exact r
      · cases ha
    · rename_i hi
      rw [if_neg hi] at hb
      exact h.2 i a b ha hb⟩
theorem RelA.replicate {μ : Mu} (n : Nat) {u : AV} {v : Value} (r : Rel μ u v) : RelA μ (List.replicate n u) (List.replicate n v) :=
  ⟨by simp, fun i a b ha hb => by
    rw [List.getElem?_replicate] at ha hb
    split at ha
    · rename_i hi
      rw [if_pos hi] at hb
      injection ha with ha
      injection hb with hb
      subst ha; subst hb
      exact r
    · cases ha⟩
theorem RelA.oneCell {μ : Mu} {l : List AV} {vs : List Value} (h : RelA μ l vs) (h1 : ∀ u ∈ l, u.one = true) : ∀ v ∈ vs, v.oneCell' = true := by
  intro v hv
  obtain ⟨i, hi, rfl⟩ := List.getElem_of_mem hv
  have hl : i < l.length := by rw [h.1]; exact hi
  exact (h.2 i l[i] vs[i] (List.getElem?_eq_getElem hl) (List.getElem?_eq_getElem hi)).oneCell (h1 _ (List.getElem_mem hl))
theorem Rel.cells {μ : Mu} {u : AV} {v : Value} (r : Rel μ u v) (h : u.held = true) : RelA μ u.cells v.cells.toList := by
  cases r with
  | agg h1 h2 => exact ⟨by simpa [AV.cells, Value.cells] using h1, fun i a b ha hb => h2 i a b ha (by simpa [Value.cells] using hb)⟩
  | tup h1 h2 => simp [AV.held] at h
  | junk v => simp [AV.held] at h
  | int k n => exact (RelA.nil μ).cons (.int k n)
  | bool b => exact (RelA.nil μ).cons (.bool b)
  | str b => exact (RelA.nil μ).cons (.str b)
  | pnil => exact (RelA.nil μ).cons .pnil
  | ptr hp => exact (RelA.nil μ).cons (.ptr hp)
  | gp g off => exact (RelA.nil μ).cons (.gp g off)
  | snil hc => exact (RelA.nil μ).cons (.snil hc)
  | sl hp hA hl hc ht => exact (RelA.nil μ).cons (.sl hp hA hl hc ht)
  | fn h1 h2 h3 h4 => exact (RelA.nil μ).cons (.fn h1 h2 h3 h4)
theorem RelA.agg {μ : Mu} {l : List AV} {vs : List Value} (h : RelA μ l vs) : Rel μ (.agg l) (.agg vs.toArray) := .agg (by simpa using h.1) (fun i u v hu hv => h.2 i u v hu (by simpa using hv))
theorem RelA.tup {μ : Mu} {l : List AV} {vs : List Value} (h : RelA μ l vs) : Rel μ (.tup l) (.tuple vs.toArray) := .tup (by simpa using h.1) (fun i u v hu hv => h.2 i u v hu (by simpa using hv))

/-- A row of memory: own: the call has made it (its elements' type), or it came in. -/
structure Row where
  own : Option TypeId
  esz : Nat
  cells : List AV
structure H where
  rows : Nat → Option Row
  next : Nat
def H.new (h : H) (r : Row) : H := { rows := fun i => if i = h.next then some r else h.rows i, next := h.next + 1 }
def H.set (h : H) (id : Nat) (r : Row) : H := { h with rows := fun i => if i = id then some r else h.rows i }
def H.del (h : H) (id : Option Nat) : H := { h with rows := fun i => if some i = id then none else h.rows i }

/-- How a row lies in memory. -/
def RowRep (base : Nat) (μ : Mu) (w : World) (p : Pl) (r : Row) : Prop :=
  match r.own with
  | none => p.addr.block < base ∧ p.tot = none ∧ ∀ (j : Nat) (u : AV), r.cells[j]? = some u → ∃ v, w.cell? (p.addr.add j) = some v ∧ Rel μ u v
  | some t => ∃ (g : Nat) (cur : Array Value), p.addr = ⟨g, 0, none⟩ ∧ base ≤ g ∧ p.esz = r.esz ∧ w.heap[g]? = some (.cells cur t (0, 0)) ∧ p.tot = some cur.size ∧ cur.size ≤ maxLen * r.esz ∧
      r.cells.length ≤ cur.size ∧ ∀ (j : Nat) (u : AV), r.cells[j]? = some u → ∃ v, cur[j]? = some v ∧ Rel μ u v

/-- The program's table of bytes, as it is laid (where the seat has one). -/
def gnum : Option Nat := none
def gtab : List Nat := [0, 1, 56, 2, 57, 49, 28, 3, 61, 58, 42, 50, 38, 29, 17, 4, 62, 47, 59, 36, 45, 43, 51, 22, 53, 39, 33, 30, 24, 18, 12, 5, 63, 55, 48, 27, 60, 41, 37, 16, 46, 35, 44, 21, 52, 32, 23, 11, 54, 26, 40, 15, 34, 20, 31, 10, 25, 14, 19, 9, 13, 8, 7, 6]
def gcell (g off : Nat) : Option Nat := if gnum = some g then gtab[off]? else none
def GlobOK (base : Nat) (w0 : World) : Prop := ∀ g off n, gcell g off = some n → g < base ∧ w0.cell? ⟨g, off, none⟩ = some (.int .u8 n)
structure Rep (base : Nat) (w0 : World) (μ : Mu) (w : World) (h : H) : Prop where
  below : Below base w0 w
  size : base ≤ w.heap.size
  glob : GlobOK base w0
  free : ∀ id, h.next ≤ id → μ id = none
  row : ∀ id r, h.rows id = some r → ∃ p, μ id = some p ∧ RowRep base μ w p r
  apart : ∀ id id' r r' p p', h.rows id = some r → h.rows id' = some r' → r.own ≠ none → r'.own ≠ none → μ id = some p → μ id' = some p' → p.addr.block = p'.addr.block → id = id'

theorem Rep.row_free {base : Nat} {w0 w : World} {μ : Mu} {h : H} (R : Rep base w0 μ w h) {id : Nat} (hid : h.next ≤ id) : h.rows id = none := by
  cases hr : h.rows id with
  | none => rfl
  | some r =>
    obtain ⟨p, hp, _⟩ := R.row id r hr
    rw [R.free id hid] at hp
    cases hp
theorem Rep.row_lt {base : Nat} {w0 w : World} {μ : Mu} {h : H} (R : Rep base w0 μ w h) {id : Nat} {r : Row} (hr : h.rows id = some r) : id < h.next := by
  rcases Nat.lt_or_ge id h.next with hl | hl
  · exact hl
  · rw [R.row_free hl] at hr; cases hr

theorem block_add (a : Addr) (n : Nat) : (a.add n).block = a.block := by unfold Addr.add; split <;> rfl
theorem add_add (a : Addr) (i j : Nat) : (a.add i).add j = a.add (i + j) := by
  unfold Addr.add
  by_cases hi : i = 0 <;> by_cases hj : j = 0 <;> simp [hi, hj, Nat.add_assoc]
theorem add_plain (g o i : Nat) : (⟨g, o, none⟩ : Addr).add i = ⟨g, o + i, none⟩ := by
  unfold Addr.add
  by_cases hi : i = 0 <;> simp [hi]

theorem RowRep.mono {base : Nat} {μ μ' : Mu} (h : μ.le μ') {w : World} {p : Pl} {r : Row} (hr : RowRep base μ w p r) : RowRep base μ' w p r := by
  unfold RowRep at *
  split at hr
  · exact ⟨hr.1, hr.2.1, fun j u hu => by
      obtain ⟨v, hv, hR⟩ := hr.2.2 j u hu
      exact ⟨v, hv, hR.mono h⟩⟩
  · obtain ⟨g, cur, h1, h2, h3, h4, h5, h6, h7, h8⟩ := hr
    exact ⟨g, cur, h1, h2, h3, h4, h5, h6, h7, fun j u hu => by
      obtain ⟨v, hv, hR⟩ := h8 j u hu
      exact ⟨v, hv, hR.mono h⟩⟩
/-- A row lies as it lay where its block is as it was. -/
theorem RowRep.keep {base : Nat} {μ : Mu} {w w' : World} {p : Pl} {r : Row} (hr : RowRep base μ w p r) (hk : w'.heap[p.addr.block]? = w.heap[p.addr.block]?) : RowRep base μ w' p r := by
  unfold RowRep at *
  split at hr
  · exact ⟨hr.1, hr.2.1, fun j u hu => by
      obtain ⟨v, hv, hR⟩ := hr.2.2 j u hu
      refine ⟨v, ?_, hR⟩
      rw [World.cell?_of_block (w := w) (by rw [block_add]; exact hk)]
      exact hv⟩
  · obtain ⟨g, cur, h1, h2, h3, h4, h5, h6, h7, h8⟩ := hr
    rw [h1] at hk
    exact ⟨g, cur, h1, h2, h3, hk.trans h4, h5, h6, h7, h8⟩
theorem RowRep.block_lt {base : Nat} {μ : Mu} {w : World} {p : Pl} {r : Row} (hr : RowRep base μ w p r) (hb : base ≤ w.heap.size) : p.addr.block < w.heap.size := by
  unfold RowRep at hr
  split at hr
  · omega
  · obtain ⟨g, cur, h1, h2, h3, h4, _⟩ := hr
    rw [h1]
    rcases Nat.lt_or_ge g w.heap.size with hlt | hge
    · exact hlt
    · rw [Array.getElem?_eq_none hge] at h4; cases h4
theorem RowRep.own_ge {base : Nat} {μ : Mu} {w : World} {p : Pl} {r : Row} (hr : RowRep base μ w p r) (ho : r.own ≠ none) : base ≤ p.addr.block := by
  unfold RowRep at hr
  split at hr
  · rename_i h; exact absurd h ho
  · obtain ⟨g, cur, h1, h2, _⟩ := hr
    rw [h1]; exact h2
theorem RowRep.ro_lt {base : Nat} {μ : Mu} {w : World} {p : Pl} {r : Row} (hr : RowRep base μ w p r) (ho : r.own = none) : p.addr.block < base := by
  unfold RowRep at hr
  rw [ho] at hr
  exact hr.1
/-- A cell of a row. -/
theorem RowRep.cell {base : Nat} {μ : Mu} {w : World} {p : Pl} {r : Row} (hr : RowRep base μ w p r) {j : Nat} {u : AV} (hu : r.cells[j]? = some u) : ∃ v, w.cell? (p.addr.add j) = some v ∧ Rel μ u v := by
  unfold RowRep at hr
  split at hr
  · exact hr.2.2 j u hu
  · obtain ⟨g, cur, h1, h2, h3, h4, h5, h6, h7, h8⟩ := hr
    obtain ⟨v, hv, hR⟩ := h8 j u hu
    refine ⟨v, ?_, hR⟩
    rw [h1, add_plain]
    simp [World.cell?, h4, hv]

section
variable {base : Nat} {w0 w : World} {μ : Mu} {h : H}
/-- A cell of the table. -/
theorem Rep.gcell (R : Rep base w0 μ w h) {g off n : Nat} (hg : gcell g off = some n) : w.cell? ⟨g, off, none⟩ = some (.int .u8 n) := by
  obtain ⟨h1, h2⟩ := R.glob g off n hg
  rw [World.cell?_of_block (w := w0) (R.below.block g h1)]
  exact h2
/-- A draw. -/
theorem Rep.drew (R : Rep base w0 μ w h) (n : Nat) : Rep base w0 μ { w with drawn := n } h :=
  ⟨⟨R.below.os, R.below.tape, R.below.output, R.below.size, R.below.block⟩, R.size, R.glob, R.free, fun id r hr => by
    obtain ⟨p, hp, hR⟩ := R.row id r hr
    exact ⟨p, hp, hR.keep rfl⟩, R.apart⟩
/-- A row is forgotten. -/
theorem Rep.del (R : Rep base w0 μ w h) (id : Option Nat) : Rep base w0 μ w (h.del id) :=
  ⟨R.below, R.size, R.glob, R.free, fun i r hr => by
    simp only [H.del] at hr
    split at hr
    · cases hr
    · exact R.row i r hr, fun i i' r r' p p' hr hr' => by
    simp only [H.del] at hr hr'
    split at hr
    · cases hr
    · split at hr'
      · cases hr'
      · exact R.apart i i' r r' p p' hr hr'⟩
def Mu.put (μ : Mu) (id : Nat) (p : Pl) : Mu := fun i => if i = id then some p else μ i
theorem Mu.le_put {μ : Mu} {id : Nat} (hid : μ id = none) (p : Pl) : μ.le (μ.put id p) := fun i q hq => by
  unfold Mu.put
  split
  · rename_i h; subst h; rw [hid] at hq; cases hq
  · exact hq
/-- The general step: the world turns to w', what is known stays; a new row is known. -/
theorem Rep.step_new (R : Rep base w0 μ w h) {w' : World} {r : Row} {p : Pl} (hb : Below base w0 w') (hs : base ≤ w'.heap.size)
    (hkeep : ∀ id r' p', h.rows id = some r' → μ id = some p' → w'.heap[p'.addr.block]? = w.heap[p'.addr.block]?)
    (hne : ∀ id r' p', h.rows id = some r' → r'.own ≠ none → μ id = some p' → p'.addr.block ≠ p.addr.block)
    (hr : RowRep base (μ.put h.next p) w' p r) : Rep base w0 (μ.put h.next p) w' (h.new r) := by
  have hfree := R.free h.next (Nat.le_refl _)
  refine ⟨hb, hs, R.glob, fun id hid => ?_, fun id r' hr' => ?_, fun i i' r1 r2 p1 p2 h1 h2 o1 o2 q1 q2 hbk => ?_⟩
  · simp only [H.new] at hid
    unfold Mu.put
    rw [if_neg (by omega)]
    exact R.free id (by omega)
  · simp only [H.new] at hr'
    split at hr'
    · rename_i he
      subst he
      injection hr' with hr'
      subst hr'
      exact ⟨p, by simp [Mu.put], hr⟩
    · obtain ⟨q, hq, hR⟩ := R.row id r' hr'
      exact ⟨q, Mu.le_put hfree p _ _ hq, (hR.mono (Mu.le_put hfree p)).keep (hkeep id r' q hr' hq)⟩
  · simp only [H.new] at h1 h2
    unfold Mu.put at q1 q2
    split at h1 <;> split at h2
    · rename_i e1 e2; rw [e1, e2]
    · rename_i e1 e2
      rw [if_pos e1] at q1
      rw [if_neg e2] at q2
      injection q1 with q1
      subst q1
      exact absurd hbk.symm (hne i' r2 p2 h2 o2 q2)
    · rename_i e1 e2
      rw [if_neg e1] at q1
      rw [if_pos e2] at q2
      injection q2 with q2
      subst q2
      exact absurd hbk (hne i r1 p1 h1 o1 q1)
    · rename_i e1 e2
      rw [if_neg e1] at q1
      rw [if_neg e2] at q2
      exact R.apart i i' r1 r2 p1 p2 h1 h2 o1 o2 q1 q2 hbk
/-- A new block. -/
theorem Rep.alloc (R : Rep base w0 μ w h) (t : TypeId) (esz : Nat) {l : List AV} {cs : Array Value} (hr : RelA μ l cs.toList) (hm : cs.size ≤ maxLen * esz) :
    Rep base w0 (μ.put h.next ⟨⟨w.heap.size, 0, none⟩, esz, some cs.size⟩) (w.alloc (.cells cs t)) (h.new ⟨some t, esz, l⟩) := by
  have hfree := R.free h.next (Nat.le_refl _)
  refine R.step_new (R.below.alloc R.size _) (by simp; have := R.size; omega) (fun id r' p' hr' hp' => ?_) (fun id r' p' hr' ho hp' => ?_) ?_
  · obtain ⟨q, hq, hR⟩ := R.row id r' hr'
    rw [hp'] at hq
    injection hq with hq
    subst hq
    exact Below.heap_alloc w _ _ (hR.block_lt R.size)
  · obtain ⟨q, hq, hR⟩ := R.row id r' hr'
    rw [hp'] at hq
    injection hq with hq
    subst hq
    have := hR.block_lt R.size
    show p'.addr.block ≠ w.heap.size
    omega
  · refine ⟨w.heap.size, cs, rfl, R.size, rfl, heap_alloc_new w _, rfl, hm, by rw [hr.1]; simp, fun j u hu => ?_⟩
    have hj : j < cs.size := by
      have h1 : j < l.length := (List.getElem?_eq_some_iff.1 hu).1
      have h2 := hr.1
      simp at h2
      omega
    exact ⟨cs[j], Array.getElem?_eq_getElem hj, (hr.2 j u cs[j] hu (by simp [hj])).mono (Mu.le_put hfree _)⟩
/-- Cells of one of the call's own rows are written. -/
theorem Rep.write (R : Rep base w0 μ w h) {id : Nat} {r : Row} {p : Pl} {t : TypeId} (hr : h.rows id = some r) (ho : r.own = some t) (hp : μ id = some p) {w' : World} {cur cur' : Array Value}
    (hcur : w.heap[p.addr.block]? = some (.cells cur t (0, 0))) (hw : w'.heap[p.addr.block]? = some (.cells cur' t (0, 0))) (hsz : cur'.size = cur.size)
    (hoth : ∀ b, b ≠ p.addr.block → w'.heap[b]? = w.heap[b]?) (hs : w'.heap.size = w.heap.size) (hos : w'.os = w.os) (htp : w'.tape = w.tape) (hout : w'.output = w.output)
    {l : List AV} (hl : l.length ≤ cur'.size) (hrel : ∀ (j : Nat) (u : AV), l[j]? = some u → ∃ v, cur'[j]? = some v ∧ Rel μ u v) : Rep base w0 μ w' (h.set id { r with cells := l }) := by
  obtain ⟨q, hq, hR⟩ := R.row id r hr
  rw [hp] at hq
  injection hq with hq
  subst hq
  have hge := hR.own_ge (by rw [ho]; simp)
  refine ⟨⟨hos.trans R.below.os, htp.trans R.below.tape, hout.trans R.below.output, by rw [hs]; exact R.below.size, fun k hk => (hoth k (by omega)).trans (R.below.block k hk)⟩, by rw [hs]; exact R.size, R.glob, R.free, fun i r' hr' => ?_, fun i i' r1 r2 p1 p2 h1 h2 o1 o2 => ?_⟩
  · simp only [H.set] at hr'
    split at hr'
    · rename_i he
      subst he
      injection hr' with hr'
      subst hr'
      refine ⟨p, hp, ?_⟩
      unfold RowRep at hR ⊢
      simp only [ho] at hR ⊢
      obtain ⟨g, c, h1, h2, h3, h4, h5, h6, h7, h8⟩ := hR
      rw [h1] at hcur hw
      rw [h4] at hcur
      injection hcur with hcur
      injection hcur with hcur
      subst hcur
      exact ⟨g, cur', h1, h2, h3, hw, by rw [h5, hsz], by rw [hsz]; exact h6, hl, hrel⟩
    · rename_i he
      obtain ⟨q, hq, hR'⟩ := R.row i r' hr'
      refine ⟨q, hq, hR'.keep (hoth _ (fun e => ?_))⟩
      cases ho' : r'.own with
      | none => have := hR'.ro_lt ho'; omega
      | some t' => exact he (R.apart i id r' r q p hr' hr (by rw [ho']; simp) (by rw [ho]; simp) hq hp e)
  · simp only [H.set] at h1 h2
    have key : ∀ {i : Nat} {r1 : Row}, (if i = id then some { r with cells := l } else h.rows i) = some r1 → r1.own ≠ none → ∃ r0, h.rows i = some r0 ∧ r0.own ≠ none := by
      intro i r1 h1 o1
      split at h1
      · rename_i e
        subst e
        exact ⟨r, hr, by rw [ho]; simp⟩
      · exact ⟨r1, h1, o1⟩
    obtain ⟨a1, b1, c1⟩ := key h1 o1
    obtain ⟨a2, b2, c2⟩ := key h2 o2
    exact R.apart i i' a1 a2 p1 p2 b1 b2 c1 c2
end
end Ab
end Go.Proofs.Yteoagnggnekfiaa
