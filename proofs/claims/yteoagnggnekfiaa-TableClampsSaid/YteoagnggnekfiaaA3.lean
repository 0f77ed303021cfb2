/- The machine's operations do what the abstract ones say. No condition. -/
import Derived.Test.YteoagnggnekfiaaA2
namespace Go.Proofs.Yteoagnggnekfiaa
namespace Ab
open Go Go.RowKit

/-- What is left behind an operation. -/
def Fin (base : Nat) (w0 : World) (μ : Mu) (K : AV → H → Prop) (rv : Value) (w' : World) : Prop := ∃ μ' v h', μ.le μ' ∧ Rel μ' v rv ∧ Rep base w0 μ' w' h' ∧ K v h'
section
variable {P : Program} {base : Nat} {w0 w : World} {μ : Mu} {h : H} {K : AV → H → Prop}
theorem Fin.same (R : Rep base w0 μ w h) {v : AV} {rv : Value} (hr : Rel μ v rv) (hk : K v h) : Fin base w0 μ K rv w := ⟨μ, v, h, μ.le_refl, hr, R, hk⟩

theorem bin_int {op : BinOp} {t : TypeId} {k : IntKind} {a b : Int} {Kv : AV → Prop} (h : abin op k a b Kv) :
    ∃ v, (binOp op t (.int k a) (.int k b)).run P w = .ok v w ∧ ∃ u, Kv u ∧ ∀ μ : Mu, Rel μ u v := by
  cases op <;> simp only [abin] at h
  all_goals first
    | exact h.elim
    | (refine ⟨_, ?_, _, h, fun μ => .int _ _⟩; simp [binOp, Op.intArith, Op.intBits]; done)
    | (refine ⟨_, ?_, _, h, fun μ => .bool _⟩; simp [binOp, Op.intCmp]; done)
    | (refine ⟨_, ?_, _, h.2, fun μ => .int _ _⟩; simp [binOp, Op.intDiv, h.1]; done)
theorem bin_shift {op : BinOp} {t : TypeId} {k k' : IntKind} {a b : Int} {Kv : AV → Prop} (ho : op = .shl ∨ op = .shr) (h : ashift op k a b Kv) :
    ∃ v, (binOp op t (.int k a) (.int k' b)).run P w = .ok v w ∧ ∃ u, Kv u ∧ ∀ μ : Mu, Rel μ u v := by
  rcases ho with rfl | rfl <;> simp only [ashift] at h
  all_goals
    obtain ⟨h0, h⟩ := h
    have h1 : ¬ b < 0 := by omega
    refine ⟨_, ?_, _, h, fun μ => .int _ _⟩
    simp [binOp, Op.shift, h1]
theorem bin_any {op : BinOp} {t : TypeId} {x y : AV} {vx vy : Value} {Kv : AV → Prop} (hx : Rel μ x vx) (hy : Rel μ y vy) (h : abinV op x y Kv) :
    ∃ v, (binOp op t vx vy).run P w = .ok v w ∧ ∃ u, Kv u ∧ ∀ μ : Mu, Rel μ u v := by
  unfold abinV at h
  split at h
  · cases hx
    cases hy
    split at h
    · exact bin_shift (.inl rfl) h
    · exact bin_shift (.inr rfl) h
    · obtain ⟨rfl, h⟩ := h
      exact bin_int h
  · exact h.elim
theorem guard_int {op : BinOp} {t : TypeId} {x y : Operand} {k k' : IntKind} {a b : Int} : (eqGuard op t x y (.int k a) (.int k' b)).run P w = .ok () w := by
  unfold eqGuard
  cases op <;> rfl
theorem guard_bool {op : BinOp} {t : TypeId} {x y : Operand} {a b : Bool} : (eqGuard op t x y (.bool a) (.bool b)).run P w = .ok () w := by
  unfold eqGuard
  cases op <;> rfl
theorem eq_bool {t : TypeId} (ht : P.underlying t = some .bool) (a b : Bool) : (Op.equal t (.bool a) (.bool b)).run P w = .ok (a == b) w := by
  have hh : ∀ d, (Op.equalIn (d + 1) t (.bool a) (.bool b)).run P w = .ok (a == b) w := fun d => by simp [Op.equalIn, run_underlying ht]
  exact hh 9999
theorem un_any {op : UnOp} {x : AV} {vx : Value} (hx : Rel μ x vx) (R : Rep base w0 μ w h)
    (hk : match (generalizing := false) op, x with
      | .neg, .int k n => K (.int k (k.wrap (0 - n))) h
      | .xor, .int k n => K (.int k (k.wrap (BitVec.ofInt k.bits (if k.signed then -1 else k.max) ^^^ BitVec.ofInt k.bits n).toNat)) h
      | .not, .bool b => K (.bool (!b)) h
      | _, _ => False) : ∃ v, (Op.unary op vx).run P w = .ok v w ∧ Fin base w0 μ K v w := by
  cases op <;> cases hx <;> first | exact hk.elim | exact ⟨_, rfl, Fin.same R (.int _ _) hk⟩ | exact ⟨_, rfl, Fin.same R (.bool _) hk⟩
theorem szOf {t : TypeId} {i : TypeInfo} (hi : P.info? t = some i) : (sizeOf t).run P w = .ok i.size w := by simp [sizeOf, typeInfo, hi]
theorem szT_none {t : TypeId} (ht : szT P t = some none) : (isAgg t).run P w = .ok false w := by
  unfold szT at ht
  split at ht
  · cases ht
  · cases ht
  · rename_i d i hn1 hn2 hd hi
    unfold isAgg
    rw [Sem.run_bind, run_underlying hd, Result.andThen_ok]
    cases d <;> first | rfl | (exfalso; first | exact hn1 _ rfl | exact hn2 _ _ rfl)
  · cases ht
theorem szT_some {t : TypeId} {n : Nat} (ht : szT P t = some (some n)) : (isAgg t).run P w = .ok true w ∧ (sizeOf t).run P w = .ok n w := by
  unfold szT at ht
  split at ht
  · rename_i hd hi
    injection ht with ht
    injection ht with ht
    subst ht
    exact ⟨by unfold isAgg; rw [Sem.run_bind, run_underlying hd, Result.andThen_ok]; rfl, szOf hi⟩
  · rename_i hd hi
    injection ht with ht
    injection ht with ht
    subst ht
    exact ⟨by unfold isAgg; rw [Sem.run_bind, run_underlying hd, Result.andThen_ok]; rfl, szOf hi⟩
  · cases ht
  · cases ht
theorem guard_str {op : BinOp} {t : TypeId} {x y : Operand} {a b : ByteArray} : (eqGuard op t x y (.string a) (.string b)).run P w = .ok () w := by
  unfold eqGuard
  cases op <;> rfl
theorem eqs_cons {u v : AV} {l m : List AV} {b : Bool} (h : eqs (u :: l) (v :: m) = some b) : ∃ k a c, u = .int k a ∧ v = .int k c ∧ (if a == c then eqs l m else some false) = some b := by
  cases u <;> cases v <;> try (simp [eqs] at h; done)
  rename_i k a k' c
  simp only [eqs] at h
  split at h
  · rename_i e; subst e; exact ⟨k, a, c, rfl, rfl, h⟩
  · cases h
theorem eq_fields {xs ys : Array Value} {l m : List AV} (h1 : RelA μ l xs.toList) (h2 : RelA μ m ys.toList) : ∀ (fs : List Field) (i : Nat) (b : Bool), (∀ j f, fs[j]? = some f → f.offset = i + j ∧ f.name ≠ "_" ∧ (∃ k, P.underlying f.type = some (.int k)) ∧ szT P f.type = some none) →
    l.length = i + fs.length → m.length = i + fs.length → eqs (l.drop i) (m.drop i) = some b → (Op.eqFields 9999 xs ys fs).run P w = .ok b w
  | [], i, b, _, hl, hm, hb => by
    rw [List.drop_eq_nil_of_le (by simp at hl; omega), List.drop_eq_nil_of_le (by simp at hm; omega)] at hb
    simp only [eqs] at hb
    injection hb with hb
    subst hb
    rfl
  | f :: fs, i, b, hf, hl, hm, hb => by
    simp only [List.length_cons] at hl hm
    obtain ⟨f1, f2, ⟨k, f3⟩, f4⟩ := hf 0 f rfl
    have hil : i < l.length := by omega
    have him : i < m.length := by omega
    rw [List.drop_eq_getElem_cons hil, List.drop_eq_getElem_cons him] at hb
    have g1 := h1.1
    have g2 := h2.1
    simp only [Array.length_toList] at g1 g2
    have r1 := h1.2 i l[i] xs[i] (List.getElem?_eq_getElem hil) (by simp [show i < xs.size by omega])
    have r2 := h2.2 i m[i] ys[i] (List.getElem?_eq_getElem him) (by simp [show i < ys.size by omega])
    have p1 : (part f.type xs f.offset).run P w = .ok xs[i] w := by
      simp [part, szT_none f4, f1, show i < xs.size by omega]
    have p2 : (part f.type ys f.offset).run P w = .ok ys[i] w := by
      simp [part, szT_none f4, f1, show i < ys.size by omega]
    simp only [Op.eqFields, if_pos f2, Sem.run_bind, p1, p2, Result.andThen_ok]
    obtain ⟨k1, a, c, e1, e2, hb⟩ := eqs_cons hb
    rw [e1] at r1
    rw [e2] at r2
    generalize xs[i] = x at r1 ⊢
    generalize ys[i] = y at r2 ⊢
    cases r1
    cases r2
    rw [run_equalIn_int w 9998 f.type k1 k a c f3, Result.andThen_ok]
    split at hb
    · rename_i he
      rw [he]
      simp only [Bool.not_true, Bool.false_eq_true, if_false]
      exact eq_fields h1 h2 fs (i + 1) b (fun j g hg => by
        have := hf (j + 1) g (by simpa using hg)
        rw [show i + 1 + j = i + (j + 1) by omega]
        exact this) (by omega) (by omega) hb
    · rename_i he
      rw [show (a == c) = false by simpa using he]
      injection hb with hb
      subst hb
      rfl
theorem aeq_ok {t : TypeId} {fs : Array Field} (ht : P.underlying t = some (.struct fs)) (hok : aeqOk P t = true) {l m : List AV} {xs ys : Array Value} (h1 : RelA μ l xs.toList) (h2 : RelA μ m ys.toList) {b : Bool}
    (hl : l.length = fs.size) (hm : m.length = fs.size) (hb : eqs l m = some b) : (Op.equalIn 10000 t (.agg xs) (.agg ys)).run P w = .ok b w ∧ P.eqGuardType P.depth t = false := by
  have hfo : P.fieldsOf t = fs := by simp [Program.fieldsOf, ht]
  unfold aeqOk at hok
  simp only [Bool.and_eq_true, Bool.not_eq_true', hfo, List.all_eq_true] at hok
  obtain ⟨⟨o1, o2⟩, o3⟩ := hok
  refine ⟨?_, o2⟩
  rw [run_equalIn_struct w 9999 t xs ys (by rw [hfo]; exact ht) o1, hfo]
  refine eq_fields h1 h2 fs.toList 0 b (fun j f hf => ?_) (by simpa using hl) (by simpa using hm) (by simpa using hb)
  have hj := o3 (f, j) (by
    rw [List.mem_iff_getElem?]
    exact ⟨j, by rw [List.getElem?_zipIdx, hf]; simp⟩)
  simp only [beq_iff_eq, bne_iff_ne, ne_eq] at hj
  refine ⟨by omega, hj.1.1.2, ?_, hj.2⟩
  have := hj.1.2
  split at this
  · rename_i k hk; exact ⟨k, hk⟩
  · cases this
/-- Cells of a row, as values. -/
theorem row_cells {p : Pl} {r : Row} (hr : RowRep base μ w p r) (off n : Nat) (hl : off + n ≤ r.cells.length) :
    ∃ cs : List Value, cs.length = n ∧ (∀ j v, cs[j]? = some v → w.cell? ((p.addr.add off).add j) = some v) ∧ RelA μ ((r.cells.drop off).take n) cs := by
  induction n with
  | zero => exact ⟨[], rfl, fun j v hv => by simp at hv, by simpa using RelA.nil μ⟩
  | succ n ih =>
    obtain ⟨cs, h1, h2, h3⟩ := ih (by omega)
    have hu : r.cells[off + n]? = some r.cells[off + n] := List.getElem?_eq_getElem (by omega)
    obtain ⟨v, hv, hR⟩ := hr.cell hu
    refine ⟨cs ++ [v], by simp [h1], fun j u hu' => ?_, ?_⟩
    · rcases Nat.lt_or_ge j cs.length with hj | hj
      · rw [List.getElem?_append_left hj] at hu'
        exact h2 j u hu'
      · rw [List.getElem?_append_right hj] at hu'
        have hj0 : j - cs.length = 0 := by
          rcases Nat.eq_zero_or_pos (j - cs.length) with e | e
          · exact e
          · rw [List.getElem?_eq_none (by simp; omega)] at hu'; cases hu'
        rw [hj0] at hu'
        simp at hu'
        subst hu'
        have : j = n := by omega
        subst this
        rw [add_add]
        exact hv
    · have : (r.cells.drop off).take (n + 1) = (r.cells.drop off).take n ++ [r.cells[off + n]] := by
        rw [List.take_succ_eq_append_getElem (by simp; omega)]
        simp
      rw [this]
      exact h3.append ((RelA.nil μ).cons hR)
theorem load_any {t : TypeId} {s : Option Nat} (ht : szT P t = some s) {p : AV} {vp : Value} (hp : Rel μ p vp) (R : Rep base w0 μ w h)
    (hk : match (generalizing := false) p with
      | .ptr (some (id, off)) => match (generalizing := false) s with
        | none => ∃ r v, h.rows id = some r ∧ r.cells[off]? = some v ∧ K v h
        | some n => ∃ r, h.rows id = some r ∧ off + n ≤ r.cells.length ∧ K (.agg ((r.cells.drop off).take n)) h
      | .gp g off => match (generalizing := false) s with
        | none => ∃ n, gcell g off = some n ∧ K (.int .u8 n) h
        | some _ => False
      | _ => False) : ∃ v, (Instr.loadAt t vp).run P w = .ok v w ∧ Fin base w0 μ K v w := by
  cases hp with
  | @ptr id off q hq =>
    cases s with
    | none =>
      obtain ⟨r, v, hr, hv, hk⟩ := hk
      obtain ⟨q', hq', hR⟩ := R.row _ r hr
      rw [hq] at hq'
      injection hq' with hq'
      subst hq'
      obtain ⟨rv, hc, hrel⟩ := hR.cell hv
      refine ⟨rv, ?_, Fin.same R hrel hk⟩
      simp [Instr.loadAt, Instr.sureAddr, loadVar, szT_none ht, hc]
    | some n =>
      obtain ⟨r, hr, hl, hk⟩ := hk
      obtain ⟨q', hq', hR⟩ := R.row _ r hr
      rw [hq] at hq'
      injection hq' with hq'
      subst hq'
      obtain ⟨cs, h1, h2, h3⟩ := row_cells hR off n hl
      have hload := run_loadCells_list (P := P) w _ cs h2
      rw [h1] at hload
      refine ⟨.agg cs.toArray, ?_, Fin.same R h3.agg hk⟩
      simp [Instr.loadAt, Instr.sureAddr, loadVar, (szT_some ht).1, (szT_some ht).2, hload]
  | gp g off =>
    cases s with
    | none =>
      obtain ⟨n, hg, hk⟩ := hk
      refine ⟨.int .u8 n, ?_, Fin.same R (.int _ _) hk⟩
      simp [Instr.loadAt, Instr.sureAddr, loadVar, szT_none ht, R.gcell hg]
    | some n => exact hk.elim
  | _ => exact hk.elim
theorem putAt_length {l m : List AV} {off : Nat} (hl : off + m.length ≤ l.length) : (putAt l off m).length = l.length := by
  unfold putAt
  simp
  omega
theorem putAt_rel {l m : List AV} {vs us : List Value} (h : RelA μ l vs) (hm : RelA μ m us) (off : Nat) : RelA μ (putAt l off m) (vs.take off ++ us ++ vs.drop (off + us.length)) := by
  unfold putAt
  rw [hm.1]
  exact ((h.take off).append hm).append (h.drop _)
/-- A write of cells into one of the call's own rows. -/
theorem write_cells (R : Rep base w0 μ w h) {id : Nat} {r : Row} {p : Pl} (hr : h.rows id = some r) (ho : r.own ≠ none) (hp : μ id = some p) {off : Nat} {m : List AV} {us : List Value} (hm : RelA μ m us) (h1 : ∀ v ∈ us, v.oneCell' = true)
    (hl : off + m.length ≤ r.cells.length) : ∃ w', (storeCells (p.addr.add off) us).run P w = .ok () w' ∧ Rep base w0 μ w' (h.set id { r with cells := putAt r.cells off m }) := by
  obtain ⟨q, hq, hR⟩ := R.row id r hr
  rw [hp] at hq
  injection hq with hq
  subst hq
  obtain ⟨t, hown⟩ : ∃ t, r.own = some t := Option.ne_none_iff_exists'.1 ho
  · have hR' := hR
    unfold RowRep at hR'
    simp only [hown] at hR'
    obtain ⟨g, cur, e1, e2, e3, e4, e5, e6, e7, e8⟩ := hR'
    have hst := run_storeCells_at P g off t us 0 cur w e4 (by rw [← hm.1]; omega) h1
    rw [e1, add_plain, Nat.zero_add]
    simp only [Nat.add_zero] at hst
    refine ⟨_, hst, ?_⟩
    have hsz : (cur.toList.take off ++ us ++ cur.toList.drop (off + us.length)).toArray.size = cur.size := by
      have := hm.1
      simp
      omega
    refine R.write hr hown hp (cur := cur) (cur' := (cur.toList.take off ++ us ++ cur.toList.drop (off + us.length)).toArray) (by rw [e1]; exact e4) (by rw [e1]; show (w.setRow g _).heap[g]? = _; exact setRow_heap w g cur _ t _ e4) hsz
      (fun b hb => setRow_other w g b _ (by rw [e1] at hb; exact hb)) (by simp) rfl rfl rfl (by rw [putAt_length hl, hsz]; exact e7) (fun j u hu => ?_)
    unfold putAt at hu
    have hus := hm.1
    rcases Nat.lt_or_ge j off with hj | hj
    · rw [List.append_assoc, List.getElem?_append_left (by simp; omega), List.getElem?_take, if_pos hj] at hu
      obtain ⟨v, hv, hrel⟩ := e8 j u hu
      refine ⟨v, ?_, hrel⟩
      rw [List.getElem?_toArray, List.append_assoc, List.getElem?_append_left (by simp; omega), List.getElem?_take, if_pos hj]
      simpa using hv
    · rcases Nat.lt_or_ge j (off + m.length) with hj2 | hj2
      · rw [List.append_assoc, List.getElem?_append_right (by simp; omega), List.getElem?_append_left (by simp; omega)] at hu
        have hmin : (r.cells.take off).length = off := by simp; omega
        rw [hmin] at hu
        have hjl : j - off < us.length := by omega
        refine ⟨us[j - off], ?_, hm.2 (j - off) u _ hu (List.getElem?_eq_getElem hjl)⟩
        have hmin2 : (cur.toList.take off).length = off := by simp; omega
        rw [List.getElem?_toArray, List.append_assoc, List.getElem?_append_right (by omega), hmin2, List.getElem?_append_left hjl, List.getElem?_eq_getElem hjl]
      · have hmin : (r.cells.take off ++ m).length = off + m.length := by simp; omega
        rw [List.getElem?_append_right (by omega), hmin, List.getElem?_drop] at hu
        rw [show off + m.length + (j - (off + m.length)) = j from by omega] at hu
        obtain ⟨v, hv, hrel⟩ := e8 j u hu
        refine ⟨v, ?_, hrel⟩
        have hmin2 : (cur.toList.take off ++ us).length = off + us.length := by simp; omega
        rw [List.getElem?_toArray, List.getElem?_append_right (by omega), hmin2, List.getElem?_drop, show off + us.length + (j - (off + us.length)) = j from by omega]
        simpa using hv
theorem store_any {t : TypeId} {i : TypeInfo} (hi : P.info? t = some i) {p v : AV} {vp vv : Value} (hp : Rel μ p vp) (hv : Rel μ v vv) (R : Rep base w0 μ w h)
    (hk : match (generalizing := false) p with
      | .ptr (some (id, off)) => ∃ r, h.rows id = some r ∧ r.own ≠ none ∧ v.held = true ∧ v.cells.length = i.size ∧ off + i.size ≤ r.cells.length ∧ (v.cells.all (·.one)) = true ∧ K .junk (h.set id { r with cells := putAt r.cells off v.cells })
      | _ => False) : ∃ w', (Instr.storeAt t vp vv).run P w = .ok () w' ∧ Fin base w0 μ K undef w' := by
  cases hp with
  | @ptr id off q hq =>
    obtain ⟨r, hr, ho, hh, hl, hfit, h1, hk⟩ := hk
    have hc := hv.cells hh
    obtain ⟨w', hw, R'⟩ := write_cells (P := P) R hr ho hq hc (hc.oneCell (by simpa using h1)) (by rw [hl]; exact hfit)
    have hsz : vv.cells.size = i.size := by have := hc.1; simp at this; omega
    refine ⟨w', ?_, ⟨μ, .junk, _, μ.le_refl, .junk _, R', hk⟩⟩
    simp [Instr.storeAt, Instr.sureAddr, storeVar, szOf hi, hsz, hw]
  | _ => exact hk.elim
end
end Ab
end Go.Proofs.Yteoagnggnekfiaa
