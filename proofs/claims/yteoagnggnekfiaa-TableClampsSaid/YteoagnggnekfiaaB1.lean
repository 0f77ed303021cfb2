/- Rows of whole numbers in abstract memory. No condition. -/
import Derived.Test.YteoagnggnekfiaaS1
namespace Go.Proofs.Yteoagnggnekfiaa
namespace Ab
open Go Go.RowKit

def H.wf (h : H) : Prop := ∀ i, h.next ≤ i → h.rows i = none
theorem Rep.wf {base : Nat} {w0 w : World} {μ : Mu} {h : H} (R : Rep base w0 μ w h) : h.wf := fun _ hi => R.row_free hi
theorem acalls_wf {P : Program} (hm : P.follows .mixedOrders = true) {f : FuncId} {fn : Func} {c : Code} {ac : AC} {rs : List AR} {avs : List AV} {h : H} {K : AV → H → Prop} (hf : P.funcs[f]? = some fn) (hb : fn.body = some c) (hname : (fn.name == "runtime.NumGoroutine") = false)
    (hc : compile P fn.ntmps c = some ac) (hrs : compRes P fn.ntmps fn.results.toList = some rs) (hlen : avs.length ≤ fn.ntmps) (hx : h.wf → awp P ac (apost P rs (fun r h' => h'.wf → K r h')) (envOf avs) h) : ACalls P f avs h K := by
  intro base w0 μ w vs R hr
  rcases acalls_of hm hf hb hname hc hrs hlen (hx R.wf) base w0 μ w vs R hr with ⟨h1, h2⟩ | ⟨v, h1, μ', r, h', q1, q2, q3, q4⟩
  · refine .inl ⟨h1, h2.mono ?_⟩
    rintro e w' ⟨v, rfl, μ', r, h', q1, q2, q3, q4⟩
    exact ⟨v, rfl, μ', r, h', q1, q2, q3, q4 q3.wf⟩
  · exact .inr ⟨v, h1, μ', r, h', q1, q2, q3, q4 q3.wf⟩

def H.le (h h' : H) : Prop := h.next ≤ h'.next ∧ ∀ i r, h.rows i = some r → h'.rows i = some r
theorem H.le_refl (h : H) : h.le h := ⟨Nat.le_refl _, fun _ _ e => e⟩
theorem H.le_trans {a b c : H} (h : a.le b) (k : b.le c) : a.le c := ⟨Nat.le_trans h.1 k.1, fun i r e => k.2 i r (h.2 i r e)⟩
theorem H.row_lt {h : H} (hw : h.wf) {i : Nat} {r : Row} (e : h.rows i = some r) : i < h.next := by
  rcases Nat.lt_or_ge i h.next with hl | hl
  · exact hl
  · rw [hw i hl] at e; cases e
theorem H.le_new {a h : H} (hw : h.wf) (k : a.le h) (r : Row) : a.le (h.new r) := ⟨Nat.le_trans k.1 (Nat.le_succ _), fun i q e => by
  have e2 := k.2 i q e
  have := H.row_lt hw e2
  simp only [H.new]
  rw [if_neg (by omega)]
  exact e2⟩
theorem H.le_del {a h : H} (hw : a.wf) (k : a.le h) {i : Nat} (hi : a.next ≤ i) : a.le (h.del (some i)) := ⟨k.1, fun j q e => by
  have := H.row_lt hw e
  simp only [H.del]
  rw [if_neg (by intro x; injection x; omega)]
  exact k.2 j q e⟩
theorem H.le_del_none {a h : H} (k : a.le h) : a.le (h.del none) := ⟨k.1, fun j q e => by
  simp only [H.del]
  rw [if_neg (by intro x; cases x)]
  exact k.2 j q e⟩
theorem H.le_set {a h : H} (hw : a.wf) (k : a.le h) {i : Nat} (hi : a.next ≤ i) (r : Row) : a.le (h.set i r) := ⟨k.1, fun j q e => by
  have := H.row_lt hw e
  simp only [H.set]
  rw [if_neg (by omega)]
  exact k.2 j q e⟩
theorem H.wf_new {h : H} (hw : h.wf) (r : Row) : (h.new r).wf := fun i hi => by
  simp only [H.new] at hi ⊢
  rw [if_neg (by omega)]
  exact hw i (by omega)
theorem H.wf_del {h : H} (hw : h.wf) (o : Option Nat) : (h.del o).wf := fun i hi => by
  simp only [H.del] at hi ⊢
  split
  · rfl
  · exact hw i hi
theorem H.wf_set {h : H} (hw : h.wf) {i : Nat} (hi : i < h.next) (r : Row) : (h.set i r).wf := fun j hj => by
  simp only [H.set] at hj ⊢
  rw [if_neg (by omega)]
  exact hw j hj

theorem H.rows_new (h : H) (r : Row) : (h.new r).rows h.next = some r := by simp [H.new]
theorem H.rows_new_ne {h : H} {r : Row} {i : Nat} (hi : i ≠ h.next) : (h.new r).rows i = h.rows i := by
  show (if i = h.next then some r else h.rows i) = _
  rw [if_neg hi]
theorem H.rows_set (h : H) (i : Nat) (r : Row) : (h.set i r).rows i = some r := by simp [H.set]
theorem H.rows_set_ne {h : H} {r : Row} {i j : Nat} (hi : j ≠ i) : (h.set i r).rows j = h.rows j := by
  show (if j = i then some r else h.rows j) = _
  rw [if_neg hi]
theorem H.rows_del_ne {h : H} {i j : Nat} (hi : j ≠ i) : (h.del (some i)).rows j = h.rows j := by
  show (if some j = some i then none else h.rows j) = _
  rw [if_neg (by intro x; injection x with x; exact hi x)]
theorem H.next_new (h : H) (r : Row) : (h.new r).next = h.next + 1 := rfl
theorem H.next_set (h : H) (i : Nat) (r : Row) : (h.set i r).next = h.next := rfl
theorem H.next_del (h : H) (o : Option Nat) : (h.del o).next = h.next := rfl

/-- The cells of numbers. -/
def W (k : IntKind) (xs : List Int) : List AV := xs.map (AV.int k)
theorem W_length (k : IntKind) (xs : List Int) : (W k xs).length = xs.length := by simp [W]
theorem W_one (k : IntKind) (xs : List Int) : (W k xs).all (·.one) = true := by simp [W, AV.one]
theorem W_get {k : IntKind} {xs : List Int} {i : Nat} : (W k xs)[i]? = (xs[i]?).map (AV.int k) := by simp [W]
theorem W_all (k : IntKind) (xs : List Int) : (W k xs).take xs.length = W k xs := List.take_of_length_le (by simp [W])
theorem W_append (k : IntKind) (xs ys : List Int) : W k (xs ++ ys) = W k xs ++ W k ys := by simp [W]
theorem W_take (k : IntKind) (xs : List Int) (n : Nat) : (W k xs).take n = W k (xs.take n) := by simp [W, List.map_take]
theorem W_drop (k : IntKind) (xs : List Int) (n : Nat) : (W k xs).drop n = W k (xs.drop n) := by simp [W, List.map_drop]

/-- A slice that reads as these numbers. -/
def IsW (k : IntKind) (h : H) (v : AV) (xs : List Int) : Prop :=
  ∃ id off c, v = .sl id off xs.length c ∧ ((id = none ∧ xs = [] ∧ off = 0) ∨ ∃ i r, id = some i ∧ h.rows i = some r ∧ (r.own = none ∨ r.esz = 1) ∧ off + xs.length ≤ r.cells.length ∧ (r.cells.drop off).take xs.length = W k xs)
/-- A slice that the call has made, from row b on; it lies at its row's head. -/
def IsF (t : TypeId) (k : IntKind) (b : Nat) (h : H) (v : AV) (xs : List Int) : Prop :=
  ∃ id c, v = .sl id 0 xs.length c ∧ ((id = none ∧ xs = []) ∨ ∃ i r, id = some i ∧ b ≤ i ∧ h.rows i = some r ∧ r.own = some t ∧ r.esz = 1 ∧ xs.length ≤ r.cells.length ∧ r.cells.take xs.length = W k xs)
theorem IsF.isW {t : TypeId} {k : IntKind} {b : Nat} {h : H} {v : AV} {xs : List Int} (hv : IsF t k b h v xs) : IsW k h v xs := by
  obtain ⟨id, c, rfl, h1⟩ := hv
  refine ⟨id, 0, c, rfl, ?_⟩
  rcases h1 with ⟨rfl, rfl⟩ | ⟨i, r, rfl, _, hr, _, he, hl, ht⟩
  · exact .inl ⟨rfl, rfl, rfl⟩
  · exact .inr ⟨i, r, rfl, hr, .inr he, by omega, by simpa using ht⟩
theorem IsW.mono {k : IntKind} {h h' : H} {v : AV} {xs : List Int} (hv : IsW k h v xs) (hl : h.le h') : IsW k h' v xs := by
  obtain ⟨id, off, c, rfl, h1⟩ := hv
  refine ⟨id, off, c, rfl, ?_⟩
  rcases h1 with h1 | ⟨i, r, rfl, hr, h2⟩
  · exact .inl h1
  · exact .inr ⟨i, r, rfl, hl.2 i r hr, h2⟩
theorem IsF.mono {t : TypeId} {k : IntKind} {b : Nat} {h h' : H} {v : AV} {xs : List Int} (hv : IsF t k b h v xs) (hl : h.le h') : IsF t k b h' v xs := by
  obtain ⟨id, c, rfl, h1⟩ := hv
  refine ⟨id, c, rfl, ?_⟩
  rcases h1 with h1 | ⟨i, r, rfl, hb, hr, h2⟩
  · exact .inl h1
  · exact .inr ⟨i, r, rfl, hb, hl.2 i r hr, h2⟩
theorem IsF.base {t : TypeId} {k : IntKind} {b b' : Nat} {h : H} {v : AV} {xs : List Int} (hv : IsF t k b h v xs) (hb : b' ≤ b) : IsF t k b' h v xs := by
  obtain ⟨id, c, rfl, h1⟩ := hv
  refine ⟨id, c, rfl, ?_⟩
  rcases h1 with h1 | ⟨i, r, rfl, hb', h2⟩
  · exact .inl h1
  · exact .inr ⟨i, r, rfl, by omega, h2⟩
theorem IsF.nil (t : TypeId) (k : IntKind) (b : Nat) (h : H) (c : Option Nat) : IsF t k b h (.sl none 0 0 c) [] := ⟨none, c, rfl, .inl ⟨rfl, rfl⟩⟩
theorem IsW.nil (k : IntKind) (h : H) (c : Option Nat) : IsW k h (.sl none 0 0 c) [] := ⟨none, 0, c, rfl, .inl ⟨rfl, rfl, rfl⟩⟩
/-- An element that is there. -/
theorem IsW.at {k : IntKind} {h : H} {id : Option Nat} {off n : Nat} {c : Option Nat} {xs : List Int} (hv : IsW k h (.sl id off n c) xs) {j : Nat} (hj : j < xs.length) : ∃ i, id = some i ∧ n = xs.length ∧ h.get i (off + j) = some (.int k xs[j]) := by
  obtain ⟨id', off', c', e, h1⟩ := hv
  injection e with e1 e2 e3 e4
  subst e1; subst e2; subst e3; subst e4
  rcases h1 with ⟨_, rfl, _⟩ | ⟨i, r, rfl, hr, _, hl, ht⟩
  · simp at hj
  · refine ⟨i, rfl, rfl, ?_⟩
    have h2 : ((r.cells.drop off).take xs.length)[j]? = (W k xs)[j]? := by rw [ht]
    rw [List.getElem?_take, if_pos hj, List.getElem?_drop, W_get, List.getElem?_eq_getElem hj] at h2
    simp [H.get, hr, h2]
theorem IsW.len {k : IntKind} {h : H} {id : Option Nat} {off n : Nat} {c : Option Nat} {xs : List Int} (hv : IsW k h (.sl id off n c) xs) : n = xs.length := by
  obtain ⟨id', off', c', e, h1⟩ := hv
  injection e
theorem IsW.form {k : IntKind} {h : H} {v : AV} {xs : List Int} (hv : IsW k h v xs) : ∃ id off c, v = .sl id off xs.length c := by
  obtain ⟨id', off', c', e, h1⟩ := hv
  exact ⟨_, _, _, e⟩
/-- A cut. -/
theorem IsW.row {k : IntKind} {h : H} {id : Option Nat} {off n : Nat} {c : Option Nat} {xs : List Int} (hv : IsW k h (.sl id off n c) xs) : ∀ i, id = some i → ∃ r, h.rows i = some r ∧ (r.own = none ∨ r.esz = 1) := by
  obtain ⟨id', off', c', e, h1⟩ := hv
  injection e with e1 e2 e3 e4
  subst e1
  rintro i rfl
  rcases h1 with ⟨h0, _, _⟩ | ⟨i', r, h0, hr, he, _⟩
  · cases h0
  · injection h0 with h0
    subst h0
    exact ⟨r, hr, he⟩
theorem IsW.cut {k : IntKind} {h : H} {id : Option Nat} {off n : Nat} {c c' : Option Nat} {xs : List Int} (hv : IsW k h (.sl id off n c) xs) {a b : Nat} (hab : a ≤ b) (hb : b ≤ xs.length) : IsW k h (.sl id (off + a) (b - a) c') ((xs.take b).drop a) := by
  obtain ⟨id', off', c2, e, h1⟩ := hv
  injection e with e1 e2 e3 e4
  subst e1; subst e2; subst e3
  have hl : ((xs.take b).drop a).length = b - a := by simp; omega
  refine ⟨id, off + a, c', by rw [hl], ?_⟩
  rcases h1 with ⟨rfl, rfl, rfl⟩ | ⟨i, r, rfl, hr, he, hfit, ht⟩
  · simp at hb
    subst hb
    have : a = 0 := by omega
    subst this
    exact .inl ⟨rfl, by simp, rfl⟩
  · refine .inr ⟨i, r, rfl, hr, he, by rw [hl]; omega, ?_⟩
    rw [hl, ← W_drop, ← W_take, ← ht, List.take_take, Nat.min_eq_left hb, List.drop_take, List.drop_drop]
theorem IsF.cut {t : TypeId} {k : IntKind} {b : Nat} {h : H} {id : Option Nat} {n : Nat} {c c' : Option Nat} {xs : List Int} (hv : IsF t k b h (.sl id 0 n c) xs) {m : Nat} (hm : m ≤ xs.length) : IsF t k b h (.sl id 0 m c') (xs.take m) := by
  obtain ⟨id', c2, e, h1⟩ := hv
  injection e with e1 e2 e3 e4
  subst e1; subst e3
  have hl : (xs.take m).length = m := by simp; omega
  refine ⟨id, c', by rw [hl], ?_⟩
  rcases h1 with ⟨rfl, rfl⟩ | ⟨i, r, rfl, hbi, hr, ho, he, hfit, ht⟩
  · exact .inl ⟨rfl, by simp⟩
  · refine .inr ⟨i, r, rfl, hbi, hr, ho, he, by rw [hl]; omega, ?_⟩
    rw [hl, ← W_take, ← ht, List.take_take, Nat.min_eq_left hm]
/-- A row just made: n noughts, the first m of them seen. -/
theorem IsF.made {t : TypeId} {k : IntKind} {b : Nat} {h : H} (hb : b ≤ h.next) (n : Nat) : IsF t k b (h.new ⟨some t, 1, zs [AV.int k 0] n⟩) (.sl (some h.next) 0 n (some n)) (List.replicate n 0) := by
  refine ⟨some h.next, some n, by simp, .inr ⟨h.next, _, rfl, hb, H.rows_new _ _, rfl, rfl, by simp [zs_length], ?_⟩⟩
  simp [zs, W]
theorem IsF.made0 {t : TypeId} {k : IntKind} {b : Nat} {h : H} (hb : b ≤ h.next) (n : Nat) : IsF t k b (h.new ⟨some t, 1, zs [AV.int k 0] n⟩) (.sl (some h.next) 0 0 (some n)) [] :=
  ⟨some h.next, some n, by simp, .inr ⟨h.next, _, rfl, hb, H.rows_new _ _, rfl, rfl, by simp, by simp [W]⟩⟩
/-- append, onto a row of the call's own. -/
theorem app_own {t : TypeId} {k : IntKind} {b : Nat} {h : H} {K : AV → H → Prop} {s x : AV} {xs ys : List Int} {by_ : Nat} (hw : h.wf) (hs : IsF t k b h s xs) (hx : IsW k h x ys) (hb : b ≤ h.next) (hl : (xs.length + ys.length) * by_ ≤ 140737488355328) (hl2 : xs.length + ys.length ≤ 140737488355328)
    (hk : ∀ v h', h'.wf → IsF t k b h' v (xs ++ ys) → h.next ≤ h'.next → (∀ i r, i < b → h.rows i = some r → h'.rows i = some r) → K v h') : appK t 1 by_ s x h K := by
  have hs0 := hs
  obtain ⟨ids, cs, rfl, hs⟩ := hs
  obtain ⟨idx, offx, cx, rfl, hx⟩ := hx
  simp only [appK]
  refine ⟨fun h0 => ?_, fun h0 => ?_⟩
  · have : ys = [] := List.eq_nil_of_length_eq_zero h0
    subst this
    exact hk _ _ hw (by simpa using hs0) (Nat.le_refl _) (fun i r _ e => e)
  · rcases hx with ⟨_, rfl, _⟩ | ⟨j, r, rfl, hr, _, hfit, ht⟩
    · simp at h0
    · refine ⟨j, r, rfl, hr, by simpa using hfit, by rw [Nat.mul_one, ht]; exact W_one _ _, hl, hl2, ?_⟩
      rw [Nat.mul_one, Nat.mul_one, ht]
      rcases hs with ⟨rfl, rfl⟩ | ⟨i, q, rfl, hbi, hq, ho, he, hf2, ht2⟩
      · refine .inl ⟨by simp, by simp, hk _ _ (H.wf_new hw _) ?_ (by simp [H.new]) (fun i q hi e => ?_)⟩
        · exact ⟨some h.next, none, by simp, .inr ⟨h.next, _, rfl, hb, H.rows_new _ _, rfl, rfl, by simp [W_length], by simp only [List.nil_append]; exact W_all k ys⟩⟩
        · rw [H.rows_new_ne (by omega)]; exact e
      · refine .inr ⟨i, q, rfl, hq, ho, he, by simp, hf2, hk _ _ (H.wf_new (H.wf_del hw _) _) ?_ (by rw [H.next_new, H.next_del]; omega) (fun j' q' hj e => ?_)⟩
        · refine ⟨some h.next, none, by simp, .inr ⟨h.next, _, rfl, hb, H.rows_new _ _, rfl, rfl, ?_, ?_⟩⟩
          · simp only [List.length_append, ht2, W_length]; omega
          · rw [ht2, W_append]
            exact List.take_of_length_le (by simp [W_length])
        · rw [H.rows_new_ne (by rw [H.next_del]; omega), H.rows_del_ne (by omega)]
          exact e
/-- A literal of numbers. -/
theorem IsW.lit {t : TypeId} {k : IntKind} {h : H} (xs : List Int) : IsW k (h.new ⟨some t, 1, W k xs⟩) (.sl (some h.next) 0 xs.length (some xs.length)) xs :=
  ⟨some h.next, 0, some xs.length, rfl, .inr ⟨h.next, _, rfl, H.rows_new _ _, .inr rfl, by simp [W_length], by simp only [List.drop_zero]; exact W_all k xs⟩⟩
/-- A number written. -/
theorem IsF.put {t : TypeId} {k : IntKind} {b : Nat} {h : H} {id : Option Nat} {n : Nat} {c : Option Nat} {xs : List Int} (hw : h.wf) (hv : IsF t k b h (.sl id 0 n c) xs) {j : Nat} (hj : j < xs.length) : ∃ i r, id = some i ∧ b ≤ i ∧ i < h.next ∧ h.rows i = some r ∧ r.own ≠ none ∧ j + 1 ≤ r.cells.length ∧
    ∀ x, IsF t k b (h.set i { r with cells := putAt r.cells j [AV.int k x] }) (.sl id 0 n c) (xs.set j x) := by
  obtain ⟨id', c2, e, h1⟩ := hv
  injection e with e1 e2 e3 e4
  subst e1; subst e3; subst e4
  rcases h1 with ⟨_, rfl⟩ | ⟨i, r, rfl, hbi, hr, ho, he, hfit, ht⟩
  · simp at hj
  · refine ⟨i, r, rfl, hbi, H.row_lt hw hr, hr, by rw [ho]; simp, by omega, fun x => ?_⟩
    refine ⟨some i, c, by simp, .inr ⟨i, _, rfl, hbi, H.rows_set _ _ _, ho, he, ?_, ?_⟩⟩
    · simp only [List.length_set]
      rw [putAt_length (by simp; omega)]
      exact hfit
    · simp only [List.length_set]
      apply List.ext_getElem?
      intro m
      have h2 : (r.cells.take xs.length)[m]? = (W k xs)[m]? := by rw [ht]
      rw [List.getElem?_take] at h2 ⊢
      by_cases hm : m < xs.length
      · rw [if_pos hm] at h2 ⊢
        unfold putAt
        rw [W_get, List.getElem?_set]
        by_cases e1 : m = j
        · subst e1
          have hmin : min m r.cells.length = m := by omega
          rw [List.append_assoc, List.getElem?_append_right (by simp; omega)]
          simp [hm, hmin]
        · rw [if_neg (Ne.symm e1)]
          rcases Nat.lt_or_ge m j with h3 | h3
          · rw [List.append_assoc, List.getElem?_append_left (by simp; omega), List.getElem?_take, if_pos h3, h2, W_get]
          · rw [List.getElem?_append_right (by simp; omega), List.getElem?_drop]
            simp only [List.length_append, List.length_take, List.length_cons, List.length_nil]
            rw [show j + (0 + 1) + (m - (min j r.cells.length + (0 + 1))) = m from by omega, h2, W_get]
      · rw [if_neg hm, W_get, List.getElem?_eq_none (by simp; omega)]
        rfl
end Ab
end Go.Proofs.Yteoagnggnekfiaa
