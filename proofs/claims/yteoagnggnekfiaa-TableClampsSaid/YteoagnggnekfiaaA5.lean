/- The machine's operations do what the abstract ones say: append, copy, literals; and all of them together. No condition. -/
import Derived.Test.YteoagnggnekfiaaA4
namespace Go.Proofs.Yteoagnggnekfiaa
namespace Ab
open Go Go.RowKit

section
variable {P : Program} {base : Nat} {w0 w : World} {μ : Mu} {h : H} {K : AV → H → Prop}
theorem fold_set (off : Nat) : ∀ (us : List Value) (k : Nat) (cells : Array Value), off + k + us.length ≤ cells.size →
    ((us.zipIdx k).foldl (fun (cs : Array Value) (x : Value × Nat) => cs.setIfInBounds (off + x.2) x.1) cells).toList = cells.toList.take (off + k) ++ us ++ cells.toList.drop (off + k + us.length)
  | [], k, cells, _ => by simp
  | u :: us, k, cells, hl => by
    simp only [List.length_cons] at hl
    rw [List.zipIdx_cons, List.foldl_cons, fold_set off us (k + 1) _ (by simp; omega)]
    have e := list_seg_step cells.toList (off + k) u us (by simp; omega)
    simp only [Array.toList_setIfInBounds, List.length_cons, ← Nat.add_assoc] at e ⊢
    rw [e]
def Parts (μ : Mu) (place : Nat → Option (Nat × Nat)) : List (Nat × Value) → List (Nat × Nat × AV) → Prop
  | [], [] => True
  | (i, v) :: ps, (off, sz, u) :: qs => place i = some (off, sz) ∧ Rel μ u v ∧ Parts μ place ps qs
  | _, _ => False
theorem fill_build {place : Nat → Option (Nat × Nat)} : ∀ (ps : List (Nat × Value)) (qs : List (Nat × Nat × AV)) (cs : Array Value) (l l' : List AV), Parts μ place ps qs → RelA μ l cs.toList → abuild l qs = some l' →
    ∃ cs', Instr.fill place cs ps = some cs' ∧ RelA μ l' cs'.toList
  | [], [], cs, l, l', _, hr, hb => by
    simp only [abuild] at hb
    injection hb with hb
    subst hb
    exact ⟨cs, rfl, hr⟩
  | [], q :: qs, cs, l, l', hp, _, _ => by simp [Parts] at hp
  | (i, v) :: ps, [], cs, l, l', hp, _, _ => by simp [Parts] at hp
  | (i, v) :: ps, (off, sz, u) :: qs, cs, l, l', hp, hr, hb => by
    obtain ⟨h1, h2, h3⟩ := hp
    simp only [abuild] at hb
    split at hb
    · rename_i hc
      obtain ⟨c1, c2, c3⟩ := hc
      have hu := h2.cells c1
      have hvs : v.cells.size = sz := by have := hu.1; simp at this; omega
      have hl : l.length = cs.size := by have := hr.1; simpa using this
      have hcs : (v.cells.zipIdx.foldl (fun (cs : Array Value) (x : Value × Nat) => cs.setIfInBounds (off + x.2) x.1) cs).toList = cs.toList.take off ++ v.cells.toList ++ cs.toList.drop (off + v.cells.toList.length) := by
        rw [← Array.foldl_toList, Array.toList_zipIdx]
        have := fold_set off v.cells.toList 0 cs (by simp; omega)
        simpa using this
      obtain ⟨cs', e1, e2⟩ := fill_build ps qs (v.cells.zipIdx.foldl (fun (cs : Array Value) (x : Value × Nat) => cs.setIfInBounds (off + x.2) x.1) cs) _ l' h3 (by rw [hcs]; exact putAt_rel hr hu off) hb
      refine ⟨cs', ?_, e2⟩
      have n1 : ¬ (v.cells.size ≠ sz || off + v.cells.size > cs.size) = true := by simp; omega
      rw [Instr.fill, h1]
      simp only [n1]
      exact e1
    · cases hb
theorem buildSlice_any {t e : TypeId} {ie : TypeInfo} {z : Value} {n m : Nat} (ht : P.underlying t = some (.slice e)) (hi : P.info? e = some ie) (hz : ie.zero = some z) (hsz : z.cells.size = ie.size) (hsm : m * ie.size ≤ 2 ^ 24) (hpos : m * ie.size ≠ 0)
    {ρ : Env} {a : Act} (hρ : RelT n μ ρ a) (parts : Array (Nat × Operand)) (R : Rep base w0 μ w h)
    (hk : ∃ l, abuild (zs (z.cells.toList.map ofC) m) ((parts.toList.map (cop2 n)).map fun p => (p.1 * ie.size, ie.size, aev ρ p.2)) = some l ∧ K (.sl (some h.next) 0 m (some m)) (h.new ⟨some e, ie.size, l⟩)) :
    ∃ v w', (Instr.buildSlice t m (parts.map fun (i, x) => (i, a.eval x))).run P w = .ok v w' ∧ Fin base w0 μ K v w' := by
  obtain ⟨l, hl, hk⟩ := hk
  have hp : ∀ ps : List (Nat × Operand), Parts μ (fun i => some (i * ie.size, ie.size)) (ps.map fun (i, x) => (i, a.eval x)) ((ps.map (cop2 n)).map fun p => (p.1 * ie.size, ie.size, aev ρ p.2)) := by
    intro ps
    induction ps with
    | nil => exact trivial
    | cons p ps ih => exact ⟨rfl, cop_rel hρ p.2, ih⟩
  have hm : RelA μ (zs (z.cells.toList.map ofC) m) ((Array.range (m * ie.size)).map (z.cells[· % z.cells.size]!)).toList := by
    rw [← hsz]; exact made_rel m
  obtain ⟨cs, h1, h2⟩ := fill_build (place := fun i => some (i * ie.size, ie.size)) _ _ _ _ _ (hp parts.toList) hm hl
  have hlen : l.length = cs.size := by simpa using h2.1
  have hcs : cs.size = m * ie.size := by
    have : ∀ (qs : List (Nat × Nat × AV)) (l l' : List AV), abuild l qs = some l' → l'.length = l.length := by
      intro qs
      induction qs with
      | nil => intro l l' he; simp only [abuild] at he; injection he with he; rw [he]
      | cons q qs ih =>
        obtain ⟨off, sz, u⟩ := q
        intro l l' he
        simp only [abuild] at he
        split at he
        · rename_i hc
          rw [ih _ _ he, putAt_length (by rw [hc.2.1]; exact hc.2.2)]
        · cases he
    rw [← hlen, this _ _ _ hl, zs_length]
    simp [hsz]
  have hrun := run_buildSlice (P := P) w t e m (parts.map fun (i, x) => (i, a.eval x)) cs ie z ht hi hz (by omega) hpos (by rw [Array.toList_map]; exact h1)
  refine ⟨_, _, hrun, _, _, _, Mu.le_put (R.free _ (Nat.le_refl _)) _, ?_, R.alloc e ie.size h2 ?_, hk⟩
  · refine Rel.sl (p := ⟨⟨w.heap.size, 0, none⟩, ie.size, some cs.size⟩) (by simp [Mu.put]) (.inr rfl) (Nat.le_refl _) (fun x hx => by simpa using hx.symm) (fun T hT => ?_)
    simp at hT
    simp; omega
  · rw [hcs]
    refine Nat.mul_le_mul_right _ ?_
    have : m * 1 ≤ m * ie.size := Nat.mul_le_mul_left _ (by
      rcases Nat.eq_zero_or_pos ie.size with e0 | e0
      · rw [e0] at hpos; simp at hpos
      · exact e0)
    simp only [maxLen]
    omega
theorem append_main {t e ty : TypeId} {ie : TypeInfo} {z : Value} (ht : P.underlying t = some (.slice e)) (hi : P.info? e = some ie) (hz : ie.zero = some z) (hsz : z.cells.size = ie.size) (hpos : 0 < ie.size)
    (R : Rep base w0 μ w h) : ∀ (ids : Option Nat) (offs n : Nat) (cs : Option Nat) (vs : Value), Rel μ (.sl ids offs n cs) vs → ∀ (j offx m : Nat) (c : Option Nat) (vx : Value), Rel μ (.sl (some j) offx m c) vx → m ≠ 0 → ∀ r, h.rows j = some r → offx + m * ie.size ≤ r.cells.length →
    (((r.cells.drop offx).take (m * ie.size)).all (·.one)) = true → (n + m) * ie.bytes ≤ 140737488355328 → n + m ≤ 140737488355328 → ∀ (l : List AV) (xs : List Value), RelA μ l xs → w.ownsRow base e ie.size vs n xs →
    (ids = none ∨ ∃ i q p, ids = some i ∧ h.rows i = some q ∧ q.own ≠ none ∧ μ i = some p ∧ vs.ownBlock = some p.addr.block) → (ids = none → vs.ownBlock = none) →
    K (.sl (some h.next) 0 (n + m) none) ((h.del ids).new ⟨some e, ie.size, l ++ (r.cells.drop offx).take (m * ie.size)⟩) →
    ∃ v w', (Builtin.append_ #[t, t] ty #[vs, vx]).run P w = .ok v w' ∧ Fin base w0 μ K v w' := by
  intro ids offs n cs vs hs j offx m c vx hx hm r hr hfit hone hby hnm l xs hlx hown hids hnil hk
  cases hx with
  | @sl _ _ _ _ px capx A hpx hA hlx' hcx hTx =>
    have hA' : A = some (px.addr.add offx) := by
      rcases hA with hA | hA
      · omega
      · exact hA
    subst hA'
    obtain ⟨px', hpx', hRx⟩ := R.row j r hr
    rw [hpx] at hpx'
    injection hpx' with hpx'
    subst hpx'
    obtain ⟨news, hn1, hn2, hn3⟩ := row_cells hRx offx (m * ie.size) hfit
    obtain ⟨v', w', hrun, hown', hgrow, _, hat⟩ := run_append_own_at (P := P) w base t ty e ie z ie.size ie.bytes ht hi hz rfl rfl hsz hpos vs n xs hown (px.addr.add offx) m capx news hn1 hn2 (hn3.oneCell (by simpa using hone)) (by simp only [maxLen]; omega) hby R.size
    refine ⟨v', w', hrun, ?_⟩
    obtain ⟨hlen', hrow'⟩ := hown'
    rcases hrow' with ⟨_, h0⟩ | ⟨g, cap, cur, rfl, hbg, hg, hnc, hcm, hcs, htake⟩
    · omega
    · have hold : ∀ k, vs.ownBlock = some k → base ≤ k := by
        intro k hk'
        rcases hids with e0 | ⟨i, q, p, rfl, hq, hqo, hp, hob⟩
        · rw [hnil e0] at hk'; cases hk'
        · rw [hob] at hk'
          injection hk' with hk'
          obtain ⟨p', hp', hR⟩ := R.row i q hq
          rw [hp] at hp'
          injection hp' with hp'
          subst hp'
          rw [← hk']
          exact hR.own_ge hqo
      have other : ∀ id r' p', (h.del ids).rows id = some r' → μ id = some p' → p'.addr.block < w.heap.size ∧ some p'.addr.block ≠ vs.ownBlock := by
        intro id r' p' hr' hp'
        have hne : some id ≠ ids ∧ h.rows id = some r' := by
          simp only [H.del] at hr'
          split at hr'
          · cases hr'
          · rename_i hne; exact ⟨hne, hr'⟩
        obtain ⟨q', hq', hR'⟩ := R.row id r' hne.2
        rw [hp'] at hq'
        injection hq' with hq'
        subst hq'
        refine ⟨hR'.block_lt R.size, fun e1 => ?_⟩
        rcases hids with e0 | ⟨i, q, p, rfl, hq, hqo, hp, hob⟩
        · rw [hnil e0] at e1; cases e1
        · rw [hob] at e1
          injection e1 with e1
          cases ho' : r'.own with
          | none =>
            have h1 := hR'.ro_lt ho'
            have h2 := hold p.addr.block hob
            omega
          | some t' => exact hne.1 (by rw [R.apart id i r' q p' p hne.2 hq (by rw [ho']; simp) hqo hp' hp e1])
      have hfree := R.free h.next (Nat.le_refl _)
      have hgne : ∀ b, b < w.heap.size → some b ≠ vs.ownBlock → b ≠ g := by
        intro b hb hbo e1
        subst e1
        rcases hat with e2 | e2
        · exact hbo (by rw [← e2]; rfl)
        · have : (Value.slice (some ⟨b, 0, none⟩) (n + m) cap).ownBlock = some b := rfl
          rw [this] at e2
          injection e2 with e2
          omega
      have hstep := (R.del ids).step_new (w' := w') (r := ⟨some e, ie.size, l ++ (r.cells.drop offx).take (m * ie.size)⟩) (p := ⟨⟨g, 0, none⟩, ie.size, some cur.size⟩)
        (R.below.grown hgrow R.size hold) (Nat.le_trans R.size hgrow.size) (fun id r' p' hr' hp' => hgrow.block _ (other id r' p' hr' hp').1 (other id r' p' hr' hp').2)
        (fun id r' p' hr' _ hp' => hgne _ (other id r' p' hr' hp').1 (other id r' p' hr' hp').2) ?_
      · refine ⟨_, _, _, Mu.le_put hfree _, ?_, hstep, hk⟩
        refine Rel.sl (p := ⟨⟨g, 0, none⟩, ie.size, some cur.size⟩) (by simp [Mu.put]) (.inr rfl) hnc (fun x hx => by cases hx) (fun T hT => ?_)
        simp at hT
        simp; omega
      · have hrel : RelA μ (l ++ (r.cells.drop offx).take (m * ie.size)) (xs ++ news) := hlx.append hn3
        refine ⟨g, cur, rfl, hbg, rfl, hg, rfl, by rw [hcs]; exact Nat.mul_le_mul_right _ hcm, ?_, fun j u hu => ?_⟩
        · rw [hrel.1, hlen', hcs]
          exact Nat.mul_le_mul_right _ hnc
        · have hj : j < (xs ++ news).length := by rw [← hrel.1]; exact (List.getElem?_eq_some_iff.1 hu).1
          refine ⟨(xs ++ news)[j], ?_, (hrel.2 j u _ hu (List.getElem?_eq_getElem hj)).mono (Mu.le_put (id := h.next) hfree _)⟩
          have h1 : (cur.toList.take ((n + m) * ie.size))[j]? = some (xs ++ news)[j] := by rw [htake]; exact List.getElem?_eq_getElem hj
          rw [List.getElem?_take] at h1
          split at h1
          · simpa using h1
          · cases h1
theorem append_zero {t e ty : TypeId} {ie : TypeInfo} (ht : P.underlying t = some (.slice e)) (hi : P.info? e = some ie) {j offx m : Nat} {c : Option Nat} {vx : Value} {A : Option Addr} (hx : Rel μ (.sl (some j) offx m c) vx) (hm : m ≠ 0) (hby : (0 + m) * ie.bytes ≤ 140737488355328) :
    (Builtin.append_ #[t, t] ty #[.slice A 0 0, vx]).run P w = (Builtin.append_ #[t, t] ty #[.slice none 0 0, vx]).run P w := by
  have hgrow : ¬ Builtin.nextslicecap m 0 * ie.bytes > 2 ^ 48 := by
    have hmp : m > 2 * 0 := by omega
    have : Builtin.nextslicecap m 0 = m := by
      unfold Builtin.nextslicecap
      rw [if_pos hmp]
    rw [this]
    simp only [Nat.zero_add] at hby
    omega
  cases hx with
  | sl hpx hAx hlx hcx hTx =>
    cases A with
    | none => rfl
    | some a =>
      simp [Builtin.append_, run_underlying ht, szOf hi, typeInfo, hi, Builtin.lenOf, Builtin.firstCells, hm, hgrow, loadCells, loadCellsFrom]
theorem append_any {t e ty : TypeId} {ie : TypeInfo} {z : Value} (ht : P.underlying t = some (.slice e)) (hi : P.info? e = some ie) (hz : ie.zero = some z) (hsz : z.cells.size = ie.size) (hpos : 0 < ie.size)
    {s x : AV} {vs vx : Value} (hs : Rel μ s vs) (hx : Rel μ x vx) (R : Rep base w0 μ w h)
    (hk : match (generalizing := false) s, x with
      | .sl ids offs n cs, .sl idx offx m _ =>
        (m = 0 → K (.sl ids offs n cs) h) ∧
        (m ≠ 0 → ∃ j r, idx = some j ∧ h.rows j = some r ∧ offx + m * ie.size ≤ r.cells.length ∧ (((r.cells.drop offx).take (m * ie.size)).all (·.one)) = true ∧ (n + m) * ie.bytes ≤ 140737488355328 ∧ n + m ≤ 140737488355328 ∧
          ((ids = none ∧ n = 0 ∧ K (.sl (some h.next) 0 m none) (h.new ⟨some e, ie.size, (r.cells.drop offx).take (m * ie.size)⟩)) ∨
           (∃ i q, ids = some i ∧ h.rows i = some q ∧ q.own = some e ∧ q.esz = ie.size ∧ offs = 0 ∧ n * ie.size ≤ q.cells.length ∧
            K (.sl (some h.next) 0 (n + m) none) ((h.del ids).new ⟨some e, ie.size, q.cells.take (n * ie.size) ++ (r.cells.drop offx).take (m * ie.size)⟩))))
      | _, _ => False) : ∃ v w', (Builtin.append_ #[t, t] ty #[vs, vx]).run P w = .ok v w' ∧ Fin base w0 μ K v w' := by
  -- nothing is appended
  have none_ : ∀ (A : Option Addr) (n c : Nat) (B : Option Addr) (d : Nat), n ≤ c → (Builtin.append_ #[t, t] ty #[.slice A n c, .slice B 0 d]).run P w = .ok (.slice A n c) w := by
    intro A n c B d hn
    cases A <;> cases B <;> simp [Builtin.append_, run_underlying ht, szOf hi, Builtin.lenOf, Builtin.firstCells, hn, loadCells, loadCellsFrom, storeCells]
  obtain ⟨ids, offs, n, cs, rfl⟩ : ∃ ids offs n cs, s = .sl ids offs n cs := by cases s <;> first | exact hk.elim | exact ⟨_, _, _, _, rfl⟩
  obtain ⟨idx, offx, m, c, rfl⟩ : ∃ idx offx m c, x = .sl idx offx m c := by cases x <;> first | exact hk.elim | exact ⟨_, _, _, _, rfl⟩
  · by_cases hm : m = 0
    · subst hm
      have hk0 := hk.1 rfl
      have hs' := hs
      cases hs with
      | snil hc =>
        cases hx with
        | snil hc' => exact ⟨_, _, none_ _ _ _ _ _ (Nat.le_refl _), Fin.same R hs' hk0⟩
        | sl => exact ⟨_, _, none_ _ _ _ _ _ (Nat.le_refl _), Fin.same R hs' hk0⟩
      | sl hp hA hl hc hT =>
        cases hx with
        | snil hc' => exact ⟨_, _, none_ _ _ _ _ _ hl, Fin.same R hs' hk0⟩
        | sl => exact ⟨_, _, none_ _ _ _ _ _ hl, Fin.same R hs' hk0⟩
    · obtain ⟨j, r, rfl, hr, hfit, hone, hby, hnm, hk2⟩ := hk.2 hm
      clear hk
      rcases hk2 with ⟨rfl, rfl, hk2⟩ | ⟨i, q, rfl, hq, hqo, hqe, rfl, hfq, hk2⟩
      · have hs' := hs
        cases hs with
        | @snil A0 _ hc =>
          have hd : h.del none = h := by unfold H.del; simp
          obtain ⟨v', w', hrun, hfin⟩ := append_main (ty := ty) ht hi hz hsz hpos R none 0 0 cs (.slice none 0 0) (Rel.snil hc) j offx m c _ hx hm r hr hfit hone hby hnm [] [] (RelA.nil μ) (World.ownsRow_nil w base e ie.size) (.inl rfl) (fun _ => rfl) (by simpa [hd] using hk2)
          exact ⟨v', w', (append_zero ht hi hx hm hby).trans hrun, hfin⟩
      · have hs' := hs
        cases hs with
        | @sl _ _ _ _ p cap A hp hA hl hc hT =>
          obtain ⟨p', hp', hR⟩ := R.row i q hq
          rw [hp] at hp'
          injection hp' with hp'
          subst hp'
          have hR0 := hR
          unfold RowRep at hR
          simp only [hqo] at hR
          obtain ⟨g, cur, e1, e2, e3, e4, e5, e6, e7, e8⟩ := hR
          have hT' := hT _ e5
          rw [e3, hqe] at hT'
          simp only [Nat.zero_add] at hT'
          have hcm : cap ≤ maxLen := by
            rw [hqe, ← hT'] at e6
            exact Nat.le_of_mul_le_mul_right e6 hpos
          have hrel : RelA μ (q.cells.take (n * ie.size)) (cur.toList.take (n * ie.size)) := by
            refine ⟨by simp; omega, fun k u v hu hv => ?_⟩
            rw [List.getElem?_take] at hu hv
            split at hu
            · rename_i hkn
              rw [if_pos hkn] at hv
              obtain ⟨v', hv', hr'⟩ := e8 k u hu
              have : cur.toList[k]? = some v' := by simpa using hv'
              rw [this] at hv
              injection hv with hv
              subst hv
              exact hr'
            · cases hu
          rcases Nat.eq_zero_or_pos cap with hc0 | hc0
          · -- no room and no cells: a nil slice or one of no cells
            have hn0 : n = 0 := by omega
            subst hn0
            subst hc0
            have hcur : cur.size = 0 := by omega
            have hrl : r.cells.length ≠ 0 := by
              have : 1 * 1 ≤ m * ie.size := Nat.mul_le_mul (by omega) hpos
              omega
            have hji : j ≠ i := by
              rintro rfl
              rw [hr] at hq
              injection hq with hq
              subst hq
              omega
            have hrj : (h.del (some i)).rows j = some r := by
              unfold H.del
              simp [hji, hr]
            obtain ⟨v', w', hrun, hfin⟩ := append_main (ty := ty) ht hi hz hsz hpos (R.del (some i)) (K := K) none 0 0 none (.slice none 0 0) (Rel.snil (fun x hx => by cases hx)) j offx m c _ hx hm r hrj hfit hone hby hnm [] [] (RelA.nil μ) (World.ownsRow_nil w base e ie.size) (.inl rfl) (fun _ => rfl)
              (by
                have hd : (h.del (some i)).del none = h.del (some i) := by unfold H.del; simp
                rw [hd]
                simpa [H.del] using hk2)
            exact ⟨v', w', (append_zero ht hi hx hm hby).trans hrun, hfin⟩
          · have hA' : A = some (p.addr.add 0) := by
              rcases hA with hA | hA
              · omega
              · exact hA
            subst hA'
            rw [e1, add_plain] at hs' ⊢
            have hown : w.ownsRow base e ie.size (.slice (some ⟨g, 0, none⟩) n cap) n (cur.toList.take (n * ie.size)) := by
              refine ⟨by simp; have : n * ie.size ≤ cap * ie.size := Nat.mul_le_mul_right _ hl; omega, .inr ⟨g, cap, cur, rfl, e2, e4, hl, hcm, hT'.symm, rfl⟩⟩
            exact append_main ht hi hz hsz hpos R (some i) 0 n cs _ hs' j offx m c _ hx hm r hr hfit hone hby hnm _ _ hrel hown (.inr ⟨i, q, p, rfl, hq, by rw [hqo]; simp, hp, by rw [e1]; rfl⟩) (fun h => by cases h) hk2
end
end Ab
end Go.Proofs.Yteoagnggnekfiaa
