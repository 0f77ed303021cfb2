/- From the abstract call to a statement's row, whatever the types of the arguments: numbers, truth values, strings, slices and structs of these. No condition. -/
import Derived.Test.YteoagnggnekfiaaL1
import Derived.Carry
import Derived.Deep.Slices
namespace Go.Proofs.Yteoagnggnekfiaa
namespace Ab
open Go Go.RowKit Go.WideShapes Go.ChangeShapes Go.ChangeAt

/-- What the cells of a variable that came in are like. -/
inductive Reads (P : Program) (h : H) : TypeId → List AV → Prop
  | int {t : TypeId} {k : IntKind} {n : Int} (ht : P.underlying t = some (.int k)) (hw : (Lit.int k n).wf = true) : Reads P h t [.int k n]
  | bool {t : TypeId} {b : Bool} (ht : P.underlying t = some .bool) : Reads P h t [.bool b]
  | str {t : TypeId} {s : ByteArray} (ht : P.underlying t = some .string) (hs : s.size ≤ maxLen) : Reads P h t [.str s]
  | snil {t e : TypeId} (ht : P.underlying t = some (.slice e)) : Reads P h t [.sl none 0 0 none]
  | sl {t e : TypeId} {id len : Nat} {r : Row} (ht : P.underlying t = some (.slice e)) (hr : h.rows id = some r) (ho : r.own = none) (hlen : len ≤ maxLen) (hl : r.cells.length = len * P.cellsOf e)
      (he : ∀ i, i < len → Reads P h e ((r.cells.drop (i * P.cellsOf e)).take (P.cellsOf e))) : Reads P h t [.sl (some id) 0 len none]
  | struct {t : TypeId} {fs : Array Field} {l : List AV} (ht : P.underlying t = some (.struct fs)) (hl : l.length = P.cellsOf t)
      (hf : ∀ f ∈ fs.toList, Reads P h f.type ((l.drop f.offset).take (P.cellsOf f.type))) : Reads P h t l
theorem Reads.mono {P : Program} {h h' : H} (hl : h.le h') {t : TypeId} {l : List AV} (r : Reads P h t l) : Reads P h' t l := by
  induction r with
  | int ht hw => exact .int ht hw
  | bool ht => exact .bool ht
  | str ht hs => exact .str ht hs
  | snil ht => exact .snil ht
  | sl ht hr ho hlen hl' _ ih => exact .sl ht (hl.2 _ _ hr) ho hlen hl' ih
  | struct ht hl' _ ih => exact .struct ht hl' ih
/-- An argument. -/
def ReadsV (P : Program) (h : H) (t : TypeId) (u : AV) : Prop :=
  match P.underlying t with
  | some (.struct _) => ∃ l, u = .agg l ∧ Reads P h t l
  | _ => Reads P h t [u]
theorem ReadsV.mono {P : Program} {h h' : H} (hl : h.le h') {t : TypeId} {u : AV} (r : ReadsV P h t u) : ReadsV P h' t u := by
  unfold ReadsV at *
  split at r
  · obtain ⟨l, e, r⟩ := r; exact ⟨l, e, r.mono hl⟩
  · exact r.mono hl
/-- Types that arguments of statements have. -/
def plainB (P : Program) : Nat → TypeId → Bool
  | 0, _ => false
  | d + 1, t => match P.underlying t with
    | some .bool => true
    | some (.int _) => true
    | some .string => true
    | some (.slice e) => decide (0 < P.cellsOf e) && plainB P d e
    | some (.struct fs) => fs.toList.all (fun f => plainB P d f.type) && P.cellsOf t == (fs.toList.map fun f => P.cellsOf f.type).sum &&
        (List.range fs.toList.length).all fun j => match fs.toList[j]? with | some f => f.offset == ((fs.toList.take j).map fun f => P.cellsOf f.type).sum | none => true
    | _ => false

section
variable {H' : Type} {enc : TypeId × Value → H'} {P : Program} {w : World}
structure Abs (w : World) (μ : Mu) (h : H) : Prop where
  rep : Rep w.heap.size w μ w h
theorem cells_get {base : Nat} {a : Addr} {n : Nat} {cs : List Value} (h : w.cells? base a n = some cs) : cs.length = n ∧ ∀ i v, cs[i]? = some v → w.cell? (a.add i) = some v := by
  unfold World.cells? at h
  split at h
  · refine ⟨by simpa using mapM_some_length h, fun i v hv => ?_⟩
    have hi : i < n := by
      have := mapM_some_length h
      have h2 := (List.getElem?_eq_some_iff.1 hv).1
      simp at this
      omega
    rw [mapM_some_get h i i (by simp [hi]), hv]
  · cases h
theorem cell_block {a : Addr} {v : Value} (h : w.cell? a = some v) : a.block < w.heap.size := by
  unfold World.cell? at h
  split at h
  · rename_i c _ _ e
    exact (Array.getElem?_eq_some_iff.1 e).1
  · cases h
/-- A row that came in is noted. -/
theorem Rep.note {base : Nat} {w0 : World} {μ : Mu} {h : H} (R : Rep base w0 μ w h) {a : Addr} {z : Nat} {l : List AV} (ha : a.block < base) (hl : ∀ (j : Nat) (u : AV), l[j]? = some u → ∃ v, w.cell? (a.add j) = some v ∧ Rel μ u v) :
    μ.le (μ.put h.next ⟨a, z, none⟩) ∧ Rep base w0 (μ.put h.next ⟨a, z, none⟩) w (h.new ⟨none, z, l⟩) := by
  have hfree := R.free h.next (Nat.le_refl _)
  have hle := Mu.le_put hfree (⟨a, z, none⟩ : Pl)
  refine ⟨hle, R.below, R.size, R.glob, fun id hid => ?_, fun id r hr => ?_, fun id id' r r' p p' hr hr' ho ho' hp hp' => ?_⟩
  · simp only [H.new] at hid
    simp only [Mu.put]
    rw [if_neg (by omega)]
    exact R.free id (by omega)
  · simp only [H.new] at hr
    split at hr
    · rename_i e
      injection hr with hr
      subst hr
      subst e
      exact ⟨⟨a, z, none⟩, by simp [Mu.put], ha, rfl, fun j u hu => by
        obtain ⟨v, h1, h2⟩ := hl j u hu
        exact ⟨v, h1, h2.mono hle⟩⟩
    · obtain ⟨p, hp, hR⟩ := R.row id r hr
      exact ⟨p, hle _ _ hp, hR.mono hle⟩
  · have old : ∀ {i : Nat} {r : Row} {p : Pl}, (h.new ⟨none, z, l⟩).rows i = some r → r.own ≠ none → (μ.put h.next ⟨a, z, none⟩) i = some p → h.rows i = some r ∧ μ i = some p := by
      intro i r p hr ho hp
      simp only [H.new] at hr
      split at hr
      · injection hr with hr
        subst hr
        exact absurd rfl ho
      · rename_i e
        simp only [Mu.put] at hp
        rw [if_neg e] at hp
        exact ⟨hr, hp⟩
    obtain ⟨a1, a2⟩ := old hr ho hp
    obtain ⟨b1, b2⟩ := old hr' ho' hp'
    exact R.apart id id' r r' p p' a1 b1 ho ho' a2 b2
theorem sum_take_succ {α : Type} (l : List α) (g : α → Nat) (j : Nat) (x : α) (h : l[j]? = some x) : ((l.take (j + 1)).map g).sum = ((l.take j).map g).sum + g x := by
  obtain ⟨hj, rfl⟩ := List.getElem?_eq_some_iff.1 h
  rw [List.take_succ_eq_append_getElem hj, List.map_append, List.sum_append]
  simp
/-- What a tread through memory meets, as abstract values. -/
theorem absorb (base : Nat) : ∀ (n d : Nat) (t : TypeId) (cs : List Value) (x : DataW H' × List MemPlace) (μ : Mu) (h : H), plainB P d t = true → DataW.trod enc P w base (fun _ => true) true n t cs = some x →
    Rep w.heap.size w μ w h → ∃ μ' h' l, μ.le μ' ∧ h.le h' ∧ Rep w.heap.size w μ' w h' ∧ RelA μ' l cs ∧ Reads P h' t l := by
  intro n
  induction n with
  | zero => intro d t cs x μ h _ hx; simp [DataW.trod] at hx
  | succ n ih =>
    intro d t cs x μ h hp hx R
    cases d with
    | zero => simp [plainB] at hp
    | succ d =>
      rw [DataW.trod_step] at hx
      unfold DataW.trodStep at hx
      unfold plainB at hp
      split at hx
      case h_1 b ht => exact ⟨μ, h, [.bool b], μ.le_refl, H.le_refl h, R, (RelA.nil μ).cons (.bool b), .bool ht⟩
      case h_2 k k' m ht =>
        split at hx
        · rename_i hc
          obtain ⟨rfl, hw⟩ := hc
          exact ⟨μ, h, [.int k' m], μ.le_refl, H.le_refl h, R, (RelA.nil μ).cons (.int k' m), .int ht hw⟩
        · cases hx
      case h_4 s ht =>
        split at hx
        · rename_i hc
          exact ⟨μ, h, [.str s], μ.le_refl, H.le_refl h, R, (RelA.nil μ).cons (.str s), .str ht hc⟩
        · cases hx
      case h_7 e ht => exact ⟨μ, h, [.sl none 0 0 none], μ.le_refl, H.le_refl h, R, (RelA.nil μ).cons (.snil (fun x hx => by cases hx)), .snil ht⟩
      case h_8 e a len cap ht =>
        rw [ht] at hp
        simp only [Bool.and_eq_true, decide_eq_true_eq] at hp
        obtain ⟨hpos, hpe⟩ := hp
        simp only at hx
        split at hx
        · rename_i hc
          simp only [Option.map_eq_some_iff, Option.bind_eq_some_iff, if_true] at hx
          obtain ⟨elems, he, rest, hrest, rfl⟩ := hx
          rcases Nat.eq_zero_or_pos cap with hc0 | hc0
          · have hl0 : len = 0 := by omega
            subst hc0; subst hl0
            exact ⟨μ, h, [.sl none 0 0 none], μ.le_refl, H.le_refl h, R, (RelA.nil μ).cons (.snil (fun x hx => by cases hx)), .snil ht⟩
          · -- the block is there
            have hblk : a.block < w.heap.size := by
              rcases Nat.eq_zero_or_pos len with hl0 | hl0
              · subst hl0
                have h0 := mapM_some_get hrest 0 0 (List.getElem?_range (by omega))
                have hne := mapM_some_length hrest
                rw [List.length_range] at hne
                obtain ⟨y, hy⟩ : ∃ y, rest[0]? = some y := ⟨_, List.getElem?_eq_getElem (by omega)⟩
                rw [hy] at h0
                simp only [Option.bind_eq_some_iff] at h0
                obtain ⟨cs', hcs, _⟩ := h0
                obtain ⟨h1, h2⟩ := cells_get hcs
                have := cell_block (h2 0 _ (List.getElem?_eq_getElem (by omega)))
                simpa [block_add] using this
              · have h0 := mapM_some_get he 0 0 (List.getElem?_range (by omega))
                have hne := mapM_some_length he
                rw [List.length_range] at hne
                obtain ⟨y, hy⟩ : ∃ y, elems[0]? = some y := ⟨_, List.getElem?_eq_getElem (by omega)⟩
                rw [hy] at h0
                simp only [Option.bind_eq_some_iff] at h0
                obtain ⟨cs', hcs, _⟩ := h0
                obtain ⟨h1, h2⟩ := cells_get hcs
                have := cell_block (h2 0 _ (List.getElem?_eq_getElem (by omega)))
                simpa [block_add] using this
            -- the elements, one after the other
            have step : ∀ m, m ≤ len → ∃ (μ' : Mu) (h' : H) (l : List AV), μ.le μ' ∧ h.le h' ∧ Rep w.heap.size w μ' w h' ∧ l.length = m * P.cellsOf e ∧ (∀ (j : Nat) (u : AV), l[j]? = some u → ∃ v, w.cell? (a.add j) = some v ∧ Rel μ' u v) ∧
                ∀ i, i < m → Reads P h' e ((l.drop (i * P.cellsOf e)).take (P.cellsOf e)) := by
              intro m
              induction m with
              | zero => exact fun _ => ⟨μ, h, [], μ.le_refl, H.le_refl h, R, by simp, fun j u hu => by simp at hu, fun i hi => by omega⟩
              | succ m ihm =>
                intro hm
                obtain ⟨μ1, h1, l1, q1, q2, q3, q4, q5, q6⟩ := ihm (by omega)
                have hne := mapM_some_length he
                rw [List.length_range] at hne
                have h0 := mapM_some_get he m m (List.getElem?_range (by omega))
                rw [List.getElem?_eq_getElem (show m < elems.length by omega)] at h0
                simp only [Option.bind_eq_some_iff] at h0
                obtain ⟨cs', hcs, hy⟩ := h0
                obtain ⟨g1, g2⟩ := cells_get hcs
                obtain ⟨μ2, h2, l2, r1, r2, r3, r4, r5⟩ := ih d e cs' _ μ1 h1 hpe hy q3
                have hl2 : l2.length = P.cellsOf e := by rw [r4.1, g1]
                refine ⟨μ2, h2, l1 ++ l2, Mu.le_trans q1 r1, H.le_trans q2 r2, r3, by rw [List.length_append, q4, hl2, Nat.succ_mul], fun j u hu => ?_, fun i hi => ?_⟩
                · rcases Nat.lt_or_ge j l1.length with hj | hj
                  · rw [List.getElem?_append_left hj] at hu
                    obtain ⟨v, e1, e2⟩ := q5 j u hu
                    exact ⟨v, e1, e2.mono r1⟩
                  · rw [List.getElem?_append_right hj] at hu
                    have hj2 : j - l1.length < cs'.length := by
                      have := (List.getElem?_eq_some_iff.1 hu).1
                      omega
                    refine ⟨cs'[j - l1.length], ?_, r4.2 _ _ _ hu (List.getElem?_eq_getElem hj2)⟩
                    have := g2 _ _ (List.getElem?_eq_getElem hj2)
                    rw [add_add, ← q4] at this
                    rwa [show l1.length + (j - l1.length) = j from by omega] at this
                · rcases Nat.lt_or_ge i m with hi2 | hi2
                  · have := (q6 i hi2).mono r2
                    have hfit : i * P.cellsOf e + P.cellsOf e ≤ l1.length := by
                      rw [q4, ← Nat.succ_mul]
                      exact Nat.mul_le_mul_right _ hi2
                    rw [List.drop_append_of_le_length (by omega), List.take_append_of_le_length (by simp; omega)]
                    exact this
                  · have : i = m := by omega
                    subst this
                    rw [← q4, List.drop_left, ← hl2, List.take_length]
                    exact r5
            obtain ⟨μ1, h1, l, q1, q2, q3, q4, q5, q6⟩ := step len (Nat.le_refl _)
            obtain ⟨s1, s2⟩ := q3.note (z := P.cellsOf e) hblk q5
            have hw1 := q3.wf
            refine ⟨_, _, [.sl (some h1.next) 0 len none], Mu.le_trans q1 s1, H.le_trans q2 (H.le_new hw1 (H.le_refl h1) _), s2, (RelA.nil _).cons ?_, ?_⟩
            · exact Rel.sl (p := ⟨a, P.cellsOf e, none⟩) (by simp [Mu.put]) (.inr (by simp [Addr.add])) hc.2.1 (fun x hx => by cases hx) (fun T hT => by cases hT)
            · exact .sl ht (H.rows_new _ _) rfl (Nat.le_trans hc.2.1 hc.2.2) q4 (fun i hi => (q6 i hi).mono (H.le_new hw1 (H.le_refl h1) _))
        · cases hx
      case h_9 =>
        rename_i cs _ _ fs ht
        rw [ht] at hp
        simp only [Bool.and_eq_true, beq_iff_eq, List.all_eq_true] at hp
        obtain ⟨⟨hpf, hsum⟩, hoff⟩ := hp
        split at hx
        · rename_i hc
          simp only [Option.map_eq_some_iff] at hx
          obtain ⟨xs, hm, rfl⟩ := hx
          have off : ∀ j f, fs.toList[j]? = some f → f.offset = ((fs.toList.take j).map fun f => P.cellsOf f.type).sum := by
            intro j f hf
            have hj := (List.getElem?_eq_some_iff.1 hf).1
            have := hoff j (List.mem_range.2 hj)
            rw [hf] at this
            simpa using this
          have step : ∀ m, m ≤ fs.toList.length → ∃ (μ' : Mu) (h' : H) (l : List AV), μ.le μ' ∧ h.le h' ∧ Rep w.heap.size w μ' w h' ∧ l.length = ((fs.toList.take m).map fun f => P.cellsOf f.type).sum ∧ RelA μ' l (cs.take ((fs.toList.take m).map fun f => P.cellsOf f.type).sum) ∧
              ∀ j f, j < m → fs.toList[j]? = some f → Reads P h' f.type ((l.drop f.offset).take (P.cellsOf f.type)) := by
            intro m
            induction m with
            | zero => exact fun _ => ⟨μ, h, [], μ.le_refl, H.le_refl h, R, by simp, by simpa using RelA.nil μ, fun j f hj => by omega⟩
            | succ m ihm =>
              intro hm2
              obtain ⟨μ1, h1, l1, q1, q2, q3, q4, q5, q6⟩ := ihm (by omega)
              obtain ⟨f, hf⟩ : ∃ f, fs.toList[m]? = some f := ⟨_, List.getElem?_eq_getElem (by omega)⟩
              have h0 := mapM_some_get hm m f hf
              rw [List.getElem?_eq_getElem (show m < xs.length by rw [mapM_some_length hm]; omega)] at h0
              have ho := off m f hf
              obtain ⟨μ2, h2, l2, r1, r2, r3, r4, r5⟩ := ih d f.type _ _ μ1 h1 (hpf f (List.mem_of_getElem? hf)) h0 q3
              have htot : ((fs.toList.take (m + 1)).map fun f => P.cellsOf f.type).sum ≤ cs.length := by
                rw [hc, hsum]
                conv => rhs; rw [← List.take_append_drop (m + 1) fs.toList]
                rw [List.map_append, List.sum_append]
                omega
              rw [sum_take_succ _ _ _ _ hf] at htot ⊢
              have hl2 : l2.length = P.cellsOf f.type := by
                rw [r4.1, List.length_take, List.length_drop, ho]
                omega
              refine ⟨μ2, h2, l1 ++ l2, Mu.le_trans q1 r1, H.le_trans q2 r2, r3, by rw [List.length_append, q4, hl2], ?_, fun j g hj hg => ?_⟩
              · rw [List.take_add, ← ho]
                rw [← ho] at q5
                exact (q5.mono r1).append r4
              · rcases Nat.lt_or_ge j m with hj2 | hj2
                · have h3 := (q6 j g hj2 hg).mono r2
                  have hfit : g.offset + P.cellsOf g.type ≤ l1.length := by
                    rw [q4, off j g hg, ← sum_take_succ fs.toList (fun f => P.cellsOf f.type) j g hg]
                    have : fs.toList.take m = fs.toList.take (j + 1) ++ (fs.toList.take m).drop (j + 1) := by
                      conv => lhs; rw [← List.take_append_drop (j + 1) (fs.toList.take m)]
                      rw [List.take_take, Nat.min_eq_left (by omega)]
                    rw [this, List.map_append, List.sum_append]
                    omega
                  rw [List.drop_append_of_le_length (by omega), List.take_append_of_le_length (by simp; omega)]
                  exact h3
                · have : j = m := by omega
                  subst this
                  rw [hf] at hg
                  injection hg with hg
                  subst hg
                  rw [ho, ← q4, List.drop_left, ← hl2, List.take_length]
                  exact r5
          obtain ⟨μ1, h1, l, q1, q2, q3, q4, q5, q6⟩ := step fs.toList.length (Nat.le_refl _)
          rw [List.take_length, ← hsum] at q4 q5
          rw [List.take_of_length_le (by omega)] at q5
          refine ⟨μ1, h1, l, q1, q2, q3, q5, .struct ht q4 fun f hf => ?_⟩
          obtain ⟨j, hj, rfl⟩ := List.getElem_of_mem hf
          exact q6 j _ hj (List.getElem?_eq_getElem hj)
        · cases hx
      all_goals first
        | (simp only [‹P.underlying t = _›] at hp; cases hp; done)
        | (cases hx; done)
        | (split at hp <;> simp_all; done)
        | skip

/-- The arguments. -/
def ReadsAll (P : Program) (h : H) : List TypeId → List AV → Prop
  | [], [] => True
  | t :: ts, u :: us => ReadsV P h t u ∧ ReadsAll P h ts us
  | _, _ => False
theorem ReadsAll.mono {h h' : H} (hl : h.le h') : ∀ {ts : List TypeId} {us : List AV}, ReadsAll P h ts us → ReadsAll P h' ts us
  | [], [], _ => trivial
  | _ :: _, _ :: _, r => ⟨r.1.mono hl, r.2.mono hl⟩
  | [], _ :: _, r => r.elim
  | _ :: _, [], r => r.elim
theorem absorbV {base b d : Nat} {t : TypeId} {v : Value} {x : DataW H'} {ps : List MemPlace} {μ : Mu} {h : H} (hp : plainB P d t = true) (hx : DataW.Trod enc P w base (fun _ => true) true t v x ps) (hok : Value.okWide P w .any b t v)
    (R : Rep w.heap.size w μ w h) : ∃ μ' h' u, μ.le μ' ∧ h.le h' ∧ Rep w.heap.size w μ' w h' ∧ Rel μ' u v ∧ ReadsV P h' t u := by
  obtain ⟨n, hx⟩ := hx
  obtain ⟨μ', h', l, q1, q2, q3, q4, q5⟩ := absorb base n d t _ _ μ h hp hx R
  unfold ReadsV
  have one : v.cells.toList = [v] → ∃ u, Rel μ' u v ∧ l = [u] := by
    intro hv
    rw [hv] at q4
    cases l with
    | nil => simp [RelA] at q4
    | cons u l =>
      have hl : l = [] := by
        have := q4.1
        simp at this
        exact this
      subst hl
      exact ⟨u, q4.2 0 u v rfl rfl, rfl⟩
  cases d with
  | zero => simp [plainB] at hp
  | succ d =>
    unfold plainB at hp
    split at hp
    · rename_i ht
      have hv : ∃ y, v = .bool y := by
        simp only [Value.okWide, ht, Cell.okWide] at hok
        cases v <;> simp_all [Cell.ok]
      obtain ⟨y, rfl⟩ := hv
      obtain ⟨u, hu, rfl⟩ := one rfl
      exact ⟨μ', h', u, q1, q2, q3, hu, by simpa [ht] using q5⟩
    · rename_i k ht
      obtain ⟨y, rfl⟩ := okWide_int ht hok
      obtain ⟨u, hu, rfl⟩ := one rfl
      exact ⟨μ', h', u, q1, q2, q3, hu, by simpa [ht] using q5⟩
    · rename_i ht
      obtain ⟨y, rfl⟩ := okWide_string ht hok
      obtain ⟨u, hu, rfl⟩ := one rfl
      exact ⟨μ', h', u, q1, q2, q3, hu, by simpa [ht] using q5⟩
    · rename_i e ht
      obtain ⟨y, l', c', rfl⟩ := okWide_slice ht hok
      obtain ⟨u, hu, rfl⟩ := one rfl
      exact ⟨μ', h', u, q1, q2, q3, hu, by simpa [ht] using q5⟩
    · rename_i fs ht
      have hv : ∃ cs, v = .agg cs := by
        simp only [Value.okWide, ht] at hok
        obtain ⟨cs, rfl, _⟩ := hok
        exact ⟨cs, rfl⟩
      obtain ⟨cs, rfl⟩ := hv
      refine ⟨μ', h', .agg l, q1, q2, q3, ?_, by simpa [ht] using q5⟩
      simpa [Value.cells] using q4.agg
    · cases hp
theorem absorb_args {base b d : Nat} : ∀ {ts : List TypeId} {vs : List Value} {ds : List (DataW H')} {ps : List MemPlace} {μ : Mu} {h : H}, (∀ t ∈ ts, plainB P d t = true) → DataW.TrodAll enc P w base (fun _ => true) true ts vs ds ps →
    (∀ (j : Nat) (t : TypeId) (v : Value), ts[j]? = some t → vs[j]? = some v → Value.okWide P w .any b t v) → Rep w.heap.size w μ w h → ∃ μ' h' us, h.le h' ∧ Rep w.heap.size w μ' w h' ∧ μ.le μ' ∧ RelA μ' us vs ∧ ReadsAll P h' ts us
  | [], [], [], _, μ, h, _, _, _, R => ⟨μ, h, [], H.le_refl h, R, μ.le_refl, RelA.nil μ, trivial⟩
  | t :: ts, v :: vs, x :: ds, _, μ, h, hp, ⟨p, q, hx, hrest, _⟩, hok, R => by
    obtain ⟨μ1, h1, u, q1, q2, q3, q4, q5⟩ := absorbV (hp t (by simp)) hx (hok 0 t v rfl rfl) R
    obtain ⟨μ2, h2, us, r1, r2, r3, r4, r5⟩ := absorb_args (fun t ht => hp t (by simp [ht])) hrest (fun j t v ht hv => hok (j + 1) t v (by simpa using ht) (by simpa using hv)) q3
    exact ⟨μ2, h2, u :: us, H.le_trans q2 r1, r2, Mu.le_trans q1 r3, RelA.cons (q4.mono r3) r4, q5.mono r1, r5⟩
  | [], _ :: _, _, _, _, _, _, hx, _, _ => hx.elim
  | [], [], _ :: _, _, _, _, _, hx, _, _ => hx.elim
  | _ :: _, [], _, _, _, _, _, hx, _, _ => hx.elim
  | _ :: _, _ :: _, [], _, _, _, _, hx, _, _ => hx.elim
theorem trodAll_stays (hl : laidOutB P = true) {W W' : World} {sp' : Nat → Bool} : ∀ {ts : List TypeId} {vs : List Value} {ds : List (DataW H')} {ps : List MemPlace}, (∀ t ∈ ts, P.readableRec t = true ∧ t < P.types.size) →
    DataW.TrodAll enc P W 0 (fun _ => true) true ts vs ds ps → (∀ p ∈ ps, W.sameAt W' p) → (∀ p ∈ ps, sp' p.block = true) → DataW.TrodAll enc P W' 0 sp' true ts vs ds ps
  | [], [], [], _, _, hx, _, _ => hx
  | t :: ts, v :: vs, x :: ds, _, ht, ⟨p, q, hx, hrest, e⟩, h1, h2 => by
    subst e
    exact ⟨p, q, WideElems.Trod_stays hl (ht t (by simp)).1 (ht t (by simp)).2 hx (fun y hy => h1 y (by simp [hy])) (fun y hy => h2 y (by simp [hy])),
      trodAll_stays hl (fun t' ht' => ht t' (by simp [ht'])) hrest (fun y hy => h1 y (by simp [hy])) (fun y hy => h2 y (by simp [hy])), rfl⟩
  | [], _ :: _, _, _, _, hx, _, _ => hx.elim
  | [], [], _ :: _, _, _, hx, _, _ => hx.elim
  | _ :: _, [], _, _, _, hx, _, _ => hx.elim
  | _ :: _, _ :: _, [], _, _, hx, _, _ => hx.elim
theorem trodAll_length : ∀ {ts : List TypeId} {vs : List Value} {ds : List (DataW H')} {ps : List MemPlace} {W : World} {b : Nat} {sp : Nat → Bool} {hd : Bool}, DataW.TrodAll enc P W b sp hd ts vs ds ps → ds.length = ts.length
  | [], [], [], _, _, _, _, _, _ => rfl
  | _ :: _, _ :: _, _ :: _, _, _, _, _, _, ⟨_, _, _, h, _⟩ => by simp [trodAll_length h]
  | [], _ :: _, _, _, _, _, _, _, hx => hx.elim
  | [], [], _ :: _, _, _, _, _, _, hx => hx.elim
  | _ :: _, [], _, _, _, _, _, _, hx => hx.elim
  | _ :: _, _ :: _, [], _, _, _, _, _, hx => hx.elim
/-- A statement's row: the call answers true, and nothing that was there is turned. -/
theorem law_row {f : FuncId} {fn : Func} {s : ChangeSpec} {W : World} {b : Nat} {args : Array Value} {ds gs : List (DataW H')} {before : List MemPlace} {tb : TypeId} (hf : P.funcs[f]? = some fn) (hb : fn.body.isSome = true) (hname : (fn.name == "runtime.NumGoroutine") = false)
    (hg : GlobOK W.heap.size W) (hl : laidOutB P = true) (hts : (fn.params.toList.all fun t => P.readableRec t && decide (t < P.types.size) && plainB P 8 t) = true) (hv : s.vars = []) (hs : ∀ ds : List (DataW H'), ds.length = fn.params.size → s.fn H' ds = { results := [.lit (.bool true)], args := ds })
    (hr : fn.resultTypes = #[tb]) (ht : P.underlying tb = some .bool) (hwalk : ∀ h avs, h.wf → ReadsAll P h fn.params.toList avs → ACalls P f avs h (fun r _ => r = .bool true))
    (hval : ∀ (j : Nat) t v, fn.params[j]? = some t → args[j]? = some v → Value.okWide P W .any b t v) (hW : DataW.Whole enc P fn.params.toList s.vars false W args.toList ds gs before) :
    Calls P f args W fun e W' => ∃ v, e = .returned v ∧ s.post enc P fn false true false false W args v W' := by
  have hall : ∀ t ∈ fn.params.toList, (P.readableRec t = true ∧ t < P.types.size) ∧ plainB P 8 t = true := by
    intro t h
    have := List.all_eq_true.1 hts t h
    simpa only [Bool.and_eq_true, decide_eq_true_eq] using this
  have hW' := hW
  have hlt := hW.lt
  obtain ⟨p, q, hA, hV, rfl, hfz, hnd⟩ := hW
  rw [hv] at hV
  obtain ⟨rfl, rfl⟩ := trodVars_none hV
  have hd := trodAll_length hA
  obtain ⟨μ, h, us, _, R, _, hrel, hreads⟩ := absorb_args (fun t h => (hall t h).2) hA (fun j t v ht hv => hval j t v (by simpa using ht) (by simpa using hv)) (rep00 W hg)
  have hc := law_calls hf hb hname R hrel (hwalk h us R.wf hreads)
  rw [show args.toList.toArray = args from by simp] at hc
  refine hc.mono ?_
  rintro e W' ⟨rfl, hB⟩
  have hsp := hs ds (by simpa using hd)
  refine ⟨_, rfl, post_kept (pa := p) (pv := []) hW' (fun b sp hd => ?_) (fun sp hsp' => ?_) (fun sp _ => ?_) rfl hB ?_⟩
  · rw [List.append_nil, hsp, hr]
    exact trodAll_cons_mk (shut_bool ht _) trodAll_mk0
  · rw [List.append_nil, hsp]
    rw [List.append_nil] at hlt hsp'
    exact trodAll_stays hl (fun t h => (hall t h).1) hA (fun x hx => hB.same (hlt x hx)) (fun x hx => hsp' x hx)
  · rw [List.append_nil, hsp, hv]
    rfl
  · exact ok_one hr rfl (okWide_bool_mk ht _)
end
end Ab
end Go.Proofs.Yteoagnggnekfiaa
