/- The machine's operations do what the abstract ones say: the others, and calls. No condition. -/
import Derived.Test.YteoagnggnekfiaaA3
namespace Go.Proofs.Yteoagnggnekfiaa
namespace Ab
open Go Go.RowKit

section
variable {P : Program} {base : Nat} {w0 w : World} {μ : Mu} {h : H} {K : AV → H → Prop}
theorem index_slice {t e : TypeId} {ie : TypeInfo} (ht : P.underlying t = some (.slice e)) (hi : P.info? e = some ie) {x i : AV} {vx vi : Value} (hx : Rel μ x vx) (hv : Rel μ i vi) (R : Rep base w0 μ w h)
    (hk : match (generalizing := false) x, i with
      | .sl (some id) off len _, .int _ n => 0 ≤ n ∧ n < len ∧ K (.ptr (some (id, off + n.toNat * ie.size))) h
      | _, _ => False) : ∃ v, (Instr.indexAt t vx vi).run P w = .ok v w ∧ Fin base w0 μ K v w := by
  cases hx with
  | @sl id off len c p cap A hp hA hl hc hT =>
    cases hv with
    | int k n =>
      obtain ⟨h0, h1, hk⟩ := hk
      have hcap : cap ≠ 0 := by omega
      rcases hA with hA | rfl
      · exact absurd hA hcap
      · refine ⟨_, ?_, Fin.same R (.ptr hp) hk⟩
        simp [Instr.indexAt, asIntOf, run_underlying ht, h0, h1, szOf hi, add_add]
    | _ => exact hk.elim
  | _ => exact hk.elim
theorem index_array {t e : TypeId} {m : Nat} {ie : TypeInfo} (ht : P.underlying t = some (.array m e)) (hi : P.info? e = some ie) {x i : AV} {vx vi : Value} (hx : Rel μ x vx) (hv : Rel μ i vi) (R : Rep base w0 μ w h)
    (hk : match (generalizing := false) x, i with
      | .ptr (some (id, off)), .int _ n => 0 ≤ n ∧ n < m ∧ K (.ptr (some (id, off + n.toNat * ie.size))) h
      | .gp g off, .int _ n => 0 ≤ n ∧ n < m ∧ K (.gp g (off + n.toNat * ie.size)) h
      | _, _ => False) : ∃ v, (Instr.indexAt t vx vi).run P w = .ok v w ∧ Fin base w0 μ K v w := by
  cases hx with
  | @ptr id off p hp =>
    cases hv with
    | int k n =>
      obtain ⟨h0, h1, hk⟩ := hk
      refine ⟨_, ?_, Fin.same R (.ptr hp) hk⟩
      simp [Instr.indexAt, Instr.sureAddr, asIntOf, run_underlying ht, h0, h1, szOf hi, add_add]
    | _ => exact hk.elim
  | gp g off =>
    cases hv with
    | int k n =>
      obtain ⟨h0, h1, hk⟩ := hk
      refine ⟨_, ?_, Fin.same R (.gp g (off + n.toNat * ie.size)) hk⟩
      simp [Instr.indexAt, Instr.sureAddr, asIntOf, run_underlying ht, h0, h1, szOf hi, add_plain]
    | _ => exact hk.elim
  | _ => exact hk.elim
theorem field_addr {t : TypeId} {fs : Array Field} {f : Field} {i : Nat} {it : TypeInfo} (ht : P.underlying t = some (.struct fs)) (hf : fs[i]? = some f) (hi : P.info? f.type = some it) (hz : ¬ it.size = 0) {x : AV} {vx : Value} (hx : Rel μ x vx) (R : Rep base w0 μ w h)
    (hk : match (generalizing := false) x with
      | .ptr (some (id, o)) => K (.ptr (some (id, o + f.offset))) h
      | _ => False) : ∃ v, (Instr.fieldAt t vx i).run P w = .ok v w ∧ Fin base w0 μ K v w := by
  cases hx with
  | @ptr id off p hp =>
    refine ⟨_, ?_, Fin.same R (.ptr hp) hk⟩
    simp [Instr.fieldAt, Instr.sureAddr, run_underlying ht, hf, fieldPlace, szOf hi, hz, add_add]
  | _ => exact hk.elim
theorem rel_get {l : List AV} {vs : Array Value} (h1 : l.length = vs.size) (h2 : ∀ (i : Nat) (u : AV) (v : Value), l[i]? = some u → vs[i]? = some v → Rel μ u v) {j : Nat} {u : AV} (hu : l[j]? = some u) : ∃ v, vs[j]? = some v ∧ Rel μ u v := by
  have hj : j < l.length := (List.getElem?_eq_some_iff.1 hu).1
  exact ⟨vs[j]'(by omega), Array.getElem?_eq_getElem (by omega), h2 j u _ hu (Array.getElem?_eq_getElem (by omega))⟩
theorem field_of {t : TypeId} {fs : Array Field} {f : Field} {i : Nat} {s : Option Nat} (ht : P.underlying t = some (.struct fs)) (hf : fs[i]? = some f) (hi : szT P f.type = some s) {x : AV} {vx : Value} (hx : Rel μ x vx) (R : Rep base w0 μ w h)
    (hk : match (generalizing := false) x with
      | .agg l => match (generalizing := false) s with
        | none => ∃ v, l[f.offset]? = some v ∧ K v h
        | some n => f.offset + n ≤ l.length ∧ K (.agg ((l.drop f.offset).take n)) h
      | _ => False) : ∃ v, (Instr.field t vx i).run P w = .ok v w ∧ Fin base w0 μ K v w := by
  cases hx with
  | @agg l vs h1 h2 =>
    cases s with
    | none =>
      obtain ⟨u, hu, hk⟩ := hk
      obtain ⟨v, hv, hr⟩ := rel_get h1 h2 hu
      refine ⟨v, ?_, Fin.same R hr hk⟩
      simp [Instr.field, asAgg, run_underlying ht, hf, part, szT_none hi, hv]
    | some n =>
      obtain ⟨hl, hk⟩ := hk
      have hr : RelA μ l vs.toList := ⟨by simpa using h1, fun i u v hu hv => h2 i u v hu (by simpa using hv)⟩
      refine ⟨.agg ((vs.toList.drop f.offset).take n).toArray, ?_, Fin.same R ((hr.drop _).take n).agg hk⟩
      simp only [Instr.field, asAgg, Sem.run_bind, run_underlying ht, Result.andThen_ok, hf, part, (szT_some hi).1, (szT_some hi).2, Sem.run_pure, if_true]
      congr 2
      apply Array.ext'
      simp [List.extract_eq_take_drop]
  | _ => exact hk.elim
theorem slice_any {t e : TypeId} {ie : TypeInfo} (ht : P.underlying t = some (.slice e)) (hi : P.info? e = some ie) {x : AV} {vx : Value} (hx : Rel μ x vx) (R : Rep base w0 μ w h) {lo hi' : Option Value} {a b : Nat}
    {id : Option Nat} {off len : Nat} {cap : Option Nat} (hxe : x = .sl id off len cap) (hb : match hi' with | none => b = len | some v => ∃ k m, v = .int k m ∧ 0 ≤ m ∧ b = m.toNat) (ha : match lo with | none => a = 0 | some v => ∃ k m, v = .int k m ∧ 0 ≤ m ∧ a = m.toNat)
    (hab : a ≤ b) (hbc : b ≤ len ∨ ∃ c, cap = some c ∧ b ≤ c) (hk : K (.sl id (off + a * ie.size) (b - a) (cap.map (· - a))) h) (hsz' : ∀ i, id = some i → ∃ r, h.rows i = some r ∧ (r.own = none ∨ r.esz = ie.size)) :
    ∃ v, (Instr.sliceAt t vx lo hi' none).run P w = .ok v w ∧ Fin base w0 μ K v w := by
  have run : ∀ (A : Option Addr) (c : Nat), b ≤ c → len ≤ c → (Instr.sliceAt t (.slice A len c) lo hi' none).run P w = .ok (.slice (if c = a then A else A.map (·.add (a * ie.size))) (b - a) (c - a)) w := by
    intro A c hbc hlc
    have h1 : (match hi', (none : Option Value) with
        | some v, some _ => Instr.sliceBound v c .slice3B
        | some v, none => Instr.sliceBound v c .sliceAcap
        | none, none => pure len
        | none, some _ => stuck "Slice: max without high" : Sem Nat).run P w = .ok b w := by
      cases hi' with
      | none => subst hb; rfl
      | some v =>
        obtain ⟨k, m, rfl, h0, rfl⟩ := hb
        simp [Instr.sliceBound, asIntOf, h0, show m ≤ (c : Int) from by omega]
    have h2 : (match lo with
        | some v => Instr.sliceBound v b .sliceB
        | none => pure 0 : Sem Nat).run P w = .ok a w := by
      cases lo with
      | none => subst ha; rfl
      | some v =>
        obtain ⟨k, m, rfl, h0, rfl⟩ := ha
        simp [Instr.sliceBound, asIntOf, h0, show m ≤ (b : Int) from by omega]
    unfold Instr.sliceAt
    rw [Sem.run_bind, run_underlying ht, Result.andThen_ok]
    simp only [Instr.slice, Sem.run_bind, run_underlying ht, Result.andThen_ok, Instr.sliceBounds, if_true, Sem.run_pure]
    cases hi' <;> cases lo <;> simp_all [szOf hi]
  have hsz : ∀ p, (∃ i, id = some i ∧ μ i = some p) → p.tot ≠ none → p.esz = ie.size := by
    rintro p ⟨i, hid, hp⟩ htot
    obtain ⟨r, hr, hor⟩ := hsz' i hid
    obtain ⟨q, hq, hR⟩ := R.row i r hr
    rw [hp] at hq
    injection hq with hq
    subst hq
    unfold RowRep at hR
    split at hR
    · exact absurd hR.2.1 htot
    · rename_i t' hown
      obtain ⟨g, cur, _, _, h3, _⟩ := hR
      rcases hor with hor | hor
      · rw [hown] at hor; cases hor
      · rw [h3, hor]
  subst hxe
  cases hx with
  | @snil A _ hc =>
    have hb0 : b = 0 := by
      rcases hbc with hbc | ⟨c, rfl, hbc⟩
      · omega
      · have := hc c rfl; omega
    have ha0 : a = 0 := by omega
    subst hb0
    subst ha0
    refine ⟨_, run A 0 (Nat.le_refl _) (Nat.le_refl _), Fin.same R (v := .sl none 0 0 (cap.map (· - 0))) (Rel.snil ?_) (by simpa using hk)⟩
    intro x hx
    cases cap with
    | none => simp at hx
    | some c => simp at hx; have := hc c rfl; omega
  | @sl id off len c p cp A hp hA hl hc hT =>
    have hbc' : b ≤ cp := by
      rcases hbc with hbc | ⟨c', rfl, hbc⟩
      · omega
      · have := hc c' rfl; omega
    refine ⟨_, run A cp hbc' hl, Fin.same R (Rel.sl hp (cap := cp - a) ?_ (by omega) (fun x hx => ?_) (fun T hT' => ?_)) hk⟩
    · by_cases hca : cp = a
      · left; omega
      · right
        rcases hA with hA | rfl
        · omega
        · rw [if_neg hca]; simp [add_add]
    · cases cap with
      | none => simp at hx
      | some c => simp at hx; have := hc c rfl; omega
    · have h1 := hT T hT'
      have h2 := hsz p ⟨id, rfl, hp⟩ (by rw [hT']; simp)
      rw [h2] at h1 ⊢
      rw [Nat.sub_mul]
      have : a * ie.size ≤ cp * ie.size := Nat.mul_le_mul_right _ (by omega)
      omega
theorem zs_length {zero : List AV} (n : Nat) : (zs zero n).length = n * zero.length := by
  unfold zs
  split
  · simp
  · simp
theorem flat_get {zero : List AV} (hz : 0 < zero.length) : ∀ (n j : Nat), j < n * zero.length → (List.replicate n zero).flatten[j]? = zero[j % zero.length]?
  | 0, j, hj => by omega
  | n + 1, j, hj => by
    rw [List.replicate_succ, List.flatten_cons]
    rcases Nat.lt_or_ge j zero.length with h1 | h1
    · rw [List.getElem?_append_left h1, Nat.mod_eq_of_lt h1]
    · rw [List.getElem?_append_right h1, flat_get hz n _ (by rw [Nat.succ_mul] at hj; omega)]
      congr 1
      rw [Nat.mod_eq_sub_mod h1]
theorem zs_get {zero : List AV} {n j : Nat} (hj : j < n * zero.length) : (zs zero n)[j]? = zero[j % zero.length]? := by
  have hz : 0 < zero.length := by
    rcases Nat.eq_zero_or_pos zero.length with e | e
    · rw [e] at hj; omega
    · exact e
  unfold zs
  split
  · rename_i z
    have hj' : j < n := by simpa using hj
    simp [hj']
    simp [Nat.mod_one]
  · exact flat_get hz n j hj
theorem made_rel {z : Array Value} (n : Nat) : RelA μ (zs (z.toList.map ofC) n) (madeCells z (n * z.size)).toList := by
  refine ⟨by rw [zs_length]; simp [madeCells], fun i u v hu hv => ?_⟩
  have hi : i < n * z.size := by
    have := (List.getElem?_eq_some_iff.1 hu).1
    rw [zs_length] at this
    simpa using this
  have hz : 0 < z.size := by
    rcases Nat.eq_zero_or_pos z.size with e | e
    · rw [e] at hi; omega
    · exact e
  rw [zs_get (by simpa using hi)] at hu
  have hm : i % z.size < z.size := Nat.mod_lt _ hz
  simp [madeCells, hi] at hv
  simp [hm] at hu
  subst hu
  rw [← hv]
  simp only [getElem!_pos, hm]
  exact ofC_rel μ _
theorem make_any {t e : TypeId} {ie : TypeInfo} {z : Value} (ht : P.underlying t = some (.slice e)) (hi : P.info? e = some ie) (hz : ie.zero = some z) (hsz : z.cells.size = ie.size) (hb : 0 < ie.bytes)
    {l c : AV} {vl vc : Value} (hl : Rel μ l vl) (hc : Rel μ c vc) (R : Rep base w0 μ w h)
    (hk : match (generalizing := false) l, c with
      | .int _ l, .int _ c => 0 ≤ l ∧ l ≤ c ∧ ie.bytes * c ≤ 140737488355328 ∧ K (.sl (some h.next) 0 l.toNat (some c.toNat)) (h.new ⟨some e, ie.size, zs (z.cells.toList.map ofC) c.toNat⟩)
      | _, _ => False) : ∃ v w', (Instr.makeSlice t vl vc).run P w = .ok v w' ∧ Fin base w0 μ K v w' := by
  cases hl with
  | int kl l =>
    cases hc with
    | int kc c =>
      obtain ⟨h0, h1, h2, hk⟩ := hk
      have hcc : c ≤ 140737488355328 := by
        have : (1 : Int) * c ≤ ie.bytes * c := Int.mul_le_mul_of_nonneg_right (by omega) (by omega)
        omega
      have hrun := run_make (P := P) w t e ie z ht hi hz kl kc l c h0 h1 (by omega) (by omega)
      refine ⟨_, _, hrun, _, _, _, Mu.le_put (R.free _ (Nat.le_refl _)) _, ?_, R.alloc e ie.size (l := zs (z.cells.toList.map ofC) c.toNat) (by rw [← hsz]; exact made_rel _) ?_, hk⟩
      · refine Rel.sl (p := ⟨⟨w.heap.size, 0, none⟩, ie.size, some (c.toNat * ie.size)⟩) (by simp [Mu.put, size_madeCells]) (.inr rfl) (by omega) (fun x hx => by simpa using hx.symm) (fun T hT => ?_)
        simp at hT
        simpa using hT
      · rw [size_madeCells]
        refine Nat.mul_le_mul_right _ ?_
        simp only [maxLen]
        omega
    | _ => exact hk.elim
  | _ => exact hk.elim
theorem box_any {e : TypeId} {x : AV} {vx : Value} (hx : Rel μ x vx) (R : Rep base w0 μ w h) (hh : x.held = true) (hk : K (.ptr (some (h.next, 0))) (h.new ⟨some e, x.cells.length, x.cells⟩)) :
    ∃ v w', (Instr.box e vx).run P w = .ok v w' ∧ Fin base w0 μ K v w' := by
  have hc := hx.cells hh
  refine ⟨_, _, rfl, _, _, _, Mu.le_put (R.free _ (Nat.le_refl _)) _, ?_, R.alloc e x.cells.length hc ?_, hk⟩
  · exact Rel.ptr (p := ⟨⟨w.heap.size, 0, none⟩, x.cells.length, some vx.cells.size⟩) (by simp [Mu.put])
  · have := hc.1
    simp only [Array.length_toList] at this
    rw [this]
    simp only [maxLen]
    omega
theorem alloc_any {e : TypeId} {i : TypeInfo} {z : Value} (hi : P.info? e = some i) (hz : i.zero = some z) (R : Rep base w0 μ w h) (hk : K (.ptr (some (h.next, 0))) (h.new ⟨some e, (z.cells.toList.map ofC).length, z.cells.toList.map ofC⟩)) :
    ∃ v w', (Instr.alloc e true (.tuple #[])).run P w = .ok v w' ∧ Fin base w0 μ K v w' := by
  have hc := ofCs_rel μ z.cells.toList
  refine ⟨.pointer (some ⟨w.heap.size, 0, none⟩), w.alloc (.cells z.cells e), ?_, _, _, _, Mu.le_put (R.free _ (Nat.le_refl _)) _, ?_, R.alloc e (z.cells.toList.map ofC).length hc ?_, hk⟩
  · simp [Instr.alloc, zeroValue, typeInfo, hi, hz, newVar, newRow]
  · exact Rel.ptr (p := ⟨⟨w.heap.size, 0, none⟩, (z.cells.toList.map ofC).length, some z.cells.size⟩) (by simp [Mu.put])
  · simp only [maxLen, List.length_map, Array.length_toList]
    omega
end
end Ab
end Go.Proofs.Yteoagnggnekfiaa
