/- Regions over abstract values: whatever order a region draws, its operations come to what they come to in one. No condition. -/
import Derived.Test.YteoagnggnekfiaaA7
namespace Go.Proofs.Yteoagnggnekfiaa
namespace Ab
open Go Go.RowKit

theorem ACalls.mono {P : Program} {f : FuncId} {avs : List AV} {h : H} {K K' : AV → H → Prop} (hk : ∀ v h', K v h' → K' v h') (hc : ACalls P f avs h K) : ACalls P f avs h K' := by
  intro base w0 μ w vs R hr
  rcases hc base w0 μ w vs R hr with ⟨h1, h2⟩ | ⟨v, h1, μ', r, h', q1, q2, q3, q4⟩
  · refine .inl ⟨h1, h2.mono ?_⟩
    rintro e w' ⟨v, rfl, μ', r, h', q1, q2, q3, q4⟩
    exact ⟨v, rfl, μ', r, h', q1, q2, q3, hk _ _ q4⟩
  · exact .inr ⟨v, h1, μ', r, h', q1, q2, q3, hk _ _ q4⟩
theorem abin_mono {op : BinOp} {k : IntKind} {a b : Int} {K K' : AV → Prop} (hk : ∀ v, K v → K' v) (h : abin op k a b K) : abin op k a b K' := by
  rcases abin_det (op := op) (k := k) (a := a) (b := b) with ⟨v, hv⟩ | hv
  · exact (hv K').2 (hk v ((hv K).1 h))
  · exact absurd h (hv K)
theorem bound_mono {ρ : Env} {d : Nat} {lo : Option AO} {K K' : Nat → Prop} (hk : ∀ v, K v → K' v) (h : boundOf ρ d lo K) : boundOf ρ d lo K' := by
  rcases bound_det (ρ := ρ) (d := d) (lo := lo) with ⟨v, hv⟩ | hv
  · exact (hv K').2 (hk v ((hv K).1 h))
  · exact absurd h (hv K)
theorem aexec_mono {P : Program} {o : AOp} {ρ : Env} {h : H} {K K' : AV → H → Prop} (hk : ∀ v h', K v h' → K' v h') (hx : aexec P o ρ h K) : aexec P o ρ h K' := by
  by_cases hn : o.ne = true
  · rcases det (P := P) hn ρ h with ⟨v, hv⟩ | hv
    · exact (hv K').2 (hk v h ((hv K).1 hx))
    · exact absurd hx (hv K)
  · cases o with
    | st n p v =>
      simp only [aexec] at hx ⊢
      split at hx
      · obtain ⟨r, h1, h2, h3, h4, h5, h6, h7⟩ := hx; exact ⟨r, h1, h2, h3, h4, h5, h6, hk _ _ h7⟩
      · exact hx
    | mk e z b zr l c =>
      simp only [aexec] at hx ⊢
      split at hx
      · exact ⟨hx.1, hx.2.1, hx.2.2.1, hk _ _ hx.2.2.2⟩
      · exact hx
    | bsl e z n zr ps =>
      simp only [aexec] at hx ⊢
      obtain ⟨l, h1, h2⟩ := hx
      exact ⟨l, h1, hk _ _ h2⟩
    | box e x => exact ⟨hx.1, hk _ _ hx.2⟩
    | alloc e zr => exact hk _ _ hx
    | app e z b s x =>
      simp only [aexec] at hx ⊢
      split at hx
      · refine ⟨fun h0 => hk _ _ (hx.1 h0), fun h0 => ?_⟩
        obtain ⟨j, r, h1, h2, h3, h4, h5, h6, h7⟩ := hx.2 h0
        refine ⟨j, r, h1, h2, h3, h4, h5, h6, ?_⟩
        rcases h7 with ⟨a1, a2, a3⟩ | ⟨i, q, a1, a2, a3, a4, a5, a6, a7⟩
        · exact .inl ⟨a1, a2, hk _ _ a3⟩
        · exact .inr ⟨i, q, a1, a2, a3, a4, a5, a6, hk _ _ a7⟩
      · exact hx
    | cpy z d s =>
      simp only [aexec] at hx ⊢
      split at hx
      · refine ⟨fun h0 => hk _ _ (hx.1 h0), fun h0 => ?_⟩
        obtain ⟨i, q, j, r, h1, h2, h3, h4, h5, h6, h7, h8, h9⟩ := hx.2 h0
        exact ⟨i, q, j, r, h1, h2, h3, h4, h5, h6, h7, h8, hk _ _ h9⟩
      · exact hx
    | call f as => exact hx.mono hk
    | callV x as =>
      simp only [aexec] at hx ⊢
      split at hx
      · exact hx.mono hk
      · exact hx
    | bad => exact hx
    | _ => exact absurd rfl hn
section
variable {P : Program}
theorem astep_mono {g : Option (Nat × Bool)} {o : AOp} {ρ : Env} {h : H} {K K' : AV → H → Prop} (hk : ∀ v h', K v h' → K' v h') (hx : astep P g o ρ h K) : astep P g o ρ h K' := by
  unfold astep at *
  split at hx
  · exact aexec_mono hk hx
  · split at hx
    · split at hx
      · rename_i hc; rw [if_pos hc]; exact aexec_mono hk hx
      · rename_i hc; rw [if_neg hc]; exact hk _ _ hx
    · exact hk _ _ hx
    · exact hx
theorem astep_congr {g : Option (Nat × Bool)} {o : AOp} {ρ ρ' : Env} {h : H} {K : AV → H → Prop} (hr : ∀ t ∈ grd g ++ o.rds, ρ t = ρ' t) : astep P g o ρ h K ↔ astep P g o ρ' h K := by
  unfold astep
  cases g with
  | none => exact aexec_congr (fun t ht => hr t (by simpa [grd] using ht))
  | some p =>
    obtain ⟨t, b⟩ := p
    have e : ρ t = ρ' t := hr t (by simp [grd])
    simp only [e]
    have e2 := aexec_congr (P := P) (o := o) (ρ := ρ) (ρ' := ρ') (h := h) (K := K) (fun t ht => hr t (by simp [ht]))
    split
    · split
      · exact e2
      · exact Iff.rfl
    · exact Iff.rfl
    · exact Iff.rfl
theorem sdet {g : Option (Nat × Bool)} {o : AOp} (ho : o.ne = true) (ρ : Env) (h : H) : (∃ v, ∀ K, astep P g o ρ h K ↔ K v h) ∨ (∀ K, ¬ astep P g o ρ h K) := by
  unfold astep
  cases g with
  | none => exact det ho ρ h
  | some p =>
    obtain ⟨t, b⟩ := p
    simp only
    split
    · split
      · exact det ho ρ h
      · exact .inl ⟨.tup [], fun K => Iff.rfl⟩
    · exact .inl ⟨.tup [], fun K => Iff.rfl⟩
    · exact .inr (fun K hk => hk)
theorem sdet_pure {g : Option (Nat × Bool)} {o : AOp} (ho : o.pure = true) (ρ : Env) : (∃ v, ∀ h K, astep P g o ρ h K ↔ K v h) ∨ (∀ h K, ¬ astep P g o ρ h K) := by
  unfold astep
  cases g with
  | none => exact det_pure ho ρ
  | some p =>
    obtain ⟨t, b⟩ := p
    simp only
    split
    · split
      · exact det_pure ho ρ
      · exact .inl ⟨.tup [], fun h K => Iff.rfl⟩
    · exact .inl ⟨.tup [], fun h K => Iff.rfl⟩
    · exact .inr (fun h K hk => hk)

def AOper.looks (o : AOper) : List Nat := grd o.g ++ o.op.rds
def apartB (x y : AOper) : Bool :=
  (match x.dst with
   | some d => !(y.looks).contains d && y.dst != some d
   | none => true) &&
  (match y.dst with
   | some d => !(x.looks).contains d
   | none => true)
theorem apartB_spec {x y : AOper} (h : apartB x y = true) : (∀ d, x.dst = some d → d ∉ y.looks) ∧ (∀ d, x.dst = some d → y.dst ≠ some d) ∧ (∀ d, y.dst = some d → d ∉ x.looks) := by
  refine ⟨fun d hd => ?_, fun d hd => ?_, fun d hd => ?_⟩ <;> simp [apartB, hd] at h
  · exact h.1.1
  · exact h.1.2
  · exact h.2
/-- The later one does not write what the former one reads or has written. -/
def stableB (x y : AOper) : Bool :=
  match y.dst with
  | some d => !(x.looks).contains d && x.dst != some d
  | none => true
theorem stableB_spec {x y : AOper} (h : stableB x y = true) : ∀ d, y.dst = some d → d ∉ x.looks ∧ x.dst ≠ some d := by
  intro d hd
  simp [stableB, hd] at h
  exact h
def selfB (x : AOper) : Bool := match x.dst with
  | some d => !(x.looks).contains d
  | none => true

theorem aput_ne {ρ : Env} {d : Option Nat} {v : AV} {t : Nat} (h : d ≠ some t) : aput ρ d v t = ρ t := by
  cases d with
  | none => rfl
  | some d => simp only [aput, upd]; rw [if_neg (fun e => h (by rw [e]))]
theorem aput_eq {ρ : Env} {d : Nat} {v : AV} : aput ρ (some d) v d = v := by simp [aput, upd]
theorem aput_comm {ρ : Env} {d e : Option Nat} {u v : AV} (h : ∀ x, d = some x → e ≠ some x) : aput (aput ρ d u) e v = aput (aput ρ e v) d u := by
  cases d with
  | none => rfl
  | some d =>
    cases e with
    | none => rfl
    | some e =>
      funext t
      simp only [aput, upd]
      by_cases h1 : t = e
      · by_cases h2 : t = d
        · exact absurd (by rw [← h1, h2]) (h d rfl)
        · simp [h1, show e ≠ d from fun x => h2 (by rw [h1, x])]
      · simp [h1]

/-- Operations that neither write nor call, one behind the other. -/
inductive NErun (P : Program) (h : H) : List AOper → Env → Env → Prop
  | nil (ρ : Env) : NErun P h [] ρ ρ
  | cons {o : AOper} {os : List AOper} {ρ ρ1 : Env} {v : AV} (hv : ∀ K, astep P o.g o.op ρ h K ↔ K v h) (hr : NErun P h os (aput ρ o.dst v) ρ1) : NErun P h (o :: os) ρ ρ1
theorem NErun.back {h : H} {pre : List AOper} {ρ ρ1 : Env} (hr : NErun P h pre ρ ρ1) (hc : ∀ j ∈ pre, j.chks = []) {os : List AOper} {Q : Env → H → Prop} (ho : aops P os Q ρ1 h) : aops P (pre ++ os) Q ρ h := by
  induction hr with
  | nil ρ => exact ho
  | cons hv hr ih =>
    simp only [List.cons_append, aops]
    rw [hv, hc _ (by simp)]
    exact ⟨trivial, ih (fun j hj => hc j (by simp [hj])) ho⟩
theorem NErun.of {h : H} {os : List AOper} {Q : Env → H → Prop} : ∀ {pre : List AOper} {ρ : Env}, (∀ j ∈ pre, j.op.ne = true) → aops P (pre ++ os) Q ρ h → ∃ ρ1, NErun P h pre ρ ρ1 ∧ aops P os Q ρ1 h
  | [], ρ, _, ho => ⟨ρ, .nil ρ, ho⟩
  | o :: pre, ρ, hn, ho => by
    simp only [List.cons_append, aops] at ho
    rcases sdet (P := P) (g := o.g) (hn o (by simp)) ρ h with ⟨v, hv⟩ | hv
    · rw [hv] at ho
      obtain ⟨ρ1, h1, h2⟩ := NErun.of (fun j hj => hn j (by simp [hj])) ho.2
      exact ⟨ρ1, .cons hv h1, h2⟩
    · exact absurd ho (hv _)
theorem NErun.out {h : H} {pre : List AOper} {ρ ρ1 : Env} (hr : NErun P h pre ρ ρ1) {t : Nat} (ht : ∀ j ∈ pre, j.dst ≠ some t) : ρ1 t = ρ t := by
  induction hr with
  | nil ρ => rfl
  | cons hv hr ih => rw [ih (fun j hj => ht j (by simp [hj])), aput_ne (ht _ (by simp))]
theorem NErun.again {h : H} {pre : List AOper} {ρ ρ1 : Env} (hr : NErun P h pre ρ ρ1) : (pre.Pairwise fun j k => j.op.pure = true ∨ stableB j k = true) → (∀ j ∈ pre, j.op.pure = true ∨ selfB j = true) → ∀ {j : AOper}, j ∈ pre → ¬ j.op.pure = true → achk P ρ1 h (j.dst, j.g, j.op) := by
  induction hr with
  | nil ρ => intro _ _ j hj; simp at hj
  | @cons o os ρ ρ1 v hv hr ih =>
    intro hp hs j hj hpu
    rcases List.mem_cons.1 hj with rfl | hj
    · have hself := (hs j (by simp)).resolve_left hpu
      have hst : ∀ k ∈ os, stableB j k = true := fun k hk => ((List.pairwise_cons.1 hp).1 k hk).resolve_left hpu
      have hlook : ∀ t ∈ j.looks, ρ1 t = ρ t := by
        intro t ht
        rw [hr.out (fun k hk e => (stableB_spec (hst k hk) t e).1 ht), aput_ne (fun e => by
          simp [selfB, e] at hself
          exact hself ht)]
      refine (astep_congr (fun t ht => hlook t ht)).2 ((hv _).2 (fun d hd => ?_))
      have hd' : j.dst = some d := hd
      rw [hr.out (fun k hk e => (stableB_spec (hst k hk) d e).2 hd), hd', aput_eq]
    · exact ih (List.pairwise_cons.1 hp).2 (fun k hk => hs k (by simp [hk])) hj hpu
/-- They come to the same behind an operation that is apart from them. -/
theorem NErun.over {h h' : H} {di : Option Nat} {u : AV} : ∀ {pre : List AOper} {ρ ρ1 : Env}, NErun P h pre ρ ρ1 → (∀ j ∈ pre, j.op.ne = true) → (∀ j ∈ pre, ∀ d, di = some d → d ∉ j.looks ∧ j.dst ≠ some d) →
    (pre.Pairwise fun j k => j.op.pure = true ∨ stableB j k = true) → (∀ j ∈ pre, j.op.pure = true ∨ selfB j = true) →
    (∀ j ∈ pre, j.op.pure = true ∨ achk P ρ1 h' (j.dst, j.g, j.op)) → NErun P h' pre (aput ρ di u) (aput ρ1 di u) := by
  intro pre ρ ρ1 hr
  induction hr with
  | nil ρ => intro _ _ _ _ _; exact .nil _
  | @cons o os ρ ρ1 v hv hr ih =>
    intro hn hd hp hs hc
    have hdo := hd o (by simp)
    have hcong : ∀ (h : H) (K : AV → H → Prop), astep P o.g o.op (aput ρ di u) h K ↔ astep P o.g o.op ρ h K := fun h K => astep_congr (fun t ht => aput_ne (fun e => (hdo t e).1 ht))
    have hcomm : ∀ v, aput (aput ρ di u) o.dst v = aput (aput ρ o.dst v) di u := fun v => aput_comm (fun x hx => (hdo x hx).2)
    have hrest := ih (fun j hj => hn j (by simp [hj])) (fun j hj => hd j (by simp [hj])) (List.pairwise_cons.1 hp).2 (fun j hj => hs j (by simp [hj])) (fun j hj => hc j (by simp [hj]))
    by_cases hpure : o.op.pure = true
    · have hv' : ∀ K, astep P o.g o.op ρ h' K ↔ K v h' := by
        rcases sdet_pure (P := P) (g := o.g) hpure ρ with ⟨v', hv'⟩ | hv'
        · have : v = v' := ((hv (fun x _ => x = v')).1 ((hv' h (fun x _ => x = v')).2 rfl))
          subst this
          exact hv' h'
        · exact absurd ((hv (fun _ _ => True)).2 trivial) (hv' h _)
      refine .cons (v := v) (fun K => (hcong h' K).trans (hv' K)) ?_
      rw [hcomm]
      exact hrest
    · have hst : ∀ k ∈ os, stableB o k = true := fun k hk => ((List.pairwise_cons.1 hp).1 k hk).resolve_left hpure
      have hself := (hs o (by simp)).resolve_left hpure
      have hchk := (hc o (by simp)).resolve_left hpure
      have hlook : ∀ t ∈ o.looks, ρ1 t = ρ t := by
        intro t ht
        rw [hr.out (fun j hj e => (stableB_spec (hst j hj) t e).1 ht), aput_ne (fun e => by
          simp [selfB, e] at hself
          exact hself ht)]
      have hchk' : astep P o.g o.op ρ h' (fun x _ => ∀ d, o.dst = some d → x = ρ1 d) := (astep_congr (fun t ht => hlook t ht)).1 hchk
      rcases sdet (P := P) (g := o.g) (hn o (by simp)) ρ h' with ⟨v', hv'⟩ | hv'
      · have h1 := (hv' _).1 hchk'
        have h2 : aput (aput ρ o.dst v') di u = aput (aput ρ o.dst v) di u := by
          cases hdst : o.dst with
          | none => rfl
          | some d =>
            have : v' = v := by
              rw [h1 d hdst, hr.out (fun j hj e => (stableB_spec (hst j hj) d e).2 hdst), hdst, aput_eq]
            rw [this]
        refine .cons (v := v') (fun K => (hcong h' K).trans (hv' K)) ?_
        rw [hcomm, h2]
        exact hrest
      · exact absurd hchk' (hv' _)
theorem achks_mem {ρ : Env} {h : H} : ∀ {l : List (Option Nat × Option (Nat × Bool) × AOp)}, achks P ρ h l → ∀ c ∈ l, achk P ρ h c
  | [], _, c, hc => by simp at hc
  | d :: l, hl, c, hc => by
    rcases List.mem_cons.1 hc with rfl | hc
    · exact hl.1
    · exact achks_mem hl.2 c hc
/-- An operation that waits for none of those ahead of it may be taken first. -/
theorem pull {pre rest : List AOper} {i : AOper} {Q : Env → H → Prop} {ρ : Env} {h : H} (ho : aops P (pre ++ i :: rest) Q ρ h) (hn : ∀ j ∈ pre, j.op.ne = true) (hch : ∀ j ∈ pre, j.chks = []) (ha : ∀ j ∈ pre, apartB j i = true)
    (hp : pre.Pairwise fun j k => j.op.pure = true ∨ stableB j k = true) (hs : ∀ j ∈ pre, j.op.pure = true ∨ selfB j = true) (hc : ∀ j ∈ pre, j.op.pure = true ∨ i.op.ne = true ∨ (j.dst, j.g, j.op) ∈ i.chks) :
    astep P i.g i.op ρ h (fun u h' => aops P (pre ++ rest) Q (aput ρ i.dst u) h') := by
  obtain ⟨ρ1, hr, ho⟩ := NErun.of hn ho
  simp only [aops] at ho
  have hlook : ∀ t ∈ i.looks, ρ1 t = ρ t := fun t ht => hr.out (fun j hj e => (apartB_spec (ha j hj)).1 t e ht)
  have hdj : ∀ j ∈ pre, ∀ d, i.dst = some d → d ∉ j.looks ∧ j.dst ≠ some d := fun j hj d hd => ⟨(apartB_spec (ha j hj)).2.2 d hd, fun e => (apartB_spec (ha j hj)).2.1 d e hd⟩
  have ho' := (astep_congr (P := P) (g := i.g) (o := i.op) (fun t ht => hlook t ht)).1 ho
  by_cases hi : i.op.ne = true
  · rcases sdet (P := P) (g := i.g) hi ρ h with ⟨v, hv⟩ | hv
    · rw [hv] at ho' ⊢
      refine NErun.back (hr.over (h' := h) hn hdj hp hs (fun j hj => ?_)) hch ho'.2
      -- memory is as it was
      by_cases hpu : j.op.pure = true
      · exact .inl hpu
      · refine .inr ?_
        exact hr.again hp hs hj hpu
    · exact absurd ho' (hv _)
  · refine astep_mono (fun u h' hk => ?_) ho'
    refine NErun.back (hr.over (h' := h') hn hdj hp hs (fun j hj => ?_)) hch hk.2
    rcases hc j hj with h1 | h1 | h1
    · exact .inl h1
    · exact absurd h1 hi
    · exact .inr (achks_mem hk.1 _ h1)
end
end Ab
end Go.Proofs.Yteoagnggnekfiaa
