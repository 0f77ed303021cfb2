/- Regions over abstract values: operations in the text's order, and in whatever order a region draws. No condition. -/
import Derived.Test.YteoagnggnekfiaaA6
namespace Go.Proofs.Yteoagnggnekfiaa
namespace Ab
open Go Go.RowKit

structure AOper where
  dst : Option Nat
  g : Option (Nat × Bool)
  op : AOp
  chks : List (Option Nat × Option (Nat × Bool) × AOp)

section
variable (P : Program)
def astep (g : Option (Nat × Bool)) (o : AOp) (ρ : Env) (h : H) (K : AV → H → Prop) : Prop :=
  match g with
  | none => aexec P o ρ h K
  | some (t, b) => match ρ t with
    | .bool c => if c = b then aexec P o ρ h K else K (.tup []) h
    | .tup [] => K (.tup []) h
    | _ => False
/-- An operation that reads memory answers as it did. -/
def achk (ρ : Env) (h : H) (c : Option Nat × Option (Nat × Bool) × AOp) : Prop := astep P c.2.1 c.2.2 ρ h (fun v _ => ∀ d, c.1 = some d → v = ρ d)
def achks (ρ : Env) (h : H) : List (Option Nat × Option (Nat × Bool) × AOp) → Prop
  | [] => True
  | c :: cs => achk P ρ h c ∧ achks ρ h cs
def aops : List AOper → (Env → H → Prop) → Env → H → Prop
  | [], Q, ρ, h => Q ρ h
  | o :: os, Q, ρ, h => astep P o.g o.op ρ h (fun v h' => achks P ρ h' o.chks ∧ aops os Q (aput ρ o.dst v) h')
end

/-- The places that an operand reads. -/
def AO.rd : AO → List Nat
  | .t n => [n]
  | _ => []
def AOp.rds : AOp → List Nat
  | .mv x => x.rd
  | .pick c a b => c.rd ++ (a.rd ++ b.rd)
  | .bin _ x y => x.rd ++ y.rd
  | .beq _ x y => x.rd ++ y.rd
  | .peq _ x y => x.rd ++ y.rd
  | .seq _ x y => x.rd ++ y.rd
  | .cat x y => x.rd ++ y.rd
  | .aeq _ _ x y => x.rd ++ y.rd
  | .idxS x y => x.rd ++ y.rd
  | .un _ x => x.rd
  | .cvI _ x => x.rd
  | .idx _ x i => x.rd ++ i.rd
  | .idxA _ _ x i => x.rd ++ i.rd
  | .fld _ x => x.rd
  | .ld _ p => p.rd
  | .st _ p v => p.rd ++ v.rd
  | .nn x => x.rd
  | .prt _ _ x => x.rd
  | .slc _ x lo hi => x.rd ++ ((lo.map AO.rd).getD [] ++ (hi.map AO.rd).getD [])
  | .mk _ _ _ _ l c => l.rd ++ c.rd
  | .bsl _ _ _ _ ps => ps.flatMap fun p => p.2.rd
  | .bld _ ps => ps.flatMap fun p => p.2.2.rd
  | .box _ x => x.rd
  | .alloc _ _ => []
  | .len _ x => x.rd
  | .capo x => x.rd
  | .mnx _ x ys => x.rd ++ ys.flatMap AO.rd
  | .app _ _ _ s x => s.rd ++ x.rd
  | .cpy _ d s => d.rd ++ s.rd
  | .mkf _ f c => f.flatMap AO.rd ++ c.flatMap AO.rd
  | .ext x _ => x.rd
  | .call _ as => as.flatMap AO.rd
  | .callV x as => x.rd ++ as.flatMap AO.rd
  | .bad => []
/-- It neither writes nor makes memory, and calls nothing. -/
def AOp.ne : AOp → Bool
  | .mv _ | .pick .. | .bin .. | .beq .. | .peq .. | .seq .. | .cat .. | .aeq .. | .idxS .. | .un .. | .cvI .. | .idx .. | .idxA .. | .fld .. | .ld .. | .nn _ | .prt .. | .slc .. | .bld .. | .len .. | .capo _ | .mnx .. | .mkf .. | .ext .. => true
  | _ => false
/-- It does not look at memory either. -/
def AOp.pure : AOp → Bool
  | .ld .. | .slc .. => false
  | o => o.ne
def grd (g : Option (Nat × Bool)) : List Nat := match g with
  | some (t, _) => [t]
  | none => []

theorem aev_congr {ρ ρ' : Env} {x : AO} (h : ∀ t ∈ x.rd, ρ t = ρ' t) : aev ρ x = aev ρ' x := by
  cases x with
  | t n => exact h n (by simp [AO.rd])
  | _ => rfl
theorem aevs_congr {ρ ρ' : Env} : ∀ {xs : List AO}, (∀ t ∈ xs.flatMap AO.rd, ρ t = ρ' t) → xs.map (aev ρ) = xs.map (aev ρ')
  | [], _ => rfl
  | x :: xs, h => by
    rw [List.map_cons, List.map_cons, aev_congr (fun t ht => h t (by simp [ht])), aevs_congr (fun t ht => h t (by
      rw [List.flatMap_cons]; exact List.mem_append_right _ ht))]
theorem aexec_congr {P : Program} {o : AOp} {ρ ρ' : Env} {h : H} {K : AV → H → Prop} (hr : ∀ t ∈ o.rds, ρ t = ρ' t) : aexec P o ρ h K ↔ aexec P o ρ' h K := by
  have e1 : ∀ {x : AO}, (∀ t ∈ x.rd, t ∈ o.rds) → aev ρ x = aev ρ' x := fun h1 => aev_congr (fun t ht => hr t (h1 t ht))
  have e2 : ∀ {xs : List AO}, (∀ t ∈ xs.flatMap AO.rd, t ∈ o.rds) → xs.map (aev ρ) = xs.map (aev ρ') := fun h1 => aevs_congr (fun t ht => hr t (h1 t ht))
  cases o with
  | mv x => simp only [aexec]; rw [e1 (x := x) (fun t ht => ht)]
  | pick c a b => simp only [aexec]; rw [e1 (x := c) (fun t ht => by simp [AOp.rds, ht]), e1 (x := a) (fun t ht => by simp [AOp.rds, ht]), e1 (x := b) (fun t ht => by simp [AOp.rds, ht])]
  | bin op x y => simp only [aexec]; rw [e1 (x := x) (fun t ht => by simp [AOp.rds, ht]), e1 (x := y) (fun t ht => by simp [AOp.rds, ht])]
  | beq op x y => simp only [aexec]; rw [e1 (x := x) (fun t ht => by simp [AOp.rds, ht]), e1 (x := y) (fun t ht => by simp [AOp.rds, ht])]
  | peq op x y => simp only [aexec]; rw [e1 (x := x) (fun t ht => by simp [AOp.rds, ht]), e1 (x := y) (fun t ht => by simp [AOp.rds, ht])]
  | seq op x y => simp only [aexec]; rw [e1 (x := x) (fun t ht => by simp [AOp.rds, ht]), e1 (x := y) (fun t ht => by simp [AOp.rds, ht])]
  | cat x y => simp only [aexec]; rw [e1 (x := x) (fun t ht => by simp [AOp.rds, ht]), e1 (x := y) (fun t ht => by simp [AOp.rds, ht])]
  | aeq op n x y => simp only [aexec]; rw [e1 (x := x) (fun t ht => by simp [AOp.rds, ht]), e1 (x := y) (fun t ht => by simp [AOp.rds, ht])]
  | idxS x y => simp only [aexec]; rw [e1 (x := x) (fun t ht => by simp [AOp.rds, ht]), e1 (x := y) (fun t ht => by simp [AOp.rds, ht])]
  | un op x => simp only [aexec]; rw [e1 (x := x) (fun t ht => ht)]
  | cvI k x => simp only [aexec]; rw [e1 (x := x) (fun t ht => ht)]
  | idx _ x y => simp only [aexec]; rw [e1 (x := x) (fun t ht => by simp [AOp.rds, ht]), e1 (x := y) (fun t ht => by simp [AOp.rds, ht])]
  | idxA _ _ x y => simp only [aexec]; rw [e1 (x := x) (fun t ht => by simp [AOp.rds, ht]), e1 (x := y) (fun t ht => by simp [AOp.rds, ht])]
  | fld _ x => simp only [aexec]; rw [e1 (x := x) (fun t ht => ht)]
  | ld _ x => simp only [aexec]; rw [e1 (x := x) (fun t ht => ht)]
  | st _ x y => simp only [aexec]; rw [e1 (x := x) (fun t ht => by simp [AOp.rds, ht]), e1 (x := y) (fun t ht => by simp [AOp.rds, ht])]
  | nn x => simp only [aexec]; rw [e1 (x := x) (fun t ht => ht)]
  | prt _ _ x => simp only [aexec]; rw [e1 (x := x) (fun t ht => ht)]
  | slc _ x lo hi =>
    have b1 : ∀ (lo : Option AO) (d : Nat) (Kp : Nat → Prop), (∀ t ∈ (lo.map AO.rd).getD [], ρ t = ρ' t) → boundOf ρ d lo Kp = boundOf ρ' d lo Kp := by
      intro lo d Kp h1
      cases lo with
      | none => rfl
      | some y => simp only [boundOf]; rw [aev_congr (x := y) (fun t ht => h1 t (by simpa using ht))]
    simp only [aexec]
    rw [e1 (x := x) (fun t ht => by simp [AOp.rds, ht])]
    split
    · rw [b1 hi _ _ (fun t ht => hr t (by simp only [AOp.rds, List.mem_append]; exact .inr (.inr ht)))]
      have : ∀ b, boundOf ρ 0 lo b = boundOf ρ' 0 lo b := fun b => b1 lo _ _ (fun t ht => hr t (by simp only [AOp.rds, List.mem_append]; exact .inr (.inl ht)))
      simp only [this]
    · exact Iff.rfl
  | mk _ _ _ _ x y => simp only [aexec]; rw [e1 (x := x) (fun t ht => by simp [AOp.rds, ht]), e1 (x := y) (fun t ht => by simp [AOp.rds, ht])]
  | bsl e z n zr ps =>
    have : (ps.map fun p => (p.1 * z, z, aev ρ p.2)) = (ps.map fun p => (p.1 * z, z, aev ρ' p.2)) :=
      List.map_congr_left (fun p hp => by rw [aev_congr (fun t ht => hr t (by simp only [AOp.rds, List.mem_flatMap]; exact ⟨p, hp, ht⟩))])
    simp only [aexec]; rw [this]
  | bld zr ps =>
    have : (ps.map fun p => (p.1, p.2.1, aev ρ p.2.2)) = (ps.map fun p => (p.1, p.2.1, aev ρ' p.2.2)) :=
      List.map_congr_left (fun p hp => by rw [aev_congr (fun t ht => hr t (by simp only [AOp.rds, List.mem_flatMap]; exact ⟨p, hp, ht⟩))])
    simp only [aexec]; rw [this]
  | box _ x => simp only [aexec]; rw [e1 (x := x) (fun t ht => ht)]
  | alloc _ _ => exact Iff.rfl
  | len _ x => simp only [aexec]; rw [e1 (x := x) (fun t ht => ht)]
  | capo x => simp only [aexec]; rw [e1 (x := x) (fun t ht => ht)]
  | mnx _ x ys => simp only [aexec]; rw [e1 (x := x) (fun t ht => by simp [AOp.rds, ht]), e2 (xs := ys) (fun t ht => by simp only [AOp.rds, List.mem_append]; exact .inr ht)]
  | app _ _ _ x y => simp only [aexec]; rw [e1 (x := x) (fun t ht => by simp [AOp.rds, ht]), e1 (x := y) (fun t ht => by simp [AOp.rds, ht])]
  | cpy _ x y => simp only [aexec]; rw [e1 (x := x) (fun t ht => by simp [AOp.rds, ht]), e1 (x := y) (fun t ht => by simp [AOp.rds, ht])]
  | mkf f xs ys => simp only [aexec]; rw [e2 (xs := xs) (fun t ht => by simp only [AOp.rds, List.mem_append]; exact .inl ht), e2 (xs := ys) (fun t ht => by simp only [AOp.rds, List.mem_append]; exact .inr ht)]
  | ext x _ => simp only [aexec]; rw [e1 (x := x) (fun t ht => ht)]
  | call _ xs => simp only [aexec]; rw [e2 (xs := xs) (fun t ht => ht)]
  | callV x ys => simp only [aexec]; rw [e1 (x := x) (fun t ht => by simp [AOp.rds, ht]), e2 (xs := ys) (fun t ht => by simp only [AOp.rds, List.mem_append]; exact .inr ht)]
  | bad => exact Iff.rfl

/-- What does not look at memory has one answer. -/
def Det (P : Program) (o : AOp) (ρ : Env) : Prop := (∃ v, ∀ h K, aexec P o ρ h K ↔ K v h) ∨ (∀ h K, ¬ aexec P o ρ h K)
theorem abin_det {op : BinOp} {k : IntKind} {a b : Int} : (∃ v, ∀ K, abin op k a b K ↔ K v) ∨ (∀ K, ¬ abin op k a b K) := by
  cases op <;> simp only [abin]
  all_goals first
    | exact .inl ⟨_, fun K => Iff.rfl⟩
    | exact .inr (fun K h => h)
    | (by_cases hb : b = 0
       · exact .inr (fun K h => h.1 hb)
       · exact .inl ⟨_, fun K => ⟨fun h => h.2, fun h => ⟨hb, h⟩⟩⟩)
theorem ashift_det {op : BinOp} {k : IntKind} {a b : Int} : (∃ v, ∀ K, ashift op k a b K ↔ K v) ∨ (∀ K, ¬ ashift op k a b K) := by
  cases op <;> simp only [ashift]
  all_goals first
    | exact .inr (fun K h => h)
    | (by_cases hb : 0 ≤ b
       · exact .inl ⟨_, fun K => ⟨fun h => h.2, fun h => ⟨hb, h⟩⟩⟩
       · exact .inr (fun K h => hb h.1))
theorem abinV_det {op : BinOp} {x y : AV} : (∃ v, ∀ K, abinV op x y K ↔ K v) ∨ (∀ K, ¬ abinV op x y K) := by
  unfold abinV
  split
  · rename_i k a k' b
    split
    · exact ashift_det
    · exact ashift_det
    · by_cases hk : k = k'
      · subst hk
        rcases abin_det (op := op) (k := k) (a := a) (b := b) with ⟨v, hv⟩ | hv
        · exact .inl ⟨v, fun K => ⟨fun h => (hv K).1 h.2, fun h => ⟨rfl, (hv K).2 h⟩⟩⟩
        · exact .inr (fun K h => hv K h.2)
      · exact .inr (fun K h => hk h.1)
  · exact .inr (fun K h => h)
theorem mnxs_det {mx : Bool} {k : IntKind} : ∀ {a : Int} {ys : List AV}, (∃ v, ∀ K, mnxs mx k a ys K ↔ K v) ∨ (∀ K, ¬ mnxs mx k a ys K)
  | a, [] => .inl ⟨_, fun K => Iff.rfl⟩
  | a, y :: ys => by
    cases y with
    | int k' b =>
      by_cases hk : k = k'
      · rcases mnxs_det (mx := mx) (k := k) (a := if mx then max a b else min a b) (ys := ys) with ⟨v, hv⟩ | hv
        · exact .inl ⟨v, fun K => ⟨fun h => (hv K).1 h.2, fun h => ⟨hk, (hv K).2 h⟩⟩⟩
        · exact .inr (fun K h => hv K h.2)
      · exact .inr (fun K h => hk h.1)
    | _ => exact .inr (fun K h => h)
theorem det_pure {P : Program} {o : AOp} (ho : o.pure = true) (ρ : Env) : Det P o ρ := by
  unfold Det
  cases o with
  | mv x => exact .inl ⟨_, fun h K => Iff.rfl⟩
  | pick c a b =>
    simp only [aexec]
    split
    · exact .inl ⟨_, fun h K => Iff.rfl⟩
    · exact .inr (fun h K hk => hk)
  | bin op x y =>
    rcases abinV_det (op := op) (x := aev ρ x) (y := aev ρ y) with ⟨v, hv⟩ | hv
    · exact .inl ⟨v, fun h K => hv (fun v => K v h)⟩
    · exact .inr (fun h K => hv (fun v => K v h))
  | beq ng x y =>
    simp only [aexec]
    split
    · exact .inl ⟨_, fun h K => Iff.rfl⟩
    · exact .inr (fun h K hk => hk)
  | peq ng x y =>
    simp only [aexec]
    split
    · exact .inl ⟨_, fun h K => Iff.rfl⟩
    · exact .inl ⟨_, fun h K => Iff.rfl⟩
    · exact .inr (fun h K hk => hk)
  | seq ng x y =>
    simp only [aexec]
    split
    · exact .inl ⟨_, fun h K => Iff.rfl⟩
    · exact .inr (fun h K hk => hk)
  | cat x y =>
    simp only [aexec]
    split
    · rename_i s1 s2 e1 e2
      by_cases hc : s1.size + s2.size < 9223372036854775808
      · exact .inl ⟨_, fun h K => ⟨fun hk => hk.2, fun hk => ⟨hc, hk⟩⟩⟩
      · exact .inr (fun h K hk => hc hk.1)
    · exact .inr (fun h K hk => hk)
  | aeq ng n x y =>
    simp only [aexec]
    split
    · rename_i l m e1 e2
      by_cases hc : l.length = n ∧ m.length = n
      · cases hb : eqs l m with
        | none => exact .inr (fun h K hk => by obtain ⟨_, _, b, h1, _⟩ := hk; cases h1)
        | some b => exact .inl ⟨.bool (ng != b), fun h K => ⟨fun hk => by obtain ⟨_, _, b', h1, h2⟩ := hk; injection h1 with h1; subst h1; exact h2, fun hk => ⟨hc.1, hc.2, b, rfl, hk⟩⟩⟩
      · exact .inr (fun h K hk => hc ⟨hk.1, hk.2.1⟩)
    · exact .inr (fun h K hk => hk)
  | idxS x i =>
    simp only [aexec]
    split
    · rename_i s k n e1 e2
      cases hb : s[n.toNat]? with
      | none => exact .inr (fun h K hk => by obtain ⟨_, b, h1, _⟩ := hk; cases h1)
      | some b =>
        by_cases h0 : 0 ≤ n
        · exact .inl ⟨.int .u8 b.toNat, fun h K => ⟨fun hk => by obtain ⟨_, b', h1, h2⟩ := hk; injection h1 with h1; subst h1; exact h2, fun hk => ⟨h0, b, rfl, hk⟩⟩⟩
        · exact .inr (fun h K hk => h0 hk.1)
    · exact .inr (fun h K hk => hk)
  | un op x =>
    simp only [aexec]
    split
    · exact .inl ⟨_, fun h K => Iff.rfl⟩
    · exact .inl ⟨_, fun h K => Iff.rfl⟩
    · exact .inl ⟨_, fun h K => Iff.rfl⟩
    · exact .inr (fun h K hk => hk)
  | cvI k x =>
    simp only [aexec]
    split
    · exact .inl ⟨_, fun h K => Iff.rfl⟩
    · exact .inr (fun h K hk => hk)
  | idx z x i =>
    simp only [aexec]
    split
    · rename_i id off len c k n e1 e2
      by_cases hb : 0 ≤ n ∧ n < len
      · exact .inl ⟨_, fun h K => ⟨fun h => h.2.2, fun h => ⟨hb.1, hb.2, h⟩⟩⟩
      · exact .inr (fun h K hk => hb ⟨hk.1, hk.2.1⟩)
    · exact .inr (fun h K hk => hk)
  | idxA m z x i =>
    simp only [aexec]
    split
    · rename_i n e1 e2
      by_cases hb : 0 ≤ n ∧ n < m
      · exact .inl ⟨_, fun h K => ⟨fun h => h.2.2, fun h => ⟨hb.1, hb.2, h⟩⟩⟩
      · exact .inr (fun h K hk => hb ⟨hk.1, hk.2.1⟩)
    · rename_i n e1 e2
      by_cases hb : 0 ≤ n ∧ n < m
      · exact .inl ⟨_, fun h K => ⟨fun h => h.2.2, fun h => ⟨hb.1, hb.2, h⟩⟩⟩
      · exact .inr (fun h K hk => hb ⟨hk.1, hk.2.1⟩)
    · exact .inr (fun h K hk => hk)
  | fld off x =>
    simp only [aexec]
    split
    · exact .inl ⟨_, fun h K => Iff.rfl⟩
    · exact .inr (fun h K hk => hk)
  | nn x =>
    simp only [aexec]
    split
    · exact .inl ⟨_, fun h K => Iff.rfl⟩
    · exact .inr (fun h K hk => hk)
  | prt sz off x =>
    simp only [aexec]
    split
    · rename_i l e1
      cases sz with
      | none =>
        simp only
        cases hl : l[off]? with
        | none => exact .inr (fun h K hk => by simp at hk)
        | some v => exact .inl ⟨v, fun h K => by simp⟩
      | some n =>
        by_cases hb : off + n ≤ l.length
        · exact .inl ⟨_, fun h K => ⟨fun h => h.2, fun h => ⟨hb, h⟩⟩⟩
        · exact .inr (fun h K hk => hb hk.1)
    · exact .inr (fun h K hk => hk)
  | bld zr ps =>
    simp only [aexec]
    cases hl : abuild zr (ps.map fun p => (p.1, p.2.1, aev ρ p.2.2)) with
    | none => exact .inr (fun h K hk => by simp at hk)
    | some v => exact .inl ⟨.agg v, fun h K => by simp⟩
  | len str x =>
    simp only [aexec]
    split
    · exact .inl ⟨_, fun h K => Iff.rfl⟩
    · exact .inl ⟨_, fun h K => Iff.rfl⟩
    · exact .inr (fun h K hk => hk)
  | capo x =>
    simp only [aexec]
    split
    · exact .inl ⟨_, fun h K => Iff.rfl⟩
    · exact .inr (fun h K hk => hk)
  | mnx mx x ys =>
    simp only [aexec]
    split
    · rename_i k a e1
      rcases mnxs_det (mx := mx) (k := k) (a := a) (ys := ys.map (aev ρ)) with ⟨v, hv⟩ | hv
      · exact .inl ⟨v, fun h K => hv (fun v => K v h)⟩
      · exact .inr (fun h K => hv (fun v => K v h))
    · exact .inr (fun h K hk => hk)
  | mkf f a b => exact .inl ⟨_, fun h K => Iff.rfl⟩
  | ext x i =>
    simp only [aexec]
    split
    · rename_i l e1
      cases hl : l[i]? with
      | none => exact .inr (fun h K hk => by simp at hk)
      | some v => exact .inl ⟨v, fun h K => by simp⟩
    · exact .inr (fun h K hk => hk)
  | _ => simp [AOp.pure, AOp.ne] at ho
/-- What neither writes nor calls has one answer, and leaves memory alone. -/
theorem bound_det {ρ : Env} {d : Nat} {lo : Option AO} : (∃ m, ∀ K, boundOf ρ d lo K ↔ K m) ∨ (∀ K, ¬ boundOf ρ d lo K) := by
  unfold boundOf
  cases lo with
  | none => exact .inl ⟨d, fun K => Iff.rfl⟩
  | some x =>
    simp only
    split
    · rename_i k n e
      by_cases hb : 0 ≤ n
      · exact .inl ⟨_, fun K => ⟨fun h => h.2, fun h => ⟨hb, h⟩⟩⟩
      · exact .inr (fun K h => hb h.1)
    · exact .inr (fun K h => h)
theorem det {P : Program} {o : AOp} (ho : o.ne = true) (ρ : Env) (h : H) : (∃ v, ∀ K, aexec P o ρ h K ↔ K v h) ∨ (∀ K, ¬ aexec P o ρ h K) := by
  by_cases hp : o.pure = true
  · rcases det_pure (P := P) hp ρ with ⟨v, hv⟩ | hv
    · exact .inl ⟨v, hv h⟩
    · exact .inr (hv h)
  · cases o with
    | ld sz p =>
      simp only [aexec]
      split
      · rename_i id off e
        cases hr : h.rows id with
        | none => cases sz <;> exact .inr (fun K hk => by simp at hk)
        | some r =>
          cases sz with
          | none =>
            simp only
            cases hl : r.cells[off]? with
            | none => exact .inr (fun K hk => by obtain ⟨r', v, h1, h2, _⟩ := hk; injection h1 with h1; subst h1; rw [hl] at h2; cases h2)
            | some v => exact .inl ⟨v, fun K => ⟨fun hk => by obtain ⟨r', v', h1, h2, h3⟩ := hk; injection h1 with h1; subst h1; rw [hl] at h2; injection h2 with h2; subst h2; exact h3, fun hk => ⟨r, v, rfl, hl, hk⟩⟩⟩
          | some n =>
            simp only
            by_cases hb : off + n ≤ r.cells.length
            · exact .inl ⟨_, fun K => ⟨fun hk => by obtain ⟨r', h1, h2, h3⟩ := hk; injection h1 with h1; subst h1; exact h3, fun hk => ⟨r, rfl, hb, hk⟩⟩⟩
            · exact .inr (fun K hk => by obtain ⟨r', h1, h2, _⟩ := hk; injection h1 with h1; subst h1; exact hb h2)
      · rename_i g off e
        cases sz with
        | none =>
          simp only
          cases hg : gcell g off with
          | none => exact .inr (fun K hk => by obtain ⟨n, h1, _⟩ := hk; cases h1)
          | some n => exact .inl ⟨.int .u8 n, fun K => ⟨fun hk => by obtain ⟨n', h1, h2⟩ := hk; injection h1 with h1; subst h1; exact h2, fun hk => ⟨n, rfl, hk⟩⟩⟩
        | some n => exact .inr (fun K hk => hk)
      · exact .inr (fun K hk => hk)
    | slc z x lo hi =>
      simp only [aexec]
      split
      · rename_i id off len cap e
        rcases bound_det (ρ := ρ) (d := len) (lo := hi) with ⟨b, hb⟩ | hb
        · simp only [hb]
          rcases bound_det (ρ := ρ) (d := 0) (lo := lo) with ⟨a, ha⟩ | ha
          · simp only [ha]
            by_cases hc : a ≤ b ∧ (b ≤ len ∨ ∃ c, cap = some c ∧ b ≤ c) ∧ (∀ i, id = some i → ∃ r, h.rows i = some r ∧ (r.own = none ∨ r.esz = z))
            · exact .inl ⟨_, fun K => ⟨fun hk => hk.2.2.2, fun hk => ⟨hc.1, hc.2.1, hc.2.2, hk⟩⟩⟩
            · exact .inr (fun K hk => hc ⟨hk.1, hk.2.1, hk.2.2.1⟩)
          · exact .inr (fun K hk => ha _ hk)
        · exact .inr (fun K hk => hb _ hk)
      · exact .inr (fun K hk => hk)
    | _ => simp_all [AOp.pure, AOp.ne]
end Ab
end Go.Proofs.Yteoagnggnekfiaa
