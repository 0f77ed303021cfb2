/- Code over abstract values: what the machine's code comes to. No condition. -/
import Derived.Test.YteoagnggnekfiaaA8
namespace Go.Proofs.Yteoagnggnekfiaa
namespace Ab
open Go Go.RowKit

section
variable (P : Program) (n : Nat)
def dstOk (d : Option Tmp) : Bool := match d with | some d => decide (d < n) | none => true
/-- One operation of a region. -/
def comp (ops : Array Oper) (o : Oper) : Option AOper :=
  if dstOk n o.dst = true then
    match o.guard with
    | none => some ⟨o.dst, none, compileOp P n o.op, []⟩
    | some (j, b) => match (ops[j]?).bind (·.dst) with
      | some d => if d < n then some ⟨o.dst, some (d, b), compileOp P n o.op, []⟩ else none
      | none => none
  else none

/-- The state of the machine is of this form. -/
def Sim (base : Nat) (w0 : World) (μ0 : Mu) (ρ : Env) (h : H) (a : Act) (w : World) : Prop := ∃ μ, μ0.le μ ∧ RelT n μ ρ a ∧ Rep base w0 μ w h ∧ a.defers = []
end
section
variable {P : Program} {n : Nat} {base : Nat} {w0 : World} {μ0 : Mu}
theorem RelT.put {μ : Mu} {ρ : Env} {a : Act} (hr : RelT n μ ρ a) {dst : Option Nat} {v : AV} {rv : Value} (hd : dstOk n dst = true) (hv : Rel μ v rv) : RelT n μ (aput ρ dst v) (a.put dst rv) := by
  cases dst with
  | none => exact hr
  | some d =>
    have hd' : d < n := by simpa [dstOk] using hd
    refine ⟨by simp [Act.put, hr.1], fun t ht => ?_⟩
    have hs : a.tmps.size = n := hr.1
    by_cases e : t = d
    · subst e
      simp only [aput, upd, if_true, Act.put]
      simpa [Array.getD, hs, ht] using hv
    · rw [aput_ne (fun x => e (by injection x with x; exact x.symm))]
      have e2 : (a.tmps.setIfInBounds d rv).getD t undef = a.tmps.getD t undef := by simp [Array.getD_eq_getD_getElem?, Ne.symm e]
      show Rel μ (ρ t) ((a.tmps.setIfInBounds d rv).getD t undef)
      rw [e2]
      exact hr.2 t ht
theorem RelT.mono {μ μ' : Mu} (h : μ.le μ') {ρ : Env} {a : Act} (hr : RelT n μ ρ a) : RelT n μ' ρ a := ⟨hr.1, fun t ht => (hr.2 t ht).mono h⟩
theorem put_defers (a : Act) (d : Option Tmp) (v : Value) : (a.put d v).defers = a.defers := by cases d <;> rfl

theorem step_sound {ops : Array Oper} {i : Nat} {o : Oper} {oi : AOper} {ρ : Env} {h : H} {K : AV → H → Prop} {next : Act → World → Prop} {Q : Exit → Act → World → Prop} {a : Act} {w : World}
    (hi : ops[i]? = some o) (hc : comp P n ops o = some oi) (hx : astep P oi.g oi.op ρ h K) (hs : Sim n base w0 μ0 ρ h a w)
    (hn : ∀ v h' a' w', K v h' → Sim n base w0 μ0 (aput ρ oi.dst v) h' a' w' → next a' w') : wpOp P ops Q i next a w := by
  obtain ⟨μ, hle, hT, hR, hdf⟩ := hs
  unfold comp at hc
  split at hc
  · rename_i hd
    have fin : oi.dst = o.dst → ∀ rv w', Fin base w0 μ K rv w' → next (a.put o.dst rv) w' := by
      rintro he rv w' ⟨μ', v, h', q1, q2, q3, q4⟩
      refine hn v h' _ w' q4 ⟨μ', Mu.le_trans hle q1, ?_, q3, by rw [put_defers]; exact hdf⟩
      rw [he]
      exact (hT.mono q1).put hd q2
    unfold wpOp
    rw [hi]
    simp only
    split at hc
    · rename_i hg
      injection hc with hc
      subst hc
      have hw : Region.wanted o (yielded ops a.tmps) = true := by simp [Region.wanted, hg]
      rw [if_pos hw]
      exact .inl (op_sound hx hT hR (fin rfl))
    · rename_i j b hg
      split at hc
      · rename_i d hd'
        split at hc
        · rename_i hdn
          injection hc with hc
          subst hc
          simp only [astep] at hx
          have hrel := hT.2 d hdn
          split at hx
          · rename_i c hρ
            rw [hρ] at hrel
            have hget : a.tmps.getD d undef = .bool c := by
              cases hv : a.tmps.getD d undef <;> rw [hv] at hrel <;> cases hrel
              rfl
            have hy : yielded ops a.tmps j = some c := by
              have hsz : d < a.tmps.size := by rw [hT.1]; exact hdn
              have : a.tmps[d]? = some (.bool c) := by
                rw [Array.getElem?_eq_getElem hsz]
                simp only [Array.getD, hsz, dif_pos] at hget
                exact congrArg some hget
              simp [yielded, hd', this]
            have hwant : Region.wanted o (yielded ops a.tmps) = (c == b) := by
              simp only [Region.wanted, hg, hy]
              cases c <;> cases b <;> rfl
            rw [hwant]
            split at hx
            · rename_i hcb
              rw [if_pos (by simp [hcb])]
              exact .inl (op_sound hx hT hR (fin rfl))
            · rename_i hcb
              rw [if_neg (by simp [hcb])]
              exact hn (.tup []) h _ w hx ⟨μ, hle, hT.put hd (RelA.nil μ).tup, hR, by rw [put_defers]; exact hdf⟩
          · rename_i hρ
            rw [hρ] at hrel
            have hget : ∀ c, a.tmps.getD d undef ≠ .bool c := by
              intro c e
              rw [e] at hrel
              cases hrel
            have hy : yielded ops a.tmps j = none := by
              have hsz : d < a.tmps.size := by rw [hT.1]; exact hdn
              simp only [yielded, hd', Option.bind_some, Array.getElem?_eq_getElem hsz]
              split
              · rename_i b' hb'
                exfalso
                injection hb' with hb'
                refine hget b' ?_
                simp only [Array.getD, hsz, dif_pos]
                exact hb'
              · rfl
            have hwant : Region.wanted o (yielded ops a.tmps) = false := by
              simp only [Region.wanted, hg, hy]
              cases b <;> rfl
            rw [hwant, if_neg (by simp)]
            exact hn (.tup []) h _ w hx ⟨μ, hle, hT.put hd (RelA.nil μ).tup, hR, by rw [put_defers]; exact hdf⟩
          · exact hx.elim
        · cases hc
      · cases hc
  · cases hc
/-- A region in the text's order. -/
theorem ops_sound {ops : Array Oper} {Q : Exit → Act → World → Prop} {Qa : Env → H → Prop} (hq : ∀ ρ h a w, Qa ρ h → Sim n base w0 μ0 ρ h a w → Q .normal a w) : ∀ (is : List Nat) (os : List AOper) (ρ : Env) (h : H) (a : Act) (w : World),
    is.map (fun i => (ops[i]?).bind (comp P n ops)) = os.map some → (∀ o ∈ os, o.chks = []) → aops P os Qa ρ h → Sim n base w0 μ0 ρ h a w → wpOps P ops Q is a w
  | [], os, ρ, h, a, w, hm, _, ho, hs => by
    have : os = [] := by simpa using hm.symm
    subst this
    exact hq ρ h a w ho hs
  | i :: is, [], ρ, h, a, w, hm, _, ho, hs => by simp at hm
  | i :: is, o :: os, ρ, h, a, w, hm, hc, ho, hs => by
    simp only [List.map_cons, List.cons.injEq] at hm
    cases hi : ops[i]? with
    | none => rw [hi] at hm; simp at hm
    | some o' =>
      rw [hi] at hm
      simp only [Option.bind_some] at hm
      rw [wpOps_cons]
      simp only [aops] at ho
      exact step_sound hi hm.1 ho hs (fun v h' a' w' hk hs' => ops_sound hq is os _ h' a' w' hm.2 (fun x hx => hc x (by simp [hx])) hk.2 hs')
end

section
variable (P : Program) (n : Nat)
/-- An order in which a region's operations are taken: those that neither write nor call as soon as they may be. -/
def pickNext (b : Array Nat) (base : Array AOper) (done : Nat) : List Nat → Option Nat
  | [] => none
  | i :: is => if done.testBit i then pickNext b base done is else
    if (b.getD i 0) &&& done == b.getD i 0 then some i else pickNext b base done is
def canonGo (b : Array Nat) (base : Array AOper) (nes effs : List Nat) : Nat → Nat → List Nat → List Nat
  | 0, _, acc => acc.reverse
  | f + 1, done, acc =>
    match pickNext b base done nes with
    | some i => canonGo b base nes effs f (done ||| 2 ^ i) (i :: acc)
    | none => match pickNext b base done effs with
      | some i => canonGo b base nes effs f (done ||| 2 ^ i) (i :: acc)
      | none => acc.reverse
def canon (b : Array Nat) (base : Array AOper) : List Nat :=
  let is := List.range base.size
  canonGo b base (is.filter fun i => ((base[i]?).map (·.op.ne)).getD false) (is.filter fun i => !((base[i]?).map (·.op.ne)).getD false) base.size 0 []
def withChks (b : Array Nat) (base : Array AOper) : List Nat → List Nat → List (Nat × AOper)
  | _, [] => []
  | before, i :: is => match base[i]? with
    | none => []
    | some o =>
      let cs := if o.op.ne then [] else before.filterMap fun j => match base[j]? with
        | some oj => if oj.op.ne && !oj.op.pure && !(b.getD i 0).testBit j then some (oj.dst, oj.g, oj.op) else none
        | none => none
      (i, { o with chks := cs }) :: withChks b base (before ++ [i]) is
/-- May each earlier one be overtaken by a later one that need not wait for it? -/
def pairB (b : Array Nat) (x y : Nat × AOper) : Bool :=
  ((b.getD y.1 0).testBit x.1 || (x.2.op.ne && apartB x.2 y.2)) && (x.2.op.pure || stableB x.2 y.2) && !(b.getD x.1 0).testBit y.1
def pairsB (b : Array Nat) : List (Nat × AOper) → Bool
  | [] => true
  | x :: xs => xs.all (pairB b x) && (xs.all fun y => x.1 != y.1) && (x.2.op.pure || selfB x.2) && !(b.getD x.1 0).testBit x.1 && pairsB b xs
/-- The masks are what each operation waits for. -/
def predB (b : Array Nat) (ops : Array Oper) : Bool :=
  (List.range ops.size).all fun i => match ops[i]? with
    | none => false
    | some o => (o.after.all fun e => !Region.binds .any e || (decide (e.on < ops.size) && (b.getD i 0).testBit e.on)) &&
      (List.range ops.size).all fun j => !(b.getD i 0).testBit j || o.after.any fun e => Region.binds .any e && (e.on == j || (b.getD e.on 0).testBit j)
def drawOk (b : Array Nat) (ops : Array Oper) (L : List (Nat × AOper)) : Bool :=
  pairsB b L && predB b ops && L.length == ops.size && ((List.range ops.size).all fun i => L.any fun x => x.1 == i) && L.all fun x => decide (x.1 < ops.size)
def compDraw (ops : Array Oper) : Option (List AOper) :=
  match ops.toList.mapM (comp P n ops) with
  | none => none
  | some base =>
    let b := Region.before ops
    let L := withChks b base.toArray [] (canon b base.toArray)
    if drawOk b ops L = true then some (L.map (·.2)) else none
end
section
variable {P : Program} {n : Nat} {base : Nat} {w0 : World} {μ0 : Mu}
def Waits (b : Array Nat) (i j : Nat) : Prop := (b.getD i 0).testBit j = true
/-- What is known of a list of operations that are still to come. -/
structure Rem (P : Program) (n : Nat) (ops : Array Oper) (b : Array Nat) (rem : List (Nat × AOper)) : Prop where
  over : rem.Pairwise fun x y => Waits b y.1 x.1 ∨ (x.2.op.ne = true ∧ apartB x.2 y.2 = true ∧ (x.2.op.pure = true ∨ y.2.op.ne = true ∨ (x.2.dst, x.2.g, x.2.op) ∈ y.2.chks))
  stab : rem.Pairwise fun x y => x.2.op.pure = true ∨ stableB x.2 y.2 = true
  later : rem.Pairwise fun x y => ¬ Waits b x.1 y.1
  once : rem.Pairwise fun x y => x.1 ≠ y.1
  self : ∀ x ∈ rem, x.2.op.pure = true ∨ selfB x.2 = true
  alone : ∀ x ∈ rem, ¬ Waits b x.1 x.1
  is : ∀ x ∈ rem, ∃ o o0, ops[x.1]? = some o ∧ comp P n ops o = some o0 ∧ x.2.dst = o0.dst ∧ x.2.g = o0.g ∧ x.2.op = o0.op ∧ (x.2.op.ne = true → x.2.chks = [])
theorem Rem.sub {ops : Array Oper} {b : Array Nat} {l l' : List (Nat × AOper)} (h : Rem P n ops b l) (hs : l'.Sublist l) : Rem P n ops b l' :=
  ⟨h.over.sublist hs, h.stab.sublist hs, h.later.sublist hs, h.once.sublist hs, fun x hx => h.self x (hs.subset hx), fun x hx => h.alone x (hs.subset hx), fun x hx => h.is x (hs.subset hx)⟩
theorem ready_iff {ops : Array Oper} {listed : Array Bool} {i : Nat} : i ∈ Region.ready .any ops listed ↔ i < ops.size ∧ listed.getD i true = false ∧ ∃ o, ops[i]? = some o ∧ ∀ e ∈ o.after, Region.binds .any e = true → listed.getD e.on false = true := by
  unfold Region.ready
  simp only [List.mem_filter, List.mem_range, Bool.and_eq_true, Bool.not_eq_true']
  constructor
  · rintro ⟨h1, h2, h3⟩
    refine ⟨h1, h2, ?_⟩
    cases ho : ops[i]? with
    | none => rw [ho] at h3; simp at h3
    | some o =>
      rw [ho] at h3
      refine ⟨o, rfl, fun e he hb => ?_⟩
      simp only [Option.map_some, Option.getD_some, Array.all_eq_true_iff_forall_mem] at h3
      have := h3 e he
      simpa [hb] using this
  · rintro ⟨h1, h2, o, ho, h3⟩
    refine ⟨h1, h2, ?_⟩
    rw [ho]
    simp only [Option.map_some, Option.getD_some, Array.all_eq_true_iff_forall_mem]
    intro e he
    by_cases hb : Region.binds .any e = true
    · simp [h3 e he hb]
    · simp [hb]
theorem any_sound {ops : Array Oper} {b : Array Nat} {Q : Exit → Act → World → Prop} {Qa : Env → H → Prop} (hq : ∀ ρ h a w, Qa ρ h → Sim n base w0 μ0 ρ h a w → Q .normal a w)
    (hp1 : ∀ (i : Nat) (o : Oper), ops[i]? = some o → ∀ e ∈ o.after, Region.binds .any e = true → e.on < ops.size ∧ Waits b i e.on)
    (hp2 : ∀ (i : Nat) (o : Oper), ops[i]? = some o → ∀ j, j < ops.size → Waits b i j → ∃ e ∈ o.after, Region.binds .any e = true ∧ (e.on = j ∨ Waits b e.on j)) :
    ∀ (fuel : Nat) (rem : List (Nat × AOper)) (listed : Array Bool) (ρ : Env) (h : H) (a : Act) (w : World), rem.length = fuel → Rem P n ops b rem → listed.size = ops.size →
      (∀ i, i < ops.size → (listed.getD i true = false ↔ i ∈ rem.map (·.1))) → (∀ k, k < ops.size → listed.getD k true = true → ∀ j, j < ops.size → Waits b k j → listed.getD j true = true) → (∀ x ∈ rem, x.1 < ops.size) →
      aops P (rem.map (·.2)) Qa ρ h → Sim n base w0 μ0 ρ h a w → wpAny P .any ops Q fuel listed a w := by
  intro fuel
  induction fuel with
  | zero =>
    intro rem listed ρ h a w hl hR hsz hli hcl hlt ho hs
    have : rem = [] := List.eq_nil_of_length_eq_zero hl
    subst this
    refine ⟨?_, hq ρ h a w ho hs⟩
    cases hr : Region.ready .any ops listed with
    | nil => rfl
    | cons i l =>
      have := ready_iff.1 (by rw [hr]; exact List.mem_cons_self : i ∈ Region.ready .any ops listed)
      have := (hli i this.1).1 this.2.1
      simp at this
  | succ fuel ih =>
    intro rem listed ρ h a w hl hR hsz hli hcl hlt ho hs
    have gd : ∀ j, j < ops.size → ∀ d d', listed.getD j d = listed.getD j d' := by
      intro j hj d d'
      simp [Array.getD, hsz, hj]
    constructor
    · intro hnil
      cases rem with
      | nil => simp at hl
      | cons x rem =>
        exfalso
        obtain ⟨o, o0, hoo, _⟩ := hR.is x (by simp)
        have hx := hlt x (by simp)
        have : x.1 ∈ Region.ready .any ops listed := by
          refine ready_iff.2 ⟨hx, (hli x.1 hx).2 (by simp), o, hoo, fun e he hb => ?_⟩
          obtain ⟨h1, h2⟩ := hp1 x.1 o hoo e he hb
          rw [gd e.on h1 false true]
          cases hle : listed.getD e.on true with
          | true => rfl
          | false =>
            have hm := (hli e.on h1).1 hle
            simp only [List.map_cons, List.mem_cons, List.mem_map] at hm
            rcases hm with hm | ⟨y, hy, hye⟩
            · rw [hm] at h2
              exact absurd h2 (hR.alone x (by simp))
            · exfalso
              have := (List.pairwise_cons.1 hR.later).1 y hy
              rw [hye] at this
              exact this h2
        rw [hnil] at this
        simp at this
    · intro i hi
      obtain ⟨hisz, hlist, o, hoo, hedge⟩ := ready_iff.1 hi
      have hmem := (hli i hisz).1 hlist
      obtain ⟨x, hx, hxi⟩ := List.mem_map.1 hmem
      obtain ⟨pre, post, rfl⟩ := List.append_of_mem hx
      subst hxi
      obtain ⟨o', o0, ho', hc0, e1, e2, e3, e4⟩ := hR.is x (by simp)
      rw [hoo] at ho'
      injection ho' with ho'
      subst ho'
      have hwaits : ∀ j, j < ops.size → Waits b x.1 j → listed.getD j true = true := by
        intro j hj hw
        obtain ⟨e, he, hb, hej⟩ := hp2 x.1 o hoo j hj hw
        obtain ⟨h1, h2⟩ := hp1 x.1 o hoo e he hb
        have hle : listed.getD e.on true = true := by rw [gd e.on h1 true false]; exact hedge e he hb
        rcases hej with rfl | hej
        · exact hle
        · exact hcl e.on h1 hle j hj hej
      have hpre : ∀ y ∈ pre, y.2.op.ne = true ∧ apartB y.2 x.2 = true ∧ (y.2.op.pure = true ∨ x.2.op.ne = true ∨ (y.2.dst, y.2.g, y.2.op) ∈ x.2.chks) := by
        intro y hy
        rcases (List.pairwise_append.1 hR.over).2.2 y hy x (by simp) with h1 | h1
        · have hy' := hlt y (by simp [hy])
          have h2 := hwaits y.1 hy' h1
          have h3 := (hli y.1 hy').2 (List.mem_map.2 ⟨y, by simp [hy], rfl⟩)
          rw [h2] at h3
          cases h3
        · exact h1
      have hsub : (pre ++ post).Sublist (pre ++ x :: post) := List.Sublist.append_left (List.sublist_cons_self x post) pre
      have hpull := pull (P := P) (pre := pre.map (·.2)) (rest := post.map (·.2)) (i := x.2) (Q := Qa) (ρ := ρ) (h := h) (by simpa using ho)
        (fun j hj => by obtain ⟨y, hy, rfl⟩ := List.mem_map.1 hj; exact (hpre y hy).1)
        (fun j hj => by
          obtain ⟨y, hy, rfl⟩ := List.mem_map.1 hj
          obtain ⟨_, _, _, _, _, _, _, hh⟩ := hR.is y (by simp [hy])
          exact hh (hpre y hy).1)
        (fun j hj => by obtain ⟨y, hy, rfl⟩ := List.mem_map.1 hj; exact (hpre y hy).2.1)
        (by rw [List.pairwise_map]; exact (List.pairwise_append.1 hR.stab).1)
        (fun j hj => by obtain ⟨y, hy, rfl⟩ := List.mem_map.1 hj; exact hR.self y (by simp [hy]))
        (fun j hj => by obtain ⟨y, hy, rfl⟩ := List.mem_map.1 hj; exact (hpre y hy).2.2)
      rw [e2, e3] at hpull
      refine step_sound hoo hc0 hpull hs (fun v h' a' w' hk hs' => ?_)
      refine ih (pre ++ post) (listed.setIfInBounds x.1 true) _ h' a' w' (by simp at hl ⊢; omega) (hR.sub hsub) (by simp [hsz]) (fun j hj => ?_) (fun k hk' hlk j hj hw => ?_) (fun y hy => hlt y (hsub.subset hy)) (by rw [← e1] at *; simpa using hk) hs'
      · by_cases e : j = x.1
        · subst e
          have : (listed.setIfInBounds x.1 true).getD x.1 true = true := by simp [Array.getD, hsz, hj]
          rw [this]
          simp only [Bool.true_eq_false, false_iff]
          intro hm
          obtain ⟨y, hy, hye⟩ := List.mem_map.1 hm
          have honce := hR.once
          rw [List.pairwise_append] at honce
          rcases List.mem_append.1 hy with hy | hy
          · exact honce.2.2 y hy x (by simp) hye
          · exact (List.pairwise_cons.1 honce.2.1).1 y hy hye.symm
        · have : (listed.setIfInBounds x.1 true).getD j true = listed.getD j true := by simp [Array.getD_eq_getD_getElem?, Ne.symm e]
          rw [this, hli j hj]
          simp only [List.map_append, List.map_cons, List.mem_append, List.mem_cons]
          constructor
          · rintro (h1 | h1 | h1)
            · exact .inl h1
            · exact absurd h1 e
            · exact .inr h1
          · rintro (h1 | h1)
            · exact .inl h1
            · exact .inr (.inr h1)
      · have up : ∀ j, j < ops.size → listed.getD j true = true → (listed.setIfInBounds x.1 true).getD j true = true := by
          intro j hj hlj
          by_cases e : j = x.1
          · subst e; simp [Array.getD, hsz, hj]
          · have : (listed.setIfInBounds x.1 true).getD j true = listed.getD j true := by simp [Array.getD_eq_getD_getElem?, Ne.symm e]
            rw [this]; exact hlj
        by_cases e : k = x.1
        · subst e
          exact up j hj (hwaits j hj hw)
        · have : (listed.setIfInBounds x.1 true).getD k true = listed.getD k true := by simp [Array.getD_eq_getD_getElem?, Ne.symm e]
          rw [this] at hlk
          exact up j hj (hcl k hk' hlk j hj hw)
theorem withChks_mem {b : Array Nat} {base : Array AOper} : ∀ (is before : List Nat), ∀ y ∈ withChks b base before is, ∃ o, base[y.1]? = some o ∧ y.2.dst = o.dst ∧ y.2.g = o.g ∧ y.2.op = o.op ∧ (o.op.ne = true → y.2.chks = [])
  | [], before, y, hy => by simp [withChks] at hy
  | i :: is, before, y, hy => by
    simp only [withChks] at hy
    split at hy
    · simp at hy
    · rename_i o ho
      rcases List.mem_cons.1 hy with rfl | hy
      · exact ⟨o, ho, rfl, rfl, rfl, fun h => by simp [h]⟩
      · exact withChks_mem is _ y hy
theorem withChks_before {b : Array Nat} {base : Array AOper} {j : Nat} {oj : AOper} (hj : base[j]? = some oj) (h1 : oj.op.ne = true) (h2 : ¬ oj.op.pure = true) : ∀ (is before : List Nat), j ∈ before → ∀ y ∈ withChks b base before is, ¬ Waits b y.1 j → y.2.op.ne = true ∨ (oj.dst, oj.g, oj.op) ∈ y.2.chks
  | [], before, _, y, hy => by simp [withChks] at hy
  | i :: is, before, hjb, y, hy => by
    simp only [withChks] at hy
    split at hy
    · simp at hy
    · rename_i o ho
      rcases List.mem_cons.1 hy with rfl | hy
      · intro hw
        by_cases hn : o.op.ne = true
        · exact .inl hn
        · refine .inr ?_
          simp only [hn, Bool.false_eq_true, if_false, List.mem_filterMap]
          refine ⟨j, hjb, ?_⟩
          have hw' : (b.getD i 0).testBit j = false := by simpa [Waits] using hw
          simp only [hj, h1, hw']
          simp [h2]
      · exact withChks_before hj h1 h2 is _ (List.mem_append_left _ hjb) y hy
theorem withChks_pairs {b : Array Nat} {base : Array AOper} : ∀ (is before : List Nat), (withChks b base before is).Pairwise fun x y => x.2.op.ne = true → ¬ x.2.op.pure = true → ¬ Waits b y.1 x.1 → y.2.op.ne = true ∨ (x.2.dst, x.2.g, x.2.op) ∈ y.2.chks
  | [], before => by simp [withChks]
  | i :: is, before => by
    simp only [withChks]
    split
    · exact List.Pairwise.nil
    · rename_i o ho
      refine List.pairwise_cons.2 ⟨fun y hy h1 h2 hw => ?_, withChks_pairs is _⟩
      exact withChks_before ho h1 h2 is _ (by simp) y hy hw
theorem pairsB_spec {b : Array Nat} : ∀ {L : List (Nat × AOper)}, pairsB b L = true → (L.Pairwise fun x y => Waits b y.1 x.1 ∨ (x.2.op.ne = true ∧ apartB x.2 y.2 = true)) ∧ (L.Pairwise fun x y => x.2.op.pure = true ∨ stableB x.2 y.2 = true) ∧
    (L.Pairwise fun x y => ¬ Waits b x.1 y.1) ∧ (L.Pairwise fun x y => x.1 ≠ y.1) ∧ (∀ x ∈ L, x.2.op.pure = true ∨ selfB x.2 = true) ∧ (∀ x ∈ L, ¬ Waits b x.1 x.1)
  | [], _ => ⟨.nil, .nil, .nil, .nil, fun x hx => by simp at hx, fun x hx => by simp at hx⟩
  | x :: xs, h => by
    simp only [pairsB, Bool.and_eq_true, List.all_eq_true] at h
    obtain ⟨⟨⟨⟨h1, h2⟩, h3⟩, h4⟩, h5⟩ := h
    obtain ⟨i1, i2, i3, i4, i5, i6⟩ := pairsB_spec h5
    have hx : ∀ y ∈ xs, (Waits b y.1 x.1 ∨ (x.2.op.ne = true ∧ apartB x.2 y.2 = true)) ∧ (x.2.op.pure = true ∨ stableB x.2 y.2 = true) ∧ ¬ Waits b x.1 y.1 := by
      intro y hy
      have := h1 y hy
      simp only [pairB, Bool.and_eq_true, Bool.or_eq_true, Bool.not_eq_true'] at this
      refine ⟨this.1.1, this.1.2, ?_⟩
      unfold Waits
      rw [this.2]
      simp
    refine ⟨List.pairwise_cons.2 ⟨fun y hy => (hx y hy).1, i1⟩, List.pairwise_cons.2 ⟨fun y hy => (hx y hy).2.1, i2⟩, List.pairwise_cons.2 ⟨fun y hy => (hx y hy).2.2, i3⟩, List.pairwise_cons.2 ⟨fun y hy => by simpa using h2 y hy, i4⟩, ?_, ?_⟩
    · intro y hy
      rcases List.mem_cons.1 hy with rfl | hy
      · simpa using h3
      · exact i5 y hy
    · intro y hy
      rcases List.mem_cons.1 hy with rfl | hy
      · unfold Waits
        simp only [Bool.not_eq_true'] at h4
        rw [h4]
        simp
      · exact i6 y hy
theorem mapM_get {ops : List Oper} {f : Oper → Option AOper} : ∀ {l : List AOper}, ops.mapM f = some l → ops.map f = l.map some := by
  induction ops with
  | nil => intro l h; simp at h; subst h; rfl
  | cons o ops ih =>
    intro l h
    simp only [List.mapM_cons, Option.bind_eq_bind, Option.pure_def] at h
    cases ho : f o with
    | none => simp [ho] at h
    | some x =>
      cases hr : ops.mapM f with
      | none => simp [ho, hr] at h
      | some xs =>
        simp [ho, hr] at h
        subst h
        simp [ho, ih hr]
theorem draw_sound {ops : Array Oper} {id : Nat} {os : List AOper} {Q : Exit → Act → World → Prop} {Qa : Env → H → Prop} (hm : P.follows .mixedOrders = true) (hc : compDraw P n ops = some os) (hq : ∀ ρ h a w, Qa ρ h → Sim n base w0 μ0 ρ h a w → Q .normal a w)
    {ρ : Env} {h : H} {a : Act} {w : World} (ho : aops P os Qa ρ h) (hs : Sim n base w0 μ0 ρ h a w) : (Code.region id ops true).wp P Q a w := by
  unfold compDraw at hc
  split at hc
  · cases hc
  · rename_i bs hbs
    simp only at hc
    split at hc
    · rename_i hok
      injection hc with hc
      subst hc
      have hget := mapM_get hbs
      have hbase : ∀ (i : Nat) (o : AOper), bs.toArray[i]? = some o → ∃ o', ops[i]? = some o' ∧ comp P n ops o' = some o := by
        intro i o hi
        have h1 : (ops.toList.map (comp P n ops))[i]? = some (some o) := by rw [hget, List.getElem?_map]; simp at hi; simp [hi]
        rw [List.getElem?_map] at h1
        cases ho' : ops.toList[i]? with
        | none => rw [ho'] at h1; simp at h1
        | some o' => rw [ho'] at h1; simp at h1; exact ⟨o', by simpa using ho', h1⟩
      simp only [drawOk, Bool.and_eq_true] at hok
      obtain ⟨⟨⟨⟨k1, k2⟩, k3⟩, k4⟩, k5⟩ := hok
      obtain ⟨p1, p2, p3, p4, p5, p6⟩ := pairsB_spec k1
      have hch := withChks_pairs (b := Region.before ops) (base := bs.toArray) (canon (Region.before ops) bs.toArray) []
      have hpred : ∀ (i : Nat) (o : Oper), ops[i]? = some o → (∀ e ∈ o.after, Region.binds .any e = true → e.on < ops.size ∧ Waits (Region.before ops) i e.on) ∧ (∀ j, j < ops.size → Waits (Region.before ops) i j → ∃ e ∈ o.after, Region.binds .any e = true ∧ (e.on = j ∨ Waits (Region.before ops) e.on j)) := by
        intro i o hi
        have hisz : i < ops.size := (Array.getElem?_eq_some_iff.1 hi).1
        have := (List.all_eq_true.1 k2) i (by simp [hisz])
        rw [hi] at this
        simp only [Bool.and_eq_true, Array.all_eq_true_iff_forall_mem, List.all_eq_true, List.mem_range] at this
        refine ⟨fun e he hb => ?_, fun j hj hw => ?_⟩
        · have h1 := this.1 e he
          simp only [hb, Bool.not_true, Bool.false_or, Bool.and_eq_true, decide_eq_true_eq] at h1
          exact h1
        · have h1 := this.2 j hj
          unfold Waits at hw
          simp only [hw, Bool.not_true, Bool.false_or] at h1
          rw [← Array.any_toList, List.any_eq_true] at h1
          obtain ⟨e, he, h1⟩ := h1
          simp only [Bool.and_eq_true, Bool.or_eq_true, beq_iff_eq] at h1
          exact ⟨e, by simpa using he, h1.1, h1.2⟩
      refine wp_region_any hm ?_
      refine any_sound hq (fun i o hi => (hpred i o hi).1) (fun i o hi => (hpred i o hi).2) ops.size (withChks (Region.before ops) bs.toArray [] (canon (Region.before ops) bs.toArray)) (Array.replicate ops.size false) ρ h a _ (by simpa using k3) ?_ (by simp) ?_ ?_ ?_ ho ?_
      · refine ⟨?_, p2, p3, p4, p5, p6, fun x hx => ?_⟩
        · refine (p1.and hch).imp ?_
          rintro x y ⟨h1, h2⟩
          rcases h1 with h1 | ⟨h1, h3⟩
          · exact .inl h1
          · by_cases hw : Waits (Region.before ops) y.1 x.1
            · exact .inl hw
            · refine .inr ⟨h1, h3, ?_⟩
              by_cases hpu : x.2.op.pure = true
              · exact .inl hpu
              · exact .inr (h2 h1 hpu hw)
        · obtain ⟨o, h1, h2, h3, h4, h5⟩ := withChks_mem _ _ x hx
          obtain ⟨o', h6, h7⟩ := hbase x.1 o h1
          exact ⟨o', o, h6, h7, h2, h3, h4, fun h => h5 (by rw [← h4]; exact h)⟩
      · intro i hi
        have h1 : (Array.replicate ops.size false).getD i true = false := by simp [Array.getD, hi]
        rw [h1]
        simp only [true_iff]
        have := (List.all_eq_true.1 k4) i (by simp [hi])
        obtain ⟨x, hx, hxi⟩ := List.any_eq_true.1 this
        exact List.mem_map.2 ⟨x, hx, by simpa using hxi⟩
      · intro k hk hl
        have h1 : (Array.replicate ops.size false).getD k true = false := by simp [Array.getD, hk]
        rw [h1] at hl
        cases hl
      · intro x hx
        simpa using (List.all_eq_true.1 k5) x hx
      · obtain ⟨μ, q1, q2, q3, q4⟩ := hs
        exact ⟨μ, q1, q2, q3.drew _, q4⟩
    · cases hc
theorem region_sound {ops : Array Oper} {id : Nat} {os : List AOper} {Q : Exit → Act → World → Prop} {Qa : Env → H → Prop} (hc : ops.toList.mapM (comp P n ops) = some os) (hq : ∀ ρ h a w, Qa ρ h → Sim n base w0 μ0 ρ h a w → Q .normal a w)
    {ρ : Env} {h : H} {a : Act} {w : World} (ho : aops P os Qa ρ h) (hs : Sim n base w0 μ0 ρ h a w) : (Code.region id ops false).wp P Q a w := by
  refine wp_region (ops_sound hq (List.range ops.size) os ρ h a w ?_ ?_ ho hs)
  · have hget := mapM_get hc
    rw [← hget]
    apply List.ext_getElem?
    intro i
    simp only [List.getElem?_map]
    by_cases hi : i < ops.size
    · simp [hi]
    · have : ops.size ≤ i := by omega
      simp [this]
  · intro o hoo
    have hget := mapM_get hc
    have : some o ∈ ops.toList.map (comp P n ops) := by rw [hget]; exact List.mem_map.2 ⟨o, hoo, rfl⟩
    obtain ⟨o', _, ho'⟩ := List.mem_map.1 this
    unfold comp at ho'
    split at ho'
    · split at ho'
      · injection ho' with ho'; rw [← ho']
      · split at ho'
        · split at ho'
          · injection ho' with ho'; rw [← ho']
          · cases ho'
        · cases ho'
    · cases ho'
end
end Ab
end Go.Proofs.Yteoagnggnekfiaa
