/- Joined texts: A9 A10 S1. No condition. -/
import Derived.Test.YtnmnkocibjdhjaaZ2
import Derived.LoopN
namespace Go.Proofs.Ytnmnkocibjdhjaa
namespace Ab
open Go Go.RowKit
set_option linter.unusedSimpArgs false
set_option linter.unusedVariables false

section
variable (P : Program) (n : Nat)
def dstOk (d : Option Tmp) : Bool := match d with | some d => decide (d < n) | none => true
/-- One operation of a region. -/
def comp (ops : Array Oper) (o : Oper) : Option AOper :=
  if dstOk n o.dst = true then
    match o.guard with
    | none => some ⟨o.dst, none, compileOp P n o.op, []⟩
    | some (j, b) => match (ops[j]?).bind (·.dst) with
      | some d => if d < n then some ⟨o.dst, some (d, b), compileOp P n o.op, []⟩ else none
      | none => none
  else none

/-- The state of the machine is of this form. -/
def Sim (base : Nat) (w0 : World) (μ0 : Mu) (ρ : Env) (h : H) (a : Act) (w : World) : Prop := ∃ μ, μ0.le μ ∧ RelT n μ ρ a ∧ Rep base w0 μ w h ∧ a.defers = []
end
section
variable {P : Program} {n : Nat} {base : Nat} {w0 : World} {μ0 : Mu}
theorem RelT.put {μ : Mu} {ρ : Env} {a : Act} (hr : RelT n μ ρ a) {dst : Option Nat} {v : AV} {rv : Value} (hd : dstOk n dst = true) (hv : Rel μ v rv) : RelT n μ (aput ρ dst v) (a.put dst rv) := by
  cases dst with
  | none => exact hr
  | some d =>
    have hd' : d < n := by simpa [dstOk] using hd
    refine ⟨by simp [Act.put, hr.1], fun t ht => ?_⟩
    have hs : a.tmps.size = n := hr.1
    by_cases e : t = d
    · subst e
      simp only [aput, upd, if_true, Act.put]
      simpa [Array.getD, hs, ht] using hv
    · rw [aput_ne (fun x => e (by injection x with x; exact x.symm))]
      have e2 : (a.tmps.setIfInBounds d rv).getD t undef = a.tmps.getD t undef := by simp [Array.getD_eq_getD_getElem?, Ne.symm e]
      show Rel μ (ρ t) ((a.tmps.setIfInBounds d rv).getD t undef)
      rw [e2]
      exact hr.2 t ht
theorem RelT.mono {μ μ' : Mu} (h : μ.le μ') {ρ : Env} {a : Act} (hr : RelT n μ ρ a) : RelT n μ' ρ a := ⟨hr.1, fun t ht => (hr.2 t ht).mono h⟩
theorem put_defers (a : Act) (d : Option Tmp) (v : Value) : (a.put d v).defers = a.defers := by cases d <;> rfl

theorem step_sound {ops : Array Oper} {i : Nat} {o : Oper} {oi : AOper} {ρ : Env} {h : H} {K : AV → H → Prop} {next : Act → World → Prop} {Q : Exit → Act → World → Prop} {a : Act} {w : World}
    (hi : ops[i]? = some o) (hc : comp P n ops o = some oi) (hx : astep P oi.g oi.op ρ h K) (hs : Sim n base w0 μ0 ρ h a w)
    (hn : ∀ v h' a' w', K v h' → Sim n base w0 μ0 (aput ρ oi.dst v) h' a' w' → next a' w') : wpOp P ops Q i next a w := by
  obtain ⟨μ, hle, hT, hR, hdf⟩ := hs
  unfold comp at hc
  split at hc
  · rename_i hd
    have fin : oi.dst = o.dst → ∀ rv w', Fin base w0 μ K rv w' → next (a.put o.dst rv) w' := by
      rintro he rv w' ⟨μ', v, h', q1, q2, q3, q4⟩
      refine hn v h' _ w' q4 ⟨μ', Mu.le_trans hle q1, ?_, q3, by rw [put_defers]; exact hdf⟩
      rw [he]
      exact (hT.mono q1).put hd q2
    unfold wpOp
    rw [hi]
    simp only
    split at hc
    · rename_i hg
      injection hc with hc
      subst hc
      have hw : Region.wanted o (yielded ops a.tmps) = true := by simp [Region.wanted, hg]
      rw [if_pos hw]
      exact .inl (op_sound hx hT hR (fin rfl))
    · rename_i j b hg
      split at hc
      · rename_i d hd'
        split at hc
        · rename_i hdn
          injection hc with hc
          subst hc
          simp only [astep] at hx
          have hrel := hT.2 d hdn
          split at hx
          · rename_i c hρ
            rw [hρ] at hrel
            have hget : a.tmps.getD d undef = .bool c := by
              cases hv : a.tmps.getD d undef <;> rw [hv] at hrel <;> cases hrel
              rfl
            have hy : yielded ops a.tmps j = some c := by
              have hsz : d < a.tmps.size := by rw [hT.1]; exact hdn
              have : a.tmps[d]? = some (.bool c) := by
                rw [Array.getElem?_eq_getElem hsz]
                simp only [Array.getD, hsz, dif_pos] at hget
                exact congrArg some hget
              simp [yielded, hd', this]
            have hwant : Region.wanted o (yielded ops a.tmps) = (c == b) := by
              simp only [Region.wanted, hg, hy]
              cases c <;> cases b <;> rfl
            rw [hwant]
            split at hx
            · rename_i hcb
              rw [if_pos (by simp [hcb])]
              exact .inl (op_sound hx hT hR (fin rfl))
            · rename_i hcb
              rw [if_neg (by simp [hcb])]
              exact hn (.tup []) h _ w hx ⟨μ, hle, hT.put hd (RelA.nil μ).tup, hR, by rw [put_defers]; exact hdf⟩
          · rename_i hρ
            rw [hρ] at hrel
            have hget : ∀ c, a.tmps.getD d undef ≠ .bool c := by
              intro c e
              rw [e] at hrel
              cases hrel
            have hy : yielded ops a.tmps j = none := by
              have hsz : d < a.tmps.size := by rw [hT.1]; exact hdn
              simp only [yielded, hd', Option.bind_some, Array.getElem?_eq_getElem hsz]
              split
              · rename_i b' hb'
                exfalso
                injection hb' with hb'
                refine hget b' ?_
                simp only [Array.getD, hsz, dif_pos]
                exact hb'
              · rfl
            have hwant : Region.wanted o (yielded ops a.tmps) = false := by
              simp only [Region.wanted, hg, hy]
              cases b <;> rfl
            rw [hwant, if_neg (by simp)]
            exact hn (.tup []) h _ w hx ⟨μ, hle, hT.put hd (RelA.nil μ).tup, hR, by rw [put_defers]; exact hdf⟩
          · exact hx.elim
        · cases hc
      · cases hc
  · cases hc
/-- A region in the text's order. -/
theorem ops_sound {ops : Array Oper} {Q : Exit → Act → World → Prop} {Qa : Env → H → Prop} (hq : ∀ ρ h a w, Qa ρ h → Sim n base w0 μ0 ρ h a w → Q .normal a w) : ∀ (is : List Nat) (os : List AOper) (ρ : Env) (h : H) (a : Act) (w : World),
    is.map (fun i => (ops[i]?).bind (comp P n ops)) = os.map some → (∀ o ∈ os, o.chks = []) → aops P os Qa ρ h → Sim n base w0 μ0 ρ h a w → wpOps P ops Q is a w
  | [], os, ρ, h, a, w, hm, _, ho, hs => by
    have : os = [] := by simpa using hm.symm
    subst this
    exact hq ρ h a w ho hs
  | i :: is, [], ρ, h, a, w, hm, _, ho, hs => by simp at hm
  | i :: is, o :: os, ρ, h, a, w, hm, hc, ho, hs => by
    simp only [List.map_cons, List.cons.injEq] at hm
    cases hi : ops[i]? with
    | none => rw [hi] at hm; simp at hm
    | some o' =>
      rw [hi] at hm
      simp only [Option.bind_some] at hm
      rw [wpOps_cons]
      simp only [aops] at ho
      exact step_sound hi hm.1 ho hs (fun v h' a' w' hk hs' => ops_sound hq is os _ h' a' w' hm.2 (fun x hx => hc x (by simp [hx])) hk.2 hs')
end

section
variable (P : Program) (n : Nat)
/-- An order in which a region's operations are taken: those that neither write nor call asx soon asx they may be. -/
def pickNext (b : Array Nat) (base : Array AOper) (done : Nat) : List Nat → Option Nat
  | [] => none
  | i :: is => if done.testBit i then pickNext b base done is else
    if (b.getD i 0) &&& done == b.getD i 0 then some i else pickNext b base done is
def canonGo (b : Array Nat) (base : Array AOper) (nes effs : List Nat) : Nat → Nat → List Nat → List Nat
  | 0, _, acc => acc.reverse
  | f + 1, done, acc =>
    match pickNext b base done nes with
    | some i => canonGo b base nes effs f (done ||| 2 ^ i) (i :: acc)
    | none => match pickNext b base done effs with
      | some i => canonGo b base nes effs f (done ||| 2 ^ i) (i :: acc)
      | none => acc.reverse
def canon (b : Array Nat) (base : Array AOper) : List Nat :=
  let is := List.range base.size
  canonGo b base (is.filter fun i => ((base[i]?).map (·.op.ne)).getD false) (is.filter fun i => !((base[i]?).map (·.op.ne)).getD false) base.size 0 []
def withChks (b : Array Nat) (base : Array AOper) : List Nat → List Nat → List (Nat × AOper)
  | _, [] => []
  | before, i :: is => match base[i]? with
    | none => []
    | some o =>
      let cs := if o.op.ne then [] else before.filterMap fun j => match base[j]? with
        | some oj => if oj.op.ne && !oj.op.pure && !(b.getD i 0).testBit j then some (oj.dst, oj.g, oj.op) else none
        | none => none
      (i, { o with chks := cs }) :: withChks b base (before ++ [i]) is
/-- May each earlier one be overtaken by a later one that need not wait for it? -/
def pairB (b : Array Nat) (x y : Nat × AOper) : Bool :=
  ((b.getD y.1 0).testBit x.1 || (x.2.op.ne && apartB x.2 y.2)) && (x.2.op.pure || stableB x.2 y.2) && !(b.getD x.1 0).testBit y.1
def pairsB (b : Array Nat) : List (Nat × AOper) → Bool
  | [] => true
  | x :: xs => xs.all (pairB b x) && (xs.all fun y => x.1 != y.1) && (x.2.op.pure || selfB x.2) && !(b.getD x.1 0).testBit x.1 && pairsB b xs
/-- The masks are what each operation waits for. -/
def predB (b : Array Nat) (ops : Array Oper) : Bool :=
  (List.range ops.size).all fun i => match ops[i]? with
    | none => false
    | some o => (o.after.all fun e => !Region.binds .any e || (decide (e.on < ops.size) && (b.getD i 0).testBit e.on)) &&
      (List.range ops.size).all fun j => !(b.getD i 0).testBit j || o.after.any fun e => Region.binds .any e && (e.on == j || (b.getD e.on 0).testBit j)
def drawOk (b : Array Nat) (ops : Array Oper) (L : List (Nat × AOper)) : Bool :=
  pairsB b L && predB b ops && L.length == ops.size && ((List.range ops.size).all fun i => L.any fun x => x.1 == i) && L.all fun x => decide (x.1 < ops.size)
def compDraw (ops : Array Oper) : Option (List AOper) :=
  match ops.toList.mapM (comp P n ops) with
  | none => none
  | some base =>
    let b := Region.before ops
    let L := withChks b base.toArray [] (canon b base.toArray)
    if drawOk b ops L = true then some (L.map (·.2)) else none
end
section
variable {P : Program} {n : Nat} {base : Nat} {w0 : World} {μ0 : Mu}
def Waits (b : Array Nat) (i j : Nat) : Prop := (b.getD i 0).testBit j = true
/-- What is known of a list of operations that are still to come. -/
structure Rem (P : Program) (n : Nat) (ops : Array Oper) (b : Array Nat) (rem : List (Nat × AOper)) : Prop where
  over : rem.Pairwise fun x y => Waits b y.1 x.1 ∨ (x.2.op.ne = true ∧ apartB x.2 y.2 = true ∧ (x.2.op.pure = true ∨ y.2.op.ne = true ∨ (x.2.dst, x.2.g, x.2.op) ∈ y.2.chks))
  stab : rem.Pairwise fun x y => x.2.op.pure = true ∨ stableB x.2 y.2 = true
  later : rem.Pairwise fun x y => ¬ Waits b x.1 y.1
  once : rem.Pairwise fun x y => x.1 ≠ y.1
  self : ∀ x ∈ rem, x.2.op.pure = true ∨ selfB x.2 = true
  alone : ∀ x ∈ rem, ¬ Waits b x.1 x.1
  is : ∀ x ∈ rem, ∃ o o0, ops[x.1]? = some o ∧ comp P n ops o = some o0 ∧ x.2.dst = o0.dst ∧ x.2.g = o0.g ∧ x.2.op = o0.op ∧ (x.2.op.ne = true → x.2.chks = [])
theorem Rem.sub {ops : Array Oper} {b : Array Nat} {l l' : List (Nat × AOper)} (h : Rem P n ops b l) (hs : l'.Sublist l) : Rem P n ops b l' :=
  ⟨h.over.sublist hs, h.stab.sublist hs, h.later.sublist hs, h.once.sublist hs, fun x hx => h.self x (hs.subset hx), fun x hx => h.alone x (hs.subset hx), fun x hx => h.is x (hs.subset hx)⟩
theorem ready_iff {ops : Array Oper} {listed : Array Bool} {i : Nat} : i ∈ Region.ready .any ops listed ↔ i < ops.size ∧ listed.getD i true = false ∧ ∃ o, ops[i]? = some o ∧ ∀ e ∈ o.after, Region.binds .any e = true → listed.getD e.on false = true := by
  unfold Region.ready
  simp only [List.mem_filter, List.mem_range, Bool.and_eq_true, Bool.not_eq_true']
  constructor
  · rintro ⟨h1, h2, h3⟩
    refine ⟨h1, h2, ?_⟩
    cases ho : ops[i]? with
    | none => rw [ho] at h3; simp at h3
    | some o =>
      rw [ho] at h3
      refine ⟨o, rfl, fun e he hb => ?_⟩
      simp only [Option.map_some, Option.getD_some, Array.all_eq_true_iff_forall_mem] at h3
      have := h3 e he
      simpa [hb] using this
  · rintro ⟨h1, h2, o, ho, h3⟩
    refine ⟨h1, h2, ?_⟩
    rw [ho]
    simp only [Option.map_some, Option.getD_some, Array.all_eq_true_iff_forall_mem]
    intro e he
    by_cases hb : Region.binds .any e = true
    · simp [h3 e he hb]
    · simp [hb]
theorem any_sound {ops : Array Oper} {b : Array Nat} {Q : Exit → Act → World → Prop} {Qa : Env → H → Prop} (hq : ∀ ρ h a w, Qa ρ h → Sim n base w0 μ0 ρ h a w → Q .normal a w)
    (hp1 : ∀ (i : Nat) (o : Oper), ops[i]? = some o → ∀ e ∈ o.after, Region.binds .any e = true → e.on < ops.size ∧ Waits b i e.on)
    (hp2 : ∀ (i : Nat) (o : Oper), ops[i]? = some o → ∀ j, j < ops.size → Waits b i j → ∃ e ∈ o.after, Region.binds .any e = true ∧ (e.on = j ∨ Waits b e.on j)) :
    ∀ (fuel : Nat) (rem : List (Nat × AOper)) (listed : Array Bool) (ρ : Env) (h : H) (a : Act) (w : World), rem.length = fuel → Rem P n ops b rem → listed.size = ops.size →
      (∀ i, i < ops.size → (listed.getD i true = false ↔ i ∈ rem.map (·.1))) → (∀ k, k < ops.size → listed.getD k true = true → ∀ j, j < ops.size → Waits b k j → listed.getD j true = true) → (∀ x ∈ rem, x.1 < ops.size) →
      aops P (rem.map (·.2)) Qa ρ h → Sim n base w0 μ0 ρ h a w → wpAny P .any ops Q fuel listed a w := by
  intro fuel
  induction fuel with
  | zero =>
    intro rem listed ρ h a w hl hR hsz hli hcl hlt ho hs
    have : rem = [] := List.eq_nil_of_length_eq_zero hl
    subst this
    refine ⟨?_, hq ρ h a w ho hs⟩
    cases hr : Region.ready .any ops listed with
    | nil => rfl
    | cons i l =>
      have := ready_iff.1 (by rw [hr]; exact List.mem_cons_self : i ∈ Region.ready .any ops listed)
      have := (hli i this.1).1 this.2.1
      simp at this
  | succ fuel ih =>
    intro rem listed ρ h a w hl hR hsz hli hcl hlt ho hs
    have gd : ∀ j, j < ops.size → ∀ d d', listed.getD j d = listed.getD j d' := by
      intro j hj d d'
      simp [Array.getD, hsz, hj]
    constructor
    · intro hnil
      cases rem with
      | nil => simp at hl
      | cons x rem =>
        exfalso
        obtain ⟨o, o0, hoo, _⟩ := hR.is x (by simp)
        have hx := hlt x (by simp)
        have : x.1 ∈ Region.ready .any ops listed := by
          refine ready_iff.2 ⟨hx, (hli x.1 hx).2 (by simp), o, hoo, fun e he hb => ?_⟩
          obtain ⟨h1, h2⟩ := hp1 x.1 o hoo e he hb
          rw [gd e.on h1 false true]
          cases hle : listed.getD e.on true with
          | true => rfl
          | false =>
            have hm := (hli e.on h1).1 hle
            simp only [List.map_cons, List.mem_cons, List.mem_map] at hm
            rcases hm with hm | ⟨y, hy, hye⟩
            · rw [hm] at h2
              exact absurd h2 (hR.alone x (by simp))
            · exfalso
              have := (List.pairwise_cons.1 hR.later).1 y hy
              rw [hye] at this
              exact this h2
        rw [hnil] at this
        simp at this
    · intro i hi
      obtain ⟨hisz, hlist, o, hoo, hedge⟩ := ready_iff.1 hi
      have hmem := (hli i hisz).1 hlist
      obtain ⟨x, hx, hxi⟩ := List.mem_map.1 hmem
      obtain ⟨pre, post, rfl⟩ := List.append_of_mem hx
      subst hxi
      obtain ⟨o', o0, ho', hc0, e1, e2, e3, e4⟩ := hR.is x (by simp)
      rw [hoo] at ho'
      injection ho' with ho'
      subst ho'
      have hwaits : ∀ j, j < ops.size → Waits b x.1 j → listed.getD j true = true := by
        intro j hj hw
        obtain ⟨e, he, hb, hej⟩ := hp2 x.1 o hoo j hj hw
        obtain ⟨h1, h2⟩ := hp1 x.1 o hoo e he hb
        have hle : listed.getD e.on true = true := by rw [gd e.on h1 true false]; exact hedge e he hb
        rcases hej with rfl | hej
        · exact hle
        · exact hcl e.on h1 hle j hj hej
      have hpre : ∀ y ∈ pre, y.2.op.ne = true ∧ apartB y.2 x.2 = true ∧ (y.2.op.pure = true ∨ x.2.op.ne = true ∨ (y.2.dst, y.2.g, y.2.op) ∈ x.2.chks) := by
        intro y hy
        rcases (List.pairwise_append.1 hR.over).2.2 y hy x (by simp) with h1 | h1
        · have hy' := hlt y (by simp [hy])
          have h2 := hwaits y.1 hy' h1
          have h3 := (hli y.1 hy').2 (List.mem_map.2 ⟨y, by simp [hy], rfl⟩)
          rw [h2] at h3
          cases h3
        · exact h1
      have hsub : (pre ++ post).Sublist (pre ++ x :: post) := List.Sublist.append_left (List.sublist_cons_self x post) pre
      have hpull := pull (P := P) (pre := pre.map (·.2)) (rest := post.map (·.2)) (i := x.2) (Q := Qa) (ρ := ρ) (h := h) (by simpa using ho)
        (fun j hj => by obtain ⟨y, hy, rfl⟩ := List.mem_map.1 hj; exact (hpre y hy).1)
        (fun j hj => by
          obtain ⟨y, hy, rfl⟩ := List.mem_map.1 hj
          obtain ⟨_, _, _, _, _, _, _, hh⟩ := hR.is y (by simp [hy])
          exact hh (hpre y hy).1)
        (fun j hj => by obtain ⟨y, hy, rfl⟩ := List.mem_map.1 hj; exact (hpre y hy).2.1)
        (by rw [List.pairwise_map]; exact (List.pairwise_append.1 hR.stab).1)
        (fun j hj => by obtain ⟨y, hy, rfl⟩ := List.mem_map.1 hj; exact hR.self y (by simp [hy]))
        (fun j hj => by obtain ⟨y, hy, rfl⟩ := List.mem_map.1 hj; exact (hpre y hy).2.2)
      rw [e2, e3] at hpull
      refine step_sound hoo hc0 hpull hs (fun v h' a' w' hk hs' => ?_)
      refine ih (pre ++ post) (listed.setIfInBounds x.1 true) _ h' a' w' (by simp at hl ⊢; omega) (hR.sub hsub) (by simp [hsz]) (fun j hj => ?_) (fun k hk' hlk j hj hw => ?_) (fun y hy => hlt y (hsub.subset hy)) (by rw [← e1] at *; simpa using hk) hs'
      · by_cases e : j = x.1
        · subst e
          have : (listed.setIfInBounds x.1 true).getD x.1 true = true := by simp [Array.getD, hsz, hj]
          rw [this]
          simp only [Bool.true_eq_false, false_iff]
          intro hm
          obtain ⟨y, hy, hye⟩ := List.mem_map.1 hm
          have honce := hR.once
          rw [List.pairwise_append] at honce
          rcases List.mem_append.1 hy with hy | hy
          · exact honce.2.2 y hy x (by simp) hye
          · exact (List.pairwise_cons.1 honce.2.1).1 y hy hye.symm
        · have : (listed.setIfInBounds x.1 true).getD j true = listed.getD j true := by simp [Array.getD_eq_getD_getElem?, Ne.symm e]
          rw [this, hli j hj]
          simp only [List.map_append, List.map_cons, List.mem_append, List.mem_cons]
          constructor
          · rintro (h1 | h1 | h1)
            · exact .inl h1
            · exact absurd h1 e
            · exact .inr h1
          · rintro (h1 | h1)
            · exact .inl h1
            · exact .inr (.inr h1)
      · have up : ∀ j, j < ops.size → listed.getD j true = true → (listed.setIfInBounds x.1 true).getD j true = true := by
          intro j hj hlj
          by_cases e : j = x.1
          · subst e; simp [Array.getD, hsz, hj]
          · have : (listed.setIfInBounds x.1 true).getD j true = listed.getD j true := by simp [Array.getD_eq_getD_getElem?, Ne.symm e]
            rw [this]; exact hlj
        by_cases e : k = x.1
        · subst e
          exact up j hj (hwaits j hj hw)
        · have : (listed.setIfInBounds x.1 true).getD k true = listed.getD k true := by simp [Array.getD_eq_getD_getElem?, Ne.symm e]
          rw [this] at hlk
          exact up j hj (hcl k hk' hlk j hj hw)
theorem withChks_mem {b : Array Nat} {base : Array AOper} : ∀ (is before : List Nat), ∀ y ∈ withChks b base before is, ∃ o, base[y.1]? = some o ∧ y.2.dst = o.dst ∧ y.2.g = o.g ∧ y.2.op = o.op ∧ (o.op.ne = true → y.2.chks = [])
  | [], before, y, hy => by simp [withChks] at hy
  | i :: is, before, y, hy => by
    simp only [withChks] at hy
    split at hy
    · simp at hy
    · rename_i o ho
      rcases List.mem_cons.1 hy with rfl | hy
      · exact ⟨o, ho, rfl, rfl, rfl, fun h => by simp [h]⟩
      · exact withChks_mem is _ y hy
theorem withChks_before {b : Array Nat} {base : Array AOper} {j : Nat} {oj : AOper} (hj : base[j]? = some oj) (h1 : oj.op.ne = true) (h2 : ¬ oj.op.pure = true) : ∀ (is before : List Nat), j ∈ before → ∀ y ∈ withChks b base before is, ¬ Waits b y.1 j → y.2.op.ne = true ∨ (oj.dst, oj.g, oj.op) ∈ y.2.chks
  | [], before, _, y, hy => by simp [withChks] at hy
  | i :: is, before, hjb, y, hy => by
    simp only [withChks] at hy
    split at hy
    · simp at hy
    · rename_i o ho
      rcases List.mem_cons.1 hy with rfl | hy
      · intro hw
        by_cases hn : o.op.ne = true
        · exact .inl hn
        · refine .inr ?_
          simp only [hn, Bool.false_eq_true, if_false, List.mem_filterMap]
          refine ⟨j, hjb, ?_⟩
          have hw' : (b.getD i 0).testBit j = false := by simpa [Waits] using hw
          simp only [hj, h1, hw']
          simp [h2]
      · exact withChks_before hj h1 h2 is _ (List.mem_append_left _ hjb) y hy
theorem withChks_pairs {b : Array Nat} {base : Array AOper} : ∀ (is before : List Nat), (withChks b base before is).Pairwise fun x y => x.2.op.ne = true → ¬ x.2.op.pure = true → ¬ Waits b y.1 x.1 → y.2.op.ne = true ∨ (x.2.dst, x.2.g, x.2.op) ∈ y.2.chks
  | [], before => by simp [withChks]
  | i :: is, before => by
    simp only [withChks]
    split
    · exact List.Pairwise.nil
    · rename_i o ho
      refine List.pairwise_cons.2 ⟨fun y hy h1 h2 hw => ?_, withChks_pairs is _⟩
      exact withChks_before ho h1 h2 is _ (by simp) y hy hw
theorem pairsB_spec {b : Array Nat} : ∀ {L : List (Nat × AOper)}, pairsB b L = true → (L.Pairwise fun x y => Waits b y.1 x.1 ∨ (x.2.op.ne = true ∧ apartB x.2 y.2 = true)) ∧ (L.Pairwise fun x y => x.2.op.pure = true ∨ stableB x.2 y.2 = true) ∧
    (L.Pairwise fun x y => ¬ Waits b x.1 y.1) ∧ (L.Pairwise fun x y => x.1 ≠ y.1) ∧ (∀ x ∈ L, x.2.op.pure = true ∨ selfB x.2 = true) ∧ (∀ x ∈ L, ¬ Waits b x.1 x.1)
  | [], _ => ⟨.nil, .nil, .nil, .nil, fun x hx => by simp at hx, fun x hx => by simp at hx⟩
  | x :: xs, h => by
    simp only [pairsB, Bool.and_eq_true, List.all_eq_true] at h
    obtain ⟨⟨⟨⟨h1, h2⟩, h3⟩, h4⟩, h5⟩ := h
    obtain ⟨i1, i2, i3, i4, i5, i6⟩ := pairsB_spec h5
    have hx : ∀ y ∈ xs, (Waits b y.1 x.1 ∨ (x.2.op.ne = true ∧ apartB x.2 y.2 = true)) ∧ (x.2.op.pure = true ∨ stableB x.2 y.2 = true) ∧ ¬ Waits b x.1 y.1 := by
      intro y hy
      have := h1 y hy
      simp only [pairB, Bool.and_eq_true, Bool.or_eq_true, Bool.not_eq_true'] at this
      refine ⟨this.1.1, this.1.2, ?_⟩
      unfold Waits
      rw [this.2]
      simp
    refine ⟨List.pairwise_cons.2 ⟨fun y hy => (hx y hy).1, i1⟩, List.pairwise_cons.2 ⟨fun y hy => (hx y hy).2.1, i2⟩, List.pairwise_cons.2 ⟨fun y hy => (hx y hy).2.2, i3⟩, List.pairwise_cons.2 ⟨fun y hy => by simpa using h2 y hy, i4⟩, ?_, ?_⟩
    · intro y hy
      rcases List.mem_cons.1 hy with rfl | hy
      · simpa using h3
      · exact i5 y hy
    · intro y hy
      rcases List.mem_cons.1 hy with rfl | hy
      · unfold Waits
        simp only [Bool.not_eq_true'] at h4
        rw [h4]
        simp
      · exact i6 y hy
theorem mapM_get {ops : List Oper} {f : Oper → Option AOper} : ∀ {l : List AOper}, ops.mapM f = some l → ops.map f = l.map some := by
  induction ops with
  | nil => intro l h; simp at h; subst h; rfl
  | cons o ops ih =>
    intro l h
    simp only [List.mapM_cons, Option.bind_eq_bind, Option.pure_def] at h
    cases ho : f o with
    | none => simp [ho] at h
    | some x =>
      cases hr : ops.mapM f with
      | none => simp [ho, hr] at h
      | some xs =>
        simp [ho, hr] at h
        subst h
        simp [ho, ih hr]
theorem draw_sound {ops : Array Oper} {id : Nat} {os : List AOper} {Q : Exit → Act → World → Prop} {Qa : Env → H → Prop} (hm : P.follows .mixedOrders = true) (hc : compDraw P n ops = some os) (hq : ∀ ρ h a w, Qa ρ h → Sim n base w0 μ0 ρ h a w → Q .normal a w)
    {ρ : Env} {h : H} {a : Act} {w : World} (ho : aops P os Qa ρ h) (hs : Sim n base w0 μ0 ρ h a w) : (Code.region id ops true).wp P Q a w := by
  unfold compDraw at hc
  split at hc
  · cases hc
  · rename_i bs hbs
    simp only at hc
    split at hc
    · rename_i hok
      injection hc with hc
      subst hc
      have hget := mapM_get hbs
      have hbase : ∀ (i : Nat) (o : AOper), bs.toArray[i]? = some o → ∃ o', ops[i]? = some o' ∧ comp P n ops o' = some o := by
        intro i o hi
        have h1 : (ops.toList.map (comp P n ops))[i]? = some (some o) := by rw [hget, List.getElem?_map]; simp at hi; simp [hi]
        rw [List.getElem?_map] at h1
        cases ho' : ops.toList[i]? with
        | none => rw [ho'] at h1; simp at h1
        | some o' => rw [ho'] at h1; simp at h1; exact ⟨o', by simpa using ho', h1⟩
      simp only [drawOk, Bool.and_eq_true] at hok
      obtain ⟨⟨⟨⟨k1, k2⟩, k3⟩, k4⟩, k5⟩ := hok
      obtain ⟨p1, p2, p3, p4, p5, p6⟩ := pairsB_spec k1
      have hch := withChks_pairs (b := Region.before ops) (base := bs.toArray) (canon (Region.before ops) bs.toArray) []
      have hpred : ∀ (i : Nat) (o : Oper), ops[i]? = some o → (∀ e ∈ o.after, Region.binds .any e = true → e.on < ops.size ∧ Waits (Region.before ops) i e.on) ∧ (∀ j, j < ops.size → Waits (Region.before ops) i j → ∃ e ∈ o.after, Region.binds .any e = true ∧ (e.on = j ∨ Waits (Region.before ops) e.on j)) := by
        intro i o hi
        have hisz : i < ops.size := (Array.getElem?_eq_some_iff.1 hi).1
        have := (List.all_eq_true.1 k2) i (by simp [hisz])
        rw [hi] at this
        simp only [Bool.and_eq_true, Array.all_eq_true_iff_forall_mem, List.all_eq_true, List.mem_range] at this
        refine ⟨fun e he hb => ?_, fun j hj hw => ?_⟩
        · have h1 := this.1 e he
          simp only [hb, Bool.not_true, Bool.false_or, Bool.and_eq_true, decide_eq_true_eq] at h1
          exact h1
        · have h1 := this.2 j hj
          unfold Waits at hw
          simp only [hw, Bool.not_true, Bool.false_or] at h1
          rw [← Array.any_toList, List.any_eq_true] at h1
          obtain ⟨e, he, h1⟩ := h1
          simp only [Bool.and_eq_true, Bool.or_eq_true, beq_iff_eq] at h1
          exact ⟨e, by simpa using he, h1.1, h1.2⟩
      refine wp_region_any hm ?_
      refine any_sound hq (fun i o hi => (hpred i o hi).1) (fun i o hi => (hpred i o hi).2) ops.size (withChks (Region.before ops) bs.toArray [] (canon (Region.before ops) bs.toArray)) (Array.replicate ops.size false) ρ h a _ (by simpa using k3) ?_ (by simp) ?_ ?_ ?_ ho ?_
      · refine ⟨?_, p2, p3, p4, p5, p6, fun x hx => ?_⟩
        · refine (p1.and hch).imp ?_
          rintro x y ⟨h1, h2⟩
          rcases h1 with h1 | ⟨h1, h3⟩
          · exact .inl h1
          · by_cases hw : Waits (Region.before ops) y.1 x.1
            · exact .inl hw
            · refine .inr ⟨h1, h3, ?_⟩
              by_cases hpu : x.2.op.pure = true
              · exact .inl hpu
              · exact .inr (h2 h1 hpu hw)
        · obtain ⟨o, h1, h2, h3, h4, h5⟩ := withChks_mem _ _ x hx
          obtain ⟨o', h6, h7⟩ := hbase x.1 o h1
          exact ⟨o', o, h6, h7, h2, h3, h4, fun h => h5 (by rw [← h4]; exact h)⟩
      · intro i hi
        have h1 : (Array.replicate ops.size false).getD i true = false := by simp [Array.getD, hi]
        rw [h1]
        simp only [true_iff]
        have := (List.all_eq_true.1 k4) i (by simp [hi])
        obtain ⟨x, hx, hxi⟩ := List.any_eq_true.1 this
        exact List.mem_map.2 ⟨x, hx, by simpa using hxi⟩
      · intro k hk hl
        have h1 : (Array.replicate ops.size false).getD k true = false := by simp [Array.getD, hk]
        rw [h1] at hl
        cases hl
      · intro x hx
        simpa using (List.all_eq_true.1 k5) x hx
      · obtain ⟨μ, q1, q2, q3, q4⟩ := hs
        exact ⟨μ, q1, q2, q3.drew _, q4⟩
    · cases hc
theorem region_sound {ops : Array Oper} {id : Nat} {os : List AOper} {Q : Exit → Act → World → Prop} {Qa : Env → H → Prop} (hc : ops.toList.mapM (comp P n ops) = some os) (hq : ∀ ρ h a w, Qa ρ h → Sim n base w0 μ0 ρ h a w → Q .normal a w)
    {ρ : Env} {h : H} {a : Act} {w : World} (ho : aops P os Qa ρ h) (hs : Sim n base w0 μ0 ρ h a w) : (Code.region id ops false).wp P Q a w := by
  refine wp_region (ops_sound hq (List.range ops.size) os ρ h a w ?_ ?_ ho hs)
  · have hget := mapM_get hc
    rw [← hget]
    apply List.ext_getElem?
    intro i
    simp only [List.getElem?_map]
    by_cases hi : i < ops.size
    · simp [hi]
    · have : ops.size ≤ i := by omega
      simp [this]
  · intro o hoo
    have hget := mapM_get hc
    have : some o ∈ ops.toList.map (comp P n ops) := by rw [hget]; exact List.mem_map.2 ⟨o, hoo, rfl⟩
    obtain ⟨o', _, ho'⟩ := List.mem_map.1 this
    unfold comp at ho'
    split at ho'
    · split at ho'
      · injection ho' with ho'; rw [← ho']
      · split at ho'
        · split at ho'
          · injection ho' with ho'; rw [← ho']
          · cases ho'
        · cases ho'
    · cases ho'
/-- What comes behind a region's first operations where several that write or call may come next: one of them, with what follows it, or another one. -/
inductive AT where
  | fin
  | no
  | alt (x : AOper) (ns : List AOper) (t r : AT)
inductive FT where
  | fin
  | no
  | alt (x : Nat × AOper) (ns : List (Nat × AOper)) (t r : FT)
def FT.bare : FT → AT
  | .fin => .fin
  | .no => .no
  | .alt x ns t r => .alt x.2 (ns.map (·.2)) t.bare r.bare
def atP (P : Program) (Q : Env → H → Prop) : AT → Env → H → Prop
  | .fin, ρ, h => Q ρ h
  | .no, _, _ => True
  | .alt x ns t r, ρ, h => aops P (x :: ns) (atP P Q t) ρ h ∧ atP P Q r ρ h
def FT.heads : FT → List Nat
  | .alt x _ _ r => x.1 :: r.heads
  | _ => []
def waitsB (b : Array Nat) (i j : Nat) : Bool := (b.getD i 0).testBit j
def FT.isFork : FT → Bool
  | .alt _ _ _ _ => true
  | _ => false
/-- Each operation that is still out of sight is among the next ones, or waits for one that is out of sight. -/
def FT.fit (b : Array Nat) (sz : Nat) (D : List Nat) (t : FT) : Bool := ((List.range sz).all fun i => D.contains i || t.heads.contains i || (List.range sz).any fun j => !D.contains j && waitsB b i j) &&
  (t.isFork || (List.range sz).all fun i => D.contains i) && (match t with | .no => false | _ => true)
def FT.ok (b : Array Nat) (sz : Nat) : List (Nat × AOper) → List Nat → FT → Bool
  | _, _, .fin => true
  | _, _, .no => true
  | N, D, .alt x ns t r => !D.contains x.1 && decide (x.1 < sz) && (N.all fun j => waitsB b x.1 j.1 || apartB j.2 x.2) && pairsB b (N ++ ns) && (ns.all fun y => y.2.op.ne && !D.contains y.1 && y.1 != x.1 && decide (y.1 < sz)) &&
      ((List.range sz).all fun j => !waitsB b x.1 j || D.contains j) && (ns.all fun y => (List.range sz).all fun j => !waitsB b y.1 j || (D ++ x.1 :: ns.map (·.1)).contains j) &&
      t.fit b sz (D ++ x.1 :: ns.map (·.1)) && t.ok b sz (N ++ ns) (D ++ x.1 :: ns.map (·.1)) && r.ok b sz N D
def IsOp (P : Program) (n : Nat) (ops : Array Oper) (y : Nat × AOper) : Prop := ∃ o o0, ops[y.1]? = some o ∧ comp P n ops o = some o0 ∧ y.2.dst = o0.dst ∧ y.2.g = o0.g ∧ y.2.op = o0.op ∧ (y.2.op.ne = true → y.2.chks = [])
def FT.good (P : Program) (n : Nat) (ops : Array Oper) (b : Array Nat) : List (Nat × AOper) → FT → Prop
  | _, .fin => True
  | _, .no => True
  | N, .alt x ns t r => IsOp P n ops x ∧ (∀ y ∈ ns, IsOp P n ops y) ∧ (∀ j ∈ N, j.2.op.ne = true → j.2.op.pure = true ∨ x.2.op.ne = true ∨ Waits b x.1 j.1 ∨ (j.2.dst, j.2.g, j.2.op) ∈ x.2.chks) ∧ t.good P n ops b (N ++ ns) ∧ r.good P n ops b N
theorem aops_append {os ps : List AOper} {Q : Env → H → Prop} : ∀ {ρ : Env} {h : H}, aops P (os ++ ps) Q ρ h ↔ aops P os (aops P ps Q) ρ h := by
  induction os with
  | nil => intro ρ h; exact Iff.rfl
  | cons o os ih =>
    intro ρ h
    simp only [List.cons_append, aops]
    exact ⟨fun hx => astep_mono (fun v h' hk => ⟨hk.1, ih.1 hk.2⟩) hx, fun hx => astep_mono (fun v h' hk => ⟨hk.1, ih.2 hk.2⟩) hx⟩
theorem aops_imp {Q Q' : Env → H → Prop} (hq : ∀ ρ h, Q ρ h → Q' ρ h) : ∀ {os : List AOper} {ρ : Env} {h : H}, aops P os Q ρ h → aops P os Q' ρ h
  | [], _, _, hx => hq _ _ hx
  | o :: os, ρ, h, hx => by
    simp only [aops] at hx ⊢
    exact astep_mono (fun v h' hh => ⟨hh.1, aops_imp hq hh.2⟩) hx
theorem FT.find {ops : Array Oper} {b : Array Nat} {Qa : Env → H → Prop} {N : List (Nat × AOper)} {D : List Nat} {i : Nat} : ∀ (t : FT), i ∈ t.heads → t.ok b ops.size N D = true → t.good P n ops b N →
    ∃ x ns t1, x.1 = i ∧ FT.ok b ops.size N D (.alt x ns t1 .no) = true ∧ FT.good P n ops b N (.alt x ns t1 .no) ∧ ∀ ρ h, atP P Qa t.bare ρ h → aops P (x.2 :: ns.map (·.2)) (atP P Qa t1.bare) ρ h
  | .fin, hi, _, _ => by simp [FT.heads] at hi
  | .no, hi, _, _ => by simp [FT.heads] at hi
  | .alt x ns t r, hi, hok, hg => by
    by_cases e : x.1 = i
    · refine ⟨x, ns, t, e, ?_, ⟨hg.1, hg.2.1, hg.2.2.1, hg.2.2.2.1, trivial⟩, fun ρ h hx => hx.1⟩
      simp only [FT.ok, Bool.and_eq_true, Bool.and_true] at hok ⊢
      exact hok.1
    · have hi' : i ∈ r.heads := by
        simp only [FT.heads, List.mem_cons] at hi
        exact hi.resolve_left (fun h => e h.symm)
      simp only [FT.ok, Bool.and_eq_true] at hok
      obtain ⟨x', ns', t1, h1, h2, h3, h4⟩ := FT.find r hi' hok.2 hg.2.2.2.2
      exact ⟨x', ns', t1, h1, h2, h3, fun ρ h hx => h4 ρ h hx.2⟩
theorem Rem.of {ops : Array Oper} {b : Array Nat} {L : List (Nat × AOper)} (h : pairsB b L = true) (hn : ∀ x ∈ L, x.2.op.ne = true) (hi : ∀ x ∈ L, IsOp P n ops x) : Rem P n ops b L := by
  obtain ⟨p1, p2, p3, p4, p5, p6⟩ := pairsB_spec h
  refine ⟨?_, p2, p3, p4, p5, p6, hi⟩
  refine p1.imp_of_mem ?_
  intro x y hx hy h1
  rcases h1 with h1 | ⟨h1, h3⟩
  · exact .inl h1
  · exact .inr ⟨h1, h3, .inr (.inl (hn y hy))⟩
theorem tree_sound {ops : Array Oper} {b : Array Nat} {Q : Exit → Act → World → Prop} {Qa : Env → H → Prop} (hq : ∀ ρ h a w, Qa ρ h → Sim n base w0 μ0 ρ h a w → Q .normal a w)
    (hp1 : ∀ (i : Nat) (o : Oper), ops[i]? = some o → ∀ e ∈ o.after, Region.binds .any e = true → e.on < ops.size ∧ Waits b i e.on)
    (hp2 : ∀ (i : Nat) (o : Oper), ops[i]? = some o → ∀ j, j < ops.size → Waits b i j → ∃ e ∈ o.after, Region.binds .any e = true ∧ (e.on = j ∨ Waits b e.on j)) :
    ∀ (fuel : Nat) (R : List Nat) (pre N : List (Nat × AOper)) (D : List Nat) (t : FT) (listed : Array Bool) (ρ : Env) (h : H) (a : Act) (w : World), R.length = fuel → R.Nodup → pre.Sublist N → Rem P n ops b N → (∀ x ∈ N, x.2.op.ne = true ∧ x.1 < ops.size ∧ x.1 ∈ D ∧ ∀ j, j < ops.size → Waits b x.1 j → j ∈ D) →
      (∀ i, i ∈ R ↔ i < ops.size ∧ (i ∈ pre.map (·.1) ∨ i ∉ D)) → t.ok b ops.size N D = true → t.good P n ops b N → t.fit b ops.size D = true → listed.size = ops.size →
      (∀ i, i < ops.size → (listed.getD i true = false ↔ i ∈ R)) → (∀ k, k < ops.size → listed.getD k true = true → ∀ j, j < ops.size → Waits b k j → listed.getD j true = true) →
      aops P (pre.map (·.2)) (atP P Qa t.bare) ρ h → Sim n base w0 μ0 ρ h a w → wpAny P .any ops Q fuel listed a w := by
  intro fuel
  induction fuel with
  | zero =>
    intro R pre N D t listed ρ h a w hl hnd hsub hRem hN hR hok hgood hfit hsz hli hcl ho hs
    have : R = [] := List.eq_nil_of_length_eq_zero hl
    subst this
    have hD : ∀ i, i < ops.size → i ∈ D := fun i hi => by
      rcases Classical.em (i ∈ D) with h1 | h1
      · exact h1
      · have := (hR i).2 ⟨hi, .inr h1⟩
        simp at this
    have hpre : pre = [] := by
      cases pre with
      | nil => rfl
      | cons x pre =>
        have hx := hN x (hsub.subset (by simp))
        have := (hR x.1).2 ⟨hx.2.1, .inl (by simp)⟩
        simp at this
    subst hpre
    refine ⟨?_, ?_⟩
    · cases hr : Region.ready .any ops listed with
      | nil => rfl
      | cons i l =>
        have := ready_iff.1 (by rw [hr]; exact List.mem_cons_self : i ∈ Region.ready .any ops listed)
        have := (hli i this.1).1 this.2.1
        simp at this
    · cases t with
      | fin => exact hq ρ h a w ho hs
      | no => simp [FT.fit] at hfit
      | alt x ns t r =>
        simp only [FT.ok, Bool.and_eq_true, decide_eq_true_eq, Bool.not_eq_true', List.contains_eq_mem, decide_eq_false_iff_not] at hok
        exact absurd (hD x.1 hok.1.1.1.1.1.1.1.1.2) hok.1.1.1.1.1.1.1.1.1
  | succ fuel ih =>
    intro R pre N D t listed ρ h a w hl hnd hsub hRem hN hR hok hgood hfit hsz hli hcl ho hs
    have gd : ∀ j, j < ops.size → ∀ d d', listed.getD j d = listed.getD j d' := by
      intro j hj d d'
      simp [Array.getD, hsz, hj]
    have hRemP := hRem.sub hsub
    constructor
    · -- one is ready
      have key : ∃ i o, i ∈ R ∧ ops[i]? = some o ∧ ∀ j, j < ops.size → Waits b i j → j ∉ R := by
        cases pre with
        | cons x pre =>
          obtain ⟨o, o0, hoo, _⟩ := hRemP.is x (by simp)
          have hx := hN x (hsub.subset (by simp))
          refine ⟨x.1, o, (hR x.1).2 ⟨hx.2.1, .inl (by simp)⟩, hoo, fun j hj hw hjR => ?_⟩
          rcases ((hR j).1 hjR).2 with h1 | h1
          · simp only [List.map_cons, List.mem_cons, List.mem_map] at h1
            rcases h1 with rfl | ⟨y, hy, rfl⟩
            · exact hRemP.alone x (by simp) hw
            · exact (List.pairwise_cons.1 hRemP.later).1 y hy hw
          · exact h1 (hx.2.2.2 j hj hw)
        | nil =>
          have hne : ∃ i, i ∈ R := by
            cases R with
            | nil => simp at hl
            | cons i R => exact ⟨i, by simp⟩
          obtain ⟨i0, hi0⟩ := hne
          cases t with
          | fin =>
            simp only [FT.fit, FT.isFork, Bool.false_or, Bool.and_eq_true, List.all_eq_true, List.mem_range, List.contains_eq_mem, decide_eq_true_eq] at hfit
            have h1 := (hR i0).1 hi0
            rcases h1.2 with h2 | h2
            · simp at h2
            · exact absurd (hfit.1.2 i0 h1.1) h2
          | no => simp [FT.fit] at hfit
          | alt x ns t r =>
            simp only [FT.ok, Bool.and_eq_true, decide_eq_true_eq, Bool.not_eq_true', List.contains_eq_mem, decide_eq_false_iff_not, List.all_eq_true, List.mem_range, Bool.or_eq_true] at hok
            obtain ⟨⟨⟨⟨⟨⟨⟨⟨⟨k1, k2⟩, _⟩, _⟩, _⟩, k6⟩, _⟩, _⟩, _⟩, _⟩ := hok
            obtain ⟨o, o0, hoo, _⟩ := hgood.1
            refine ⟨x.1, o, (hR x.1).2 ⟨k2, .inr k1⟩, hoo, fun j hj hw hjR => ?_⟩
            rcases ((hR j).1 hjR).2 with h1 | h1
            · simp at h1
            · rcases k6 j hj with h2 | h2
              · unfold waitsB at h2
                unfold Waits at hw
                rw [hw] at h2
                cases h2
              · exact h1 h2
      obtain ⟨i, o, hiR, hoo, hw⟩ := key
      intro hnil
      have hisz := ((hR i).1 hiR).1
      have : i ∈ Region.ready .any ops listed := by
        refine ready_iff.2 ⟨hisz, (hli i hisz).2 hiR, o, hoo, fun e he hb => ?_⟩
        obtain ⟨h1, h2⟩ := hp1 i o hoo e he hb
        rw [gd e.on h1 false true]
        cases hle : listed.getD e.on true with
        | true => rfl
        | false => exact absurd ((hli e.on h1).1 hle) (hw e.on h1 h2)
      rw [hnil] at this
      simp at this
    · intro i hi
      obtain ⟨hisz, hlist, o, hoo, hedge⟩ := ready_iff.1 hi
      have hiR := (hli i hisz).1 hlist
      have hwaits : ∀ j, j < ops.size → Waits b i j → listed.getD j true = true := by
        intro j hj hw
        obtain ⟨e, he, hb, hej⟩ := hp2 i o hoo j hj hw
        obtain ⟨h1, h2⟩ := hp1 i o hoo e he hb
        have hle : listed.getD e.on true = true := by rw [gd e.on h1 true false]; exact hedge e he hb
        rcases hej with rfl | hej
        · exact hle
        · exact hcl e.on h1 hle j hj hej
      have hnowait : ∀ j, j ∈ R → ¬ Waits b i j := by
        intro j hj hw
        have hj' := ((hR j).1 hj).1
        have := hwaits j hj' hw
        rw [(hli j hj').2 hj] at this
        cases this
      have hli' : ∀ j, j < ops.size → ((listed.setIfInBounds i true).getD j true = false ↔ j ∈ R.erase i) := by
        intro j hj
        by_cases e : j = i
        · subst e
          have : (listed.setIfInBounds j true).getD j true = true := by simp [Array.getD, hsz, hj]
          rw [this]
          simp only [Bool.true_eq_false, false_iff]
          exact fun hm => (hnd.mem_erase_iff.1 hm).1 rfl
        · have : (listed.setIfInBounds i true).getD j true = listed.getD j true := by simp [Array.getD_eq_getD_getElem?, Ne.symm e]
          rw [this, hli j hj, hnd.mem_erase_iff]
          exact ⟨fun h => ⟨e, h⟩, fun h => h.2⟩
      have hcl' : ∀ k, k < ops.size → (listed.setIfInBounds i true).getD k true = true → ∀ j, j < ops.size → Waits b k j → (listed.setIfInBounds i true).getD j true = true := by
        intro k hk' hlk j hj hw
        have up : ∀ j, j < ops.size → listed.getD j true = true → (listed.setIfInBounds i true).getD j true = true := by
          intro j hj hlj
          by_cases e : j = i
          · subst e; simp [Array.getD, hsz, hj]
          · have : (listed.setIfInBounds i true).getD j true = listed.getD j true := by simp [Array.getD_eq_getD_getElem?, Ne.symm e]
            rw [this]; exact hlj
        by_cases e : k = i
        · subst e
          exact up j hj (hwaits j hj hw)
        · have : (listed.setIfInBounds i true).getD k true = listed.getD k true := by simp [Array.getD_eq_getD_getElem?, Ne.symm e]
          rw [this] at hlk
          exact up j hj (hcl k hk' hlk j hj hw)
      have hlen : (R.erase i).length = fuel := by rw [List.length_erase_of_mem hiR]; omega
      by_cases hip : i ∈ pre.map (·.1)
      · -- it is one of those that neither write nor call
        obtain ⟨x, hx, hxi⟩ := List.mem_map.1 hip
        obtain ⟨p1, p2, rfl⟩ := List.append_of_mem hx
        subst hxi
        obtain ⟨o', o0, ho', hc0, e1, e2, e3, e4⟩ := hRemP.is x (by simp)
        rw [hoo] at ho'
        injection ho' with ho'
        subst ho'
        have hneP : ∀ y ∈ p1 ++ x :: p2, y.2.op.ne = true := fun y hy => (hN y (hsub.subset hy)).1
        have hpre : ∀ y ∈ p1, apartB y.2 x.2 = true := by
          intro y hy
          rcases (List.pairwise_append.1 hRemP.over).2.2 y hy x (by simp) with h1 | h1
          · have hy' := hN y (hsub.subset (by simp [hy]))
            exact absurd h1 (hnowait y.1 ((hR y.1).2 ⟨hy'.2.1, .inl (List.mem_map.2 ⟨y, by simp [hy], rfl⟩)⟩))
          · exact h1.2.1
        have hs1 : (p1 ++ p2).Sublist (p1 ++ x :: p2) := List.Sublist.append_left (List.sublist_cons_self x p2) p1
        have hpull := pull (P := P) (pre := p1.map (·.2)) (rest := p2.map (·.2)) (i := x.2) (Q := atP P Qa t.bare) (ρ := ρ) (h := h) (by simpa using ho)
          (fun j hj => by obtain ⟨y, hy, rfl⟩ := List.mem_map.1 hj; exact hneP y (by simp [hy]))
          (fun j hj => by
            obtain ⟨y, hy, rfl⟩ := List.mem_map.1 hj
            obtain ⟨_, _, _, _, _, _, _, hh⟩ := hRemP.is y (by simp [hy])
            exact hh (hneP y (by simp [hy])))
          (fun j hj => by obtain ⟨y, hy, rfl⟩ := List.mem_map.1 hj; exact hpre y hy)
          (by rw [List.pairwise_map]; exact (List.pairwise_append.1 hRemP.stab).1)
          (fun j hj => by obtain ⟨y, hy, rfl⟩ := List.mem_map.1 hj; exact hRemP.self y (by simp [hy]))
          (fun j hj => .inr (.inl (hneP x (by simp))))
        rw [e2, e3] at hpull
        refine step_sound hoo hc0 hpull hs (fun v h' a' w' hk hs' => ?_)
        refine ih (R.erase x.1) (p1 ++ p2) N D t _ _ h' a' w' hlen (hnd.erase _) (hs1.trans hsub) hRem hN (fun j => ?_) hok hgood hfit (by simp [hsz]) hli' hcl' (by rw [← e1]; simpa using hk) hs'
        have hxD := (hN x (hsub.subset (by simp))).2.2.1
        have honce := hRemP.once
        rw [List.pairwise_append] at honce
        rw [hnd.mem_erase_iff, hR j]
        simp only [List.map_append, List.map_cons, List.mem_append, List.mem_cons]
        constructor
        · rintro ⟨h1, h2, (h3 | h3 | h3) | h3⟩
          · exact ⟨h2, .inl (.inl h3)⟩
          · exact absurd h3 h1
          · exact ⟨h2, .inl (.inr h3)⟩
          · exact ⟨h2, .inr h3⟩
        · rintro ⟨h2, (h3 | h3) | h3⟩
          · refine ⟨?_, h2, .inl (.inl h3)⟩
            rintro rfl
            obtain ⟨y, hy, hye⟩ := List.mem_map.1 h3
            exact honce.2.2 y hy x (by simp) hye
          · refine ⟨?_, h2, .inl (.inr (.inr h3))⟩
            rintro rfl
            obtain ⟨y, hy, hye⟩ := List.mem_map.1 h3
            exact (List.pairwise_cons.1 honce.2.1).1 y hy hye.symm
          · exact ⟨fun e => h3 (by rw [e]; exact hxD), h2, .inr h3⟩
      · -- it writes or calls, and comes next
        have hiD : i ∉ D := (((hR i).1 hiR).2).resolve_left hip
        have hih : i ∈ t.heads := by
          simp only [FT.fit, Bool.and_eq_true, List.all_eq_true, List.mem_range, Bool.or_eq_true, List.any_eq_true, List.contains_eq_mem, decide_eq_true_eq, Bool.not_eq_true', decide_eq_false_iff_not] at hfit
          rcases hfit.1.1 i hisz with (h1 | h1) | ⟨j, hj, h1, h2⟩
          · exact absurd h1 hiD
          · exact h1
          · exact absurd h2 (hnowait j ((hR j).2 ⟨hj, .inr h1⟩))
        obtain ⟨x, ns, t1, rfl, hok1, hg1, hx⟩ := FT.find (Qa := Qa) t hih hok hgood
        obtain ⟨o', o0, ho', hc0, e1, e2, e3, e4⟩ := hg1.1
        rw [hoo] at ho'
        injection ho' with ho'
        subst ho'
        simp only [FT.ok, Bool.and_eq_true, decide_eq_true_eq, Bool.not_eq_true', List.contains_eq_mem, decide_eq_false_iff_not, List.all_eq_true, List.mem_range, Bool.or_eq_true, Bool.and_true, bne_iff_ne, ne_eq] at hok1
        obtain ⟨⟨⟨⟨⟨⟨⟨⟨k1, k2⟩, k3⟩, k4⟩, k5⟩, k6⟩, k7⟩, k8⟩, k9⟩ := hok1
        have hneN : ∀ y ∈ pre, y.2.op.ne = true := fun y hy => (hN y (hsub.subset hy)).1
        have hfree : ∀ y ∈ pre, ¬ Waits b x.1 y.1 := fun y hy => hnowait y.1 ((hR y.1).2 ⟨(hN y (hsub.subset hy)).2.1, .inl (List.mem_map.2 ⟨y, hy, rfl⟩)⟩)
        have ho2 : aops P (pre.map (·.2) ++ x.2 :: ns.map (·.2)) (atP P Qa t1.bare) ρ h := aops_append.2 (aops_imp hx ho)
        have hpull := pull (P := P) (pre := pre.map (·.2)) (rest := ns.map (·.2)) (i := x.2) (Q := atP P Qa t1.bare) (ρ := ρ) (h := h) ho2
          (fun j hj => by obtain ⟨y, hy, rfl⟩ := List.mem_map.1 hj; exact hneN y hy)
          (fun j hj => by
            obtain ⟨y, hy, rfl⟩ := List.mem_map.1 hj
            obtain ⟨_, _, _, _, _, _, _, hh⟩ := hRemP.is y hy
            exact hh (hneN y hy))
          (fun j hj => by
            obtain ⟨y, hy, rfl⟩ := List.mem_map.1 hj
            rcases k3 y (hsub.subset hy) with h1 | h1
            · exact absurd h1 (hfree y hy)
            · exact h1)
          (by rw [List.pairwise_map]; exact hRemP.stab)
          (fun j hj => by obtain ⟨y, hy, rfl⟩ := List.mem_map.1 hj; exact hRemP.self y hy)
          (fun j hj => by
            obtain ⟨y, hy, rfl⟩ := List.mem_map.1 hj
            rcases hg1.2.2.1 y (hsub.subset hy) (hneN y hy) with h1 | h1 | h1 | h1
            · exact .inl h1
            · exact .inr (.inl h1)
            · exact absurd h1 (hfree y hy)
            · exact .inr (.inr h1))
        rw [e2, e3] at hpull
        refine step_sound hoo hc0 hpull hs (fun v h' a' w' hk hs' => ?_)
        have hnsI : ∀ y ∈ N ++ ns, y.2.op.ne = true := by
          intro y hy
          rcases List.mem_append.1 hy with hy | hy
          · exact (hN y hy).1
          · exact (k5 y hy).1.1.1
        have hRem1 : Rem P n ops b (N ++ ns) := Rem.of k4 hnsI (fun y hy => by
          rcases List.mem_append.1 hy with hy | hy
          · exact hRem.is y hy
          · exact hg1.2.1 y hy)
        refine ih (R.erase x.1) (pre ++ ns) (N ++ ns) (D ++ x.1 :: ns.map (·.1)) t1 _ _ h' a' w' hlen (hnd.erase _) (hsub.append (List.Sublist.refl ns)) hRem1 (fun y hy => ?_) (fun j => ?_) k9 hg1.2.2.2.1 k8 (by simp [hsz]) hli' hcl' (by rw [← e1]; simpa using hk) hs'
        · rcases List.mem_append.1 hy with hy | hy
          · obtain ⟨q1, q2, q3, q4⟩ := hN y hy
            exact ⟨q1, q2, by simp [q3], fun j hj hw => by simp [q4 j hj hw]⟩
          · refine ⟨(k5 y hy).1.1.1, (k5 y hy).2, by simp only [List.mem_append, List.mem_cons, List.mem_map]; exact .inr (.inr ⟨y, hy, rfl⟩), fun j hj hw => ?_⟩
            rcases k7 y hy j hj with h1 | h1
            · unfold waitsB at h1
              unfold Waits at hw
              rw [hw] at h1
              cases h1
            · exact h1
        · rw [hnd.mem_erase_iff, hR j]
          simp only [List.map_append, List.mem_append, List.mem_cons]
          constructor
          · rintro ⟨h1, h2, h3 | h3⟩
            · exact ⟨h2, .inl (.inl h3)⟩
            · by_cases h4 : j ∈ ns.map (·.1)
              · exact ⟨h2, .inl (.inr h4)⟩
              · exact ⟨h2, .inr (fun h5 => h5.elim h3 (fun h5 => h5.elim h1 h4))⟩
          · rintro ⟨h2, (h3 | h3) | h3⟩
            · refine ⟨?_, h2, .inl h3⟩
              rintro rfl
              exact hip h3
            · obtain ⟨y, hy, rfl⟩ := List.mem_map.1 h3
              have := k5 y hy
              exact ⟨this.1.2, h2, .inr this.1.1.2⟩
            · exact ⟨fun e => h3 (.inr (.inl e)), h2, .inr (fun h4 => h3 (.inl h4))⟩
end
section
variable (P : Program) (n : Nat)
/-- A tree of numbers. -/
inductive IT where
  | fin
  | no
  | alt (x : Nat) (ns : List Nat) (t r : IT)
def nesGo (b : Array Nat) (base : Array AOper) (nes : List Nat) : Nat → Nat → List Nat → List Nat × Nat
  | 0, done, acc => (acc.reverse, done)
  | f + 1, done, acc => match pickNext b base done nes with
    | some i => nesGo b base nes f (done ||| 2 ^ i) (i :: acc)
    | none => (acc.reverse, done)
def itAlts (go : Nat → IT) (nxt : Nat → List Nat × Nat) (done : Nat) : List Nat → IT
  | [] => .no
  | x :: xs => .alt x (nxt (done ||| 2 ^ x)).1 (go (nxt (done ||| 2 ^ x)).2) (itAlts go nxt done xs)
def itGo (b : Array Nat) (base : Array AOper) (nes effs : List Nat) : Nat → Nat → IT
  | 0, _ => .fin
  | f + 1, done =>
    match effs.filter (fun i => !done.testBit i && ((b.getD i 0) &&& done == b.getD i 0)) with
    | [] => .fin
    | x :: xs => itAlts (itGo b base nes effs f) (fun d => nesGo b base nes base.size d []) done (x :: xs)
def mkNs (base : Array AOper) (is : List Nat) : List (Nat × AOper) := is.filterMap fun i => match base[i]? with
  | some o => if o.op.ne = true then some (i, { o with chks := [] }) else none
  | none => none
def IT.mk (b : Array Nat) (base : Array AOper) : List (Nat × AOper) → IT → FT
  | _, .fin => .fin
  | _, .no => .no
  | N, .alt i ns t r => match base[i]? with
    | none => .no
    | some o =>
      let cs := if o.op.ne then [] else N.filterMap fun j => if !j.2.op.pure && !(b.getD i 0).testBit j.1 then some (j.2.dst, j.2.g, j.2.op) else none
      .alt (i, { o with chks := cs }) (mkNs base ns) (t.mk b base (N ++ mkNs base ns)) (r.mk b base N)
def treeOk (b : Array Nat) (ops : Array Oper) (N : List (Nat × AOper)) (t : FT) : Bool :=
  predB b ops && pairsB b N && (N.all fun x => decide (x.1 < ops.size) && (List.range ops.size).all fun j => !waitsB b x.1 j || (N.map (·.1)).contains j) && t.fit b ops.size (N.map (·.1)) && t.ok b ops.size N (N.map (·.1))
def compTree (ops : Array Oper) : Option (List AOper × AT) :=
  match ops.toList.mapM (comp P n ops) with
  | none => none
  | some base =>
    let b := Region.before ops
    let is := List.range base.toArray.size
    let nes := is.filter fun i => ((base.toArray[i]?).map (·.op.ne)).getD false
    let effs := is.filter fun i => !((base.toArray[i]?).map (·.op.ne)).getD false
    let s := nesGo b base.toArray nes base.toArray.size 0 []
    let N := mkNs base.toArray s.1
    let t := (itGo b base.toArray nes effs base.toArray.size s.2).mk b base.toArray N
    if treeOk b ops N t = true then some (N.map (·.2), t.bare) else none
end
section
variable {P : Program} {n : Nat} {base : Nat} {w0 : World} {μ0 : Mu}
theorem mkNs_mem {base : Array AOper} {is : List Nat} : ∀ y ∈ mkNs base is, ∃ o, base[y.1]? = some o ∧ y.2.dst = o.dst ∧ y.2.g = o.g ∧ y.2.op = o.op ∧ y.2.op.ne = true ∧ y.2.chks = [] := by
  intro y hy
  obtain ⟨i, _, h1⟩ := List.mem_filterMap.1 hy
  split at h1
  · rename_i o ho
    split at h1
    · rename_i hne
      injection h1 with h1
      subst h1
      exact ⟨o, ho, rfl, rfl, rfl, hne, rfl⟩
    · cases h1
  · cases h1
theorem IT.good {ops : Array Oper} {b : Array Nat} {bs : Array AOper} (hbase : ∀ (i : Nat) (o : AOper), bs[i]? = some o → ∃ o', ops[i]? = some o' ∧ comp P n ops o' = some o) : ∀ (t : IT) (N : List (Nat × AOper)), (t.mk b bs N).good P n ops b N
  | .fin, _ => trivial
  | .no, _ => trivial
  | .alt i ns t r, N => by
    simp only [IT.mk]
    cases ho : bs[i]? with
    | none => trivial
    | some o =>
      simp only
      obtain ⟨o', h1, h2⟩ := hbase i o ho
      refine ⟨⟨o', o, h1, h2, rfl, rfl, rfl, fun h => by simp only at h ⊢; rw [if_pos h]⟩, fun y hy => ?_, fun j hj hne => ?_, IT.good hbase t _, IT.good hbase r _⟩
      · obtain ⟨oy, q1, q2, q3, q4, q5, q6⟩ := mkNs_mem y hy
        obtain ⟨oy', q7, q8⟩ := hbase y.1 oy q1
        exact ⟨oy', oy, q7, q8, q2, q3, q4, fun _ => q6⟩
      · by_cases hp : j.2.op.pure = true
        · exact .inl hp
        · by_cases hn : o.op.ne = true
          · exact .inr (.inl hn)
          · by_cases hw : (b.getD i 0).testBit j.1 = true
            · exact .inr (.inr (.inl hw))
            · refine .inr (.inr (.inr ?_))
              simp only
              rw [if_neg hn]
              have hw' : (b.getD i 0).testBit j.1 = false := by simpa using hw
              refine List.mem_filterMap.2 ⟨j, hj, ?_⟩
              rw [if_pos (by rw [hw']; simp [hp])]
theorem predB_spec {b : Array Nat} {ops : Array Oper} (k2 : predB b ops = true) : ∀ (i : Nat) (o : Oper), ops[i]? = some o → (∀ e ∈ o.after, Region.binds .any e = true → e.on < ops.size ∧ Waits b i e.on) ∧ (∀ j, j < ops.size → Waits b i j → ∃ e ∈ o.after, Region.binds .any e = true ∧ (e.on = j ∨ Waits b e.on j)) := by
  intro i o hi
  have hisz : i < ops.size := (Array.getElem?_eq_some_iff.1 hi).1
  have := (List.all_eq_true.1 k2) i (by simp [hisz])
  rw [hi] at this
  simp only [Bool.and_eq_true, Array.all_eq_true_iff_forall_mem, List.all_eq_true, List.mem_range] at this
  refine ⟨fun e he hb => ?_, fun j hj hw => ?_⟩
  · have h1 := this.1 e he
    simp only [hb, Bool.not_true, Bool.false_or, Bool.and_eq_true, decide_eq_true_eq] at h1
    exact h1
  · have h1 := this.2 j hj
    unfold Waits at hw
    simp only [hw, Bool.not_true, Bool.false_or] at h1
    rw [← Array.any_toList, List.any_eq_true] at h1
    obtain ⟨e, he, h1⟩ := h1
    simp only [Bool.and_eq_true, Bool.or_eq_true, beq_iff_eq] at h1
    exact ⟨e, by simpa using he, h1.1, h1.2⟩
theorem base_of {ops : Array Oper} {bs : List AOper} (hbs : ops.toList.mapM (comp P n ops) = some bs) : ∀ (i : Nat) (o : AOper), bs.toArray[i]? = some o → ∃ o', ops[i]? = some o' ∧ comp P n ops o' = some o := by
  intro i o hi
  have h1 : (ops.toList.map (comp P n ops))[i]? = some (some o) := by rw [mapM_get hbs, List.getElem?_map]; simp at hi; simp [hi]
  rw [List.getElem?_map] at h1
  cases ho' : ops.toList[i]? with
  | none => rw [ho'] at h1; simp at h1
  | some o' => rw [ho'] at h1; simp at h1; exact ⟨o', by simpa using ho', h1⟩
theorem fork_sound {ops : Array Oper} {id : Nat} {os : List AOper} {t : AT} {Q : Exit → Act → World → Prop} {Qa : Env → H → Prop} (hm : P.follows .mixedOrders = true) (hc : compTree P n ops = some (os, t)) (hq : ∀ ρ h a w, Qa ρ h → Sim n base w0 μ0 ρ h a w → Q .normal a w)
    {ρ : Env} {h : H} {a : Act} {w : World} (ho : aops P os (atP P Qa t) ρ h) (hs : Sim n base w0 μ0 ρ h a w) : (Code.region id ops true).wp P Q a w := by
  unfold compTree at hc
  split at hc
  · cases hc
  · rename_i bs hbs
    simp only at hc
    split at hc
    · rename_i hok
      injection hc with hc
      injection hc with hc1 hc2
      subst hc1; subst hc2
      have hbase := base_of hbs
      have hgood := IT.good (b := Region.before ops) hbase
      generalize hN : mkNs bs.toArray _ = N at *
      have hNm : ∀ y ∈ N, ∃ o, bs.toArray[y.1]? = some o ∧ y.2.dst = o.dst ∧ y.2.g = o.g ∧ y.2.op = o.op ∧ y.2.op.ne = true ∧ y.2.chks = [] := fun y hy => mkNs_mem y (by rw [hN]; exact hy)
      generalize itGo _ _ _ _ _ _ = it at *
      have hg := hgood it N
      simp only [treeOk, Bool.and_eq_true, List.all_eq_true, decide_eq_true_eq, List.mem_range, Bool.or_eq_true, Bool.not_eq_true', List.contains_eq_mem] at hok
      obtain ⟨⟨⟨⟨k1, k2⟩, k3⟩, k4⟩, k5⟩ := hok
      have hpred := predB_spec k1
      refine wp_region_any hm ?_
      refine tree_sound hq (fun i o hi => (hpred i o hi).1) (fun i o hi => (hpred i o hi).2) ops.size (List.range ops.size) N N (N.map (·.1)) (it.mk (Region.before ops) bs.toArray N) (Array.replicate ops.size false) ρ h a _ (by simp) List.nodup_range (List.Sublist.refl N) (Rem.of k2 (fun y hy => (hNm y hy).choose_spec.2.2.2.2.1) (fun y hy => ?_)) (fun y hy => ?_) (fun i => ?_) k5 hg k4 (by simp) ?_ ?_ ho ?_
      · obtain ⟨o, h1, h2, h3, h4, h5, h6⟩ := hNm y hy
        obtain ⟨o', h7, h8⟩ := hbase y.1 o h1
        exact ⟨o', o, h7, h8, h2, h3, h4, fun _ => h6⟩
      · refine ⟨(hNm y hy).choose_spec.2.2.2.2.1, (k3 y hy).1, List.mem_map.2 ⟨y, hy, rfl⟩, fun j hj hw => ?_⟩
        rcases (k3 y hy).2 j hj with h1 | h1
        · unfold waitsB at h1
          unfold Waits at hw
          rw [hw] at h1
          cases h1
        · exact h1
      · simp only [List.mem_range]
        exact ⟨fun h => ⟨h, Classical.em _⟩, fun h => h.1⟩
      · intro i hi
        have h1 : (Array.replicate ops.size false).getD i true = false := by simp [Array.getD, hi]
        rw [h1]
        simp [hi]
      · intro k hk hl
        have h1 : (Array.replicate ops.size false).getD k true = false := by simp [Array.getD, hk]
        rw [h1] at hl
        cases hl
      · obtain ⟨μ, q1, q2, q3, q4⟩ := hs
        exact ⟨μ, q1, q2, q3.drew _, q4⟩
    · cases hc
end
end Ab
end Go.Proofs.Ytnmnkocibjdhjaa
namespace Go.Proofs.Ytnmnkocibjdhjaa
namespace Ab
open Go Go.RowKit

inductive AC where
  | skip
  | reg (os : List AOper)
  | regt (os : List AOper) (t : AT)
  | seq (a b : AC)
  | cond (c : AO) (x y : AC)
  | block (id : Nat) (c : AC)
  | loop (c : AC)
  | exit (id : Nat)
  | ret

-- short names, for the printed codes
abbrev o (d : Nat) (p : AOp) : AOper := ⟨some d, none, p, []⟩
abbrev od (p : AOp) : AOper := ⟨none, none, p, []⟩
abbrev mv (d n : Nat) : AOper := ⟨some d, none, .mv (.t n), []⟩
abbrev bn (d : Nat) (q : BinOp) (x y : Nat) : AOper := ⟨some d, none, .bin q (.t x) (.t y), []⟩
abbrev og (d t : Nat) (b : Bool) (p : AOp) : AOper := ⟨some d, some (t, b), p, []⟩
abbrev i64 (n : Int) : AO := .c (.int .i64 n)
abbrev u64 (n : Int) : AO := .c (.int .u64 n)

abbrev Post := Exit → Env → H → Prop
def athen (next : Env → H → Prop) (Q : Post) : Post
  | .normal, ρ, h => next ρ h
  | e, ρ, h => Q e ρ h
def ablk (id : Nat) (Q : Post) : Post
  | .exit id', ρ, h => if id' = id then Q .normal ρ h else Q (.exit id') ρ h
  | e, ρ, h => Q e ρ h
section
variable (P : Program)
def awp : AC → Post → Env → H → Prop
  | .skip, Q, ρ, h => Q .normal ρ h
  | .reg os, Q, ρ, h => aops P os (Q .normal) ρ h
  | .regt os t, Q, ρ, h => aops P os (atP P (Q .normal) t) ρ h
  | .seq a b, Q, ρ, h => awp a (athen (awp b Q) Q) ρ h
  | .cond c x y, Q, ρ, h => ∃ t, aev ρ c = .bool t ∧ (t = true → awp x Q ρ h) ∧ (t = false → awp y Q ρ h)
  | .block id c, Q, ρ, h => awp c (ablk id Q) ρ h
  | .loop c, Q, ρ, h => ∃ (I : Nat → Env → H → Prop) (n : Nat), I n ρ h ∧ ∀ n ρ h, I n ρ h → awp c (athen (fun ρ' h' => ∃ m, m < n ∧ I m ρ' h') Q) ρ h
  | .exit id, Q, ρ, h => Q (.exit id) ρ h
  | .ret, Q, ρ, h => Q .ret ρ h
variable (n : Nat)
def compile : Code → Option AC
  | .skip => some .skip
  | .region _ ops false => (ops.toList.mapM (comp P n ops)).map .reg
  | .region _ ops true => match compDraw P n ops with
    | some os => some (.reg os)
    | none => (compTree P n ops).map fun x => .regt x.1 x.2
  | .seq a b => match compile a, compile b with
    | some x, some y => some (.seq x y)
    | _, _ => none
  | .cond c a b => match compile a, compile b with
    | some x, some y => some (.cond (cop n c) x y)
    | _, _ => none
  | .block id c => (compile c).map (.block id)
  | .loop c => (compile c).map .loop
  | .exit id => some (.exit id)
  | .ret => some .ret
  | _ => none
end
section
variable {P : Program} {n : Nat} {base : Nat} {w0 : World} {μ0 : Mu}
def Lift (n : Nat) (base : Nat) (w0 : World) (μ0 : Mu) (Q : Post) : Exit → Act → World → Prop := fun e a w => ∃ ρ h, Sim n base w0 μ0 ρ h a w ∧ Q e ρ h
theorem code_sound (hm : P.follows .mixedOrders = true) : ∀ (c : Code) (ac : AC) (Q : Post) (Qr : Exit → Act → World → Prop) (ρ : Env) (h : H) (a : Act) (w : World), compile P n c = some ac → awp P ac Q ρ h → Sim n base w0 μ0 ρ h a w →
    (∀ e a w, Lift n base w0 μ0 Q e a w → Qr e a w) → c.wp P Qr a w := by
  intro c
  induction c with
  | skip =>
    intro ac Q Qr ρ h a w hc hx hs hq
    simp only [compile] at hc
    injection hc with hc
    subst hc
    exact wp_skip (hq _ _ _ ⟨ρ, h, hs, hx⟩)
  | region id ops draw =>
    intro ac Q Qr ρ h a w hc hx hs hq
    cases draw with
    | false =>
      simp only [compile, Option.map_eq_some_iff] at hc
      obtain ⟨os, hos, rfl⟩ := hc
      exact region_sound hos (fun ρ h a w hQ hs => hq _ _ _ ⟨ρ, h, hs, hQ⟩) hx hs
    | true =>
      simp only [compile] at hc
      split at hc
      · rename_i os hos
        injection hc with hc
        subst hc
        exact draw_sound hm hos (fun ρ h a w hQ hs => hq _ _ _ ⟨ρ, h, hs, hQ⟩) hx hs
      · obtain ⟨⟨os, t⟩, hos, rfl⟩ := Option.map_eq_some_iff.1 hc
        exact fork_sound hm hos (fun ρ h a w hQ hs => hq _ _ _ ⟨ρ, h, hs, hQ⟩) hx hs
  | seq x y ihx ihy =>
    intro ac Q Qr ρ h a w hc hx hs hq
    simp only [compile] at hc
    split at hc
    · rename_i ax ay hax hay
      injection hc with hc
      subst hc
      refine wp_seq (ihx ax _ _ ρ h a w hax hx hs ?_)
      rintro e a' w' ⟨ρ', h', hs', hQ⟩
      cases e with
      | normal => exact ihy ay Q Qr ρ' h' a' w' hay hQ hs' hq
      | exit id => exact hq _ _ _ ⟨ρ', h', hs', hQ⟩
      | goto l => exact hq _ _ _ ⟨ρ', h', hs', hQ⟩
      | ret => exact hq _ _ _ ⟨ρ', h', hs', hQ⟩
      | panic ch => exact hq _ _ _ ⟨ρ', h', hs', hQ⟩
      | outgrown => exact hq _ _ _ ⟨ρ', h', hs', hQ⟩
    · cases hc
  | cond c x y ihx ihy =>
    intro ac Q Qr ρ h a w hc hx hs hq
    simp only [compile] at hc
    split at hc
    · rename_i ax ay hax hay
      injection hc with hc
      subst hc
      obtain ⟨t, ht, h1, h2⟩ := hx
      have hev : a.eval c = .bool t := by
        obtain ⟨μ, _, hT, _, _⟩ := hs
        have := cop_rel hT c
        rw [ht] at this
        cases hv : a.eval c <;> rw [hv] at this <;> cases this
        rfl
      cases t with
      | true => exact wp_cond_true hev (ihx ax Q Qr ρ h a w hax (h1 rfl) hs hq)
      | false => exact wp_cond_false hev (ihy ay Q Qr ρ h a w hay (h2 rfl) hs hq)
    · cases hc
  | block id c ih =>
    intro ac Q Qr ρ h a w hc hx hs hq
    simp only [compile, Option.map_eq_some_iff] at hc
    obtain ⟨ax, hax, rfl⟩ := hc
    refine wp_block (ih ax _ _ ρ h a w hax hx hs ?_)
    rintro e a' w' ⟨ρ', h', hs', hQ⟩
    cases e with
    | exit id' =>
      simp only [ablk] at hQ
      simp only [Exit.inBlock]
      split at hQ
      · rename_i he; rw [if_pos he]; exact hq _ _ _ ⟨ρ', h', hs', hQ⟩
      · rename_i he; rw [if_neg he]; exact hq _ _ _ ⟨ρ', h', hs', hQ⟩
    | normal => exact hq _ _ _ ⟨ρ', h', hs', hQ⟩
    | goto l => exact hq _ _ _ ⟨ρ', h', hs', hQ⟩
    | ret => exact hq _ _ _ ⟨ρ', h', hs', hQ⟩
    | panic ch => exact hq _ _ _ ⟨ρ', h', hs', hQ⟩
    | outgrown => exact hq _ _ _ ⟨ρ', h', hs', hQ⟩
  | loop c ih =>
    intro ac Q Qr ρ h a w hc hx hs hq
    simp only [compile, Option.map_eq_some_iff] at hc
    obtain ⟨ax, hax, rfl⟩ := hc
    obtain ⟨I, m0, hI, hround⟩ := hx
    have key : ∀ k m ρ h a w, m < k → I m ρ h → Sim n base w0 μ0 ρ h a w → Code.rounds P c Qr k a w := by
      intro k
      induction k with
      | zero => intro m ρ h a w hk; omega
      | succ k ihk =>
        intro m ρ h a w hk hI hs
        rw [rounds_succ]
        refine ih ax _ _ ρ h a w hax (hround m ρ h hI) hs ?_
        rintro e a' w' ⟨ρ', h', hs', hQ⟩
        cases e with
        | normal =>
          obtain ⟨m', hlt, hI'⟩ := hQ
          exact ihk m' ρ' h' a' w' (by omega) hI' hs'
        | exit id => exact hq _ _ _ ⟨ρ', h', hs', hQ⟩
        | goto l => exact hq _ _ _ ⟨ρ', h', hs', hQ⟩
        | ret => exact hq _ _ _ ⟨ρ', h', hs', hQ⟩
        | panic ch => exact hq _ _ _ ⟨ρ', h', hs', hQ⟩
        | outgrown => exact hq _ _ _ ⟨ρ', h', hs', hQ⟩
    exact wp_loop_rounds (m0 + 1) (key _ m0 ρ h a w (Nat.lt_succ_self _) hI hs)
  | exit id =>
    intro ac Q Qr ρ h a w hc hx hs hq
    simp only [compile] at hc
    injection hc with hc
    subst hc
    exact wp_exit (hq _ _ _ ⟨ρ, h, hs, hx⟩)
  | ret =>
    intro ac Q Qr ρ h a w hc hx hs hq
    simp only [compile] at hc
    injection hc with hc
    subst hc
    exact wp_ret (hq _ _ _ ⟨ρ, h, hs, hx⟩)
  | _ => intro ac Q Qr ρ h a w hc; simp [compile] at hc
/-- What a function answers: slots, and cells. -/
inductive AR where
  | t (n : Nat)
  | c (n : Nat) (sz : Option Nat)
def compRes (P : Program) (n : Nat) : List ResultVar → Option (List AR)
  | [] => some []
  | .tmp t :: rs => if t < n then (compRes P n rs).map (AR.t t :: ·) else none
  | .cell a ty :: rs => match szT P ty with
    | some s => if a < n then (compRes P n rs).map (AR.c a s :: ·) else none
    | none => none
def tupOf : List AV → AV
  | [v] => v
  | l => .tup l
def afin (P : Program) : List AR → List AV → (AV → H → Prop) → Env → H → Prop
  | [], acc, K, _, h => K (tupOf acc) h
  | .t n :: rs, acc, K, ρ, h => afin P rs (acc ++ [ρ n]) K ρ h
  | .c n sz :: rs, acc, K, ρ, h => aexec P (.ld sz (.t n)) ρ h (fun v _ => afin P rs (acc ++ [v]) K ρ h)
def apost (P : Program) (rs : List AR) (K : AV → H → Prop) : Post
  | .normal, ρ, h => afin P rs [] K ρ h
  | .ret, ρ, h => afin P rs [] K ρ h
  | _, _, _ => False
def envOf (l : List AV) : Env := fun t => (l[t]?).getD .junk
def oneRes (tmps : Array Value) : ResultVar → Sem Value
  | .tmp t => pure (tmps.getD t undef)
  | .cell x t => do loadVar t (← asAddr (tmps.getD x undef))
theorem results_eq (fn : Func) (tmps : Array Value) : results fn tmps = (do
    let vs ← List.toArray <$> fn.results.toList.mapM (oneRes tmps)
    pure (if h : vs.size = 1 then vs[0] else .tuple vs)) := by
  have e : fn.results.mapM (oneRes tmps) = List.toArray <$> fn.results.toList.mapM (oneRes tmps) := by
    rw [← List.mapM_toArray, Array.toArray_toList]
  rw [← e]
  rfl
theorem res_sound {a : Act} {w : World} {h : H} {ρ : Env} {K : AV → H → Prop} : ∀ (rv : List ResultVar) (rs : List AR) (acc : List AV) (vs : List Value) (μ : Mu), RelT n μ ρ a → Rep base w0 μ w h → compRes P n rv = some rs → afin P rs acc K ρ h → RelA μ acc vs →
    ∃ μ' l us, μ.le μ' ∧ RelA μ' l (vs ++ us) ∧ Rep base w0 μ' w h ∧ K (tupOf l) h ∧ us.length = rv.length ∧ (rv.mapM (oneRes a.tmps)).run P w = .ok us w
  | [], rs, acc, vs, μ, hT, R, hc, hf, hr => by
    simp only [compRes] at hc
    injection hc with hc
    subst hc
    exact ⟨μ, acc, [], μ.le_refl, by simpa using hr, R, hf, rfl, by simp⟩
  | .tmp t :: rv, rs, acc, vs, μ, hT, R, hc, hf, hr => by
    simp only [compRes] at hc
    split at hc
    · rename_i ht
      obtain ⟨rs', hrs, rfl⟩ := Option.map_eq_some_iff.1 hc
      simp only [afin] at hf
      obtain ⟨μ', l, us, h0, h1, hR, h2, h3, h4⟩ := res_sound rv rs' _ (vs ++ [a.tmps.getD t undef]) μ hT R hrs hf (hr.append ((RelA.nil μ).cons (hT.2 t ht)))
      refine ⟨μ', l, a.tmps.getD t undef :: us, h0, by simpa using h1, hR, h2, by simp [h3], ?_⟩
      rw [List.mapM_cons, Sem.run_bind]
      show ((Sem.run P (pure (a.tmps.getD t undef)) w).andThen _) = _
      rw [Sem.run_pure, Result.andThen_ok, Sem.run_bind, h4]
      rfl
    · cases hc
  | .cell x ty :: rv, rs, acc, vs, μ, hT, R, hc, hf, hr => by
    simp only [compRes] at hc
    split at hc
    · rename_i s hs
      split at hc
      · rename_i ht
        obtain ⟨rs', hrs, rfl⟩ := Option.map_eq_some_iff.1 hc
        simp only [afin] at hf
        have hf2 : aexec P (.ld s (.t x)) ρ h (fun v h' => h' = h ∧ afin P rs' (acc ++ [v]) K ρ h) := by
          rcases det (P := P) (o := .ld s (.t x)) rfl ρ h with ⟨v, hv⟩ | hv
          · exact (hv _).2 ⟨rfl, (hv _).1 hf⟩
          · exact absurd hf (hv _)
        obtain ⟨v, hrun, μ', u, h', q1, q2, q3, rfl, q4⟩ := load_any (P := P) (K := fun v h' => h' = h ∧ afin P rs' (acc ++ [v]) K ρ h) hs (hT.2 x ht) R hf2
        obtain ⟨μ2, l, us, h0, h1, hR, h2, h3, h4⟩ := res_sound rv rs' _ (vs ++ [v]) μ' (hT.mono q1) q3 hrs q4 ((hr.mono q1).append ((RelA.nil μ').cons q2))
        refine ⟨μ2, l, v :: us, Mu.le_trans q1 h0, by simpa using h1, hR, h2, by simp [h3], ?_⟩
        have hl : (oneRes a.tmps (.cell x ty)).run P w = .ok v w := by
          unfold oneRes
          simp only
          cases hv : a.tmps.getD x undef with
          | pointer ad =>
            rw [hv] at hrun
            cases ad with
            | none => simp [Instr.loadAt, Instr.sureAddr] at hrun
            | some ad => simpa [Instr.loadAt, Instr.sureAddr, asAddr] using hrun
          | _ => rw [hv] at hrun; simp [Instr.loadAt, Instr.sureAddr] at hrun
        rw [List.mapM_cons, Sem.run_bind, hl, Result.andThen_ok, Sem.run_bind, h4]
        rfl
      · cases hc
    · cases hc
theorem acalls_of (hm : P.follows .mixedOrders = true) {f : FuncId} {fn : Func} {c : Code} {ac : AC} {rs : List AR} {avs : List AV} {h : H} {K : AV → H → Prop} (hf : P.funcs[f]? = some fn) (hb : fn.body = some c) (hname : (fn.name == "runtime.NumGoroutine") = false)
    (hc : compile P fn.ntmps c = some ac) (hrs : compRes P fn.ntmps fn.results.toList = some rs) (hlen : avs.length ≤ fn.ntmps) (hx : awp P ac (apost P rs K) (envOf avs) h) : ACalls P f avs h K := by
  intro base w0 μ w vs R hr
  refine .inl ⟨?_, ?_⟩
  · have hname' : ¬ fn.name = "runtime.NumGoroutine" := by simpa using hname
    simp [callFunc, hf, hname', hb]
  · refine calls_of_wp hf hb (code_sound (base := base) (w0 := w0) (μ0 := μ) hm c ac _ _ (envOf avs) h _ w hc hx ⟨μ, μ.le_refl, ⟨?_, fun t ht => ?_⟩, R, rfl⟩ ?_)
    · have := hr.1
      simp
      omega
    · have hl := hr.1
      unfold envOf
      rcases Nat.lt_or_ge t avs.length with h1 | h1
      · have hv : t < vs.length := by omega
        have e : (vs.toArray ++ Array.replicate (fn.ntmps - vs.toArray.size) undef).getD t undef = vs[t] := by
          simp [Array.getD_eq_getD_getElem?, Array.getElem?_append, hv]
        rw [e, List.getElem?_eq_getElem h1]
        exact hr.2 t _ _ (List.getElem?_eq_getElem h1) (List.getElem?_eq_getElem hv)
      · rw [List.getElem?_eq_none h1]
        exact .junk _
    · rintro e a' w' ⟨ρ', h', ⟨μ', q1, q2, q3, q4⟩, hQ⟩
      have fin : afin P rs [] K ρ' h' → a'.defers = [] ∧ ∃ v, (results fn a'.tmps).run P w' = .ok v w' ∧ ∃ v_1, Ending.returned v = Ending.returned v_1 ∧ ∃ μ'_1 r h'', μ.le μ'_1 ∧ Rel μ'_1 r v_1 ∧ Rep base w0 μ'_1 w' h'' ∧ K r h'' := by
        intro hfin
        obtain ⟨μ2, l, us, h0, h1, hR, h2, h3, h4⟩ := res_sound fn.results.toList rs [] [] μ' q2 q3 hrs hfin (RelA.nil _)
        simp only [List.nil_append] at h1
        have hrun : (results fn a'.tmps).run P w' = .ok (if h : us.length = 1 then us[0] else .tuple us.toArray) w' := by
          rw [results_eq, Sem.run_bind, Sem.run_map, h4]
          simp only [Result.andThen_ok, Sem.run_pure]
          rfl
        refine ⟨q4, _, hrun, _, rfl, μ2, tupOf l, h', Mu.le_trans q1 h0, ?_, hR, h2⟩
        by_cases hu : us.length = 1
        · rw [dif_pos hu]
          clear hrun
          obtain ⟨u, rfl⟩ := List.length_eq_one_iff.1 hu
          obtain ⟨x, rfl⟩ := List.length_eq_one_iff.1 h1.1
          exact h1.2 0 x u rfl rfl
        · rw [dif_neg hu]
          have hl : tupOf l = .tup l := by
            cases l with
            | nil => rfl
            | cons x l =>
              cases l with
              | nil => exact absurd h1.1.symm hu
              | cons y l => rfl
          rw [hl]
          exact h1.tup
      cases e with
      | normal => exact fin hQ
      | ret => exact fin hQ
      | exit id => exact hQ
      | goto l => exact hQ
      | panic ch => exact hQ.elim
      | outgrown => exact hQ.elim
end
end Ab
end Go.Proofs.Ytnmnkocibjdhjaa
namespace Go.Proofs.Ytnmnkocibjdhjaa
namespace Ab
open Go Go.RowKit

section
variable {P : Program} {ρ : Env} {h : H} {K : AV → H → Prop}
def bAnd (k : IntKind) (a b : Int) : Int := k.wrap (BitVec.ofInt k.bits a &&& BitVec.ofInt k.bits b).toNat
def bOr (k : IntKind) (a b : Int) : Int := k.wrap (BitVec.ofInt k.bits a ||| BitVec.ofInt k.bits b).toNat
def bXor (k : IntKind) (a b : Int) : Int := k.wrap (BitVec.ofInt k.bits a ^^^ BitVec.ofInt k.bits b).toNat
def bCom (k : IntKind) (n : Int) : Int := k.wrap (BitVec.ofInt k.bits (if k.signed then -1 else k.max) ^^^ BitVec.ofInt k.bits n).toNat
def bShl (k : IntKind) (a : Int) (n : Nat) : Int := k.wrap (a * 2 ^ (min n k.bits))
def bShr (k : IntKind) (a : Int) (n : Nat) : Int := a.fdiv (2 ^ (min n k.bits))
def H.get (h : H) (id off : Nat) : Option AV := (h.rows id).bind fun r => r.cells[off]?
def H.gets (h : H) (id off n : Nat) : Option (List AV) := (h.rows id).bind fun r => if off + n ≤ r.cells.length then some ((r.cells.drop off).take n) else none

def vK (v : AV) (h : H) (K : AV → H → Prop) : Prop := K v h
def pickK (c a b : AV) (h : H) (K : AV → H → Prop) : Prop := match c with
  | .bool t => K (if t = true then a else b) h
  | _ => False
def binK (op : BinOp) (x y : AV) (h : H) (K : AV → H → Prop) : Prop := abinV op x y (fun v => K v h)
def beqK (ng : Bool) (x y : AV) (h : H) (K : AV → H → Prop) : Prop := match x, y with
  | .bool a, .bool b => K (.bool (if ng then a != b else a == b)) h
  | _, _ => False
def peqK (ng : Bool) (x y : AV) (h : H) (K : AV → H → Prop) : Prop := match x, y with
  | .ptr none, .ptr b => K (.bool (ng != b.isNone)) h
  | .ptr (some _), .ptr none => K (.bool ng) h
  | _, _ => False
def idxSK (x i : AV) (h : H) (K : AV → H → Prop) : Prop := match x, i with
  | .str s, .int _ n => 0 ≤ n ∧ ∃ b, s[n.toNat]? = some b ∧ K (.int .u8 b.toNat) h
  | _, _ => False
def seqK (ng : Bool) (x y : AV) (h : H) (K : AV → H → Prop) : Prop := match x, y with
  | .str a, .str b => K (.bool (ng != (a == b))) h
  | _, _ => False
def catK (x y : AV) (h : H) (K : AV → H → Prop) : Prop := match x, y with
  | .str a, .str b => a.size + b.size < 9223372036854775808 ∧ K (.str (a ++ b)) h
  | _, _ => False
def eqsK (ng : Bool) (b : Option Bool) (h : H) (K : AV → H → Prop) : Prop := match b with
  | some b => K (.bool (ng != b)) h
  | none => False
def aeqK (ng : Bool) (n : Nat) (x y : AV) (h : H) (K : AV → H → Prop) : Prop := match x, y with
  | .agg l, .agg m => l.length = n ∧ m.length = n ∧ eqsK ng (eqs l m) h K
  | _, _ => False
def gldK (o : Option Nat) (h : H) (K : AV → H → Prop) : Prop := match o with
  | some n => K (.int .u8 n) h
  | none => False
def unK (op : UnOp) (x : AV) (h : H) (K : AV → H → Prop) : Prop := match op, x with
  | .neg, .int k n => K (.int k (k.wrap (0 - n))) h
  | .xor, .int k n => K (.int k (k.wrap (BitVec.ofInt k.bits (if k.signed then -1 else k.max) ^^^ BitVec.ofInt k.bits n).toNat)) h
  | .not, .bool b => K (.bool (!b)) h
  | _, _ => False
def cvIK (k : IntKind) (x : AV) (h : H) (K : AV → H → Prop) : Prop := match x with
  | .int _ n => K (.int k (k.wrap n)) h
  | _ => False
def idxK (z : Nat) (x i : AV) (h : H) (K : AV → H → Prop) : Prop := match x, i with
  | .sl (some id) off len _, .int _ n => 0 ≤ n ∧ n < len ∧ K (.ptr (some (id, off + n.toNat * z))) h
  | _, _ => False
def idxAK (m z : Nat) (x i : AV) (h : H) (K : AV → H → Prop) : Prop := match x, i with
  | .ptr (some (id, off)), .int _ n => 0 ≤ n ∧ n < m ∧ K (.ptr (some (id, off + n.toNat * z))) h
  | .gp g off, .int _ n => 0 ≤ n ∧ n < m ∧ K (.gp g (off + n.toNat * z)) h
  | _, _ => False
def fldK (off : Nat) (x : AV) (h : H) (K : AV → H → Prop) : Prop := match x with
  | .ptr (some (id, o)) => K (.ptr (some (id, o + off))) h
  | _ => False
def getK (v : Option AV) (h : H) (K : AV → H → Prop) : Prop := match v with
  | some v => K v h
  | none => False
def getsK (v : Option (List AV)) (h : H) (K : AV → H → Prop) : Prop := match v with
  | some l => K (.agg l) h
  | none => False
def ldK (sz : Option Nat) (p : AV) (h : H) (K : AV → H → Prop) : Prop := match p with
  | .ptr (some (id, off)) => match sz with
    | none => getK (h.get id off) h K
    | some n => getsK (h.gets id off n) h K
  | .gp g off => match sz with
    | none => gldK (gcell g off) h K
    | some _ => False
  | _ => False
def putK (r : Option Row) (id off n : Nat) (l : List AV) (h : H) (K : AV → H → Prop) : Prop := match r with
  | some r => r.own ≠ none ∧ off + n ≤ r.cells.length ∧ K .junk (h.set id { r with cells := putAt r.cells off l })
  | none => False
def stK (n : Nat) (p v : AV) (h : H) (K : AV → H → Prop) : Prop := match p with
  | .ptr (some (id, off)) => v.held = true ∧ v.cells.length = n ∧ (v.cells.all (·.one)) = true ∧ putK (h.rows id) id off n v.cells h K
  | _ => False
def nnK (x : AV) (h : H) (K : AV → H → Prop) : Prop := match x with
  | .ptr (some p) => K (.ptr (some p)) h
  | _ => False
def prtK (sz : Option Nat) (off : Nat) (x : AV) (h : H) (K : AV → H → Prop) : Prop := match x with
  | .agg l => match sz with
    | none => getK l[off]? h K
    | some n => off + n ≤ l.length ∧ K (.agg ((l.drop off).take n)) h
  | _ => False
def natK (v : AV) (K : Nat → Prop) : Prop := match v with
  | .int _ n => 0 ≤ n ∧ K n.toNat
  | _ => False
def slcK (z : Nat) (x : AV) (lo hi : Option AV) (h : H) (K : AV → H → Prop) : Prop := match x with
  | .sl id off len cap => (match hi with | none => fun (k : Nat → Prop) => k len | some v => natK v) fun b => (match lo with | none => fun (k : Nat → Prop) => k 0 | some v => natK v) fun a =>
      a ≤ b ∧ (b ≤ len ∨ ∃ c, cap = some c ∧ b ≤ c) ∧ (∀ i, id = some i → ∃ r, h.rows i = some r ∧ (r.own = none ∨ r.esz = z)) ∧ K (.sl id (off + a * z) (b - a) (cap.map (· - a))) h
  | _ => False
def mkK (e : TypeId) (z b : Nat) (zr : List AV) (l c : AV) (h : H) (K : AV → H → Prop) : Prop := match l, c with
  | .int _ l, .int _ c => 0 ≤ l ∧ l ≤ c ∧ b * c ≤ 140737488355328 ∧ K (.sl (some h.next) 0 l.toNat (some c.toNat)) (h.new ⟨some e, z, zs zr c.toNat⟩)
  | _, _ => False
def aggK (l : Option (List AV)) (h : H) (K : AV → H → Prop) : Prop := match l with
  | some l => K (.agg l) h
  | none => False
def bslK (l : Option (List AV)) (e : TypeId) (z n : Nat) (h : H) (K : AV → H → Prop) : Prop := match l with
  | some l => K (.sl (some h.next) 0 n (some n)) (h.new ⟨some e, z, l⟩)
  | none => False
def boxK (e : TypeId) (x : AV) (h : H) (K : AV → H → Prop) : Prop := x.held = true ∧ K (.ptr (some (h.next, 0))) (h.new ⟨some e, x.cells.length, x.cells⟩)
def lenK (str : Bool) (x : AV) (h : H) (K : AV → H → Prop) : Prop := match str, x with
  | false, .sl _ _ n _ => K (.int .i64 n) h
  | true, .str s => K (.int .i64 s.size) h
  | _, _ => False
def capoK (x : AV) (h : H) (K : AV → H → Prop) : Prop := match x with
  | .sl _ _ _ (some n) => K (.int .i64 n) h
  | _ => False
def mnxK (mx : Bool) (x : AV) (ys : List AV) (h : H) (K : AV → H → Prop) : Prop := match x with
  | .int k a => mnxs mx k a ys fun v => K v h
  | _ => False
def appK (e : TypeId) (z b : Nat) (s x : AV) (h : H) (K : AV → H → Prop) : Prop := match s, x with
  | .sl ids offs n cs, .sl idx offx m _ =>
    (m = 0 → K (.sl ids offs n cs) h) ∧
    (m ≠ 0 → ∃ j r, idx = some j ∧ h.rows j = some r ∧ offx + m * z ≤ r.cells.length ∧ (((r.cells.drop offx).take (m * z)).all (·.one)) = true ∧ (n + m) * b ≤ 140737488355328 ∧ n + m ≤ 140737488355328 ∧
      ((ids = none ∧ n = 0 ∧ K (.sl (some h.next) 0 m none) (h.new ⟨some e, z, (r.cells.drop offx).take (m * z)⟩)) ∨
       (∃ i q, ids = some i ∧ h.rows i = some q ∧ q.own = some e ∧ q.esz = z ∧ offs = 0 ∧ n * z ≤ q.cells.length ∧
        K (.sl (some h.next) 0 (n + m) none) ((h.del ids).new ⟨some e, z, q.cells.take (n * z) ++ (r.cells.drop offx).take (m * z)⟩))))
  | _, _ => False
def cpyK (z : Nat) (d s : AV) (h : H) (K : AV → H → Prop) : Prop := match d, s with
  | .sl idd offd n _, .sl ids offs m _ =>
    (min m n = 0 → K (.int .i64 0) h) ∧
    (min m n ≠ 0 → ∃ i q j r, idd = some i ∧ h.rows i = some q ∧ q.own ≠ none ∧ ids = some j ∧ h.rows j = some r ∧ offs + min m n * z ≤ r.cells.length ∧ offd + min m n * z ≤ q.cells.length ∧
      (((r.cells.drop offs).take (min m n * z)).all (·.one)) = true ∧ K (.int .i64 (min m n)) (h.set i { q with cells := putAt q.cells offd ((r.cells.drop offs).take (min m n * z)) }))
  | _, _ => False
def extK (x : AV) (i : Nat) (h : H) (K : AV → H → Prop) : Prop := match x with
  | .tup l => getK l[i]? h K
  | _ => False
def callVK (P : Program) (f : AV) (asx : List AV) (h : H) (K : AV → H → Prop) : Prop := match f with
  | .fn f first caps => ACalls P f (first ++ asx ++ caps) h K
  | _ => False
def condK (v : AV) (X Y : Env → H → Prop) (ρ : Env) (h : H) : Prop := match v with
  | .bool t => (t = true → X ρ h) ∧ (t = false → Y ρ h)
  | _ => False
def grdK (P : Program) (v : AV) (b : Bool) (o : AOp) (ρ : Env) (h : H) (K : AV → H → Prop) : Prop := match v with
  | .bool c => if c = b then aexec P o ρ h K else K (.tup []) h
  | .tup [] => K (.tup []) h
  | _ => False
/-- What follows an operation. -/
def kOps (P : Program) (os : List AOper) (Q : Env → H → Prop) (ρ : Env) (d : Option Nat) (v : AV) (h : H) : Prop := aops P os Q (aput ρ d v) h
def kChk (P : Program) (cs : List (Option Nat × Option (Nat × Bool) × AOp)) (os : List AOper) (Q : Env → H → Prop) (ρ : Env) (d : Option Nat) (v : AV) (h : H) : Prop := achks P ρ h cs ∧ aops P os Q (aput ρ d v) h
def kFin (P : Program) (rs : List AR) (acc : List AV) (K : AV → H → Prop) (ρ : Env) (h0 : H) (v : AV) (_ : H) : Prop := afin P rs (acc ++ [v]) K ρ h0

-- an operation, by its kind
theorem x_mv {x : AO} : aexec P (.mv x) ρ h K = vK (aev ρ x) h K := _root_.id rfl
theorem x_pick {c a b : AO} : aexec P (.pick c a b) ρ h K = pickK (aev ρ c) (aev ρ a) (aev ρ b) h K := _root_.id rfl
theorem x_bin {op : BinOp} {x y : AO} : aexec P (.bin op x y) ρ h K = binK op (aev ρ x) (aev ρ y) h K := _root_.id rfl
theorem x_beq {ng : Bool} {x y : AO} : aexec P (.beq ng x y) ρ h K = beqK ng (aev ρ x) (aev ρ y) h K := _root_.id rfl
theorem x_peq {ng : Bool} {x y : AO} : aexec P (.peq ng x y) ρ h K = peqK ng (aev ρ x) (aev ρ y) h K := _root_.id rfl
theorem x_seq {ng : Bool} {x y : AO} : aexec P (.seq ng x y) ρ h K = seqK ng (aev ρ x) (aev ρ y) h K := _root_.id rfl
theorem x_cat {x y : AO} : aexec P (.cat x y) ρ h K = catK (aev ρ x) (aev ρ y) h K := _root_.id rfl
theorem x_aeq {ng : Bool} {n : Nat} {x y : AO} : aexec P (.aeq ng n x y) ρ h K = aeqK ng n (aev ρ x) (aev ρ y) h K := by
  apply propext
  simp only [aexec]
  generalize aev ρ x = p
  generalize aev ρ y = q
  cases p <;> try exact Iff.rfl
  cases q <;> try exact Iff.rfl
  rename_i l m
  simp only [aeqK]
  cases eqs l m <;> simp [eqsK]
theorem x_idxS {x y : AO} : aexec P (.idxS x y) ρ h K = idxSK (aev ρ x) (aev ρ y) h K := _root_.id rfl
theorem x_un {op : UnOp} {x : AO} : aexec P (.un op x) ρ h K = unK op (aev ρ x) h K := _root_.id rfl
theorem x_cvI {k : IntKind} {x : AO} : aexec P (.cvI k x) ρ h K = cvIK k (aev ρ x) h K := _root_.id rfl
theorem x_idx {z : Nat} {x i : AO} : aexec P (.idx z x i) ρ h K = idxK z (aev ρ x) (aev ρ i) h K := _root_.id rfl
theorem x_idxA {m z : Nat} {x i : AO} : aexec P (.idxA m z x i) ρ h K = idxAK m z (aev ρ x) (aev ρ i) h K := _root_.id rfl
theorem x_fld {off : Nat} {x : AO} : aexec P (.fld off x) ρ h K = fldK off (aev ρ x) h K := _root_.id rfl
theorem x_ld {sz : Option Nat} {p : AO} : aexec P (.ld sz p) ρ h K = ldK sz (aev ρ p) h K := by
  apply propext
  simp only [aexec]
  generalize aev ρ p = q
  cases q <;> try exact Iff.rfl
  case gp g off =>
    simp only [ldK]
    cases sz with
    | none =>
      simp only
      cases hg : gcell g off <;> simp [gldK]
    | some n => exact Iff.rfl
  rename_i o
  rcases o with _ | ⟨id, off⟩
  · exact Iff.rfl
  · simp only [ldK, H.get, H.gets]
    cases sz with
    | none =>
      cases hr : h.rows id with
      | none => simp [getK]
      | some r =>
        cases hl : r.cells[off]? with
        | none => simp [getK, hl]
        | some v => simp [getK, hl]
    | some n =>
      cases hr : h.rows id with
      | none => simp [getsK]
      | some r =>
        by_cases hl : off + n ≤ r.cells.length
        · simp [getsK, hl]
        · simp [getsK, hl]
theorem x_st {n : Nat} {p v : AO} : aexec P (.st n p v) ρ h K = stK n (aev ρ p) (aev ρ v) h K := by
  apply propext
  simp only [aexec]
  generalize aev ρ p = q
  cases q <;> try exact Iff.rfl
  rename_i o
  rcases o with _ | ⟨id, off⟩
  · exact Iff.rfl
  · simp only [stK]
    cases hr : h.rows id with
    | none => simp [putK]
    | some r =>
      simp only [putK, Option.some.injEq, exists_eq_left']
      constructor
      · rintro ⟨h1, h2, h3, h4, h5, h6⟩; exact ⟨h2, h3, h5, h1, h4, h6⟩
      · rintro ⟨h1, h2, h3, h4, h5, h6⟩; exact ⟨h4, h1, h2, h5, h3, h6⟩
theorem x_nn {x : AO} : aexec P (.nn x) ρ h K = nnK (aev ρ x) h K := _root_.id rfl
theorem x_prt {sz : Option Nat} {off : Nat} {x : AO} : aexec P (.prt sz off x) ρ h K = prtK sz off (aev ρ x) h K := by
  apply propext
  simp only [aexec]
  generalize aev ρ x = q
  cases q <;> try exact Iff.rfl
  rename_i l
  simp only [prtK]
  cases sz with
  | none =>
    cases hl : l[off]? with
    | none => simp [getK]
    | some v => simp [getK]
  | some n => exact Iff.rfl
theorem x_slc {z : Nat} {x : AO} {lo hi : Option AO} : aexec P (.slc z x lo hi) ρ h K = slcK z (aev ρ x) (lo.map (aev ρ)) (hi.map (aev ρ)) h K := by
  simp only [aexec]
  generalize aev ρ x = q
  cases q <;> try rfl
  cases lo <;> cases hi <;> rfl
theorem x_mk {e : TypeId} {z b : Nat} {zr : List AV} {l c : AO} : aexec P (.mk e z b zr l c) ρ h K = mkK e z b zr (aev ρ l) (aev ρ c) h K := _root_.id rfl
theorem x_bsl {e : TypeId} {z n : Nat} {zr : List AV} {ps : List (Nat × AO)} : aexec P (.bsl e z n zr ps) ρ h K = bslK (abuild (zs zr n) (ps.map fun p => (p.1 * z, z, aev ρ p.2))) e z n h K := by
  apply propext
  simp only [aexec, bslK]
  cases abuild (zs zr n) (ps.map fun p => (p.1 * z, z, aev ρ p.2)) <;> simp
theorem x_bld {zr : List AV} {ps : List (Nat × Nat × AO)} : aexec P (.bld zr ps) ρ h K = aggK (abuild zr (ps.map fun p => (p.1, p.2.1, aev ρ p.2.2))) h K := by
  apply propext
  simp only [aexec, aggK]
  cases abuild zr (ps.map fun p => (p.1, p.2.1, aev ρ p.2.2)) <;> simp
theorem x_box {e : TypeId} {x : AO} : aexec P (.box e x) ρ h K = boxK e (aev ρ x) h K := _root_.id rfl
theorem x_alloc {e : TypeId} {zr : List AV} : aexec P (.alloc e zr) ρ h K = K (.ptr (some (h.next, 0))) (h.new ⟨some e, zr.length, zr⟩) := _root_.id rfl
theorem x_len {s : Bool} {x : AO} : aexec P (.len s x) ρ h K = lenK s (aev ρ x) h K := _root_.id rfl
theorem x_capo {x : AO} : aexec P (.capo x) ρ h K = capoK (aev ρ x) h K := _root_.id rfl
theorem x_mnx {m : Bool} {x : AO} {ys : List AO} : aexec P (.mnx m x ys) ρ h K = mnxK m (aev ρ x) (ys.map (aev ρ)) h K := _root_.id rfl
theorem x_app {e : TypeId} {z b : Nat} {s x : AO} : aexec P (.app e z b s x) ρ h K = appK e z b (aev ρ s) (aev ρ x) h K := _root_.id rfl
theorem x_cpy {z : Nat} {d s : AO} : aexec P (.cpy z d s) ρ h K = cpyK z (aev ρ d) (aev ρ s) h K := _root_.id rfl
theorem x_mkf {f : FuncId} {a b : List AO} : aexec P (.mkf f a b) ρ h K = vK (.fn f (a.map (aev ρ)) (b.map (aev ρ))) h K := _root_.id rfl
theorem x_ext {x : AO} {i : Nat} : aexec P (.ext x i) ρ h K = extK (aev ρ x) i h K := by
  apply propext
  simp only [aexec]
  generalize aev ρ x = q
  cases q <;> try exact Iff.rfl
  rename_i l
  simp only [extK]
  cases hl : l[i]? with
  | none => simp [getK]
  | some v => simp [getK]
theorem x_call {f : FuncId} {asx : List AO} : aexec P (.call f asx) ρ h K = ACalls P f (asx.map (aev ρ)) h K := _root_.id rfl
theorem x_callV {x : AO} {asx : List AO} : aexec P (.callV x asx) ρ h K = callVK P (aev ρ x) (asx.map (aev ρ)) h K := _root_.id rfl
theorem x_bad : aexec P .bad ρ h K = False := _root_.id rfl
-- steps
theorem s_none {o : AOp} : astep P none o ρ h K = aexec P o ρ h K := _root_.id rfl
theorem s_some {t : Nat} {b : Bool} {o : AOp} : astep P (some (t, b)) o ρ h K = grdK P (ρ t) b o ρ h K := _root_.id rfl
theorem s_nil {Q : Env → H → Prop} : aops P [] Q ρ h = Q ρ h := _root_.id rfl
theorem s_cons {d : Option Nat} {g : Option (Nat × Bool)} {op : AOp} {os : List AOper} {Q : Env → H → Prop} : aops P (⟨d, g, op, []⟩ :: os) Q ρ h = astep P g op ρ h (kOps P os Q ρ d) := by
  simp only [aops, achks, true_and]
  rfl
theorem s_chks {d : Option Nat} {g : Option (Nat × Bool)} {op : AOp} {c : Option Nat × Option (Nat × Bool) × AOp} {cs : List (Option Nat × Option (Nat × Bool) × AOp)} {os : List AOper} {Q : Env → H → Prop} : aops P (⟨d, g, op, c :: cs⟩ :: os) Q ρ h = astep P g op ρ h (kChk P (c :: cs) os Q ρ d) := _root_.id rfl
theorem w_skip {Q : Post} : awp P .skip Q ρ h = Q .normal ρ h := _root_.id rfl
theorem w_reg {os : List AOper} {Q : Post} : awp P (.reg os) Q ρ h = aops P os (Q .normal) ρ h := _root_.id rfl
theorem w_regt {os : List AOper} {t : AT} {Q : Post} : awp P (.regt os t) Q ρ h = aops P os (atP P (Q .normal) t) ρ h := _root_.id rfl
theorem tP_fin {Q : Env → H → Prop} : atP P Q .fin ρ h = Q ρ h := _root_.id rfl
theorem tP_no {Q : Env → H → Prop} : atP P Q .no ρ h = True := _root_.id rfl
theorem tP_alt {x : AOper} {ns : List AOper} {t r : AT} {Q : Env → H → Prop} : atP P Q (.alt x ns t r) ρ h = (aops P (x :: ns) (atP P Q t) ρ h ∧ atP P Q r ρ h) := _root_.id rfl
theorem w_seq {a b : AC} {Q : Post} : awp P (.seq a b) Q ρ h = awp P a (athen (awp P b Q) Q) ρ h := _root_.id rfl
theorem w_cond {c : AO} {x y : AC} {Q : Post} : awp P (.cond c x y) Q ρ h = condK (aev ρ c) (awp P x Q) (awp P y Q) ρ h := by
  apply propext
  simp only [awp]
  generalize aev ρ c = q
  cases q <;> simp [condK]
theorem w_block {id : Nat} {c : AC} {Q : Post} : awp P (.block id c) Q ρ h = awp P c (ablk id Q) ρ h := _root_.id rfl
theorem w_exit {id : Nat} {Q : Post} : awp P (.exit id) Q ρ h = Q (.exit id) ρ h := _root_.id rfl
theorem w_ret {Q : Post} : awp P .ret Q ρ h = Q .ret ρ h := _root_.id rfl
-- ways out
theorem t_normal {n : Env → H → Prop} {Q : Post} : athen n Q .normal ρ h = n ρ h := _root_.id rfl
theorem t_exit {n : Env → H → Prop} {Q : Post} {id : Nat} : athen n Q (.exit id) ρ h = Q (.exit id) ρ h := _root_.id rfl
theorem t_ret {n : Env → H → Prop} {Q : Post} : athen n Q .ret ρ h = Q .ret ρ h := _root_.id rfl
theorem b_normal {id : Nat} {Q : Post} : ablk id Q .normal ρ h = Q .normal ρ h := _root_.id rfl
theorem b_ret {id : Nat} {Q : Post} : ablk id Q .ret ρ h = Q .ret ρ h := _root_.id rfl
theorem b_exit {id id' : Nat} {Q : Post} : ablk id Q (.exit id') ρ h = if id' = id then Q .normal ρ h else Q (.exit id') ρ h := _root_.id rfl
theorem p_normal {rs : List AR} : apost P rs K .normal ρ h = afin P rs [] K ρ h := _root_.id rfl
theorem p_ret {rs : List AR} : apost P rs K .ret ρ h = afin P rs [] K ρ h := _root_.id rfl
theorem f_nil {acc : List AV} : afin P [] acc K ρ h = K (tupOf acc) h := _root_.id rfl
theorem f_t {n : Nat} {rs : List AR} {acc : List AV} : afin P (.t n :: rs) acc K ρ h = afin P rs (acc ++ [ρ n]) K ρ h := _root_.id rfl
theorem f_c {n : Nat} {sz : Option Nat} {rs : List AR} {acc : List AV} : afin P (.c n sz :: rs) acc K ρ h = ldK sz (ρ n) h (kFin P rs acc K ρ h) := x_ld
-- values
theorem e_t {n : Nat} : aev ρ (.t n) = ρ n := _root_.id rfl
theorem e_c {v : AV} : aev ρ (.c v) = v := _root_.id rfl
theorem e_f {f : FuncId} : aev ρ (.f f) = .fn f [] [] := _root_.id rfl
theorem u_some {d : Nat} {v : AV} : aput ρ (some d) v = upd ρ d v := _root_.id rfl
theorem u_none {v : AV} : aput ρ none v = ρ := _root_.id rfl
theorem u_at {d t : Nat} {v : AV} : upd ρ d v t = if t = d then v else ρ t := _root_.id rfl
theorem env_at {l : List AV} {t : Nat} : envOf l t = (l[t]?).getD .junk := _root_.id rfl
-- what remains where the values are known
theorem k_v {v : AV} : vK v h K = K v h := _root_.id rfl
theorem k_pick {t : Bool} {a b : AV} : pickK (.bool t) a b h K = K (if t = true then a else b) h := _root_.id rfl
theorem k_add {k : IntKind} {a b : Int} : binK .add (.int k a) (.int k b) h K = K (.int k (k.wrap (a + b))) h := by simp [binK, abinV, abin]
theorem k_sub {k : IntKind} {a b : Int} : binK .sub (.int k a) (.int k b) h K = K (.int k (k.wrap (a - b))) h := by simp [binK, abinV, abin]
theorem k_mul {k : IntKind} {a b : Int} : binK .mul (.int k a) (.int k b) h K = K (.int k (k.wrap (a * b))) h := by simp [binK, abinV, abin]
theorem k_quo {k : IntKind} {a b : Int} : binK .quo (.int k a) (.int k b) h K = (b ≠ 0 ∧ K (.int k (k.wrap (a.tdiv b))) h) := by simp [binK, abinV, abin]
theorem k_rem {k : IntKind} {a b : Int} : binK .rem (.int k a) (.int k b) h K = (b ≠ 0 ∧ K (.int k (a.tmod b)) h) := by simp [binK, abinV, abin]
theorem k_and {k : IntKind} {a b : Int} : binK .and (.int k a) (.int k b) h K = K (.int k (bAnd k a b)) h := by simp [binK, abinV, abin, bAnd]
theorem k_or {k : IntKind} {a b : Int} : binK .or (.int k a) (.int k b) h K = K (.int k (bOr k a b)) h := by simp [binK, abinV, abin, bOr]
theorem k_xor {k : IntKind} {a b : Int} : binK .xor (.int k a) (.int k b) h K = K (.int k (bXor k a b)) h := by simp [binK, abinV, abin, bXor]
theorem k_shl {k k' : IntKind} {a b : Int} : binK .shl (.int k a) (.int k' b) h K = (0 ≤ b ∧ K (.int k (bShl k a b.toNat)) h) := by simp [binK, abinV, ashift, bShl]
theorem k_shr {k k' : IntKind} {a b : Int} : binK .shr (.int k a) (.int k' b) h K = (0 ≤ b ∧ K (.int k (bShr k a b.toNat)) h) := by simp [binK, abinV, ashift, bShr]
theorem k_eql {k : IntKind} {a b : Int} : binK .eql (.int k a) (.int k b) h K = K (.bool (a == b)) h := by simp [binK, abinV, abin]
theorem k_neq {k : IntKind} {a b : Int} : binK .neq (.int k a) (.int k b) h K = K (.bool (a != b)) h := by simp [binK, abinV, abin]
theorem k_lss {k : IntKind} {a b : Int} : binK .lss (.int k a) (.int k b) h K = K (.bool (decide (a < b))) h := by simp [binK, abinV, abin]
theorem k_leq {k : IntKind} {a b : Int} : binK .leq (.int k a) (.int k b) h K = K (.bool (decide (a ≤ b))) h := by simp [binK, abinV, abin]
theorem k_gtr {k : IntKind} {a b : Int} : binK .gtr (.int k a) (.int k b) h K = K (.bool (decide (b < a))) h := by simp [binK, abinV, abin]
theorem k_geq {k : IntKind} {a b : Int} : binK .geq (.int k a) (.int k b) h K = K (.bool (decide (b ≤ a))) h := by simp [binK, abinV, abin]
theorem k_beq {ng a b : Bool} : beqK ng (.bool a) (.bool b) h K = K (.bool (if ng then a != b else a == b)) h := _root_.id rfl
theorem k_peqn {ng : Bool} {b : Option (Nat × Nat)} : peqK ng (.ptr none) (.ptr b) h K = K (.bool (ng != b.isNone)) h := _root_.id rfl
theorem k_peqs {ng : Bool} {b : Nat × Nat} : peqK ng (.ptr (some b)) (.ptr none) h K = K (.bool ng) h := _root_.id rfl
theorem k_neg {k : IntKind} {n : Int} : unK .neg (.int k n) h K = K (.int k (k.wrap (0 - n))) h := _root_.id rfl
theorem k_not {b : Bool} : unK .not (.bool b) h K = K (.bool (!b)) h := _root_.id rfl
theorem k_com {k : IntKind} {n : Int} : unK .xor (.int k n) h K = K (.int k (bCom k n)) h := _root_.id rfl
theorem k_cvI {k k' : IntKind} {n : Int} : cvIK k (.int k' n) h K = K (.int k (k.wrap n)) h := _root_.id rfl
theorem k_idxS {s : ByteArray} {k : IntKind} {n : Int} : idxSK (.str s) (.int k n) h K = (0 ≤ n ∧ ∃ b, s[n.toNat]? = some b ∧ K (.int .u8 b.toNat) h) := _root_.id rfl
theorem k_idx {z id off len : Nat} {c : Option Nat} {k : IntKind} {n : Int} : idxK z (.sl (some id) off len c) (.int k n) h K = (0 ≤ n ∧ n < len ∧ K (.ptr (some (id, off + n.toNat * z))) h) := _root_.id rfl
theorem k_idxA {m z id off : Nat} {k : IntKind} {n : Int} : idxAK m z (.ptr (some (id, off))) (.int k n) h K = (0 ≤ n ∧ n < m ∧ K (.ptr (some (id, off + n.toNat * z))) h) := _root_.id rfl
theorem k_idxG {m z g off : Nat} {k : IntKind} {n : Int} : idxAK m z (.gp g off) (.int k n) h K = (0 ≤ n ∧ n < m ∧ K (.gp g (off + n.toNat * z)) h) := _root_.id rfl
theorem k_ldG {g off : Nat} : ldK none (.gp g off) h K = gldK (gcell g off) h K := _root_.id rfl
theorem k_gld {n : Nat} : gldK (some n) h K = K (.int .u8 n) h := _root_.id rfl
theorem k_seq {ng : Bool} {a b : ByteArray} : seqK ng (.str a) (.str b) h K = K (.bool (ng != (a == b))) h := _root_.id rfl
theorem k_cat {a b : ByteArray} : catK (.str a) (.str b) h K = (a.size + b.size < 9223372036854775808 ∧ K (.str (a ++ b)) h) := _root_.id rfl
theorem k_aeq {ng : Bool} {n : Nat} {l m : List AV} : aeqK ng n (.agg l) (.agg m) h K = (l.length = n ∧ m.length = n ∧ eqsK ng (eqs l m) h K) := _root_.id rfl
theorem k_eqs {ng b : Bool} : eqsK ng (some b) h K = K (.bool (ng != b)) h := _root_.id rfl
theorem k_fld {off id o : Nat} : fldK off (.ptr (some (id, o))) h K = K (.ptr (some (id, o + off))) h := _root_.id rfl
theorem k_ld1 {id off : Nat} : ldK none (.ptr (some (id, off))) h K = getK (h.get id off) h K := _root_.id rfl
theorem k_ldn {id off n : Nat} : ldK (some n) (.ptr (some (id, off))) h K = getsK (h.gets id off n) h K := _root_.id rfl
theorem k_get {v : AV} : getK (some v) h K = K v h := _root_.id rfl
theorem k_gets {l : List AV} : getsK (some l) h K = K (.agg l) h := _root_.id rfl
theorem k_st {n id off : Nat} {v : AV} : stK n (.ptr (some (id, off))) v h K = (v.held = true ∧ v.cells.length = n ∧ (v.cells.all (·.one)) = true ∧ putK (h.rows id) id off n v.cells h K) := _root_.id rfl
theorem k_sti {id off : Nat} {k : IntKind} {x : Int} : stK 1 (.ptr (some (id, off))) (.int k x) h K = putK (h.rows id) id off 1 [.int k x] h K := by simp [stK, AV.held, AV.cells, AV.one]
theorem k_stb {id off : Nat} {b : Bool} : stK 1 (.ptr (some (id, off))) (.bool b) h K = putK (h.rows id) id off 1 [.bool b] h K := by simp [stK, AV.held, AV.cells, AV.one]
theorem k_stp {id off : Nat} {p : Option (Nat × Nat)} : stK 1 (.ptr (some (id, off))) (.ptr p) h K = putK (h.rows id) id off 1 [.ptr p] h K := by simp [stK, AV.held, AV.cells, AV.one]
theorem k_sts {id off : Nat} {i c : Option Nat} {o n : Nat} : stK 1 (.ptr (some (id, off))) (.sl i o n c) h K = putK (h.rows id) id off 1 [.sl i o n c] h K := by simp [stK, AV.held, AV.cells, AV.one]
theorem k_stf {id off : Nat} {f : FuncId} {a b : List AV} : stK 1 (.ptr (some (id, off))) (.fn f a b) h K = putK (h.rows id) id off 1 [.fn f a b] h K := by simp [stK, AV.held, AV.cells, AV.one]
theorem k_sta {n id off : Nat} {l : List AV} : stK n (.ptr (some (id, off))) (.agg l) h K = (l.length = n ∧ l.all (·.one) = true ∧ putK (h.rows id) id off n l h K) := by simp [stK, AV.held, AV.cells]
theorem k_put {r : Row} {id off n : Nat} {l : List AV} : putK (some r) id off n l h K = (r.own ≠ none ∧ off + n ≤ r.cells.length ∧ K .junk (h.set id { r with cells := putAt r.cells off l })) := _root_.id rfl
theorem k_nn {p : Nat × Nat} : nnK (.ptr (some p)) h K = K (.ptr (some p)) h := _root_.id rfl
theorem k_prt1 {off : Nat} {l : List AV} : prtK none off (.agg l) h K = getK l[off]? h K := _root_.id rfl
theorem k_prtn {off n : Nat} {l : List AV} : prtK (some n) off (.agg l) h K = (off + n ≤ l.length ∧ K (.agg ((l.drop off).take n)) h) := _root_.id rfl
theorem k_slc_a {z : Nat} {id cap : Option Nat} {off len : Nat} {k : IntKind} {n : Int} : slcK z (.sl id off len cap) none (some (.int k n)) h K = (0 ≤ n ∧ (n.toNat ≤ len ∨ ∃ c, cap = some c ∧ n.toNat ≤ c) ∧ (∀ i, id = some i → ∃ r, h.rows i = some r ∧ (r.own = none ∨ r.esz = z)) ∧ K (.sl id off n.toNat cap) h) := by
  simp [slcK, natK]
theorem k_slc_b {z : Nat} {id cap : Option Nat} {off len : Nat} {k : IntKind} {n : Int} : slcK z (.sl id off len cap) (some (.int k n)) none h K = (0 ≤ n ∧ n.toNat ≤ len ∧ (∀ i, id = some i → ∃ r, h.rows i = some r ∧ (r.own = none ∨ r.esz = z)) ∧ K (.sl id (off + n.toNat * z) (len - n.toNat) (cap.map (· - n.toNat))) h) := by
  simp [slcK, natK]
theorem k_slc_c {z : Nat} {id cap : Option Nat} {off len : Nat} {k k' : IntKind} {m n : Int} : slcK z (.sl id off len cap) (some (.int k m)) (some (.int k' n)) h K = (0 ≤ n ∧ 0 ≤ m ∧ m.toNat ≤ n.toNat ∧ (n.toNat ≤ len ∨ ∃ c, cap = some c ∧ n.toNat ≤ c) ∧ (∀ i, id = some i → ∃ r, h.rows i = some r ∧ (r.own = none ∨ r.esz = z)) ∧ K (.sl id (off + m.toNat * z) (n.toNat - m.toNat) (cap.map (· - m.toNat))) h) := rfl
theorem k_mk {e : TypeId} {z b : Nat} {zr : List AV} {k k' : IntKind} {l c : Int} : mkK e z b zr (.int k l) (.int k' c) h K = (0 ≤ l ∧ l ≤ c ∧ b * c ≤ 140737488355328 ∧ K (.sl (some h.next) 0 l.toNat (some c.toNat)) (h.new ⟨some e, z, zs zr c.toNat⟩)) := _root_.id rfl
theorem k_agg {l : List AV} : aggK (some l) h K = K (.agg l) h := _root_.id rfl
theorem k_bsl {l : List AV} {e : TypeId} {z n : Nat} : bslK (some l) e z n h K = K (.sl (some h.next) 0 n (some n)) (h.new ⟨some e, z, l⟩) := _root_.id rfl
theorem k_box {e : TypeId} {x : AV} : boxK e x h K = (x.held = true ∧ K (.ptr (some (h.next, 0))) (h.new ⟨some e, x.cells.length, x.cells⟩)) := _root_.id rfl
theorem k_len {id c : Option Nat} {off n : Nat} : lenK false (.sl id off n c) h K = K (.int .i64 n) h := _root_.id rfl
theorem k_lenS {s : ByteArray} : lenK true (.str s) h K = K (.int .i64 s.size) h := _root_.id rfl
theorem k_cap {id : Option Nat} {off n c : Nat} : capoK (.sl id off n (some c)) h K = K (.int .i64 c) h := _root_.id rfl
theorem k_max {k : IntKind} {a b : Int} : mnxK true (.int k a) [.int k b] h K = K (.int k (max a b)) h := by simp [mnxK, mnxs]
theorem k_min {k : IntKind} {a b : Int} : mnxK false (.int k a) [.int k b] h K = K (.int k (min a b)) h := by simp [mnxK, mnxs]
theorem k_ext {l : List AV} {i : Nat} : extK (.tup l) i h K = getK l[i]? h K := _root_.id rfl
theorem k_callV {f : FuncId} {a b asx : List AV} : callVK P (.fn f a b) asx h K = ACalls P f (a ++ asx ++ b) h K := _root_.id rfl
theorem k_true {X Y : Env → H → Prop} : condK (.bool true) X Y ρ h = X ρ h := by simp [condK]
theorem k_false {X Y : Env → H → Prop} : condK (.bool false) X Y ρ h = Y ρ h := by simp [condK]
theorem k_gtt {o : AOp} : grdK P (.bool true) true o ρ h K = aexec P o ρ h K := _root_.id rfl
theorem k_gtf {o : AOp} : grdK P (.bool true) false o ρ h K = K (.tup []) h := _root_.id rfl
theorem k_gft {o : AOp} : grdK P (.bool false) true o ρ h K = K (.tup []) h := _root_.id rfl
theorem k_gsk {b : Bool} {o : AOp} : grdK P (.tup []) b o ρ h K = K (.tup []) h := _root_.id rfl
theorem k_gff {o : AOp} : grdK P (.bool false) false o ρ h K = aexec P o ρ h K := _root_.id rfl
theorem k_ops {os : List AOper} {Q : Env → H → Prop} {d : Option Nat} {v : AV} : kOps P os Q ρ d v h = aops P os Q (aput ρ d v) h := _root_.id rfl
theorem k_chk {cs : List (Option Nat × Option (Nat × Bool) × AOp)} {os : List AOper} {Q : Env → H → Prop} {d : Option Nat} {v : AV} : kChk P cs os Q ρ d v h = (achks P ρ h cs ∧ aops P os Q (aput ρ d v) h) := _root_.id rfl
theorem k_fin {rs : List AR} {acc : List AV} {h0 : H} {v : AV} : kFin P rs acc K ρ h0 v h = afin P rs (acc ++ [v]) K ρ h0 := _root_.id rfl
theorem k_c0 : achks P ρ h [] = True := _root_.id rfl
theorem k_c1 {c : Option Nat × Option (Nat × Bool) × AOp} {cs : List (Option Nat × Option (Nat × Bool) × AOp)} : achks P ρ h (c :: cs) = (achk P ρ h c ∧ achks P ρ h cs) := _root_.id rfl
theorem k_ck {d : Nat} {g : Option (Nat × Bool)} {o : AOp} : achk P ρ h (some d, g, o) = astep P g o ρ h (fun v _ => v = ρ d) := by
  unfold achk
  simp
theorem k_lit1 {z a : AV} (ha : a.one = true) : abuild (zs [z] 1) [(0, 1, a)] = some [a] := by
  cases a <;> first | rfl | simp [AV.one] at ha
theorem k_lit1i {z : AV} {k : IntKind} {a : Int} : abuild (zs [z] 1) [(0, 1, .int k a)] = some [.int k a] := _root_.id rfl
theorem k_lit2i {z : AV} {k : IntKind} {a b : Int} : abuild (zs [z] 2) [(0, 1, .int k a), (1, 1, .int k b)] = some [.int k a, .int k b] := _root_.id rfl
theorem k_lit3i {z : AV} {k : IntKind} {a b c : Int} : abuild (zs [z] 3) [(0, 1, .int k a), (1, 1, .int k b), (2, 1, .int k c)] = some [.int k a, .int k b, .int k c] := _root_.id rfl
/-- The end: going on, or handing back, with this. -/
def onN (M : Env → H → Prop) (Q : Post) : Post
  | .normal, ρ, h => M ρ h
  | e, ρ, h => Q e ρ h
theorem n_normal {M : Env → H → Prop} {Q : Post} : onN M Q .normal ρ h = M ρ h := _root_.id rfl
theorem n_exit {M : Env → H → Prop} {Q : Post} {id : Nat} : onN M Q (.exit id) ρ h = Q (.exit id) ρ h := _root_.id rfl
theorem n_ret {M : Env → H → Prop} {Q : Post} : onN M Q .ret ρ h = Q .ret ρ h := _root_.id rfl
theorem cond_split {t : Bool} {X Y : Env → H → Prop} (h1 : t = true → X ρ h) (h2 : t = false → Y ρ h) : condK (.bool t) X Y ρ h := ⟨h1, h2⟩
theorem grd_split {c b : Bool} {o : AOp} (h1 : c = b → aexec P o ρ h K) (h2 : c ≠ b → K (.tup []) h) : grdK P (.bool c) b o ρ h K := by
  by_cases e : c = b
  · simp only [grdK, if_pos e]; exact h1 e
  · simp only [grdK, if_neg e]; exact h2 e
end
end Ab
end Go.Proofs.Ytnmnkocibjdhjaa
