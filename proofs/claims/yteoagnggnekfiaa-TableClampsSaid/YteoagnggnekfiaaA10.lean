/- Functions over abstract values: what a call comes to. No condition. -/
import Derived.Test.YteoagnggnekfiaaA9
import Derived.LoopN
namespace Go.Proofs.Yteoagnggnekfiaa
namespace Ab
open Go Go.RowKit

inductive AC where
  | skip
  | reg (os : List AOper)
  | seq (a b : AC)
  | cond (c : AO) (x y : AC)
  | block (id : Nat) (c : AC)
  | loop (c : AC)
  | exit (id : Nat)
  | ret

-- short names, for the printed codes
abbrev o (d : Nat) (p : AOp) : AOper := ⟨some d, none, p, []⟩
abbrev od (p : AOp) : AOper := ⟨none, none, p, []⟩
abbrev mv (d n : Nat) : AOper := ⟨some d, none, .mv (.t n), []⟩
abbrev bn (d : Nat) (q : BinOp) (x y : Nat) : AOper := ⟨some d, none, .bin q (.t x) (.t y), []⟩
abbrev og (d t : Nat) (b : Bool) (p : AOp) : AOper := ⟨some d, some (t, b), p, []⟩
abbrev i64 (n : Int) : AO := .c (.int .i64 n)
abbrev u64 (n : Int) : AO := .c (.int .u64 n)

abbrev Post := Exit → Env → H → Prop
def athen (next : Env → H → Prop) (Q : Post) : Post
  | .normal, ρ, h => next ρ h
  | e, ρ, h => Q e ρ h
def ablk (id : Nat) (Q : Post) : Post
  | .exit id', ρ, h => if id' = id then Q .normal ρ h else Q (.exit id') ρ h
  | e, ρ, h => Q e ρ h
section
variable (P : Program)
def awp : AC → Post → Env → H → Prop
  | .skip, Q, ρ, h => Q .normal ρ h
  | .reg os, Q, ρ, h => aops P os (Q .normal) ρ h
  | .seq a b, Q, ρ, h => awp a (athen (awp b Q) Q) ρ h
  | .cond c x y, Q, ρ, h => ∃ t, aev ρ c = .bool t ∧ (t = true → awp x Q ρ h) ∧ (t = false → awp y Q ρ h)
  | .block id c, Q, ρ, h => awp c (ablk id Q) ρ h
  | .loop c, Q, ρ, h => ∃ (I : Nat → Env → H → Prop) (n : Nat), I n ρ h ∧ ∀ n ρ h, I n ρ h → awp c (athen (fun ρ' h' => ∃ m, m < n ∧ I m ρ' h') Q) ρ h
  | .exit id, Q, ρ, h => Q (.exit id) ρ h
  | .ret, Q, ρ, h => Q .ret ρ h
variable (n : Nat)
def compile : Code → Option AC
  | .skip => some .skip
  | .region _ ops false => (ops.toList.mapM (comp P n ops)).map .reg
  | .region _ ops true => (compDraw P n ops).map .reg
  | .seq a b => match compile a, compile b with
    | some x, some y => some (.seq x y)
    | _, _ => none
  | .cond c a b => match compile a, compile b with
    | some x, some y => some (.cond (cop n c) x y)
    | _, _ => none
  | .block id c => (compile c).map (.block id)
  | .loop c => (compile c).map .loop
  | .exit id => some (.exit id)
  | .ret => some .ret
  | _ => none
end
section
variable {P : Program} {n : Nat} {base : Nat} {w0 : World} {μ0 : Mu}
def Lift (n : Nat) (base : Nat) (w0 : World) (μ0 : Mu) (Q : Post) : Exit → Act → World → Prop := fun e a w => ∃ ρ h, Sim n base w0 μ0 ρ h a w ∧ Q e ρ h
theorem code_sound (hm : P.follows .mixedOrders = true) : ∀ (c : Code) (ac : AC) (Q : Post) (Qr : Exit → Act → World → Prop) (ρ : Env) (h : H) (a : Act) (w : World), compile P n c = some ac → awp P ac Q ρ h → Sim n base w0 μ0 ρ h a w →
    (∀ e a w, Lift n base w0 μ0 Q e a w → Qr e a w) → c.wp P Qr a w := by
  intro c
  induction c with
  | skip =>
    intro ac Q Qr ρ h a w hc hx hs hq
    simp only [compile] at hc
    injection hc with hc
    subst hc
    exact wp_skip (hq _ _ _ ⟨ρ, h, hs, hx⟩)
  | region id ops draw =>
    intro ac Q Qr ρ h a w hc hx hs hq
    cases draw with
    | false =>
      simp only [compile, Option.map_eq_some_iff] at hc
      obtain ⟨os, hos, rfl⟩ := hc
      exact region_sound hos (fun ρ h a w hQ hs => hq _ _ _ ⟨ρ, h, hs, hQ⟩) hx hs
    | true =>
      simp only [compile, Option.map_eq_some_iff] at hc
      obtain ⟨os, hos, rfl⟩ := hc
      exact draw_sound hm hos (fun ρ h a w hQ hs => hq _ _ _ ⟨ρ, h, hs, hQ⟩) hx hs
  | seq x y ihx ihy =>
    intro ac Q Qr ρ h a w hc hx hs hq
    simp only [compile] at hc
    split at hc
    · rename_i ax ay hax hay
      injection hc with hc
      subst hc
      refine wp_seq (ihx ax _ _ ρ h a w hax hx hs ?_)
      rintro e a' w' ⟨ρ', h', hs', hQ⟩
      cases e with
      | normal => exact ihy ay Q Qr ρ' h' a' w' hay hQ hs' hq
      | exit id => exact hq _ _ _ ⟨ρ', h', hs', hQ⟩
      | goto l => exact hq _ _ _ ⟨ρ', h', hs', hQ⟩
      | ret => exact hq _ _ _ ⟨ρ', h', hs', hQ⟩
      | panic ch => exact hq _ _ _ ⟨ρ', h', hs', hQ⟩
      | outgrown => exact hq _ _ _ ⟨ρ', h', hs', hQ⟩
    · cases hc
  | cond c x y ihx ihy =>
    intro ac Q Qr ρ h a w hc hx hs hq
    simp only [compile] at hc
    split at hc
    · rename_i ax ay hax hay
      injection hc with hc
      subst hc
      obtain ⟨t, ht, h1, h2⟩ := hx
      have hev : a.eval c = .bool t := by
        obtain ⟨μ, _, hT, _, _⟩ := hs
        have := cop_rel hT c
        rw [ht] at this
        cases hv : a.eval c <;> rw [hv] at this <;> cases this
        rfl
      cases t with
      | true => exact wp_cond_true hev (ihx ax Q Qr ρ h a w hax (h1 rfl) hs hq)
      | false => exact wp_cond_false hev (ihy ay Q Qr ρ h a w hay (h2 rfl) hs hq)
    · cases hc
  | block id c ih =>
    intro ac Q Qr ρ h a w hc hx hs hq
    simp only [compile, Option.map_eq_some_iff] at hc
    obtain ⟨ax, hax, rfl⟩ := hc
    refine wp_block (ih ax _ _ ρ h a w hax hx hs ?_)
    rintro e a' w' ⟨ρ', h', hs', hQ⟩
    cases e with
    | exit id' =>
      simp only [ablk] at hQ
      simp only [Exit.inBlock]
      split at hQ
      · rename_i he; rw [if_pos he]; exact hq _ _ _ ⟨ρ', h', hs', hQ⟩
      · rename_i he; rw [if_neg he]; exact hq _ _ _ ⟨ρ', h', hs', hQ⟩
    | normal => exact hq _ _ _ ⟨ρ', h', hs', hQ⟩
    | goto l => exact hq _ _ _ ⟨ρ', h', hs', hQ⟩
    | ret => exact hq _ _ _ ⟨ρ', h', hs', hQ⟩
    | panic ch => exact hq _ _ _ ⟨ρ', h', hs', hQ⟩
    | outgrown => exact hq _ _ _ ⟨ρ', h', hs', hQ⟩
  | loop c ih =>
    intro ac Q Qr ρ h a w hc hx hs hq
    simp only [compile, Option.map_eq_some_iff] at hc
    obtain ⟨ax, hax, rfl⟩ := hc
    obtain ⟨I, m0, hI, hround⟩ := hx
    have key : ∀ k m ρ h a w, m < k → I m ρ h → Sim n base w0 μ0 ρ h a w → Code.rounds P c Qr k a w := by
      intro k
      induction k with
      | zero => intro m ρ h a w hk; omega
      | succ k ihk =>
        intro m ρ h a w hk hI hs
        rw [rounds_succ]
        refine ih ax _ _ ρ h a w hax (hround m ρ h hI) hs ?_
        rintro e a' w' ⟨ρ', h', hs', hQ⟩
        cases e with
        | normal =>
          obtain ⟨m', hlt, hI'⟩ := hQ
          exact ihk m' ρ' h' a' w' (by omega) hI' hs'
        | exit id => exact hq _ _ _ ⟨ρ', h', hs', hQ⟩
        | goto l => exact hq _ _ _ ⟨ρ', h', hs', hQ⟩
        | ret => exact hq _ _ _ ⟨ρ', h', hs', hQ⟩
        | panic ch => exact hq _ _ _ ⟨ρ', h', hs', hQ⟩
        | outgrown => exact hq _ _ _ ⟨ρ', h', hs', hQ⟩
    exact wp_loop_rounds (m0 + 1) (key _ m0 ρ h a w (Nat.lt_succ_self _) hI hs)
  | exit id =>
    intro ac Q Qr ρ h a w hc hx hs hq
    simp only [compile] at hc
    injection hc with hc
    subst hc
    exact wp_exit (hq _ _ _ ⟨ρ, h, hs, hx⟩)
  | ret =>
    intro ac Q Qr ρ h a w hc hx hs hq
    simp only [compile] at hc
    injection hc with hc
    subst hc
    exact wp_ret (hq _ _ _ ⟨ρ, h, hs, hx⟩)
  | _ => intro ac Q Qr ρ h a w hc; simp [compile] at hc
/-- What a function answers: slots, and cells. -/
inductive AR where
  | t (n : Nat)
  | c (n : Nat) (sz : Option Nat)
def compRes (P : Program) (n : Nat) : List ResultVar → Option (List AR)
  | [] => some []
  | .tmp t :: rs => if t < n then (compRes P n rs).map (AR.t t :: ·) else none
  | .cell a ty :: rs => match szT P ty with
    | some s => if a < n then (compRes P n rs).map (AR.c a s :: ·) else none
    | none => none
def tupOf : List AV → AV
  | [v] => v
  | l => .tup l
def afin (P : Program) : List AR → List AV → (AV → H → Prop) → Env → H → Prop
  | [], acc, K, _, h => K (tupOf acc) h
  | .t n :: rs, acc, K, ρ, h => afin P rs (acc ++ [ρ n]) K ρ h
  | .c n sz :: rs, acc, K, ρ, h => aexec P (.ld sz (.t n)) ρ h (fun v _ => afin P rs (acc ++ [v]) K ρ h)
def apost (P : Program) (rs : List AR) (K : AV → H → Prop) : Post
  | .normal, ρ, h => afin P rs [] K ρ h
  | .ret, ρ, h => afin P rs [] K ρ h
  | _, _, _ => False
def envOf (l : List AV) : Env := fun t => (l[t]?).getD .junk
def oneRes (tmps : Array Value) : ResultVar → Sem Value
  | .tmp t => pure (tmps.getD t undef)
  | .cell x t => do loadVar t (← asAddr (tmps.getD x undef))
theorem results_eq (fn : Func) (tmps : Array Value) : results fn tmps = (do
    let vs ← List.toArray <$> fn.results.toList.mapM (oneRes tmps)
    pure (if h : vs.size = 1 then vs[0] else .tuple vs)) := by
  have e : fn.results.mapM (oneRes tmps) = List.toArray <$> fn.results.toList.mapM (oneRes tmps) := by
    rw [← List.mapM_toArray, Array.toArray_toList]
  rw [← e]
  rfl
theorem res_sound {a : Act} {w : World} {h : H} {ρ : Env} {K : AV → H → Prop} : ∀ (rv : List ResultVar) (rs : List AR) (acc : List AV) (vs : List Value) (μ : Mu), RelT n μ ρ a → Rep base w0 μ w h → compRes P n rv = some rs → afin P rs acc K ρ h → RelA μ acc vs →
    ∃ μ' l us, μ.le μ' ∧ RelA μ' l (vs ++ us) ∧ Rep base w0 μ' w h ∧ K (tupOf l) h ∧ us.length = rv.length ∧ (rv.mapM (oneRes a.tmps)).run P w = .ok us w
  | [], rs, acc, vs, μ, hT, R, hc, hf, hr => by
    simp only [compRes] at hc
    injection hc with hc
    subst hc
    exact ⟨μ, acc, [], μ.le_refl, by simpa using hr, R, hf, rfl, by simp⟩
  | .tmp t :: rv, rs, acc, vs, μ, hT, R, hc, hf, hr => by
    simp only [compRes] at hc
    split at hc
    · rename_i ht
      obtain ⟨rs', hrs, rfl⟩ := Option.map_eq_some_iff.1 hc
      simp only [afin] at hf
      obtain ⟨μ', l, us, h0, h1, hR, h2, h3, h4⟩ := res_sound rv rs' _ (vs ++ [a.tmps.getD t undef]) μ hT R hrs hf (hr.append ((RelA.nil μ).cons (hT.2 t ht)))
      refine ⟨μ', l, a.tmps.getD t undef :: us, h0, by simpa using h1, hR, h2, by simp [h3], ?_⟩
      rw [List.mapM_cons, Sem.run_bind]
      show ((Sem.run P (pure (a.tmps.getD t undef)) w).andThen _) = _
      rw [Sem.run_pure, Result.andThen_ok, Sem.run_bind, h4]
      rfl
    · cases hc
  | .cell x ty :: rv, rs, acc, vs, μ, hT, R, hc, hf, hr => by
    simp only [compRes] at hc
    split at hc
    · rename_i s hs
      split at hc
      · rename_i ht
        obtain ⟨rs', hrs, rfl⟩ := Option.map_eq_some_iff.1 hc
        simp only [afin] at hf
        have hf2 : aexec P (.ld s (.t x)) ρ h (fun v h' => h' = h ∧ afin P rs' (acc ++ [v]) K ρ h) := by
          rcases det (P := P) (o := .ld s (.t x)) rfl ρ h with ⟨v, hv⟩ | hv
          · exact (hv _).2 ⟨rfl, (hv _).1 hf⟩
          · exact absurd hf (hv _)
        obtain ⟨v, hrun, μ', u, h', q1, q2, q3, rfl, q4⟩ := load_any (P := P) (K := fun v h' => h' = h ∧ afin P rs' (acc ++ [v]) K ρ h) hs (hT.2 x ht) R hf2
        obtain ⟨μ2, l, us, h0, h1, hR, h2, h3, h4⟩ := res_sound rv rs' _ (vs ++ [v]) μ' (hT.mono q1) q3 hrs q4 ((hr.mono q1).append ((RelA.nil μ').cons q2))
        refine ⟨μ2, l, v :: us, Mu.le_trans q1 h0, by simpa using h1, hR, h2, by simp [h3], ?_⟩
        have hl : (oneRes a.tmps (.cell x ty)).run P w = .ok v w := by
          unfold oneRes
          simp only
          cases hv : a.tmps.getD x undef with
          | pointer ad =>
            rw [hv] at hrun
            cases ad with
            | none => simp [Instr.loadAt, Instr.sureAddr] at hrun
            | some ad => simpa [Instr.loadAt, Instr.sureAddr, asAddr] using hrun
          | _ => rw [hv] at hrun; simp [Instr.loadAt, Instr.sureAddr] at hrun
        rw [List.mapM_cons, Sem.run_bind, hl, Result.andThen_ok, Sem.run_bind, h4]
        rfl
      · cases hc
    · cases hc
theorem acalls_of (hm : P.follows .mixedOrders = true) {f : FuncId} {fn : Func} {c : Code} {ac : AC} {rs : List AR} {avs : List AV} {h : H} {K : AV → H → Prop} (hf : P.funcs[f]? = some fn) (hb : fn.body = some c) (hname : (fn.name == "runtime.NumGoroutine") = false)
    (hc : compile P fn.ntmps c = some ac) (hrs : compRes P fn.ntmps fn.results.toList = some rs) (hlen : avs.length ≤ fn.ntmps) (hx : awp P ac (apost P rs K) (envOf avs) h) : ACalls P f avs h K := by
  intro base w0 μ w vs R hr
  refine .inl ⟨?_, ?_⟩
  · have hname' : ¬ fn.name = "runtime.NumGoroutine" := by simpa using hname
    simp [callFunc, hf, hname', hb]
  · refine calls_of_wp hf hb (code_sound (base := base) (w0 := w0) (μ0 := μ) hm c ac _ _ (envOf avs) h _ w hc hx ⟨μ, μ.le_refl, ⟨?_, fun t ht => ?_⟩, R, rfl⟩ ?_)
    · have := hr.1
      simp
      omega
    · have hl := hr.1
      unfold envOf
      rcases Nat.lt_or_ge t avs.length with h1 | h1
      · have hv : t < vs.length := by omega
        have e : (vs.toArray ++ Array.replicate (fn.ntmps - vs.toArray.size) undef).getD t undef = vs[t] := by
          simp [Array.getD_eq_getD_getElem?, Array.getElem?_append, hv]
        rw [e, List.getElem?_eq_getElem h1]
        exact hr.2 t _ _ (List.getElem?_eq_getElem h1) (List.getElem?_eq_getElem hv)
      · rw [List.getElem?_eq_none h1]
        exact .junk _
    · rintro e a' w' ⟨ρ', h', ⟨μ', q1, q2, q3, q4⟩, hQ⟩
      have fin : afin P rs [] K ρ' h' → a'.defers = [] ∧ ∃ v, (results fn a'.tmps).run P w' = .ok v w' ∧ ∃ v_1, Ending.returned v = Ending.returned v_1 ∧ ∃ μ'_1 r h'', μ.le μ'_1 ∧ Rel μ'_1 r v_1 ∧ Rep base w0 μ'_1 w' h'' ∧ K r h'' := by
        intro hfin
        obtain ⟨μ2, l, us, h0, h1, hR, h2, h3, h4⟩ := res_sound fn.results.toList rs [] [] μ' q2 q3 hrs hfin (RelA.nil _)
        simp only [List.nil_append] at h1
        have hrun : (results fn a'.tmps).run P w' = .ok (if h : us.length = 1 then us[0] else .tuple us.toArray) w' := by
          rw [results_eq, Sem.run_bind, Sem.run_map, h4]
          simp only [Result.andThen_ok, Sem.run_pure]
          rfl
        refine ⟨q4, _, hrun, _, rfl, μ2, tupOf l, h', Mu.le_trans q1 h0, ?_, hR, h2⟩
        by_cases hu : us.length = 1
        · rw [dif_pos hu]
          clear hrun
          obtain ⟨u, rfl⟩ := List.length_eq_one_iff.1 hu
          obtain ⟨x, rfl⟩ := List.length_eq_one_iff.1 h1.1
          exact h1.2 0 x u rfl rfl
        · rw [dif_neg hu]
          have hl : tupOf l = .tup l := by
            cases l with
            | nil => rfl
            | cons x l =>
              cases l with
              | nil => exact absurd h1.1.symm hu
              | cons y l => rfl
          rw [hl]
          exact h1.tup
      cases e with
      | normal => exact fin hQ
      | ret => exact fin hQ
      | exit id => exact hQ
      | goto l => exact hQ
      | panic ch => exact hQ.elim
      | outgrown => exact hQ.elim
end
end Ab
end Go.Proofs.Yteoagnggnekfiaa
