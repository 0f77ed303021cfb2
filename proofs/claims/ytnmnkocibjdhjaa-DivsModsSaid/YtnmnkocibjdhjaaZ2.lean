/- Joined texts: A6 A7 A8. No condition. -/
import Derived.Test.YtnmnkocibjdhjaaZ1
namespace Go.Proofs.Ytnmnkocibjdhjaa
namespace Ab
open Go Go.RowKit

section
variable {P : Program} {base : Nat} {w0 w : World} {μ : Mu} {h : H} {K : AV → H → Prop}
theorem copy_any {t t' ty e : TypeId} {ie : TypeInfo} (ht : P.underlying t = some (.slice e)) (hi : P.info? e = some ie)
    {d s : AV} {vd vs : Value} (hd : Rel μ d vd) (hs : Rel μ s vs) (R : Rep base w0 μ w h)
    (hk : match (generalizing := false) d, s with
      | .sl idd offd n _, .sl ids offs m _ =>
        (min m n = 0 → K (.int .i64 0) h) ∧
        (min m n ≠ 0 → ∃ i q j r, idd = some i ∧ h.rows i = some q ∧ q.own ≠ none ∧ ids = some j ∧ h.rows j = some r ∧ offs + min m n * ie.size ≤ r.cells.length ∧ offd + min m n * ie.size ≤ q.cells.length ∧
          (((r.cells.drop offs).take (min m n * ie.size)).all (·.one)) = true ∧ K (.int .i64 (min m n)) (h.set i { q with cells := putAt q.cells offd ((r.cells.drop offs).take (min m n * ie.size)) }))
      | _, _ => False) : ∃ v w', (Builtin.copy_ #[t, t'] ty #[vd, vs]).run P w = .ok v w' ∧ Fin base w0 μ K v w' := by
  obtain ⟨idd, offd, n, cd, rfl⟩ : ∃ ids offs n cs, d = .sl ids offs n cs := by cases d <;> first | exact hk.elim | exact ⟨_, _, _, _, rfl⟩
  obtain ⟨ids, offs, m, cs, rfl⟩ : ∃ idx offx m c, s = .sl idx offx m c := by cases s <;> first | exact hk.elim | exact ⟨_, _, _, _, rfl⟩
  by_cases h0 : min m n = 0
  · have hk0 := hk.1 h0
    clear hk
    have hn0 : Nat.min m n = 0 := h0
    have run0 : ∀ (A : Option Addr) (c : Nat) (B : Option Addr) (c' : Nat), (Builtin.copy_ #[t, t'] ty #[.slice A n c, .slice B m c']).run P w = .ok (goInt 0) w := by
      intro A c B c'
      cases A <;> cases B <;> simp [Builtin.copy_, run_underlying ht, szOf hi, Builtin.lenOf, Builtin.firstCells, hn0, loadCells, loadCellsFrom, storeCells]
    cases hd with
    | snil _ =>
      cases hs with
      | snil _ => exact ⟨_, _, run0 _ _ _ _, Fin.same R (.int _ _) hk0⟩
      | sl => exact ⟨_, _, run0 _ _ _ _, Fin.same R (.int _ _) hk0⟩
    | sl =>
      cases hs with
      | snil _ => exact ⟨_, _, run0 _ _ _ _, Fin.same R (.int _ _) hk0⟩
      | sl => exact ⟨_, _, run0 _ _ _ _, Fin.same R (.int _ _) hk0⟩
  · obtain ⟨i, q, j, r, rfl, hq, hqo, rfl, hr, hfr, hfq, hone, hk2⟩ := hk.2 h0
    clear hk
    cases hd with
    | @sl _ _ _ _ pd capd A hpd hA hld hcd hTd =>
      cases hs with
      | @sl _ _ _ _ ps caps B hps hB hls hcs hTs =>
        have hA' : A = some (pd.addr.add offd) := by
          rcases hA with hA | hA
          · omega
          · exact hA
        have hB' : B = some (ps.addr.add offs) := by
          rcases hB with hB | hB
          · omega
          · exact hB
        subst hA'
        subst hB'
        obtain ⟨ps', hps', hRs⟩ := R.row j r hr
        rw [hps] at hps'
        injection hps' with hps'
        subst hps'
        obtain ⟨news, hn1, hn2, hn3⟩ := row_cells hRs offs (min m n * ie.size) hfr
        obtain ⟨w', hw, R'⟩ := write_cells (P := P) R hq hqo hpd hn3 (hn3.oneCell (by simpa using hone)) (by rw [hn3.1, hn1]; exact hfq)
        have hload := run_loadCells_list (P := P) w _ news hn2
        rw [hn1] at hload
        refine ⟨_, w', ?_, ⟨μ, _, _, μ.le_refl, .int _ _, R', hk2⟩⟩
        have hmn : Nat.min m n = min m n := rfl
        simp [Builtin.copy_, run_underlying ht, szOf hi, Builtin.lenOf, Builtin.firstCells, hmn, hload, hw, goInt]
        omega
theorem mnx_any {mx : Bool} {k : IntKind} : ∀ {a : Int} {ys : List AV} {vs : List Value} {Kv : AV → Prop}, RelA μ ys vs → mnxs mx k a ys Kv → ∃ n : Int, (vs.foldlM (if mx then Builtin.max2 else Builtin.min2) (Value.int k a)).run P w = .ok (.int k n) w ∧ Kv (.int k n) := by
  intro a ys
  induction ys generalizing a with
  | nil =>
    intro vs Kv hr hk
    rw [hr.inv_nil]
    exact ⟨a, rfl, hk⟩
  | cons y ys ih =>
    intro vs Kv hr hk
    obtain ⟨v, vs', rfl, hy, hr'⟩ := hr.inv
    cases hy with
    | int k' b =>
      simp only [mnxs] at hk
      obtain ⟨rfl, hk⟩ := hk
      obtain ⟨n, hn, hkn⟩ := ih hr' hk
      refine ⟨n, ?_, hkn⟩
      rw [List.foldlM_cons, Sem.run_bind]
      have : ((if mx then Builtin.max2 else Builtin.min2) (Value.int k a) (Value.int k b)).run P w = .ok (.int k (if mx then max a b else min a b)) w := by
        cases mx
        · simp only [Builtin.min2, Bool.false_eq_true, if_false, Sem.run_pure]
          congr 2
          omega
        · simp only [Builtin.max2, if_true, Sem.run_pure]
          congr 2
          omega
      rw [this, Result.andThen_ok]
      exact hn
    | _ => simp [mnxs] at hk
/-- A call, at the operation. -/
theorem upon_inv {o : Oper} {a : Act} {f : FuncId} {vs : Array Value} {next : Act → World → Prop} {Q : Exit → Act → World → Prop} {Rr : Value → World → Prop} (hi : Inv P f vs w Rr) (hn : ∀ v w', Rr v w' → next (a.put o.dst v) w') :
    o.upon P a next Q ((callFunc f vs).run P w) := by
  rcases hi with ⟨hr, hc⟩ | ⟨v, hr, hv⟩
  · rw [hr, Oper.upon_enter]
    refine hc.mono ?_
    rintro e w' ⟨v, rfl, hv⟩
    exact hn v w' hv
  · rw [hr, Oper.upon_value]
    exact hn v w hv
theorem op_sound {n : Nat} {ρ : Env} {a : Act} {o : Oper} {next : Act → World → Prop} {Q : Exit → Act → World → Prop} (hx : aexec P (compileOp P n o.op) ρ h K) (hρ : RelT n μ ρ a) (R : Rep base w0 μ w h)
    (hn : ∀ rv w', Fin base w0 μ K rv w' → next (a.put o.dst rv) w') : o.wp P a w next Q := by
  -- an operation that answers a value
  have val : ∀ {s : Sem Value}, (∃ v w', s.run P w = .ok v w' ∧ Fin base w0 μ K v w') → o.upon P a next Q ((do pure (Next.value (← s)) : Sem Next).run P w) := by
    rintro s ⟨v, w', hr, hf⟩
    rw [Sem.run_bind, hr, Result.andThen_ok, Sem.run_pure, Oper.upon_value]
    exact hn v w' hf
  have val1 : ∀ {s : Sem Value}, (∃ v, s.run P w = .ok v w ∧ Fin base w0 μ K v w) → o.upon P a next Q ((do pure (Next.value (← s)) : Sem Next).run P w) := by
    rintro s ⟨v, hr, hf⟩
    exact val ⟨v, w, hr, hf⟩
  have unit_ : ∀ {s : Sem Unit}, (∃ w', s.run P w = .ok () w' ∧ Fin base w0 μ K undef w') → o.upon P a next Q ((do s; pure Next.skip : Sem Next).run P w) := by
    rintro s ⟨w', hr, hf⟩
    rw [Sem.run_bind, hr, Result.andThen_ok, Sem.run_pure, Oper.upon_skip]
    exact hn undef w' hf
  have mv : ∀ x : Operand, K (aev ρ (cop n x)) h → o.upon P a next Q ((pure (Next.value (a.eval x)) : Sem Next).run P w) := by
    intro x hk
    rw [Sem.run_pure, Oper.upon_value]
    exact hn _ w (Fin.same R (cop_rel hρ x) hk)
  unfold Oper.wp execOp
  cases ho : o.op <;> rw [ho] at hx <;> simp only [compileOp] at hx <;> simp only []
  case move x => exact mv x hx
  case assign x => exact mv x hx
  case pick c x y =>
    have hc := cop_rel hρ c
    simp only [aexec] at hx
    split at hx
    · rename_i t heq
      rw [heq] at hc
      cases hc' : a.eval c <;> rw [hc'] at hc <;> cases hc
      rw [Sem.run_bind]
      simp only [asBool, Sem.run_pure, Result.andThen_ok, Oper.upon_value]
      refine hn _ w (Fin.same R ?_ hx)
      split
      · exact cop_rel hρ x
      · exact cop_rel hρ y
    · exact hx.elim
  case binOp op t x y t' =>
    have h1 := cop_rel hρ x
    have h2 := cop_rel hρ y
    have fin : ∀ {Kv : AV → Prop}, (∀ v, Kv v → K v h) → (∃ v, (binOp op t (a.eval x) (a.eval y)).run P w = .ok v w ∧ ∃ u, Kv u ∧ ∀ μ : Mu, Rel μ u v) → (eqGuard op t x y (a.eval x) (a.eval y)).run P w = .ok () w →
        o.upon P a next Q ((do pure (Next.value (← (do eqGuard op t x y (a.eval x) (a.eval y); binOp op t (a.eval x) (a.eval y)))) : Sem Next).run P w) := by
      rintro Kv hk ⟨v, hr, u, hu, hrel⟩ hg
      refine val ⟨v, w, ?_, Fin.same R (hrel μ) (hk u hu)⟩
      rw [Sem.run_bind, hg, Result.andThen_ok]
      exact hr
    have ints : aexec P (.bin op (cop n x) (cop n y)) ρ h K → o.upon P a next Q ((do pure (Next.value (← (do eqGuard op t x y (a.eval x) (a.eval y); binOp op t (a.eval x) (a.eval y)))) : Sem Next).run P w) := by
      intro hx
      simp only [aexec] at hx
      have hx0 := hx
      refine fin (fun v hv => hv) (bin_any h1 h2 hx0) ?_
      unfold abinV at hx
      split at hx
      · rename_i e1 e2
        rw [e1] at h1
        rw [e2] at h2
        cases hv1 : a.eval x <;> rw [hv1] at h1 <;> cases h1
        cases hv2 : a.eval y <;> rw [hv2] at h2 <;> cases h2
        exact guard_int
      · exact hx.elim
    have bools : ∀ neq : Bool, P.underlying t = some .bool → op = (if neq then .neq else .eql) → aexec P (.beq neq (cop n x) (cop n y)) ρ h K → o.upon P a next Q ((do pure (Next.value (← (do eqGuard op t x y (a.eval x) (a.eval y); binOp op t (a.eval x) (a.eval y)))) : Sem Next).run P w) := by
      intro neq ht hop hx
      simp only [aexec] at hx
      split at hx
      · rename_i b1 b2 e1 e2
        rw [e1] at h1
        rw [e2] at h2
        cases hv1 : a.eval x <;> rw [hv1] at h1 <;> cases h1
        cases hv2 : a.eval y <;> rw [hv2] at h2 <;> cases h2
        rw [hv1, hv2] at fin
        refine fin (Kv := fun v => K v h) (fun v hv => hv) ⟨.bool (if neq then b1 != b2 else b1 == b2), ?_, _, hx, fun μ => .bool _⟩ guard_bool
        subst hop
        cases neq <;> cases b1 <;> cases b2 <;> simp [binOp, eq_bool ht]
      · exact hx.elim
    have ptrs : ∀ (neq : Bool) (e : TypeId), P.underlying t = some (.pointer e) → op = (if neq then .neq else .eql) → aexec P (.peq neq (cop n x) (cop n y)) ρ h K → o.upon P a next Q ((do pure (Next.value (← (do eqGuard op t x y (a.eval x) (a.eval y); binOp op t (a.eval x) (a.eval y)))) : Sem Next).run P w) := by
      intro neq e ht hop hx
      have eqn : ∀ b : Option Addr, (Op.equal t (.pointer none) (.pointer b)).run P w = .ok b.isNone w := by
        intro b
        have hh : ∀ d, (Op.equalIn (d + 1) t (.pointer none) (.pointer b)).run P w = .ok b.isNone w := fun d => by simp [Op.equalIn, run_underlying ht]
        exact hh 9999
      have eqs : ∀ b : Addr, (Op.equal t (.pointer (some b)) (.pointer none)).run P w = .ok false w := by
        intro b
        have hh : ∀ d, (Op.equalIn (d + 1) t (.pointer (some b)) (.pointer none)).run P w = .ok false w := fun d => by simp [Op.equalIn, run_underlying ht]
        exact hh 9999
      have gd : ∀ (p q : Option Addr), (eqGuard op t x y (.pointer p) (.pointer q)).run P w = .ok () w := by
        intro p q
        unfold eqGuard
        cases op <;> rfl
      simp only [aexec] at hx
      split at hx
      · rename_i b e1 e2
        rw [e1] at h1
        rw [e2] at h2
        cases hv1 : a.eval x <;> rw [hv1] at h1 <;> cases h1
        cases hv2 : a.eval y <;> rw [hv2] at h2
        all_goals first | (cases h2; done) | skip
        rename_i q
        rw [hv1, hv2] at fin
        have hq : q.isNone = b.isNone := by cases h2 <;> rfl
        refine fin (Kv := fun v => K v h) (fun v hv => hv) ⟨.bool (neq != b.isNone), ?_, _, hx, fun μ => .bool _⟩ (gd _ _)
        subst hop
        cases neq <;> simp [binOp, eqn, hq]
      · rename_i e1 e2
        rw [e1] at h1
        rw [e2] at h2
        cases hv1 : a.eval x <;> rw [hv1] at h1 <;> cases h1
        cases hv2 : a.eval y <;> rw [hv2] at h2 <;> cases h2
        rw [hv1, hv2] at fin
        refine fin (Kv := fun v => K v h) (fun v hv => hv) ⟨.bool neq, ?_, _, hx, fun μ => .bool _⟩ (gd _ _)
        subst hop
        cases neq <;> simp [binOp, eqs]
      · exact hx.elim
    have strs : ∀ neq : Bool, P.underlying t = some .string → op = (if neq then .neq else .eql) → aexec P (.seq neq (cop n x) (cop n y)) ρ h K → o.upon P a next Q ((do pure (Next.value (← (do eqGuard op t x y (a.eval x) (a.eval y); binOp op t (a.eval x) (a.eval y)))) : Sem Next).run P w) := by
      intro neq ht hop hx
      simp only [aexec] at hx
      split at hx
      · rename_i b1 b2 e1 e2
        rw [e1] at h1
        rw [e2] at h2
        cases hv1 : a.eval x <;> rw [hv1] at h1 <;> cases h1
        cases hv2 : a.eval y <;> rw [hv2] at h2 <;> cases h2
        rw [hv1, hv2] at fin
        refine fin (Kv := fun v => K v h) (fun v hv => hv) ⟨.bool (neq != (b1 == b2)), ?_, _, hx, fun μ => .bool _⟩ guard_str
        subst hop
        cases neq <;> simp [binOp, Op.stringOp, beq_toListBytes]
      · exact hx.elim
    have cats : op = .add → aexec P (.cat (cop n x) (cop n y)) ρ h K → o.upon P a next Q ((do pure (Next.value (← (do eqGuard op t x y (a.eval x) (a.eval y); binOp op t (a.eval x) (a.eval y)))) : Sem Next).run P w) := by
      intro hop hx
      simp only [aexec] at hx
      split at hx
      · rename_i b1 b2 e1 e2
        rw [e1] at h1
        rw [e2] at h2
        cases hv1 : a.eval x <;> rw [hv1] at h1 <;> cases h1
        cases hv2 : a.eval y <;> rw [hv2] at h2 <;> cases h2
        rw [hv1, hv2] at fin
        refine fin (Kv := fun v => K v h) (fun v hv => hv) ⟨.string (b1 ++ b2), ?_, _, hx.2, fun μ => .str _⟩ guard_str
        subst hop
        have hmax : IntKind.i64.max = 9223372036854775807 := by decide
        have : ¬ (((b1.size + b2.size : Nat) : Int) > IntKind.i64.max) := by rw [hmax]; omega
        simp only [binOp, Op.stringOp]
        rw [if_neg this]
        rfl
      · exact hx.elim
    have aggs : ∀ (neq : Bool) (fs : Array Field), P.underlying t = some (.struct fs) → aeqOk P t = true → op = (if neq then .neq else .eql) → aexec P (.aeq neq fs.size (cop n x) (cop n y)) ρ h K → o.upon P a next Q ((do pure (Next.value (← (do eqGuard op t x y (a.eval x) (a.eval y); binOp op t (a.eval x) (a.eval y)))) : Sem Next).run P w) := by
      intro neq fs ht hok hop hx
      simp only [aexec] at hx
      split at hx
      · rename_i l m e1 e2
        rw [e1] at h1
        rw [e2] at h2
        cases hv1 : a.eval x <;> rw [hv1] at h1 <;> cases h1
        rename_i c1 c2
        cases hv2 : a.eval y <;> rw [hv2] at h2 <;> cases h2
        rename_i c3 c4
        rw [hv1, hv2] at fin
        obtain ⟨hl, hm, b, hb, hk⟩ := hx
        obtain ⟨r1, r2⟩ := aeq_ok (P := P) (w := w) ht hok ⟨by simpa using c1, fun i u v hu hv => c2 i u v hu (by simpa using hv)⟩ ⟨by simpa using c3, fun i u v hu hv => c4 i u v hu (by simpa using hv)⟩ hl hm hb
        refine fin (Kv := fun v => K v h) (fun v hv => hv) ⟨.bool (neq != b), ?_, _, hk, fun μ => .bool _⟩ (run_eqGuard_agg w op t x y _ _ r2)
        subst hop
        cases neq
        · simp only [Bool.false_eq_true, if_false, run_eql_struct, r1, Result.andThen_ok, Bool.false_bne]
        · simp only [if_true, run_neq_struct, r1, Result.andThen_ok, Bool.true_bne]
      · exact hx.elim
    split at hx
    · rename_i hu; exact bools false hu rfl hx
    · rename_i hu; exact bools true hu rfl hx
    · rename_i hu; exact ptrs false _ hu rfl hx
    · rename_i hu; exact ptrs true _ hu rfl hx
    · exact cats rfl hx
    · rename_i hu; exact strs false hu rfl hx
    · rename_i hu; exact strs true hu rfl hx
    · rename_i hu
      split at hx
      · rename_i hok; exact aggs false _ hu hok rfl hx
      · exact hx.elim
    · rename_i hu
      split at hx
      · rename_i hok; exact aggs true _ hu hok rfl hx
      · exact hx.elim
    · exact ints hx
    · exact hx.elim
  case unOp op t x =>
    exact val1 (un_any (cop_rel hρ x) R hx)
  case convert s d x =>
    split at hx
    · rename_i k' k hs hd
      simp only [aexec] at hx
      have hr := cop_rel hρ x
      split at hx
      · rename_i e1
        rw [e1] at hr
        cases hv1 : a.eval x <;> rw [hv1] at hr <;> cases hr
        refine val1 ⟨_, ?_, Fin.same R (.int _ _) hx⟩
        simp [convert, run_underlying hs, run_underlying hd, Conv.intToInt]
      · exact hx.elim
    · exact hx.elim
  case indexAddr t x i =>
    split at hx
    · split at hx
      · rename_i hu _ ie hie; exact val1 (index_slice hu hie (cop_rel hρ x) (cop_rel hρ i) R hx)
      · exact hx.elim
    · split at hx
      · rename_i hu _ ie hie; exact val1 (index_array hu hie (cop_rel hρ x) (cop_rel hρ i) R hx)
      · exact hx.elim
    · exact hx.elim
  case index t x i =>
    split at hx
    · rename_i hu
      have h1 := cop_rel hρ x
      have h2 := cop_rel hρ i
      simp only [aexec] at hx
      split at hx
      · rename_i s k m e1 e2
        rw [e1] at h1
        rw [e2] at h2
        cases hv1 : a.eval x <;> rw [hv1] at h1 <;> cases h1
        cases hv2 : a.eval i <;> rw [hv2] at h2 <;> cases h2
        obtain ⟨h0, b, hb, hk⟩ := hx
        refine val1 ⟨_, ?_, Fin.same R (.int _ _) hk⟩
        simp [Instr.index, asIntOf, run_underlying hu, h0, hb]
      · exact hx.elim
    · exact hx.elim
  case fieldAddr t x i =>
    split at hx
    · split at hx
      · split at hx
        · split at hx
          · exact hx.elim
          · rename_i hu _ f hf _ it hit hz; exact val1 (field_addr hu hf hit hz (cop_rel hρ x) R hx)
        · exact hx.elim
      · exact hx.elim
    · exact hx.elim
  case load t x =>
    split at hx
    · rename_i s hs; exact val1 (load_any hs (cop_rel hρ x) R hx)
    · exact hx.elim
  case store t x v =>
    split at hx
    · rename_i i hi; exact unit_ (store_any hi (cop_rel hρ x) (cop_rel hρ v) R hx)
    · exact hx.elim
  case nilCheck x =>
    simp only [aexec] at hx
    have hr := cop_rel hρ x
    split at hx
    · rename_i e1
      rw [e1] at hr
      cases hv1 : a.eval x <;> rw [hv1] at hr <;> cases hr
      rw [Sem.run_pure, Oper.upon_value]
      rename_i hp
      exact hn _ w (Fin.same R (.ptr hp) hx)
    · exact hx.elim
  case field t x i =>
    split at hx
    · split at hx
      · split at hx
        · rename_i hu _ f hf _ s hs; exact val1 (field_of hu hf hs (cop_rel hρ x) R hx)
        · exact hx.elim
      · exact hx.elim
    · exact hx.elim
  case makeSlice t l c =>
    split at hx
    · split at hx
      · split at hx
        · split at hx
          · rename_i hu _ ie hie _ z hz hc; exact val (make_any hu hie hz hc.1 hc.2.2 (cop_rel hρ l) (cop_rel hρ c) R hx)
          · exact hx.elim
        · exact hx.elim
      · exact hx.elim
    · exact hx.elim
  case buildSlice t m parts =>
    split at hx
    · split at hx
      · split at hx
        · split at hx
          · rename_i hu _ ie hie _ z hz hc; exact val (buildSlice_any hu hie hz hc.1 hc.2.1 hc.2.2 hρ parts R hx)
          · exact hx.elim
        · exact hx.elim
      · exact hx.elim
    · exact hx.elim
  case box e x =>
    simp only [aexec] at hx
    exact val (box_any (cop_rel hρ x) R hx.1 hx.2)
  case alloc e =>
    split at hx
    · split at hx
      · rename_i i hi _ z hz; exact val (alloc_any hi hz R hx)
      · exact hx.elim
    · exact hx.elim
  case extract x i =>
    simp only [aexec] at hx
    have hr := cop_rel hρ x
    split at hx
    · rename_i l e1
      rw [e1] at hr
      cases hv1 : a.eval x <;> rw [hv1] at hr <;> cases hr
      rename_i vs h1 h2
      obtain ⟨u, hu, hk⟩ := hx
      obtain ⟨v, hv, hrel⟩ := rel_get h1 h2 hu
      refine val1 ⟨v, ?_, Fin.same R hrel hk⟩
      simp [Instr.extract, hv]
    · exact hx.elim
  case makeFunc fn first caps =>
    cases fn with
    | func f =>
      simp only [aexec] at hx
      have c1 := cops_rel hρ first.toList
      have c2 := cops_rel hρ caps.toList
      refine val1 ⟨_, rfl, Fin.same R ?_ hx⟩
      exact .fn (vs := first.map a.eval) (ws := caps.map a.eval) (by simp) (fun i u v hu hv => c1.2 i u v hu (by rw [← Array.toList_map]; simpa using hv)) (by simp) (fun i u v hu hv => c2.2 i u v hu (by rw [← Array.toList_map]; simpa using hv))
    | _ => exact hx.elim
  case slice t x lo hi mx =>
    cases mx with
    | some m => exact hx.elim
    | none =>
      simp only at hx
      split at hx
      · split at hx
        · rename_i hu _ ie hie
          have hr := cop_rel hρ x
          simp only [aexec] at hx
          split at hx
          · rename_i id off len cap e1
            rw [e1] at hr
            have bnd : ∀ (y : Option Operand) (d : Nat) (Kp : Nat → Prop), boundOf ρ d (y.map (cop n)) Kp → ∃ m, (match y.map a.eval with | none => m = d | some v => ∃ k i, v = .int k i ∧ 0 ≤ i ∧ m = i.toNat) ∧ Kp m := by
              intro y d Kp hb
              cases y with
              | none => exact ⟨d, rfl, hb⟩
              | some y =>
                simp only [Option.map_some, boundOf] at hb
                split at hb
                · rename_i k i e2
                  have := cop_rel hρ y
                  rw [e2] at this
                  cases hv1 : a.eval y <;> rw [hv1] at this <;> cases this
                  exact ⟨i.toNat, ⟨k, i, by simpa using hv1, hb.1, rfl⟩, hb.2⟩
                · exact hb.elim
            obtain ⟨b, hb, hx⟩ := bnd hi len _ hx
            obtain ⟨c, hc, hx⟩ := bnd lo 0 _ hx
            exact val1 (slice_any hu hie hr R rfl hb hc hx.1 hx.2.1 hx.2.2.2 hx.2.2.1)
          · exact hx.elim
        · exact hx.elim
      · exact hx.elim
  case build t parts =>
    have fin : ∀ (cells : Array Value) (l : List AV), P.built t (parts.map fun (i, x) => (i, a.eval x)).toList = some cells → RelA μ l cells.toList → K (.agg l) h →
        o.upon P a next Q ((do pure (Next.value (← Instr.build t (parts.map fun (i, x) => (i, a.eval x)))) : Sem Next).run P w) := by
      intro cells l hb hr hk
      exact val1 ⟨_, run_build w t _ cells hb, Fin.same R hr.agg hk⟩
    split at hx
    · rename_i hit hu
      split at hx
      · rename_i z ie hz hie
        simp only [aexec] at hx
        obtain ⟨l, hl, hk⟩ := hx
        have hp : ∀ ps : List (Nat × Operand), Parts μ (fun i => some (i * ie.size, ie.size)) (ps.map fun (i, x) => (i, a.eval x)) ((ps.map fun p => (p.1 * ie.size, ie.size, cop n p.2)).map fun p => (p.1, p.2.1, aev ρ p.2.2)) := by
          intro ps
          induction ps with
          | nil => exact trivial
          | cons p ps ih => exact ⟨rfl, cop_rel hρ p.2, ih⟩
        obtain ⟨cs, h1, h2⟩ := fill_build (place := fun i => some (i * ie.size, ie.size)) _ _ _ _ _ (hp parts.toList) (ofCs_rel μ z.cells.toList) hl
        refine fin cs l ?_ h2 hk
        unfold Program.built
        rw [hit, hu]
        simp only [hz, hie, Array.toList_map]
        exact h1
      · exact hx.elim
    · rename_i hit hu
      split at hx
      · rename_i z places hz hpl
        split at hx
        · rename_i l0 hl0
          simp only [aexec] at hx
          obtain ⟨l, hl, hk⟩ := hx
          have hp : ∀ (ps : List (Nat × Operand)) (l0 : List (Nat × Nat × AO)), ps.mapM (fun p => (places[p.1]?).map fun q => (q.1, q.2, cop n p.2)) = some l0 → Parts μ (places.toArray[·]?) (ps.map fun (i, x) => (i, a.eval x)) (l0.map fun p => (p.1, p.2.1, aev ρ p.2.2)) := by
            intro ps
            induction ps with
            | nil => intro l0 h0; simp at h0; subst h0; exact trivial
            | cons p ps ih =>
              intro l0 h0
              simp only [List.mapM_cons, Option.bind_eq_bind, Option.pure_def] at h0
              cases hq : places[p.1]? with
              | none => simp [hq] at h0
              | some q =>
                cases hr : ps.mapM (fun p => (places[p.1]?).map fun q => (q.1, q.2, cop n p.2)) with
                | none => simp [hq, hr] at h0
                | some rest =>
                  simp [hq, hr] at h0
                  subst h0
                  exact ⟨by simpa using hq, cop_rel hρ p.2, ih rest hr⟩
          obtain ⟨cs, h1, h2⟩ := fill_build (place := (places.toArray[·]?)) _ _ _ _ _ (hp parts.toList l0 hl0) (ofCs_rel μ z.cells.toList) hl
          refine fin cs l ?_ h2 hk
          unfold Program.built
          rw [hit, hu]
          simp only [hz, hpl, Array.toList_map]
          exact h1
        · exact hx.elim
      · exact hx.elim
    · exact hx.elim
  case call c =>
    have blt : ∀ (b : Builtin) (s : Sem Value), c.callee = .builtin b → (∀ cs, builtin b c.argTypes o.type cs (c.args.map a.eval) = (do pure (Next.value (← s)) : Sem Next)) → (∃ v w', s.run P w = .ok v w' ∧ Fin base w0 μ K v w') →
        o.upon P a next Q ((do let d ← resolve a.eval c o.type; invoke d.target d.args : Sem Next).run P w) := by
      intro b s hc hb hs
      have e : (resolve a.eval c o.type) = pure { target := .builtin b c.argTypes o.type (c.args.map fun | .const _ => true | _ => false), args := c.args.map a.eval } := by
        unfold resolve
        rw [hc]
        rfl
      rw [e, Sem.run_bind, Sem.run_pure, Result.andThen_ok]
      simp only [invoke, hb]
      exact val hs
    have fnc : ∀ (x : Operand) (f : FuncId) (first caps : List AV), c.callee = .value x → Rel μ (.fn f first caps) (a.eval x) → ACalls P f (first ++ (c.args.toList.map (cop n)).map (aev ρ) ++ caps) h K →
        o.upon P a next Q ((do let d ← resolve a.eval c o.type; invoke d.target d.args : Sem Next).run P w) := by
      intro x f first caps hc hr hk
      cases hv1 : a.eval x <;> rw [hv1] at hr <;> cases hr
      rename_i vs ws h1 h2 h3 h4
      have e : (resolve a.eval c o.type) = pure { target := .fn (.func f) ws, args := vs ++ c.args.map a.eval } := by
        unfold resolve
        rw [hc]
        simp only [hv1, Deferred.ofValue]
      rw [e, Sem.run_bind, Sem.run_pure, Result.andThen_ok]
      simp only [invoke]
      have c1 : RelA μ first vs.toList := ⟨by simpa using h1, fun i u v hu hv => h2 i u v hu (by simpa using hv)⟩
      have c3 : RelA μ caps ws.toList := ⟨by simpa using h3, fun i u v hu hv => h4 i u v hu (by simpa using hv)⟩
      have hi := hk base w0 μ w _ R ((c1.append (cops_rel hρ c.args.toList)).append c3)
      have ea : (vs.toList ++ c.args.toList.map a.eval ++ ws.toList).toArray = vs ++ c.args.map a.eval ++ ws := by
        apply Array.ext'
        simp
      rw [ea] at hi
      refine upon_inv hi ?_
      rintro v w' ⟨μ', r, h', q1, q2, q3, q4⟩
      exact hn v w' ⟨μ', r, h', q1, q2, q3, q4⟩
    have args1 : ∀ x : Operand, c.args.toList = [x] → c.args = #[x] := fun x h => Array.ext' (by simpa using h)
    have args2 : ∀ x y : Operand, c.args.toList = [x, y] → c.args = #[x, y] := fun x y h => Array.ext' (by simpa using h)
    have types1 : ∀ x : TypeId, c.argTypes.toList = [x] → c.argTypes = #[x] := fun x h => Array.ext' (by simpa using h)
    have types2 : ∀ x y : TypeId, c.argTypes.toList = [x, y] → c.argTypes = #[x, y] := fun x y h => Array.ext' (by simpa using h)
    split at hx
    · rename_i f hc
      exact fnc _ f [] [] hc (.fn rfl (fun i u v hu => by simp at hu) rfl (fun i u v hu => by simp at hu)) (by simpa [aexec] using hx)
    · rename_i x _ hc
      simp only [aexec] at hx
      have hr := cop_rel hρ x
      split at hx
      · rename_i f first caps e1
        rw [e1] at hr
        exact fnc x f first caps hc hr hx
      · exact hx.elim
    · rename_i hc
      split at hx
      · rename_i x t ha ht'
        have ha' := args1 _ ha
        have ht'' := types1 _ ht'
        have hr := cop_rel hρ x
        split at hx
        · rename_i e hu
          refine blt .len _ hc (fun _ => rfl) ?_
          rw [ha', ht'']
          simp only [aexec] at hx
          split at hx
          · rename_i e1
            rw [e1] at hr
            cases hv1 : a.eval x <;> rw [hv1] at hr <;> cases hr
            all_goals exact ⟨_, _, by simp [Builtin.len_, run_underlying hu, hv1, goInt], Fin.same R (.int _ _) hx⟩
          · rename_i hh _; cases hh
          · exact hx.elim
        · rename_i hu
          refine blt .len _ hc (fun _ => rfl) ?_
          rw [ha', ht'']
          simp only [aexec] at hx
          split at hx
          · rename_i hh _; cases hh
          · rename_i e1
            rw [e1] at hr
            cases hv1 : a.eval x <;> rw [hv1] at hr <;> cases hr
            all_goals exact ⟨_, _, by simp [Builtin.len_, run_underlying hu, hv1, goInt], Fin.same R (.int _ _) hx⟩
          · exact hx.elim
        · exact hx.elim
      · exact hx.elim
    · rename_i hc
      split at hx
      · rename_i x t ha ht'
        have ha' := args1 _ ha
        have ht'' := types1 _ ht'
        have hr := cop_rel hρ x
        split at hx
        · rename_i e hu
          refine blt .cap _ hc (fun _ => rfl) ?_
          rw [ha', ht'']
          simp only [aexec] at hx
          split at hx
          · rename_i m e1
            rw [e1] at hr
            cases hv1 : a.eval x <;> rw [hv1] at hr
            all_goals first
              | (cases hr; done)
              | (cases hr with
                | snil hcc =>
                  have := hcc m rfl
                  subst this
                  exact ⟨_, _, by simp [Builtin.cap_, run_underlying hu, hv1, goInt], Fin.same R (.int _ _) hx⟩
                | sl hp hA hl hcc ht =>
                  have := hcc m rfl
                  subst this
                  exact ⟨_, _, by simp [Builtin.cap_, run_underlying hu, hv1, goInt], Fin.same R (.int _ _) hx⟩)
          · exact hx.elim
        · exact hx.elim
      · exact hx.elim
    · rename_i hc
      split at hx
      · rename_i x ys ha
        simp only [aexec] at hx
        have hr := cop_rel hρ x
        split at hx
        · rename_i k i e1
          rw [e1] at hr
          cases hv1 : a.eval x <;> rw [hv1] at hr <;> cases hr
          obtain ⟨m, hm, hk⟩ := mnx_any (P := P) (w := w) (cops_rel hρ ys) hx
          refine blt .min _ hc (fun _ => rfl) ⟨_, _, ?_, Fin.same R (.int _ _) hk⟩
          simp only [Builtin.min_, Array.toList_map, ha, List.map_cons, hv1]
          exact hm
        · exact hx.elim
      · exact hx.elim
    · rename_i hc
      split at hx
      · rename_i x ys ha
        simp only [aexec] at hx
        have hr := cop_rel hρ x
        split at hx
        · rename_i k i e1
          rw [e1] at hr
          cases hv1 : a.eval x <;> rw [hv1] at hr <;> cases hr
          obtain ⟨m, hm, hk⟩ := mnx_any (P := P) (w := w) (cops_rel hρ ys) hx
          refine blt .max _ hc (fun _ => rfl) ⟨_, _, ?_, Fin.same R (.int _ _) hk⟩
          simp only [Builtin.max_, Array.toList_map, ha, List.map_cons, hv1]
          exact hm
        · exact hx.elim
      · exact hx.elim
    · rename_i hc
      split at hx
      · rename_i s x t t' ha ht'
        have ha' := args2 _ _ ha
        have ht'' := types2 _ _ ht'
        split at hx
        · rename_i htt
          subst htt
          split at hx
          · split at hx
            · split at hx
              · split at hx
                · rename_i e hu _ ie hie _ z hz hcc
                  refine blt .append _ hc (fun _ => rfl) ?_
                  rw [ha', ht'']
                  have hx' := append_any (ty := o.type) hu hie hz hcc.1 hcc.2 (cop_rel hρ s) (cop_rel hρ x) R hx
                  simpa using hx'
                · exact hx.elim
              · exact hx.elim
            · exact hx.elim
          · exact hx.elim
        · exact hx.elim
      · exact hx.elim
    · rename_i hc
      split at hx
      · rename_i d s t t' ha ht'
        have ha' := args2 _ _ ha
        have ht'' := types2 _ _ ht'
        split at hx
        · split at hx
          · rename_i e hu _ ie hie
            refine blt .copy _ hc (fun _ => rfl) ?_
            rw [ha', ht'']
            have hx' := copy_any (t' := t') (ty := o.type) hu hie (cop_rel hρ d) (cop_rel hρ s) R hx
            simpa using hx'
          · exact hx.elim
        · exact hx.elim
      · exact hx.elim
    · exact hx.elim
  all_goals exact hx.elim
end
end Ab
end Go.Proofs.Ytnmnkocibjdhjaa
namespace Go.Proofs.Ytnmnkocibjdhjaa
namespace Ab
open Go Go.RowKit

structure AOper where
  dst : Option Nat
  g : Option (Nat × Bool)
  op : AOp
  chks : List (Option Nat × Option (Nat × Bool) × AOp)

section
variable (P : Program)
def astep (g : Option (Nat × Bool)) (o : AOp) (ρ : Env) (h : H) (K : AV → H → Prop) : Prop :=
  match g with
  | none => aexec P o ρ h K
  | some (t, b) => match ρ t with
    | .bool c => if c = b then aexec P o ρ h K else K (.tup []) h
    | .tup [] => K (.tup []) h
    | _ => False
/-- An operation that reads memory answers asx it did. -/
def achk (ρ : Env) (h : H) (c : Option Nat × Option (Nat × Bool) × AOp) : Prop := astep P c.2.1 c.2.2 ρ h (fun v _ => ∀ d, c.1 = some d → v = ρ d)
def achks (ρ : Env) (h : H) : List (Option Nat × Option (Nat × Bool) × AOp) → Prop
  | [] => True
  | c :: cs => achk P ρ h c ∧ achks ρ h cs
def aops : List AOper → (Env → H → Prop) → Env → H → Prop
  | [], Q, ρ, h => Q ρ h
  | o :: os, Q, ρ, h => astep P o.g o.op ρ h (fun v h' => achks P ρ h' o.chks ∧ aops os Q (aput ρ o.dst v) h')
end

/-- The places that an operand reads. -/
def AO.rd : AO → List Nat
  | .t n => [n]
  | _ => []
def AOp.rds : AOp → List Nat
  | .mv x => x.rd
  | .pick c a b => c.rd ++ (a.rd ++ b.rd)
  | .bin _ x y => x.rd ++ y.rd
  | .beq _ x y => x.rd ++ y.rd
  | .peq _ x y => x.rd ++ y.rd
  | .seq _ x y => x.rd ++ y.rd
  | .cat x y => x.rd ++ y.rd
  | .aeq _ _ x y => x.rd ++ y.rd
  | .idxS x y => x.rd ++ y.rd
  | .un _ x => x.rd
  | .cvI _ x => x.rd
  | .idx _ x i => x.rd ++ i.rd
  | .idxA _ _ x i => x.rd ++ i.rd
  | .fld _ x => x.rd
  | .ld _ p => p.rd
  | .st _ p v => p.rd ++ v.rd
  | .nn x => x.rd
  | .prt _ _ x => x.rd
  | .slc _ x lo hi => x.rd ++ ((lo.map AO.rd).getD [] ++ (hi.map AO.rd).getD [])
  | .mk _ _ _ _ l c => l.rd ++ c.rd
  | .bsl _ _ _ _ ps => ps.flatMap fun p => p.2.rd
  | .bld _ ps => ps.flatMap fun p => p.2.2.rd
  | .box _ x => x.rd
  | .alloc _ _ => []
  | .len _ x => x.rd
  | .capo x => x.rd
  | .mnx _ x ys => x.rd ++ ys.flatMap AO.rd
  | .app _ _ _ s x => s.rd ++ x.rd
  | .cpy _ d s => d.rd ++ s.rd
  | .mkf _ f c => f.flatMap AO.rd ++ c.flatMap AO.rd
  | .ext x _ => x.rd
  | .call _ asx => asx.flatMap AO.rd
  | .callV x asx => x.rd ++ asx.flatMap AO.rd
  | .bad => []
/-- It neither writes nor makes memory, and calls nothing. -/
def AOp.ne : AOp → Bool
  | .mv _ | .pick .. | .bin .. | .beq .. | .peq .. | .seq .. | .cat .. | .aeq .. | .idxS .. | .un .. | .cvI .. | .idx .. | .idxA .. | .fld .. | .ld .. | .nn _ | .prt .. | .slc .. | .bld .. | .len .. | .capo _ | .mnx .. | .mkf .. | .ext .. => true
  | _ => false
/-- It does not look at memory either. -/
def AOp.pure : AOp → Bool
  | .ld .. | .slc .. => false
  | o => o.ne
def grd (g : Option (Nat × Bool)) : List Nat := match g with
  | some (t, _) => [t]
  | none => []

theorem aev_congr {ρ ρ' : Env} {x : AO} (h : ∀ t ∈ x.rd, ρ t = ρ' t) : aev ρ x = aev ρ' x := by
  cases x with
  | t n => exact h n (by simp [AO.rd])
  | _ => rfl
theorem aevs_congr {ρ ρ' : Env} : ∀ {xs : List AO}, (∀ t ∈ xs.flatMap AO.rd, ρ t = ρ' t) → xs.map (aev ρ) = xs.map (aev ρ')
  | [], _ => rfl
  | x :: xs, h => by
    rw [List.map_cons, List.map_cons, aev_congr (fun t ht => h t (by simp [ht])), aevs_congr (fun t ht => h t (by
      rw [List.flatMap_cons]; exact List.mem_append_right _ ht))]
theorem aexec_congr {P : Program} {o : AOp} {ρ ρ' : Env} {h : H} {K : AV → H → Prop} (hr : ∀ t ∈ o.rds, ρ t = ρ' t) : aexec P o ρ h K ↔ aexec P o ρ' h K := by
  have e1 : ∀ {x : AO}, (∀ t ∈ x.rd, t ∈ o.rds) → aev ρ x = aev ρ' x := fun h1 => aev_congr (fun t ht => hr t (h1 t ht))
  have e2 : ∀ {xs : List AO}, (∀ t ∈ xs.flatMap AO.rd, t ∈ o.rds) → xs.map (aev ρ) = xs.map (aev ρ') := fun h1 => aevs_congr (fun t ht => hr t (h1 t ht))
  cases o with
  | mv x => simp only [aexec]; rw [e1 (x := x) (fun t ht => ht)]
  | pick c a b => simp only [aexec]; rw [e1 (x := c) (fun t ht => by simp [AOp.rds, ht]), e1 (x := a) (fun t ht => by simp [AOp.rds, ht]), e1 (x := b) (fun t ht => by simp [AOp.rds, ht])]
  | bin op x y => simp only [aexec]; rw [e1 (x := x) (fun t ht => by simp [AOp.rds, ht]), e1 (x := y) (fun t ht => by simp [AOp.rds, ht])]
  | beq op x y => simp only [aexec]; rw [e1 (x := x) (fun t ht => by simp [AOp.rds, ht]), e1 (x := y) (fun t ht => by simp [AOp.rds, ht])]
  | peq op x y => simp only [aexec]; rw [e1 (x := x) (fun t ht => by simp [AOp.rds, ht]), e1 (x := y) (fun t ht => by simp [AOp.rds, ht])]
  | seq op x y => simp only [aexec]; rw [e1 (x := x) (fun t ht => by simp [AOp.rds, ht]), e1 (x := y) (fun t ht => by simp [AOp.rds, ht])]
  | cat x y => simp only [aexec]; rw [e1 (x := x) (fun t ht => by simp [AOp.rds, ht]), e1 (x := y) (fun t ht => by simp [AOp.rds, ht])]
  | aeq op n x y => simp only [aexec]; rw [e1 (x := x) (fun t ht => by simp [AOp.rds, ht]), e1 (x := y) (fun t ht => by simp [AOp.rds, ht])]
  | idxS x y => simp only [aexec]; rw [e1 (x := x) (fun t ht => by simp [AOp.rds, ht]), e1 (x := y) (fun t ht => by simp [AOp.rds, ht])]
  | un op x => simp only [aexec]; rw [e1 (x := x) (fun t ht => ht)]
  | cvI k x => simp only [aexec]; rw [e1 (x := x) (fun t ht => ht)]
  | idx _ x y => simp only [aexec]; rw [e1 (x := x) (fun t ht => by simp [AOp.rds, ht]), e1 (x := y) (fun t ht => by simp [AOp.rds, ht])]
  | idxA _ _ x y => simp only [aexec]; rw [e1 (x := x) (fun t ht => by simp [AOp.rds, ht]), e1 (x := y) (fun t ht => by simp [AOp.rds, ht])]
  | fld _ x => simp only [aexec]; rw [e1 (x := x) (fun t ht => ht)]
  | ld _ x => simp only [aexec]; rw [e1 (x := x) (fun t ht => ht)]
  | st _ x y => simp only [aexec]; rw [e1 (x := x) (fun t ht => by simp [AOp.rds, ht]), e1 (x := y) (fun t ht => by simp [AOp.rds, ht])]
  | nn x => simp only [aexec]; rw [e1 (x := x) (fun t ht => ht)]
  | prt _ _ x => simp only [aexec]; rw [e1 (x := x) (fun t ht => ht)]
  | slc _ x lo hi =>
    have b1 : ∀ (lo : Option AO) (d : Nat) (Kp : Nat → Prop), (∀ t ∈ (lo.map AO.rd).getD [], ρ t = ρ' t) → boundOf ρ d lo Kp = boundOf ρ' d lo Kp := by
      intro lo d Kp h1
      cases lo with
      | none => rfl
      | some y => simp only [boundOf]; rw [aev_congr (x := y) (fun t ht => h1 t (by simpa using ht))]
    simp only [aexec]
    rw [e1 (x := x) (fun t ht => by simp [AOp.rds, ht])]
    split
    · rw [b1 hi _ _ (fun t ht => hr t (by simp only [AOp.rds, List.mem_append]; exact .inr (.inr ht)))]
      have : ∀ b, boundOf ρ 0 lo b = boundOf ρ' 0 lo b := fun b => b1 lo _ _ (fun t ht => hr t (by simp only [AOp.rds, List.mem_append]; exact .inr (.inl ht)))
      simp only [this]
    · exact Iff.rfl
  | mk _ _ _ _ x y => simp only [aexec]; rw [e1 (x := x) (fun t ht => by simp [AOp.rds, ht]), e1 (x := y) (fun t ht => by simp [AOp.rds, ht])]
  | bsl e z n zr ps =>
    have : (ps.map fun p => (p.1 * z, z, aev ρ p.2)) = (ps.map fun p => (p.1 * z, z, aev ρ' p.2)) :=
      List.map_congr_left (fun p hp => by rw [aev_congr (fun t ht => hr t (by simp only [AOp.rds, List.mem_flatMap]; exact ⟨p, hp, ht⟩))])
    simp only [aexec]; rw [this]
  | bld zr ps =>
    have : (ps.map fun p => (p.1, p.2.1, aev ρ p.2.2)) = (ps.map fun p => (p.1, p.2.1, aev ρ' p.2.2)) :=
      List.map_congr_left (fun p hp => by rw [aev_congr (fun t ht => hr t (by simp only [AOp.rds, List.mem_flatMap]; exact ⟨p, hp, ht⟩))])
    simp only [aexec]; rw [this]
  | box _ x => simp only [aexec]; rw [e1 (x := x) (fun t ht => ht)]
  | alloc _ _ => exact Iff.rfl
  | len _ x => simp only [aexec]; rw [e1 (x := x) (fun t ht => ht)]
  | capo x => simp only [aexec]; rw [e1 (x := x) (fun t ht => ht)]
  | mnx _ x ys => simp only [aexec]; rw [e1 (x := x) (fun t ht => by simp [AOp.rds, ht]), e2 (xs := ys) (fun t ht => by simp only [AOp.rds, List.mem_append]; exact .inr ht)]
  | app _ _ _ x y => simp only [aexec]; rw [e1 (x := x) (fun t ht => by simp [AOp.rds, ht]), e1 (x := y) (fun t ht => by simp [AOp.rds, ht])]
  | cpy _ x y => simp only [aexec]; rw [e1 (x := x) (fun t ht => by simp [AOp.rds, ht]), e1 (x := y) (fun t ht => by simp [AOp.rds, ht])]
  | mkf f xs ys => simp only [aexec]; rw [e2 (xs := xs) (fun t ht => by simp only [AOp.rds, List.mem_append]; exact .inl ht), e2 (xs := ys) (fun t ht => by simp only [AOp.rds, List.mem_append]; exact .inr ht)]
  | ext x _ => simp only [aexec]; rw [e1 (x := x) (fun t ht => ht)]
  | call _ xs => simp only [aexec]; rw [e2 (xs := xs) (fun t ht => ht)]
  | callV x ys => simp only [aexec]; rw [e1 (x := x) (fun t ht => by simp [AOp.rds, ht]), e2 (xs := ys) (fun t ht => by simp only [AOp.rds, List.mem_append]; exact .inr ht)]
  | bad => exact Iff.rfl

/-- What does not look at memory has one answer. -/
def Det (P : Program) (o : AOp) (ρ : Env) : Prop := (∃ v, ∀ h K, aexec P o ρ h K ↔ K v h) ∨ (∀ h K, ¬ aexec P o ρ h K)
theorem abin_det {op : BinOp} {k : IntKind} {a b : Int} : (∃ v, ∀ K, abin op k a b K ↔ K v) ∨ (∀ K, ¬ abin op k a b K) := by
  cases op <;> simp only [abin]
  all_goals first
    | exact .inl ⟨_, fun K => Iff.rfl⟩
    | exact .inr (fun K h => h)
    | (by_cases hb : b = 0
       · exact .inr (fun K h => h.1 hb)
       · exact .inl ⟨_, fun K => ⟨fun h => h.2, fun h => ⟨hb, h⟩⟩⟩)
theorem ashift_det {op : BinOp} {k : IntKind} {a b : Int} : (∃ v, ∀ K, ashift op k a b K ↔ K v) ∨ (∀ K, ¬ ashift op k a b K) := by
  cases op <;> simp only [ashift]
  all_goals first
    | exact .inr (fun K h => h)
    | (by_cases hb : 0 ≤ b
       · exact .inl ⟨_, fun K => ⟨fun h => h.2, fun h => ⟨hb, h⟩⟩⟩
       · exact .inr (fun K h => hb h.1))
theorem abinV_det {op : BinOp} {x y : AV} : (∃ v, ∀ K, abinV op x y K ↔ K v) ∨ (∀ K, ¬ abinV op x y K) := by
  unfold abinV
  split
  · rename_i k a k' b
    split
    · exact ashift_det
    · exact ashift_det
    · by_cases hk : k = k'
      · subst hk
        rcases abin_det (op := op) (k := k) (a := a) (b := b) with ⟨v, hv⟩ | hv
        · exact .inl ⟨v, fun K => ⟨fun h => (hv K).1 h.2, fun h => ⟨rfl, (hv K).2 h⟩⟩⟩
        · exact .inr (fun K h => hv K h.2)
      · exact .inr (fun K h => hk h.1)
  · exact .inr (fun K h => h)
theorem mnxs_det {mx : Bool} {k : IntKind} : ∀ {a : Int} {ys : List AV}, (∃ v, ∀ K, mnxs mx k a ys K ↔ K v) ∨ (∀ K, ¬ mnxs mx k a ys K)
  | a, [] => .inl ⟨_, fun K => Iff.rfl⟩
  | a, y :: ys => by
    cases y with
    | int k' b =>
      by_cases hk : k = k'
      · rcases mnxs_det (mx := mx) (k := k) (a := if mx then max a b else min a b) (ys := ys) with ⟨v, hv⟩ | hv
        · exact .inl ⟨v, fun K => ⟨fun h => (hv K).1 h.2, fun h => ⟨hk, (hv K).2 h⟩⟩⟩
        · exact .inr (fun K h => hv K h.2)
      · exact .inr (fun K h => hk h.1)
    | _ => exact .inr (fun K h => h)
theorem det_pure {P : Program} {o : AOp} (ho : o.pure = true) (ρ : Env) : Det P o ρ := by
  unfold Det
  cases o with
  | mv x => exact .inl ⟨_, fun h K => Iff.rfl⟩
  | pick c a b =>
    simp only [aexec]
    split
    · exact .inl ⟨_, fun h K => Iff.rfl⟩
    · exact .inr (fun h K hk => hk)
  | bin op x y =>
    rcases abinV_det (op := op) (x := aev ρ x) (y := aev ρ y) with ⟨v, hv⟩ | hv
    · exact .inl ⟨v, fun h K => hv (fun v => K v h)⟩
    · exact .inr (fun h K => hv (fun v => K v h))
  | beq ng x y =>
    simp only [aexec]
    split
    · exact .inl ⟨_, fun h K => Iff.rfl⟩
    · exact .inr (fun h K hk => hk)
  | peq ng x y =>
    simp only [aexec]
    split
    · exact .inl ⟨_, fun h K => Iff.rfl⟩
    · exact .inl ⟨_, fun h K => Iff.rfl⟩
    · exact .inr (fun h K hk => hk)
  | seq ng x y =>
    simp only [aexec]
    split
    · exact .inl ⟨_, fun h K => Iff.rfl⟩
    · exact .inr (fun h K hk => hk)
  | cat x y =>
    simp only [aexec]
    split
    · rename_i s1 s2 e1 e2
      by_cases hc : s1.size + s2.size < 9223372036854775808
      · exact .inl ⟨_, fun h K => ⟨fun hk => hk.2, fun hk => ⟨hc, hk⟩⟩⟩
      · exact .inr (fun h K hk => hc hk.1)
    · exact .inr (fun h K hk => hk)
  | aeq ng n x y =>
    simp only [aexec]
    split
    · rename_i l m e1 e2
      by_cases hc : l.length = n ∧ m.length = n
      · cases hb : eqs l m with
        | none => exact .inr (fun h K hk => by obtain ⟨_, _, b, h1, _⟩ := hk; cases h1)
        | some b => exact .inl ⟨.bool (ng != b), fun h K => ⟨fun hk => by obtain ⟨_, _, b', h1, h2⟩ := hk; injection h1 with h1; subst h1; exact h2, fun hk => ⟨hc.1, hc.2, b, rfl, hk⟩⟩⟩
      · exact .inr (fun h K hk => hc ⟨hk.1, hk.2.1⟩)
    · exact .inr (fun h K hk => hk)
  | idxS x i =>
    simp only [aexec]
    split
    · rename_i s k n e1 e2
      cases hb : s[n.toNat]? with
      | none => exact .inr (fun h K hk => by obtain ⟨_, b, h1, _⟩ := hk; cases h1)
      | some b =>
        by_cases h0 : 0 ≤ n
        · exact .inl ⟨.int .u8 b.toNat, fun h K => ⟨fun hk => by obtain ⟨_, b', h1, h2⟩ := hk; injection h1 with h1; subst h1; exact h2, fun hk => ⟨h0, b, rfl, hk⟩⟩⟩
        · exact .inr (fun h K hk => h0 hk.1)
    · exact .inr (fun h K hk => hk)
  | un op x =>
    simp only [aexec]
    split
    · exact .inl ⟨_, fun h K => Iff.rfl⟩
    · exact .inl ⟨_, fun h K => Iff.rfl⟩
    · exact .inl ⟨_, fun h K => Iff.rfl⟩
    · exact .inr (fun h K hk => hk)
  | cvI k x =>
    simp only [aexec]
    split
    · exact .inl ⟨_, fun h K => Iff.rfl⟩
    · exact .inr (fun h K hk => hk)
  | idx z x i =>
    simp only [aexec]
    split
    · rename_i id off len c k n e1 e2
      by_cases hb : 0 ≤ n ∧ n < len
      · exact .inl ⟨_, fun h K => ⟨fun h => h.2.2, fun h => ⟨hb.1, hb.2, h⟩⟩⟩
      · exact .inr (fun h K hk => hb ⟨hk.1, hk.2.1⟩)
    · exact .inr (fun h K hk => hk)
  | idxA m z x i =>
    simp only [aexec]
    split
    · rename_i n e1 e2
      by_cases hb : 0 ≤ n ∧ n < m
      · exact .inl ⟨_, fun h K => ⟨fun h => h.2.2, fun h => ⟨hb.1, hb.2, h⟩⟩⟩
      · exact .inr (fun h K hk => hb ⟨hk.1, hk.2.1⟩)
    · rename_i n e1 e2
      by_cases hb : 0 ≤ n ∧ n < m
      · exact .inl ⟨_, fun h K => ⟨fun h => h.2.2, fun h => ⟨hb.1, hb.2, h⟩⟩⟩
      · exact .inr (fun h K hk => hb ⟨hk.1, hk.2.1⟩)
    · exact .inr (fun h K hk => hk)
  | fld off x =>
    simp only [aexec]
    split
    · exact .inl ⟨_, fun h K => Iff.rfl⟩
    · exact .inr (fun h K hk => hk)
  | nn x =>
    simp only [aexec]
    split
    · exact .inl ⟨_, fun h K => Iff.rfl⟩
    · exact .inr (fun h K hk => hk)
  | prt sz off x =>
    simp only [aexec]
    split
    · rename_i l e1
      cases sz with
      | none =>
        simp only
        cases hl : l[off]? with
        | none => exact .inr (fun h K hk => by simp at hk)
        | some v => exact .inl ⟨v, fun h K => by simp⟩
      | some n =>
        by_cases hb : off + n ≤ l.length
        · exact .inl ⟨_, fun h K => ⟨fun h => h.2, fun h => ⟨hb, h⟩⟩⟩
        · exact .inr (fun h K hk => hb hk.1)
    · exact .inr (fun h K hk => hk)
  | bld zr ps =>
    simp only [aexec]
    cases hl : abuild zr (ps.map fun p => (p.1, p.2.1, aev ρ p.2.2)) with
    | none => exact .inr (fun h K hk => by simp at hk)
    | some v => exact .inl ⟨.agg v, fun h K => by simp⟩
  | len str x =>
    simp only [aexec]
    split
    · exact .inl ⟨_, fun h K => Iff.rfl⟩
    · exact .inl ⟨_, fun h K => Iff.rfl⟩
    · exact .inr (fun h K hk => hk)
  | capo x =>
    simp only [aexec]
    split
    · exact .inl ⟨_, fun h K => Iff.rfl⟩
    · exact .inr (fun h K hk => hk)
  | mnx mx x ys =>
    simp only [aexec]
    split
    · rename_i k a e1
      rcases mnxs_det (mx := mx) (k := k) (a := a) (ys := ys.map (aev ρ)) with ⟨v, hv⟩ | hv
      · exact .inl ⟨v, fun h K => hv (fun v => K v h)⟩
      · exact .inr (fun h K => hv (fun v => K v h))
    · exact .inr (fun h K hk => hk)
  | mkf f a b => exact .inl ⟨_, fun h K => Iff.rfl⟩
  | ext x i =>
    simp only [aexec]
    split
    · rename_i l e1
      cases hl : l[i]? with
      | none => exact .inr (fun h K hk => by simp at hk)
      | some v => exact .inl ⟨v, fun h K => by simp⟩
    · exact .inr (fun h K hk => hk)
  | _ => simp [AOp.pure, AOp.ne] at ho
/-- What neither writes nor calls has one answer, and leaves memory alone. -/
theorem bound_det {ρ : Env} {d : Nat} {lo : Option AO} : (∃ m, ∀ K, boundOf ρ d lo K ↔ K m) ∨ (∀ K, ¬ boundOf ρ d lo K) := by
  unfold boundOf
  cases lo with
  | none => exact .inl ⟨d, fun K => Iff.rfl⟩
  | some x =>
    simp only
    split
    · rename_i k n e
      by_cases hb : 0 ≤ n
      · exact .inl ⟨_, fun K => ⟨fun h => h.2, fun h => ⟨hb, h⟩⟩⟩
      · exact .inr (fun K h => hb h.1)
    · exact .inr (fun K h => h)
theorem det {P : Program} {o : AOp} (ho : o.ne = true) (ρ : Env) (h : H) : (∃ v, ∀ K, aexec P o ρ h K ↔ K v h) ∨ (∀ K, ¬ aexec P o ρ h K) := by
  by_cases hp : o.pure = true
  · rcases det_pure (P := P) hp ρ with ⟨v, hv⟩ | hv
    · exact .inl ⟨v, hv h⟩
    · exact .inr (hv h)
  · cases o with
    | ld sz p =>
      simp only [aexec]
      split
      · rename_i id off e
        cases hr : h.rows id with
        | none => cases sz <;> exact .inr (fun K hk => by simp at hk)
        | some r =>
          cases sz with
          | none =>
            simp only
            cases hl : r.cells[off]? with
            | none => exact .inr (fun K hk => by obtain ⟨r', v, h1, h2, _⟩ := hk; injection h1 with h1; subst h1; rw [hl] at h2; cases h2)
            | some v => exact .inl ⟨v, fun K => ⟨fun hk => by obtain ⟨r', v', h1, h2, h3⟩ := hk; injection h1 with h1; subst h1; rw [hl] at h2; injection h2 with h2; subst h2; exact h3, fun hk => ⟨r, v, rfl, hl, hk⟩⟩⟩
          | some n =>
            simp only
            by_cases hb : off + n ≤ r.cells.length
            · exact .inl ⟨_, fun K => ⟨fun hk => by obtain ⟨r', h1, h2, h3⟩ := hk; injection h1 with h1; subst h1; exact h3, fun hk => ⟨r, rfl, hb, hk⟩⟩⟩
            · exact .inr (fun K hk => by obtain ⟨r', h1, h2, _⟩ := hk; injection h1 with h1; subst h1; exact hb h2)
      · rename_i g off e
        cases sz with
        | none =>
          simp only
          cases hg : gcell g off with
          | none => exact .inr (fun K hk => by obtain ⟨n, h1, _⟩ := hk; cases h1)
          | some n => exact .inl ⟨.int .u8 n, fun K => ⟨fun hk => by obtain ⟨n', h1, h2⟩ := hk; injection h1 with h1; subst h1; exact h2, fun hk => ⟨n, rfl, hk⟩⟩⟩
        | some n => exact .inr (fun K hk => hk)
      · exact .inr (fun K hk => hk)
    | slc z x lo hi =>
      simp only [aexec]
      split
      · rename_i id off len cap e
        rcases bound_det (ρ := ρ) (d := len) (lo := hi) with ⟨b, hb⟩ | hb
        · simp only [hb]
          rcases bound_det (ρ := ρ) (d := 0) (lo := lo) with ⟨a, ha⟩ | ha
          · simp only [ha]
            by_cases hc : a ≤ b ∧ (b ≤ len ∨ ∃ c, cap = some c ∧ b ≤ c) ∧ (∀ i, id = some i → ∃ r, h.rows i = some r ∧ (r.own = none ∨ r.esz = z))
            · exact .inl ⟨_, fun K => ⟨fun hk => hk.2.2.2, fun hk => ⟨hc.1, hc.2.1, hc.2.2, hk⟩⟩⟩
            · exact .inr (fun K hk => hc ⟨hk.1, hk.2.1, hk.2.2.1⟩)
          · exact .inr (fun K hk => ha _ hk)
        · exact .inr (fun K hk => hb _ hk)
      · exact .inr (fun K hk => hk)
    | _ => simp_all [AOp.pure, AOp.ne]
end Ab
end Go.Proofs.Ytnmnkocibjdhjaa
namespace Go.Proofs.Ytnmnkocibjdhjaa
namespace Ab
open Go Go.RowKit

theorem ACalls.mono {P : Program} {f : FuncId} {avs : List AV} {h : H} {K K' : AV → H → Prop} (hk : ∀ v h', K v h' → K' v h') (hc : ACalls P f avs h K) : ACalls P f avs h K' := by
  intro base w0 μ w vs R hr
  rcases hc base w0 μ w vs R hr with ⟨h1, h2⟩ | ⟨v, h1, μ', r, h', q1, q2, q3, q4⟩
  · refine .inl ⟨h1, h2.mono ?_⟩
    rintro e w' ⟨v, rfl, μ', r, h', q1, q2, q3, q4⟩
    exact ⟨v, rfl, μ', r, h', q1, q2, q3, hk _ _ q4⟩
  · exact .inr ⟨v, h1, μ', r, h', q1, q2, q3, hk _ _ q4⟩
theorem abin_mono {op : BinOp} {k : IntKind} {a b : Int} {K K' : AV → Prop} (hk : ∀ v, K v → K' v) (h : abin op k a b K) : abin op k a b K' := by
  rcases abin_det (op := op) (k := k) (a := a) (b := b) with ⟨v, hv⟩ | hv
  · exact (hv K').2 (hk v ((hv K).1 h))
  · exact absurd h (hv K)
theorem bound_mono {ρ : Env} {d : Nat} {lo : Option AO} {K K' : Nat → Prop} (hk : ∀ v, K v → K' v) (h : boundOf ρ d lo K) : boundOf ρ d lo K' := by
  rcases bound_det (ρ := ρ) (d := d) (lo := lo) with ⟨v, hv⟩ | hv
  · exact (hv K').2 (hk v ((hv K).1 h))
  · exact absurd h (hv K)
theorem aexec_mono {P : Program} {o : AOp} {ρ : Env} {h : H} {K K' : AV → H → Prop} (hk : ∀ v h', K v h' → K' v h') (hx : aexec P o ρ h K) : aexec P o ρ h K' := by
  by_cases hn : o.ne = true
  · rcases det (P := P) hn ρ h with ⟨v, hv⟩ | hv
    · exact (hv K').2 (hk v h ((hv K).1 hx))
    · exact absurd hx (hv K)
  · cases o with
    | st n p v =>
      simp only [aexec] at hx ⊢
      split at hx
      · obtain ⟨r, h1, h2, h3, h4, h5, h6, h7⟩ := hx; exact ⟨r, h1, h2, h3, h4, h5, h6, hk _ _ h7⟩
      · exact hx
    | mk e z b zr l c =>
      simp only [aexec] at hx ⊢
      split at hx
      · exact ⟨hx.1, hx.2.1, hx.2.2.1, hk _ _ hx.2.2.2⟩
      · exact hx
    | bsl e z n zr ps =>
      simp only [aexec] at hx ⊢
      obtain ⟨l, h1, h2⟩ := hx
      exact ⟨l, h1, hk _ _ h2⟩
    | box e x => exact ⟨hx.1, hk _ _ hx.2⟩
    | alloc e zr => exact hk _ _ hx
    | app e z b s x =>
      simp only [aexec] at hx ⊢
      split at hx
      · refine ⟨fun h0 => hk _ _ (hx.1 h0), fun h0 => ?_⟩
        obtain ⟨j, r, h1, h2, h3, h4, h5, h6, h7⟩ := hx.2 h0
        refine ⟨j, r, h1, h2, h3, h4, h5, h6, ?_⟩
        rcases h7 with ⟨a1, a2, a3⟩ | ⟨i, q, a1, a2, a3, a4, a5, a6, a7⟩
        · exact .inl ⟨a1, a2, hk _ _ a3⟩
        · exact .inr ⟨i, q, a1, a2, a3, a4, a5, a6, hk _ _ a7⟩
      · exact hx
    | cpy z d s =>
      simp only [aexec] at hx ⊢
      split at hx
      · refine ⟨fun h0 => hk _ _ (hx.1 h0), fun h0 => ?_⟩
        obtain ⟨i, q, j, r, h1, h2, h3, h4, h5, h6, h7, h8, h9⟩ := hx.2 h0
        exact ⟨i, q, j, r, h1, h2, h3, h4, h5, h6, h7, h8, hk _ _ h9⟩
      · exact hx
    | call f asx => exact hx.mono hk
    | callV x asx =>
      simp only [aexec] at hx ⊢
      split at hx
      · exact hx.mono hk
      · exact hx
    | bad => exact hx
    | _ => exact absurd rfl hn
section
variable {P : Program}
theorem astep_mono {g : Option (Nat × Bool)} {o : AOp} {ρ : Env} {h : H} {K K' : AV → H → Prop} (hk : ∀ v h', K v h' → K' v h') (hx : astep P g o ρ h K) : astep P g o ρ h K' := by
  unfold astep at *
  split at hx
  · exact aexec_mono hk hx
  · split at hx
    · split at hx
      · rename_i hc; rw [if_pos hc]; exact aexec_mono hk hx
      · rename_i hc; rw [if_neg hc]; exact hk _ _ hx
    · exact hk _ _ hx
    · exact hx
theorem astep_congr {g : Option (Nat × Bool)} {o : AOp} {ρ ρ' : Env} {h : H} {K : AV → H → Prop} (hr : ∀ t ∈ grd g ++ o.rds, ρ t = ρ' t) : astep P g o ρ h K ↔ astep P g o ρ' h K := by
  unfold astep
  cases g with
  | none => exact aexec_congr (fun t ht => hr t (by simpa [grd] using ht))
  | some p =>
    obtain ⟨t, b⟩ := p
    have e : ρ t = ρ' t := hr t (by simp [grd])
    simp only [e]
    have e2 := aexec_congr (P := P) (o := o) (ρ := ρ) (ρ' := ρ') (h := h) (K := K) (fun t ht => hr t (by simp [ht]))
    split
    · split
      · exact e2
      · exact Iff.rfl
    · exact Iff.rfl
    · exact Iff.rfl
theorem sdet {g : Option (Nat × Bool)} {o : AOp} (ho : o.ne = true) (ρ : Env) (h : H) : (∃ v, ∀ K, astep P g o ρ h K ↔ K v h) ∨ (∀ K, ¬ astep P g o ρ h K) := by
  unfold astep
  cases g with
  | none => exact det ho ρ h
  | some p =>
    obtain ⟨t, b⟩ := p
    simp only
    split
    · split
      · exact det ho ρ h
      · exact .inl ⟨.tup [], fun K => Iff.rfl⟩
    · exact .inl ⟨.tup [], fun K => Iff.rfl⟩
    · exact .inr (fun K hk => hk)
theorem sdet_pure {g : Option (Nat × Bool)} {o : AOp} (ho : o.pure = true) (ρ : Env) : (∃ v, ∀ h K, astep P g o ρ h K ↔ K v h) ∨ (∀ h K, ¬ astep P g o ρ h K) := by
  unfold astep
  cases g with
  | none => exact det_pure ho ρ
  | some p =>
    obtain ⟨t, b⟩ := p
    simp only
    split
    · split
      · exact det_pure ho ρ
      · exact .inl ⟨.tup [], fun h K => Iff.rfl⟩
    · exact .inl ⟨.tup [], fun h K => Iff.rfl⟩
    · exact .inr (fun h K hk => hk)

def AOper.looks (o : AOper) : List Nat := grd o.g ++ o.op.rds
def apartB (x y : AOper) : Bool :=
  (match x.dst with
   | some d => !(y.looks).contains d && y.dst != some d
   | none => true) &&
  (match y.dst with
   | some d => !(x.looks).contains d
   | none => true)
theorem apartB_spec {x y : AOper} (h : apartB x y = true) : (∀ d, x.dst = some d → d ∉ y.looks) ∧ (∀ d, x.dst = some d → y.dst ≠ some d) ∧ (∀ d, y.dst = some d → d ∉ x.looks) := by
  refine ⟨fun d hd => ?_, fun d hd => ?_, fun d hd => ?_⟩ <;> simp [apartB, hd] at h
  · exact h.1.1
  · exact h.1.2
  · exact h.2
/-- The later one does not write what the former one reads or has written. -/
def stableB (x y : AOper) : Bool :=
  match y.dst with
  | some d => !(x.looks).contains d && x.dst != some d
  | none => true
theorem stableB_spec {x y : AOper} (h : stableB x y = true) : ∀ d, y.dst = some d → d ∉ x.looks ∧ x.dst ≠ some d := by
  intro d hd
  simp [stableB, hd] at h
  exact h
def selfB (x : AOper) : Bool := match x.dst with
  | some d => !(x.looks).contains d
  | none => true

theorem aput_ne {ρ : Env} {d : Option Nat} {v : AV} {t : Nat} (h : d ≠ some t) : aput ρ d v t = ρ t := by
  cases d with
  | none => rfl
  | some d => simp only [aput, upd]; rw [if_neg (fun e => h (by rw [e]))]
theorem aput_eq {ρ : Env} {d : Nat} {v : AV} : aput ρ (some d) v d = v := by simp [aput, upd]
theorem aput_comm {ρ : Env} {d e : Option Nat} {u v : AV} (h : ∀ x, d = some x → e ≠ some x) : aput (aput ρ d u) e v = aput (aput ρ e v) d u := by
  cases d with
  | none => rfl
  | some d =>
    cases e with
    | none => rfl
    | some e =>
      funext t
      simp only [aput, upd]
      by_cases h1 : t = e
      · by_cases h2 : t = d
        · exact absurd (by rw [← h1, h2]) (h d rfl)
        · simp [h1, show e ≠ d from fun x => h2 (by rw [h1, x])]
      · simp [h1]

/-- Operations that neither write nor call, one behind the other. -/
inductive NErun (P : Program) (h : H) : List AOper → Env → Env → Prop
  | nil (ρ : Env) : NErun P h [] ρ ρ
  | cons {o : AOper} {os : List AOper} {ρ ρ1 : Env} {v : AV} (hv : ∀ K, astep P o.g o.op ρ h K ↔ K v h) (hr : NErun P h os (aput ρ o.dst v) ρ1) : NErun P h (o :: os) ρ ρ1
theorem NErun.back {h : H} {pre : List AOper} {ρ ρ1 : Env} (hr : NErun P h pre ρ ρ1) (hc : ∀ j ∈ pre, j.chks = []) {os : List AOper} {Q : Env → H → Prop} (ho : aops P os Q ρ1 h) : aops P (pre ++ os) Q ρ h := by
  induction hr with
  | nil ρ => exact ho
  | cons hv hr ih =>
    simp only [List.cons_append, aops]
    rw [hv, hc _ (by simp)]
    exact ⟨trivial, ih (fun j hj => hc j (by simp [hj])) ho⟩
theorem NErun.of {h : H} {os : List AOper} {Q : Env → H → Prop} : ∀ {pre : List AOper} {ρ : Env}, (∀ j ∈ pre, j.op.ne = true) → aops P (pre ++ os) Q ρ h → ∃ ρ1, NErun P h pre ρ ρ1 ∧ aops P os Q ρ1 h
  | [], ρ, _, ho => ⟨ρ, .nil ρ, ho⟩
  | o :: pre, ρ, hn, ho => by
    simp only [List.cons_append, aops] at ho
    rcases sdet (P := P) (g := o.g) (hn o (by simp)) ρ h with ⟨v, hv⟩ | hv
    · rw [hv] at ho
      obtain ⟨ρ1, h1, h2⟩ := NErun.of (fun j hj => hn j (by simp [hj])) ho.2
      exact ⟨ρ1, .cons hv h1, h2⟩
    · exact absurd ho (hv _)
theorem NErun.out {h : H} {pre : List AOper} {ρ ρ1 : Env} (hr : NErun P h pre ρ ρ1) {t : Nat} (ht : ∀ j ∈ pre, j.dst ≠ some t) : ρ1 t = ρ t := by
  induction hr with
  | nil ρ => rfl
  | cons hv hr ih => rw [ih (fun j hj => ht j (by simp [hj])), aput_ne (ht _ (by simp))]
theorem NErun.again {h : H} {pre : List AOper} {ρ ρ1 : Env} (hr : NErun P h pre ρ ρ1) : (pre.Pairwise fun j k => j.op.pure = true ∨ stableB j k = true) → (∀ j ∈ pre, j.op.pure = true ∨ selfB j = true) → ∀ {j : AOper}, j ∈ pre → ¬ j.op.pure = true → achk P ρ1 h (j.dst, j.g, j.op) := by
  induction hr with
  | nil ρ => intro _ _ j hj; simp at hj
  | @cons o os ρ ρ1 v hv hr ih =>
    intro hp hs j hj hpu
    rcases List.mem_cons.1 hj with rfl | hj
    · have hself := (hs j (by simp)).resolve_left hpu
      have hst : ∀ k ∈ os, stableB j k = true := fun k hk => ((List.pairwise_cons.1 hp).1 k hk).resolve_left hpu
      have hlook : ∀ t ∈ j.looks, ρ1 t = ρ t := by
        intro t ht
        rw [hr.out (fun k hk e => (stableB_spec (hst k hk) t e).1 ht), aput_ne (fun e => by
          simp [selfB, e] at hself
          exact hself ht)]
      refine (astep_congr (fun t ht => hlook t ht)).2 ((hv _).2 (fun d hd => ?_))
      have hd' : j.dst = some d := hd
      rw [hr.out (fun k hk e => (stableB_spec (hst k hk) d e).2 hd), hd', aput_eq]
    · exact ih (List.pairwise_cons.1 hp).2 (fun k hk => hs k (by simp [hk])) hj hpu
/-- They come to the same behind an operation that is apart from them. -/
theorem NErun.over {h h' : H} {di : Option Nat} {u : AV} : ∀ {pre : List AOper} {ρ ρ1 : Env}, NErun P h pre ρ ρ1 → (∀ j ∈ pre, j.op.ne = true) → (∀ j ∈ pre, ∀ d, di = some d → d ∉ j.looks ∧ j.dst ≠ some d) →
    (pre.Pairwise fun j k => j.op.pure = true ∨ stableB j k = true) → (∀ j ∈ pre, j.op.pure = true ∨ selfB j = true) →
    (∀ j ∈ pre, j.op.pure = true ∨ achk P ρ1 h' (j.dst, j.g, j.op)) → NErun P h' pre (aput ρ di u) (aput ρ1 di u) := by
  intro pre ρ ρ1 hr
  induction hr with
  | nil ρ => intro _ _ _ _ _; exact .nil _
  | @cons o os ρ ρ1 v hv hr ih =>
    intro hn hd hp hs hc
    have hdo := hd o (by simp)
    have hcong : ∀ (h : H) (K : AV → H → Prop), astep P o.g o.op (aput ρ di u) h K ↔ astep P o.g o.op ρ h K := fun h K => astep_congr (fun t ht => aput_ne (fun e => (hdo t e).1 ht))
    have hcomm : ∀ v, aput (aput ρ di u) o.dst v = aput (aput ρ o.dst v) di u := fun v => aput_comm (fun x hx => (hdo x hx).2)
    have hrest := ih (fun j hj => hn j (by simp [hj])) (fun j hj => hd j (by simp [hj])) (List.pairwise_cons.1 hp).2 (fun j hj => hs j (by simp [hj])) (fun j hj => hc j (by simp [hj]))
    by_cases hpure : o.op.pure = true
    · have hv' : ∀ K, astep P o.g o.op ρ h' K ↔ K v h' := by
        rcases sdet_pure (P := P) (g := o.g) hpure ρ with ⟨v', hv'⟩ | hv'
        · have : v = v' := ((hv (fun x _ => x = v')).1 ((hv' h (fun x _ => x = v')).2 rfl))
          subst this
          exact hv' h'
        · exact absurd ((hv (fun _ _ => True)).2 trivial) (hv' h _)
      refine .cons (v := v) (fun K => (hcong h' K).trans (hv' K)) ?_
      rw [hcomm]
      exact hrest
    · have hst : ∀ k ∈ os, stableB o k = true := fun k hk => ((List.pairwise_cons.1 hp).1 k hk).resolve_left hpure
      have hself := (hs o (by simp)).resolve_left hpure
      have hchk := (hc o (by simp)).resolve_left hpure
      have hlook : ∀ t ∈ o.looks, ρ1 t = ρ t := by
        intro t ht
        rw [hr.out (fun j hj e => (stableB_spec (hst j hj) t e).1 ht), aput_ne (fun e => by
          simp [selfB, e] at hself
          exact hself ht)]
      have hchk' : astep P o.g o.op ρ h' (fun x _ => ∀ d, o.dst = some d → x = ρ1 d) := (astep_congr (fun t ht => hlook t ht)).1 hchk
      rcases sdet (P := P) (g := o.g) (hn o (by simp)) ρ h' with ⟨v', hv'⟩ | hv'
      · have h1 := (hv' _).1 hchk'
        have h2 : aput (aput ρ o.dst v') di u = aput (aput ρ o.dst v) di u := by
          cases hdst : o.dst with
          | none => rfl
          | some d =>
            have : v' = v := by
              rw [h1 d hdst, hr.out (fun j hj e => (stableB_spec (hst j hj) d e).2 hdst), hdst, aput_eq]
            rw [this]
        refine .cons (v := v') (fun K => (hcong h' K).trans (hv' K)) ?_
        rw [hcomm, h2]
        exact hrest
      · exact absurd hchk' (hv' _)
theorem achks_mem {ρ : Env} {h : H} : ∀ {l : List (Option Nat × Option (Nat × Bool) × AOp)}, achks P ρ h l → ∀ c ∈ l, achk P ρ h c
  | [], _, c, hc => by simp at hc
  | d :: l, hl, c, hc => by
    rcases List.mem_cons.1 hc with rfl | hc
    · exact hl.1
    · exact achks_mem hl.2 c hc
/-- An operation that waits for none of those ahead of it may be taken first. -/
theorem pull {pre rest : List AOper} {i : AOper} {Q : Env → H → Prop} {ρ : Env} {h : H} (ho : aops P (pre ++ i :: rest) Q ρ h) (hn : ∀ j ∈ pre, j.op.ne = true) (hch : ∀ j ∈ pre, j.chks = []) (ha : ∀ j ∈ pre, apartB j i = true)
    (hp : pre.Pairwise fun j k => j.op.pure = true ∨ stableB j k = true) (hs : ∀ j ∈ pre, j.op.pure = true ∨ selfB j = true) (hc : ∀ j ∈ pre, j.op.pure = true ∨ i.op.ne = true ∨ (j.dst, j.g, j.op) ∈ i.chks) :
    astep P i.g i.op ρ h (fun u h' => aops P (pre ++ rest) Q (aput ρ i.dst u) h') := by
  obtain ⟨ρ1, hr, ho⟩ := NErun.of hn ho
  simp only [aops] at ho
  have hlook : ∀ t ∈ i.looks, ρ1 t = ρ t := fun t ht => hr.out (fun j hj e => (apartB_spec (ha j hj)).1 t e ht)
  have hdj : ∀ j ∈ pre, ∀ d, i.dst = some d → d ∉ j.looks ∧ j.dst ≠ some d := fun j hj d hd => ⟨(apartB_spec (ha j hj)).2.2 d hd, fun e => (apartB_spec (ha j hj)).2.1 d e hd⟩
  have ho' := (astep_congr (P := P) (g := i.g) (o := i.op) (fun t ht => hlook t ht)).1 ho
  by_cases hi : i.op.ne = true
  · rcases sdet (P := P) (g := i.g) hi ρ h with ⟨v, hv⟩ | hv
    · rw [hv] at ho' ⊢
      refine NErun.back (hr.over (h' := h) hn hdj hp hs (fun j hj => ?_)) hch ho'.2
      -- memory is asx it was
      by_cases hpu : j.op.pure = true
      · exact .inl hpu
      · refine .inr ?_
        exact hr.again hp hs hj hpu
    · exact absurd ho' (hv _)
  · refine astep_mono (fun u h' hk => ?_) ho'
    refine NErun.back (hr.over (h' := h') hn hdj hp hs (fun j hj => ?_)) hch hk.2
    rcases hc j hj with h1 | h1 | h1
    · exact .inl h1
    · exact absurd h1 hi
    · exact .inr (achks_mem hk.1 _ h1)
end
end Ab
end Go.Proofs.Ytnmnkocibjdhjaa
