/- The machine's operations do what the abstract ones say: all of them together. No condition. -/
import Derived.Test.YteoagnggnekfiaaA5
namespace Go.Proofs.Yteoagnggnekfiaa
namespace Ab
open Go Go.RowKit

section
variable {P : Program} {base : Nat} {w0 w : World} {μ : Mu} {h : H} {K : AV → H → Prop}
theorem copy_any {t t' ty e : TypeId} {ie : TypeInfo} (ht : P.underlying t = some (.slice e)) (hi : P.info? e = some ie)
    {d s : AV} {vd vs : Value} (hd : Rel μ d vd) (hs : Rel μ s vs) (R : Rep base w0 μ w h)
    (hk : match (generalizing := false) d, s with
      | .sl idd offd n _, .sl ids offs m _ =>
        (min m n = 0 → K (.int .i64 0) h) ∧
        (min m n ≠ 0 → ∃ i q j r, idd = some i ∧ h.rows i = some q ∧ q.own ≠ none ∧ ids = some j ∧ h.rows j = some r ∧ offs + min m n * ie.size ≤ r.cells.length ∧ offd + min m n * ie.size ≤ q.cells.length ∧
          (((r.cells.drop offs).take (min m n * ie.size)).all (·.one)) = true ∧ K (.int .i64 (min m n)) (h.set i { q with cells := putAt q.cells offd ((r.cells.drop offs).take (min m n * ie.size)) }))
      | _, _ => False) : ∃ v w', (Builtin.copy_ #[t, t'] ty #[vd, vs]).run P w = .ok v w' ∧ Fin base w0 μ K v w' := by
  obtain ⟨idd, offd, n, cd, rfl⟩ : ∃ ids offs n cs, d = .sl ids offs n cs := by cases d <;> first | exact hk.elim | exact ⟨_, _, _, _, rfl⟩
  obtain ⟨ids, offs, m, cs, rfl⟩ : ∃ idx offx m c, s = .sl idx offx m c := by cases s <;> first | exact hk.elim | exact ⟨_, _, _, _, rfl⟩
  by_cases h0 : min m n = 0
  · have hk0 := hk.1 h0
    clear hk
    have hn0 : Nat.min m n = 0 := h0
    have run0 : ∀ (A : Option Addr) (c : Nat) (B : Option Addr) (c' : Nat), (Builtin.copy_ #[t, t'] ty #[.slice A n c, .slice B m c']).run P w = .ok (goInt 0) w := by
      intro A c B c'
      cases A <;> cases B <;> simp [Builtin.copy_, run_underlying ht, szOf hi, Builtin.lenOf, Builtin.firstCells, hn0, loadCells, loadCellsFrom, storeCells]
    cases hd with
    | snil _ =>
      cases hs with
      | snil _ => exact ⟨_, _, run0 _ _ _ _, Fin.same R (.int _ _) hk0⟩
      | sl => exact ⟨_, _, run0 _ _ _ _, Fin.same R (.int _ _) hk0⟩
    | sl =>
      cases hs with
      | snil _ => exact ⟨_, _, run0 _ _ _ _, Fin.same R (.int _ _) hk0⟩
      | sl => exact ⟨_, _, run0 _ _ _ _, Fin.same R (.int _ _) hk0⟩
  · obtain ⟨i, q, j, r, rfl, hq, hqo, rfl, hr, hfr, hfq, hone, hk2⟩ := hk.2 h0
    clear hk
    cases hd with
    | @sl _ _ _ _ pd capd A hpd hA hld hcd hTd =>
      cases hs with
      | @sl _ _ _ _ ps caps B hps hB hls hcs hTs =>
        have hA' : A = some (pd.addr.add offd) := by
          rcases hA with hA | hA
          · omega
          · exact hA
        have hB' : B = some (ps.addr.add offs) := by
          rcases hB with hB | hB
          · omega
          · exact hB
        subst hA'
        subst hB'
        obtain ⟨ps', hps', hRs⟩ := R.row j r hr
        rw [hps] at hps'
        injection hps' with hps'
        subst hps'
        obtain ⟨news, hn1, hn2, hn3⟩ := row_cells hRs offs (min m n * ie.size) hfr
        obtain ⟨w', hw, R'⟩ := write_cells (P := P) R hq hqo hpd hn3 (hn3.oneCell (by simpa using hone)) (by rw [hn3.1, hn1]; exact hfq)
        have hload := run_loadCells_list (P := P) w _ news hn2
        rw [hn1] at hload
        refine ⟨_, w', ?_, ⟨μ, _, _, μ.le_refl, .int _ _, R', hk2⟩⟩
        have hmn : Nat.min m n = min m n := rfl
        simp [Builtin.copy_, run_underlying ht, szOf hi, Builtin.lenOf, Builtin.firstCells, hmn, hload, hw, goInt]
        omega
theorem mnx_any {mx : Bool} {k : IntKind} : ∀ {a : Int} {ys : List AV} {vs : List Value} {Kv : AV → Prop}, RelA μ ys vs → mnxs mx k a ys Kv → ∃ n : Int, (vs.foldlM (if mx then Builtin.max2 else Builtin.min2) (Value.int k a)).run P w = .ok (.int k n) w ∧ Kv (.int k n) := by
  intro a ys
  induction ys generalizing a with
  | nil =>
    intro vs Kv hr hk
    rw [hr.inv_nil]
    exact ⟨a, rfl, hk⟩
  | cons y ys ih =>
    intro vs Kv hr hk
    obtain ⟨v, vs', rfl, hy, hr'⟩ := hr.inv
    cases hy with
    | int k' b =>
      simp only [mnxs] at hk
      obtain ⟨rfl, hk⟩ := hk
      obtain ⟨n, hn, hkn⟩ := ih hr' hk
      refine ⟨n, ?_, hkn⟩
      rw [List.foldlM_cons, Sem.run_bind]
      have : ((if mx then Builtin.max2 else Builtin.min2) (Value.int k a) (Value.int k b)).run P w = .ok (.int k (if mx then max a b else min a b)) w := by
        cases mx
        · simp only [Builtin.min2, Bool.false_eq_true, if_false, Sem.run_pure]
          congr 2
          omega
        · simp only [Builtin.max2, if_true, Sem.run_pure]
          congr 2
          omega
      rw [this, Result.andThen_ok]
      exact hn
    | _ => simp [mnxs] at hk
/-- A call, at the operation. -/
theorem upon_inv {o : Oper} {a : Act} {f : FuncId} {vs : Array Value} {next : Act → World → Prop} {Q : Exit → Act → World → Prop} {Rr : Value → World → Prop} (hi : Inv P f vs w Rr) (hn : ∀ v w', Rr v w' → next (a.put o.dst v) w') :
    o.upon P a next Q ((callFunc f vs).run P w) := by
  rcases hi with ⟨hr, hc⟩ | ⟨v, hr, hv⟩
  · rw [hr, Oper.upon_enter]
    refine hc.mono ?_
    rintro e w' ⟨v, rfl, hv⟩
    exact hn v w' hv
  · rw [hr, Oper.upon_value]
    exact hn v w hv
theorem op_sound {n : Nat} {ρ : Env} {a : Act} {o : Oper} {next : Act → World → Prop} {Q : Exit → Act → World → Prop} (hx : aexec P (compileOp P n o.op) ρ h K) (hρ : RelT n μ ρ a) (R : Rep base w0 μ w h)
    (hn : ∀ rv w', Fin base w0 μ K rv w' → next (a.put o.dst rv) w') : o.wp P a w next Q := by
  -- an operation that answers a value
  have val : ∀ {s : Sem Value}, (∃ v w', s.run P w = .ok v w' ∧ Fin base w0 μ K v w') → o.upon P a next Q ((do pure (Next.value (← s)) : Sem Next).run P w) := by
    rintro s ⟨v, w', hr, hf⟩
    rw [Sem.run_bind, hr, Result.andThen_ok, Sem.run_pure, Oper.upon_value]
    exact hn v w' hf
  have val1 : ∀ {s : Sem Value}, (∃ v, s.run P w = .ok v w ∧ Fin base w0 μ K v w) → o.upon P a next Q ((do pure (Next.value (← s)) : Sem Next).run P w) := by
    rintro s ⟨v, hr, hf⟩
    exact val ⟨v, w, hr, hf⟩
  have unit_ : ∀ {s : Sem Unit}, (∃ w', s.run P w = .ok () w' ∧ Fin base w0 μ K undef w') → o.upon P a next Q ((do s; pure Next.skip : Sem Next).run P w) := by
    rintro s ⟨w', hr, hf⟩
    rw [Sem.run_bind, hr, Result.andThen_ok, Sem.run_pure, Oper.upon_skip]
    exact hn undef w' hf
  have mv : ∀ x : Operand, K (aev ρ (cop n x)) h → o.upon P a next Q ((pure (Next.value (a.eval x)) : Sem Next).run P w) := by
    intro x hk
    rw [Sem.run_pure, Oper.upon_value]
    exact hn _ w (Fin.same R (cop_rel hρ x) hk)
  unfold Oper.wp execOp
  cases ho : o.op <;> rw [ho] at hx <;> simp only [compileOp] at hx <;> simp only []
  case move x => exact mv x hx
  case assign x => exact mv x hx
  case pick c x y =>
    have hc := cop_rel hρ c
    simp only [aexec] at hx
    split at hx
    · rename_i t heq
      rw [heq] at hc
      cases hc' : a.eval c <;> rw [hc'] at hc <;> cases hc
      rw [Sem.run_bind]
      simp only [asBool, Sem.run_pure, Result.andThen_ok, Oper.upon_value]
      refine hn _ w (Fin.same R ?_ hx)
      split
      · exact cop_rel hρ x
      · exact cop_rel hρ y
    · exact hx.elim
  case binOp op t x y t' =>
    have h1 := cop_rel hρ x
    have h2 := cop_rel hρ y
    have fin : ∀ {Kv : AV → Prop}, (∀ v, Kv v → K v h) → (∃ v, (binOp op t (a.eval x) (a.eval y)).run P w = .ok v w ∧ ∃ u, Kv u ∧ ∀ μ : Mu, Rel μ u v) → (eqGuard op t x y (a.eval x) (a.eval y)).run P w = .ok () w →
        o.upon P a next Q ((do pure (Next.value (← (do eqGuard op t x y (a.eval x) (a.eval y); binOp op t (a.eval x) (a.eval y)))) : Sem Next).run P w) := by
      rintro Kv hk ⟨v, hr, u, hu, hrel⟩ hg
      refine val ⟨v, w, ?_, Fin.same R (hrel μ) (hk u hu)⟩
      rw [Sem.run_bind, hg, Result.andThen_ok]
      exact hr
    have ints : aexec P (.bin op (cop n x) (cop n y)) ρ h K → o.upon P a next Q ((do pure (Next.value (← (do eqGuard op t x y (a.eval x) (a.eval y); binOp op t (a.eval x) (a.eval y)))) : Sem Next).run P w) := by
      intro hx
      simp only [aexec] at hx
      have hx0 := hx
      refine fin (fun v hv => hv) (bin_any h1 h2 hx0) ?_
      unfold abinV at hx
      split at hx
      · rename_i e1 e2
        rw [e1] at h1
        rw [e2] at h2
        cases hv1 : a.eval x <;> rw [hv1] at h1 <;> cases h1
        cases hv2 : a.eval y <;> rw [hv2] at h2 <;> cases h2
        exact guard_int
      · exact hx.elim
    have bools : ∀ neq : Bool, P.underlying t = some .bool → op = (if neq then .neq else .eql) → aexec P (.beq neq (cop n x) (cop n y)) ρ h K → o.upon P a next Q ((do pure (Next.value (← (do eqGuard op t x y (a.eval x) (a.eval y); binOp op t (a.eval x) (a.eval y)))) : Sem Next).run P w) := by
      intro neq ht hop hx
      simp only [aexec] at hx
      split at hx
      · rename_i b1 b2 e1 e2
        rw [e1] at h1
        rw [e2] at h2
        cases hv1 : a.eval x <;> rw [hv1] at h1 <;> cases h1
        cases hv2 : a.eval y <;> rw [hv2] at h2 <;> cases h2
        rw [hv1, hv2] at fin
        refine fin (Kv := fun v => K v h) (fun v hv => hv) ⟨.bool (if neq then b1 != b2 else b1 == b2), ?_, _, hx, fun μ => .bool _⟩ guard_bool
        subst hop
        cases neq <;> cases b1 <;> cases b2 <;> simp [binOp, eq_bool ht]
      · exact hx.elim
    have ptrs : ∀ (neq : Bool) (e : TypeId), P.underlying t = some (.pointer e) → op = (if neq then .neq else .eql) → aexec P (.peq neq (cop n x) (cop n y)) ρ h K → o.upon P a next Q ((do pure (Next.value (← (do eqGuard op t x y (a.eval x) (a.eval y); binOp op t (a.eval x) (a.eval y)))) : Sem Next).run P w) := by
      intro neq e ht hop hx
      have eqn : ∀ b : Option Addr, (Op.equal t (.pointer none) (.pointer b)).run P w = .ok b.isNone w := by
        intro b
        have hh : ∀ d, (Op.equalIn (d + 1) t (.pointer none) (.pointer b)).run P w = .ok b.isNone w := fun d => by simp [Op.equalIn, run_underlying ht]
        exact hh 9999
      have eqs : ∀ b : Addr, (Op.equal t (.pointer (some b)) (.pointer none)).run P w = .ok false w := by
        intro b
        have hh : ∀ d, (Op.equalIn (d + 1) t (.pointer (some b)) (.pointer none)).run P w = .ok false w := fun d => by simp [Op.equalIn, run_underlying ht]
        exact hh 9999
      have gd : ∀ (p q : Option Addr), (eqGuard op t x y (.pointer p) (.pointer q)).run P w = .ok () w := by
        intro p q
        unfold eqGuard
        cases op <;> rfl
      simp only [aexec] at hx
      split at hx
      · rename_i b e1 e2
        rw [e1] at h1
        rw [e2] at h2
        cases hv1 : a.eval x <;> rw [hv1] at h1 <;> cases h1
        cases hv2 : a.eval y <;> rw [hv2] at h2
        all_goals first | (cases h2; done) | skip
        rename_i q
        rw [hv1, hv2] at fin
        have hq : q.isNone = b.isNone := by cases h2 <;> rfl
        refine fin (Kv := fun v => K v h) (fun v hv => hv) ⟨.bool (neq != b.isNone), ?_, _, hx, fun μ => .bool _⟩ (gd _ _)
        subst hop
        cases neq <;> simp [binOp, eqn, hq]
      · rename_i e1 e2
        rw [e1] at h1
        rw [e2] at h2
        cases hv1 : a.eval x <;> rw [hv1] at h1 <;> cases h1
        cases hv2 : a.eval y <;> rw [hv2] at h2 <;> cases h2
        rw [hv1, hv2] at fin
        refine fin (Kv := fun v => K v h) (fun v hv => hv) ⟨.bool neq, ?_, _, hx, fun μ => .bool _⟩ (gd _ _)
        subst hop
        cases neq <;> simp [binOp, eqs]
      · exact hx.elim
    have strs : ∀ neq : Bool, P.underlying t = some .string → op = (if neq then .neq else .eql) → aexec P (.seq neq (cop n x) (cop n y)) ρ h K → o.upon P a next Q ((do pure (Next.value (← (do eqGuard op t x y (a.eval x) (a.eval y); binOp op t (a.eval x) (a.eval y)))) : Sem Next).run P w) := by
      intro neq ht hop hx
      simp only [aexec] at hx
      split at hx
      · rename_i b1 b2 e1 e2
        rw [e1] at h1
        rw [e2] at h2
        cases hv1 : a.eval x <;> rw [hv1] at h1 <;> cases h1
        cases hv2 : a.eval y <;> rw [hv2] at h2 <;> cases h2
        rw [hv1, hv2] at fin
        refine fin (Kv := fun v => K v h) (fun v hv => hv) ⟨.bool (neq != (b1 == b2)), ?_, _, hx, fun μ => .bool _⟩ guard_str
        subst hop
        cases neq <;> simp [binOp, Op.stringOp, beq_toListBytes]
      · exact hx.elim
    have cats : op = .add → aexec P (.cat (cop n x) (cop n y)) ρ h K → o.upon P a next Q ((do pure (Next.value (← (do eqGuard op t x y (a.eval x) (a.eval y); binOp op t (a.eval x) (a.eval y)))) : Sem Next).run P w) := by
      intro hop hx
      simp only [aexec] at hx
      split at hx
      · rename_i b1 b2 e1 e2
        rw [e1] at h1
        rw [e2] at h2
        cases hv1 : a.eval x <;> rw [hv1] at h1 <;> cases h1
        cases hv2 : a.eval y <;> rw [hv2] at h2 <;> cases h2
        rw [hv1, hv2] at fin
        refine fin (Kv := fun v => K v h) (fun v hv => hv) ⟨.string (b1 ++ b2), ?_, _, hx.2, fun μ => .str _⟩ guard_str
        subst hop
        have hmax : IntKind.i64.max = 9223372036854775807 := by decide
        have : ¬ (((b1.size + b2.size : Nat) : Int) > IntKind.i64.max) := by rw [hmax]; omega
        simp only [binOp, Op.stringOp]
        rw [if_neg this]
        rfl
      · exact hx.elim
    have aggs : ∀ (neq : Bool) (fs : Array Field), P.underlying t = some (.struct fs) → aeqOk P t = true → op = (if neq then .neq else .eql) → aexec P (.aeq neq fs.size (cop n x) (cop n y)) ρ h K → o.upon P a next Q ((do pure (Next.value (← (do eqGuard op t x y (a.eval x) (a.eval y); binOp op t (a.eval x) (a.eval y)))) : Sem Next).run P w) := by
      intro neq fs ht hok hop hx
      simp only [aexec] at hx
      split at hx
      · rename_i l m e1 e2
        rw [e1] at h1
        rw [e2] at h2
        cases hv1 : a.eval x <;> rw [hv1] at h1 <;> cases h1
        rename_i c1 c2
        cases hv2 : a.eval y <;> rw [hv2] at h2 <;> cases h2
        rename_i c3 c4
        rw [hv1, hv2] at fin
        obtain ⟨hl, hm, b, hb, hk⟩ := hx
        obtain ⟨r1, r2⟩ := aeq_ok (P := P) (w := w) ht hok ⟨by simpa using c1, fun i u v hu hv => c2 i u v hu (by simpa using hv)⟩ ⟨by simpa using c3, fun i u v hu hv => c4 i u v hu (by simpa using hv)⟩ hl hm hb
        refine fin (Kv := fun v => K v h) (fun v hv => hv) ⟨.bool (neq != b), ?_, _, hk, fun μ => .bool _⟩ (run_eqGuard_agg w op t x y _ _ r2)
        subst hop
        cases neq
        · simp only [Bool.false_eq_true, if_false, run_eql_struct, r1, Result.andThen_ok, Bool.false_bne]
        · simp only [if_true, run_neq_struct, r1, Result.andThen_ok, Bool.true_bne]
      · exact hx.elim
    split at hx
    · rename_i hu; exact bools false hu rfl hx
    · rename_i hu; exact bools true hu rfl hx
    · rename_i hu; exact ptrs false _ hu rfl hx
    · rename_i hu; exact ptrs true _ hu rfl hx
    · exact cats rfl hx
    · rename_i hu; exact strs false hu rfl hx
    · rename_i hu; exact strs true hu rfl hx
    · rename_i hu
      split at hx
      · rename_i hok; exact aggs false _ hu hok rfl hx
      · exact hx.elim
    · rename_i hu
      split at hx
      · rename_i hok; exact aggs true _ hu hok rfl hx
      · exact hx.elim
    · exact ints hx
    · exact hx.elim
  case unOp op t x =>
    exact val1 (un_any (cop_rel hρ x) R hx)
  case convert s d x =>
    split at hx
    · rename_i k' k hs hd
      simp only [aexec] at hx
      have hr := cop_rel hρ x
      split at hx
      · rename_i e1
        rw [e1] at hr
        cases hv1 : a.eval x <;> rw [hv1] at hr <;> cases hr
        refine val1 ⟨_, ?_, Fin.same R (.int _ _) hx⟩
        simp [convert, run_underlying hs, run_underlying hd, Conv.intToInt]
      · exact hx.elim
    · exact hx.elim
  case indexAddr t x i =>
    split at hx
    · split at hx
      · rename_i hu _ ie hie; exact val1 (index_slice hu hie (cop_rel hρ x) (cop_rel hρ i) R hx)
      · exact hx.elim
    · split at hx
      · rename_i hu _ ie hie; exact val1 (index_array hu hie (cop_rel hρ x) (cop_rel hρ i) R hx)
      · exact hx.elim
    · exact hx.elim
  case index t x i =>
    split at hx
    · rename_i hu
      have h1 := cop_rel hρ x
      have h2 := cop_rel hρ i
      simp only [aexec] at hx
      split at hx
      · rename_i s k m e1 e2
        rw [e1] at h1
        rw [e2] at h2
        cases hv1 : a.eval x <;> rw [hv1] at h1 <;> cases h1
        cases hv2 : a.eval i <;> rw [hv2] at h2 <;> cases h2
        obtain ⟨h0, b, hb, hk⟩ := hx
        refine val1 ⟨_, ?_, Fin.same R (.int _ _) hk⟩
        simp [Instr.index, asIntOf, run_underlying hu, h0, hb]
      · exact hx.elim
    · exact hx.elim
  case fieldAddr t x i =>
    split at hx
    · split at hx
      · split at hx
        · split at hx
          · exact hx.elim
          · rename_i hu _ f hf _ it hit hz; exact val1 (field_addr hu hf hit hz (cop_rel hρ x) R hx)
        · exact hx.elim
      · exact hx.elim
    · exact hx.elim
  case load t x =>
    split at hx
    · rename_i s hs; exact val1 (load_any hs (cop_rel hρ x) R hx)
    · exact hx.elim
  case store t x v =>
    split at hx
    · rename_i i hi; exact unit_ (store_any hi (cop_rel hρ x) (cop_rel hρ v) R hx)
    · exact hx.elim
  case nilCheck x =>
    simp only [aexec] at hx
    have hr := cop_rel hρ x
    split at hx
    · rename_i e1
      rw [e1] at hr
      cases hv1 : a.eval x <;> rw [hv1] at hr <;> cases hr
      rw [Sem.run_pure, Oper.upon_value]
      rename_i hp
      exact hn _ w (Fin.same R (.ptr hp) hx)
    · exact hx.elim
  case field t x i =>
    split at hx
    · split at hx
      · split at hx
        · rename_i hu _ f hf _ s hs; exact val1 (field_of hu hf hs (cop_rel hρ x) R hx)
        · exact hx.elim
      · exact hx.elim
    · exact hx.elim
  case makeSlice t l c =>
    split at hx
    · split at hx
      · split at hx
        · split at hx
          · rename_i hu _ ie hie _ z hz hc; exact val (make_any hu hie hz hc.1 hc.2.2 (cop_rel hρ l) (cop_rel hρ c) R hx)
          · exact hx.elim
        · exact hx.elim
      · exact hx.elim
    · exact hx.elim
  case buildSlice t m parts =>
    split at hx
    · split at hx
      · split at hx
        · split at hx
          · rename_i hu _ ie hie _ z hz hc; exact val (buildSlice_any hu hie hz hc.1 hc.2.1 hc.2.2 hρ parts R hx)
          · exact hx.elim
        · exact hx.elim
      · exact hx.elim
    · exact hx.elim
  case box e x =>
    simp only [aexec] at hx
    exact val (box_any (cop_rel hρ x) R hx.1 hx.2)
  case alloc e =>
    split at hx
    · split at hx
      · rename_i i hi _ z hz; exact val (alloc_any hi hz R hx)
      · exact hx.elim
    · exact hx.elim
  case extract x i =>
    simp only [aexec] at hx
    have hr := cop_rel hρ x
    split at hx
    · rename_i l e1
      rw [e1] at hr
      cases hv1 : a.eval x <;> rw [hv1] at hr <;> cases hr
      rename_i vs h1 h2
      obtain ⟨u, hu, hk⟩ := hx
      obtain ⟨v, hv, hrel⟩ := rel_get h1 h2 hu
      refine val1 ⟨v, ?_, Fin.same R hrel hk⟩
      simp [Instr.extract, hv]
    · exact hx.elim
  case makeFunc fn first caps =>
    cases fn with
    | func f =>
      simp only [aexec] at hx
      have c1 := cops_rel hρ first.toList
      have c2 := cops_rel hρ caps.toList
      refine val1 ⟨_, rfl, Fin.same R ?_ hx⟩
      exact .fn (vs := first.map a.eval) (ws := caps.map a.eval) (by simp) (fun i u v hu hv => c1.2 i u v hu (by rw [← Array.toList_map]; simpa using hv)) (by simp) (fun i u v hu hv => c2.2 i u v hu (by rw [← Array.toList_map]; simpa using hv))
    | _ => exact hx.elim
  case slice t x lo hi mx =>
    cases mx with
    | some m => exact hx.elim
    | none =>
      simp only at hx
      split at hx
      · split at hx
        · rename_i hu _ ie hie
          have hr := cop_rel hρ x
          simp only [aexec] at hx
          split at hx
          · rename_i id off len cap e1
            rw [e1] at hr
            have bnd : ∀ (y : Option Operand) (d : Nat) (Kp : Nat → Prop), boundOf ρ d (y.map (cop n)) Kp → ∃ m, (match y.map a.eval with | none => m = d | some v => ∃ k i, v = .int k i ∧ 0 ≤ i ∧ m = i.toNat) ∧ Kp m := by
              intro y d Kp hb
              cases y with
              | none => exact ⟨d, rfl, hb⟩
              | some y =>
                simp only [Option.map_some, boundOf] at hb
                split at hb
                · rename_i k i e2
                  have := cop_rel hρ y
                  rw [e2] at this
                  cases hv1 : a.eval y <;> rw [hv1] at this <;> cases this
                  exact ⟨i.toNat, ⟨k, i, by simpa using hv1, hb.1, rfl⟩, hb.2⟩
                · exact hb.elim
            obtain ⟨b, hb, hx⟩ := bnd hi len _ hx
            obtain ⟨c, hc, hx⟩ := bnd lo 0 _ hx
            exact val1 (slice_any hu hie hr R rfl hb hc hx.1 hx.2.1 hx.2.2.2 hx.2.2.1)
          · exact hx.elim
        · exact hx.elim
      · exact hx.elim
  case build t parts =>
    have fin : ∀ (cells : Array Value) (l : List AV), P.built t (parts.map fun (i, x) => (i, a.eval x)).toList = some cells → RelA μ l cells.toList → K (.agg l) h →
        o.upon P a next Q ((do pure (Next.value (← Instr.build t (parts.map fun (i, x) => (i, a.eval x)))) : Sem Next).run P w) := by
      intro cells l hb hr hk
      exact val1 ⟨_, run_build w t _ cells hb, Fin.same R hr.agg hk⟩
    split at hx
    · rename_i hit hu
      split at hx
      · rename_i z ie hz hie
        simp only [aexec] at hx
        obtain ⟨l, hl, hk⟩ := hx
        have hp : ∀ ps : List (Nat × Operand), Parts μ (fun i => some (i * ie.size, ie.size)) (ps.map fun (i, x) => (i, a.eval x)) ((ps.map fun p => (p.1 * ie.size, ie.size, cop n p.2)).map fun p => (p.1, p.2.1, aev ρ p.2.2)) := by
          intro ps
          induction ps with
          | nil => exact trivial
          | cons p ps ih => exact ⟨rfl, cop_rel hρ p.2, ih⟩
        obtain ⟨cs, h1, h2⟩ := fill_build (place := fun i => some (i * ie.size, ie.size)) _ _ _ _ _ (hp parts.toList) (ofCs_rel μ z.cells.toList) hl
        refine fin cs l ?_ h2 hk
        unfold Program.built
        rw [hit, hu]
        simp only [hz, hie, Array.toList_map]
        exact h1
      · exact hx.elim
    · rename_i hit hu
      split at hx
      · rename_i z places hz hpl
        split at hx
        · rename_i l0 hl0
          simp only [aexec] at hx
          obtain ⟨l, hl, hk⟩ := hx
          have hp : ∀ (ps : List (Nat × Operand)) (l0 : List (Nat × Nat × AO)), ps.mapM (fun p => (places[p.1]?).map fun q => (q.1, q.2, cop n p.2)) = some l0 → Parts μ (places.toArray[·]?) (ps.map fun (i, x) => (i, a.eval x)) (l0.map fun p => (p.1, p.2.1, aev ρ p.2.2)) := by
            intro ps
            induction ps with
            | nil => intro l0 h0; simp at h0; subst h0; exact trivial
            | cons p ps ih =>
              intro l0 h0
              simp only [List.mapM_cons, Option.bind_eq_bind, Option.pure_def] at h0
              cases hq : places[p.1]? with
              | none => simp [hq] at h0
              | some q =>
                cases hr : ps.mapM (fun p => (places[p.1]?).map fun q => (q.1, q.2, cop n p.2)) with
                | none => simp [hq, hr] at h0
                | some rest =>
                  simp [hq, hr] at h0
                  subst h0
                  exact ⟨by simpa using hq, cop_rel hρ p.2, ih rest hr⟩
          obtain ⟨cs, h1, h2⟩ := fill_build (place := (places.toArray[·]?)) _ _ _ _ _ (hp parts.toList l0 hl0) (ofCs_rel μ z.cells.toList) hl
          refine fin cs l ?_ h2 hk
          unfold Program.built
          rw [hit, hu]
          simp only [hz, hpl, Array.toList_map]
          exact h1
        · exact hx.elim
      · exact hx.elim
    · exact hx.elim
  case call c =>
    have blt : ∀ (b : Builtin) (s : Sem Value), c.callee = .builtin b → (∀ cs, builtin b c.argTypes o.type cs (c.args.map a.eval) = (do pure (Next.value (← s)) : Sem Next)) → (∃ v w', s.run P w = .ok v w' ∧ Fin base w0 μ K v w') →
        o.upon P a next Q ((do let d ← resolve a.eval c o.type; invoke d.target d.args : Sem Next).run P w) := by
      intro b s hc hb hs
      have e : (resolve a.eval c o.type) = pure { target := .builtin b c.argTypes o.type (c.args.map fun | .const _ => true | _ => false), args := c.args.map a.eval } := by
        unfold resolve
        rw [hc]
        rfl
      rw [e, Sem.run_bind, Sem.run_pure, Result.andThen_ok]
      simp only [invoke, hb]
      exact val hs
    have fnc : ∀ (x : Operand) (f : FuncId) (first caps : List AV), c.callee = .value x → Rel μ (.fn f first caps) (a.eval x) → ACalls P f (first ++ (c.args.toList.map (cop n)).map (aev ρ) ++ caps) h K →
        o.upon P a next Q ((do let d ← resolve a.eval c o.type; invoke d.target d.args : Sem Next).run P w) := by
      intro x f first caps hc hr hk
      cases hv1 : a.eval x <;> rw [hv1] at hr <;> cases hr
      rename_i vs ws h1 h2 h3 h4
      have e : (resolve a.eval c o.type) = pure { target := .fn (.func f) ws, args := vs ++ c.args.map a.eval } := by
        unfold resolve
        rw [hc]
        simp only [hv1, Deferred.ofValue]
      rw [e, Sem.run_bind, Sem.run_pure, Result.andThen_ok]
      simp only [invoke]
      have c1 : RelA μ first vs.toList := ⟨by simpa using h1, fun i u v hu hv => h2 i u v hu (by simpa using hv)⟩
      have c3 : RelA μ caps ws.toList := ⟨by simpa using h3, fun i u v hu hv => h4 i u v hu (by simpa using hv)⟩
      have hi := hk base w0 μ w _ R ((c1.append (cops_rel hρ c.args.toList)).append c3)
      have ea : (vs.toList ++ c.args.toList.map a.eval ++ ws.toList).toArray = vs ++ c.args.map a.eval ++ ws := by
        apply Array.ext'
        simp
      rw [ea] at hi
      refine upon_inv hi ?_
      rintro v w' ⟨μ', r, h', q1, q2, q3, q4⟩
      exact hn v w' ⟨μ', r, h', q1, q2, q3, q4⟩
    have args1 : ∀ x : Operand, c.args.toList = [x] → c.args = #[x] := fun x h => Array.ext' (by simpa using h)
    have args2 : ∀ x y : Operand, c.args.toList = [x, y] → c.args = #[x, y] := fun x y h => Array.ext' (by simpa using h)
    have types1 : ∀ x : TypeId, c.argTypes.toList = [x] → c.argTypes = #[x] := fun x h => Array.ext' (by simpa using h)
    have types2 : ∀ x y : TypeId, c.argTypes.toList = [x, y] → c.argTypes = #[x, y] := fun x y h => Array.ext' (by simpa using h)
    split at hx
    · rename_i f hc
      exact fnc _ f [] [] hc (.fn rfl (fun i u v hu => by simp at hu) rfl (fun i u v hu => by simp at hu)) (by simpa [aexec] using hx)
    · rename_i x _ hc
      simp only [aexec] at hx
      have hr := cop_rel hρ x
      split at hx
      · rename_i f first caps e1
        rw [e1] at hr
        exact fnc x f first caps hc hr hx
      · exact hx.elim
    · rename_i hc
      split at hx
      · rename_i x t ha ht'
        have ha' := args1 _ ha
        have ht'' := types1 _ ht'
        have hr := cop_rel hρ x
        split at hx
        · rename_i e hu
          refine blt .len _ hc (fun _ => rfl) ?_
          rw [ha', ht'']
          simp only [aexec] at hx
          split at hx
          · rename_i e1
            rw [e1] at hr
            cases hv1 : a.eval x <;> rw [hv1] at hr <;> cases hr
            all_goals exact ⟨_, _, by simp [Builtin.len_, run_underlying hu, hv1, goInt], Fin.same R (.int _ _) hx⟩
          · rename_i hh _; cases hh
          · exact hx.elim
        · rename_i hu
          refine blt .len _ hc (fun _ => rfl) ?_
          rw [ha', ht'']
          simp only [aexec] at hx
          split at hx
          · rename_i hh _; cases hh
          · rename_i e1
            rw [e1] at hr
            cases hv1 : a.eval x <;> rw [hv1] at hr <;> cases hr
            all_goals exact ⟨_, _, by simp [Builtin.len_, run_underlying hu, hv1, goInt], Fin.same R (.int _ _) hx⟩
          · exact hx.elim
        · exact hx.elim
      · exact hx.elim
    · rename_i hc
      split at hx
      · rename_i x t ha ht'
        have ha' := args1 _ ha
        have ht'' := types1 _ ht'
        have hr := cop_rel hρ x
        split at hx
        · rename_i e hu
          refine blt .cap _ hc (fun _ => rfl) ?_
          rw [ha', ht'']
          simp only [aexec] at hx
          split at hx
          · rename_i m e1
            rw [e1] at hr
            cases hv1 : a.eval x <;> rw [hv1] at hr
            all_goals first
              | (cases hr; done)
              | (cases hr with
                | snil hcc =>
                  have := hcc m rfl
                  subst this
                  exact ⟨_, _, by simp [Builtin.cap_, run_underlying hu, hv1, goInt], Fin.same R (.int _ _) hx⟩
                | sl hp hA hl hcc ht =>
                  have := hcc m rfl
                  subst this
                  exact ⟨_, _, by simp [Builtin.cap_, run_underlying hu, hv1, goInt], Fin.same R (.int _ _) hx⟩)
          · exact hx.elim
        · exact hx.elim
      · exact hx.elim
    · rename_i hc
      split at hx
      · rename_i x ys ha
        simp only [aexec] at hx
        have hr := cop_rel hρ x
        split at hx
        · rename_i k i e1
          rw [e1] at hr
          cases hv1 : a.eval x <;> rw [hv1] at hr <;> cases hr
          obtain ⟨m, hm, hk⟩ := mnx_any (P := P) (w := w) (cops_rel hρ ys) hx
          refine blt .min _ hc (fun _ => rfl) ⟨_, _, ?_, Fin.same R (.int _ _) hk⟩
          simp only [Builtin.min_, Array.toList_map, ha, List.map_cons, hv1]
          exact hm
        · exact hx.elim
      · exact hx.elim
    · rename_i hc
      split at hx
      · rename_i x ys ha
        simp only [aexec] at hx
        have hr := cop_rel hρ x
        split at hx
        · rename_i k i e1
          rw [e1] at hr
          cases hv1 : a.eval x <;> rw [hv1] at hr <;> cases hr
          obtain ⟨m, hm, hk⟩ := mnx_any (P := P) (w := w) (cops_rel hρ ys) hx
          refine blt .max _ hc (fun _ => rfl) ⟨_, _, ?_, Fin.same R (.int _ _) hk⟩
          simp only [Builtin.max_, Array.toList_map, ha, List.map_cons, hv1]
          exact hm
        · exact hx.elim
      · exact hx.elim
    · rename_i hc
      split at hx
      · rename_i s x t t' ha ht'
        have ha' := args2 _ _ ha
        have ht'' := types2 _ _ ht'
        split at hx
        · rename_i htt
          subst htt
          split at hx
          · split at hx
            · split at hx
              · split at hx
                · rename_i e hu _ ie hie _ z hz hcc
                  refine blt .append _ hc (fun _ => rfl) ?_
                  rw [ha', ht'']
                  have hx' := append_any (ty := o.type) hu hie hz hcc.1 hcc.2 (cop_rel hρ s) (cop_rel hρ x) R hx
                  simpa using hx'
                · exact hx.elim
              · exact hx.elim
            · exact hx.elim
          · exact hx.elim
        · exact hx.elim
      · exact hx.elim
    · rename_i hc
      split at hx
      · rename_i d s t t' ha ht'
        have ha' := args2 _ _ ha
        have ht'' := types2 _ _ ht'
        split at hx
        · split at hx
          · rename_i e hu _ ie hie
            refine blt .copy _ hc (fun _ => rfl) ?_
            rw [ha', ht'']
            have hx' := copy_any (t' := t') (ty := o.type) hu hie (cop_rel hρ d) (cop_rel hρ s) R hx
            simpa using hx'
          · exact hx.elim
        · exact hx.elim
      · exact hx.elim
    · exact hx.elim
  all_goals exact hx.elim
end
end Ab
end Go.Proofs.Yteoagnggnekfiaa
