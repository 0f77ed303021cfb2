/- What the statements of chapter 4 compute. No condition. -/
import Derived.Test.YteoagnggnekfiaaH5
import Derived.Test.YteoagnggnekfiaaL3
namespace Go.Proofs.Yteoagnggnekfiaa
namespace Ab
open Go Go.RowKit
set_option linter.unusedSimpArgs false
set_option linter.unusedVariables false
attribute [local go_sem ↓] x_mv x_pick x_bin x_beq x_peq x_seq x_cat x_aeq x_idxS x_un x_cvI x_idx x_idxA x_fld x_ld x_st x_nn x_prt x_slc x_mk x_bsl x_bld x_box x_alloc x_len x_capo x_mnx x_app x_cpy x_mkf x_ext x_call x_callV x_bad s_none s_some s_nil s_cons s_chks w_skip w_reg w_seq w_cond w_block w_exit w_ret t_normal t_exit t_ret b_normal b_ret b_exit n_normal n_exit n_ret p_normal p_ret f_nil f_t f_c k_ops k_chk k_fin
attribute [local go_sem] e_t e_c e_f u_some u_none u_at env_at k_v k_pick k_add k_sub k_mul k_quo k_rem k_and k_or k_xor k_shl k_shr k_eql k_neq k_lss k_leq k_gtr k_geq k_beq k_peqn k_peqs k_neg k_not k_com k_cvI k_idxS k_idx k_idxA k_idxG k_ldG k_gld k_seq k_cat k_aeq k_eqs k_fld k_ld1 k_ldn k_get k_gets k_sti k_stb k_stp k_sts k_stf k_sta k_put k_nn k_prt1 k_prtn k_slc_a k_slc_b k_slc_c k_mk k_agg k_bsl k_box k_len k_lenS k_cap k_max k_min k_ext k_callV k_true k_false k_gtt k_gtf k_gft k_gsk k_gff k_lit1i k_lit2i k_lit3i k_c0 k_c1 k_ck List.getElem?_cons_zero List.getElem?_cons_succ List.getElem?_nil Option.getD_some Option.getD_none tupOf List.map_cons List.map_nil Option.map_some Option.map_none List.nil_append List.cons_append List.append_nil Nat.mul_one Int.toNat_natCast Nat.zero_add
theorem length_calls {n : Int} {h : H} {K : AV → H → Prop} (hk : ∀ k : Nat, k ≤ 400 → K (.int .i64 (k : Int)) h) : ACalls Try.prog 17 [.int .i64 n] h K := by
  refine in_law04_length (by simp) fun hw => ?_
  unfold c_law04_length
  by_cases h0 : n < 0
  · simp only [go_sem, ↓reduceIte, Nat.reduceEqDiff, Nat.reduceAdd, Bool.false_eq_true, Int.reduceToNat, decide_eq_true h0]
    refine Within_calls (n := 400) (by omega) (by omega) fun k hk2 _ => ?_
    simp only [go_sem, ↓reduceIte, Nat.reduceEqDiff, Nat.reduceAdd, Bool.false_eq_true, Int.reduceToNat]
    exact fun _ => hk k (by omega)
  · by_cases h1 : 400 < n
    · simp only [go_sem, ↓reduceIte, Nat.reduceEqDiff, Nat.reduceAdd, Bool.false_eq_true, Int.reduceToNat, decide_eq_false h0, decide_eq_true h1]
      refine Within_calls (n := 400) (by omega) (by omega) fun k hk2 _ => ?_
      simp only [go_sem, ↓reduceIte, Nat.reduceEqDiff, Nat.reduceAdd, Bool.false_eq_true, Int.reduceToNat]
      exact fun _ => hk k (by omega)
    · simp only [go_sem, ↓reduceIte, Nat.reduceEqDiff, Nat.reduceAdd, Bool.false_eq_true, Int.reduceToNat, decide_eq_false h0, decide_eq_false h1]
      obtain ⟨k, rfl⟩ : ∃ k : Nat, n = k := ⟨n.toNat, by omega⟩
      exact fun _ => hk k (by omega)
/-- A tune that nothing was spent of. -/
def tuneCells (t : Tb) : List AV := [.int .i64 0, .int .i64 0, .int .i64 0] ++ t.cells
theorem New_calls {t : Tb} {h : H} {K : AV → H → Prop} (hk : ∀ id h', h'.wf → h.le h' → h.next ≤ id → h'.rows id = some ⟨some 45, 14, tuneCells (clampT t)⟩ → K (.ptr (some (id, 0))) h') : ACalls Try.prog 27 [t.av] h K := by
  refine in_table_New (by simp) fun hw => ?_
  unfold c_table_New
  have hl1 := H.le_new hw (H.le_refl h) ⟨some 23, 11, t.cells⟩
  simp only [go_sem, ↓reduceIte, Nat.reduceEqDiff, Nat.reduceAdd, Bool.false_eq_true, Int.reduceToNat, av_held, av_cells, cells_len, true_and, gsT (H.rows_new h _)]
  refine Clamp_calls fun h1 hw1 hl2 => ?_
  simp only [go_sem, ↓reduceIte, Nat.reduceEqDiff, Nat.reduceAdd, Bool.false_eq_true, Int.reduceToNat]
  simp only [bld14, go_sem, ↓reduceIte, Nat.reduceEqDiff, Nat.reduceAdd, Bool.false_eq_true, Int.reduceToNat]
  exact ⟨rfl, fun hw' => hk _ _ hw' (H.le_new hw1 (H.le_trans hl1 hl2) _) (Nat.le_trans (Nat.le_succ _) hl2.1) (H.rows_new _ _)⟩
theorem tRoute_calls {t : Tb} {id : Nat} {n m : Int} {h : H} {K : AV → H → Prop} (hr : h.rows id = some ⟨some 45, 14, tuneCells t⟩) (hk : ∀ h', h'.wf → h.le h' → K (.int .i64 (routeT t n m : Nat)) h') :
    ACalls Try.prog 37 [.ptr (some (id, 0)), .int .i64 n, .int .i64 m] h K := by
  refine in_table_Tune_Route (by simp) fun hw => ?_
  unfold c_table_Tune_Route
  have hg : h.gets id 3 11 = some t.cells := by rw [H.gets_of hr (by simp [tuneCells, cells_len])]; simp [tuneCells, Tb.cells]
  simp only [go_sem, ↓reduceIte, Nat.reduceEqDiff, Nat.reduceAdd, Bool.false_eq_true, Int.reduceToNat, hg]
  refine Route_calls fun h1 hw1 hl1 => ?_
  simp only [go_sem, ↓reduceIte, Nat.reduceEqDiff, Nat.reduceAdd, Bool.false_eq_true, Int.reduceToNat]
  exact fun _ => hk h1 hw1 hl1
theorem routeT_comm {t : Tb} {n m : Int} : routeT t n m = routeT t m n := by
  unfold routeT
  rw [Int.max_comm, Int.min_comm]
  congr 1
  simp only [eq_iff_iff]
  omega
theorem routeT_clamp {t : Tb} {n m : Int} : routeT (clampT t) n m = routeT t n m := by unfold routeT; rw [clamp_clamp]
theorem costT_clamp {t : Tb} {n m : Nat} : costT (clampT t) n m = costT t n m := by unfold costT; rw [clamp_clamp]
theorem sqT_clamp {t : Tb} {n : Nat} : sqT (clampT t) n = sqT t n := by unfold sqT; rw [clamp_clamp]
theorem costT_comm {t : Tb} {n m : Nat} : costT t n m = costT t m n := by unfold costT; rw [Nat.max_comm, Nat.min_comm]
theorem costT_le {t : Tb} {n m : Nat} (hn : n ≤ 16384) (hm : m ≤ 16384) : costT t n m ≤ 8 * (n * m) := by
  have := cost_bound (clamp_isT t).ok 20000 (max n m) (min n m) (by omega) (by omega) (by omega)
  have e : max n m * min n m = n * m := by
    rcases Nat.le_total n m with h | h
    · rw [Nat.max_eq_right h, Nat.min_eq_left h, Nat.mul_comm]
    · rw [Nat.max_eq_left h, Nat.min_eq_right h]
  rw [e] at this
  exact this
theorem sqT_le {t : Tb} {n : Nat} (hn : n ≤ 16384) : sqT t n ≤ 8 * (n * n) := by
  have h1 := sq_bound (clamp_isT t).ok 20000 n (by omega)
  have h2 := cost_bound (clamp_isT t).ok 20000 n n (Nat.le_refl n) (by omega) hn
  exact Nat.le_trans h1 h2
theorem costT_zero {t : Tb} {n m : Nat} (hn : n ≤ 16384) (hm : m ≤ 16384) : costT t n m = 0 ↔ (n = 0 ∨ m = 0) := by
  constructor
  · intro h
    rcases Nat.eq_zero_or_pos (min n m) with h0 | h0
    · omega
    · have := cost_pos (clamp_isT t).ok 20000 (max n m) (min n m) (by omega) (by omega) h0
      unfold costT at h
      omega
  · intro h
    have := costT_le (t := t) hn hm
    have e : n * m = 0 := by rcases h with h | h <;> simp [h]
    omega
theorem gsK {h h' : H} {t : Tb} (hw : h.wf) (hl : (h.new ⟨some 23, 11, t.cells⟩).le h') : h'.gets h.next 0 11 = some t.cells := gsT (hl.2 _ _ (H.rows_new h _))
theorem beq_self_int {a : Int} : (a == a) = true := by simp
theorem TableRoutes_law {t : Tb} {n m : Int} {h : H} {K : AV → H → Prop} (hk : ∀ h', h'.wf → h.le h' → K (.bool true) h') : ACalls Try.prog 8 [t.av, .int .i64 n, .int .i64 m] h K := by
  refine in_law04_TableRoutes (by simp) fun hw => ?_
  unfold c_law04_TableRoutes
  have hl0 := H.le_new hw (H.le_refl h) ⟨some 23, 11, t.cells⟩
  have hr0 := H.rows_new h ⟨some 23, 11, t.cells⟩
  simp only [go_sem, ↓reduceIte, Nat.reduceEqDiff, Nat.reduceAdd, Bool.false_eq_true, Int.reduceToNat, av_held, av_cells, cells_len, true_and, gsT hr0]
  generalize hg : h.new ⟨some 23, 11, t.cells⟩ = g0 at *
  refine New_calls fun id g1 hw1 hl1 _ hu => ?_
  have hr1 := hl1.2 _ _ hr0
  simp only [go_sem, ↓reduceIte, Nat.reduceEqDiff, Nat.reduceAdd, Bool.false_eq_true, Int.reduceToNat]
  refine length_calls fun a ha => ?_
  simp only [go_sem, ↓reduceIte, Nat.reduceEqDiff, Nat.reduceAdd, Bool.false_eq_true, Int.reduceToNat]
  refine length_calls fun b hb => ?_
  simp only [go_sem, ↓reduceIte, Nat.reduceEqDiff, Nat.reduceAdd, Bool.false_eq_true, Int.reduceToNat, gsT hr1]
  refine rRoute_calls fun g2 hw2 hl2 => ?_
  have hr2 := hl2.2 _ _ hr1
  simp only [go_sem, ↓reduceIte, Nat.reduceEqDiff, Nat.reduceAdd, Bool.false_eq_true, Int.reduceToNat, gsT hr2]
  refine Route_calls fun g3 hw3 hl3 => ?_
  have hr3 := hl3.2 _ _ hr2
  simp only [go_sem, ↓reduceIte, Nat.reduceEqDiff, Nat.reduceAdd, Bool.false_eq_true, Int.reduceToNat, beq_self_int]
  refine tRoute_calls (hl3.2 _ _ (hl2.2 _ _ hu)) fun g4 hw4 hl4 => ?_
  have hr4 := hl4.2 _ _ hr3
  rw [routeT_clamp]
  simp only [go_sem, ↓reduceIte, Nat.reduceEqDiff, Nat.reduceAdd, Bool.false_eq_true, Int.reduceToNat, beq_self_int, gsT hr4]
  refine Route_calls fun g5 hw5 hl5 => ?_
  have hr5 := hl5.2 _ _ hr4
  rw [routeT_comm]
  simp only [go_sem, ↓reduceIte, Nat.reduceEqDiff, Nat.reduceAdd, Bool.false_eq_true, Int.reduceToNat, beq_self_int, gsT hr5]
  refine Route_calls fun g6 hw6 hl6 => ?_
  have hr6 := hl6.2 _ _ hr5
  simp only [go_sem, ↓reduceIte, Nat.reduceEqDiff, Nat.reduceAdd, Bool.false_eq_true, Int.reduceToNat, gsT hr6, and_true, true_and]
  refine rRoute_calls fun g7 hw7 hl7 => ?_
  simp only [go_sem, ↓reduceIte, Nat.reduceEqDiff, Nat.reduceAdd, Bool.false_eq_true, Int.reduceToNat, beq_self_int]
  refine wakes04_calls fun g8 hw8 hl8 => ?_
  simp only [go_sem, ↓reduceIte, Nat.reduceEqDiff, Nat.reduceAdd, Bool.false_eq_true, Int.reduceToNat]
  exact fun _ => hk g8 hw8 (H.le_trans hl0 (H.le_trans hl1 (H.le_trans hl2 (H.le_trans hl3 (H.le_trans hl4 (H.le_trans hl5 (H.le_trans hl6 (H.le_trans hl7 hl8))))))))
theorem TableCosts_law {t : Tb} {n m w : Int} {h : H} {K : AV → H → Prop} (hk : ∀ h', h'.wf → h.le h' → K (.bool true) h') : ACalls Try.prog 9 [t.av, .int .i64 n, .int .i64 m, .int .i64 w] h K := by
  refine in_law04_TableCosts (by simp) fun hw => ?_
  unfold c_law04_TableCosts
  have hl0 := H.le_new hw (H.le_refl h) ⟨some 23, 11, t.cells⟩
  have hr0 := H.rows_new h ⟨some 23, 11, t.cells⟩
  simp only [go_sem, ↓reduceIte, Nat.reduceEqDiff, Nat.reduceAdd, Bool.false_eq_true, Int.reduceToNat, av_held, av_cells, cells_len, true_and]
  generalize hg : h.new ⟨some 23, 11, t.cells⟩ = g0 at *
  refine length_calls fun a ha => ?_
  simp only [go_sem, ↓reduceIte, Nat.reduceEqDiff, Nat.reduceAdd, Bool.false_eq_true, Int.reduceToNat]
  refine length_calls fun b hb => ?_
  simp only [go_sem, ↓reduceIte, Nat.reduceEqDiff, Nat.reduceAdd, Bool.false_eq_true, Int.reduceToNat, gsT hr0]
  refine Cost_calls (by omega) (by omega) fun g1 hw1 hl1 => ?_
  have hr1 := hl1.2 _ _ hr0
  simp only [go_sem, ↓reduceIte, Nat.reduceEqDiff, Nat.reduceAdd, Bool.false_eq_true, Int.reduceToNat, gsT hr1, and_true, true_and]
  refine rCost_calls 20000 a b _ _ (by omega) (by omega) fun g2 hw2 hl2 => ?_
  have hr2 := hl2.2 _ _ hr1
  rw [show costT t a b = costF (clampT t).base.toNat (clampT t).toom.toNat (clampT t).ntt.toNat 20000 (max a b) (min a b) from rfl]
  simp only [go_sem, ↓reduceIte, Nat.reduceEqDiff, Nat.reduceAdd, Bool.false_eq_true, Int.reduceToNat, beq_self_int, gsT hr2]
  refine Square_calls (by omega) fun g3 hw3 hl3 => ?_
  have hr3 := hl3.2 _ _ hr2
  simp only [go_sem, ↓reduceIte, Nat.reduceEqDiff, Nat.reduceAdd, Bool.false_eq_true, Int.reduceToNat, gsT hr3, and_true, true_and]
  refine rSquare_calls 20000 a _ _ (by omega) (by omega) fun g4 hw4 hl4 => ?_
  rw [show sqT t a = sqF (clampT t).base.toNat (clampT t).toom.toNat (clampT t).ntt.toNat 20000 a from rfl]
  simp only [go_sem, ↓reduceIte, Nat.reduceEqDiff, Nat.reduceAdd, Bool.false_eq_true, Int.reduceToNat, beq_self_int]
  refine Transform_calls ?_
  simp only [go_sem, ↓reduceIte, Nat.reduceEqDiff, Nat.reduceAdd, Bool.false_eq_true, Int.reduceToNat]
  refine rTransform_calls ?_
  simp only [go_sem, ↓reduceIte, Nat.reduceEqDiff, Nat.reduceAdd, Bool.false_eq_true, Int.reduceToNat, beq_self_int]
  refine wakes04_calls fun g5 hw5 hl5 => ?_
  simp only [go_sem, ↓reduceIte, Nat.reduceEqDiff, Nat.reduceAdd, Bool.false_eq_true, Int.reduceToNat]
  exact fun _ => hk g5 hw5 (H.le_trans hl0 (H.le_trans hl1 (H.le_trans hl2 (H.le_trans hl3 (H.le_trans hl4 hl5)))))
theorem TableSquare_law {t : Tb} {n m : Int} {h : H} {K : AV → H → Prop} (hk : ∀ h', h'.wf → h.le h' → K (.bool true) h') : ACalls Try.prog 10 [t.av, .int .i64 n, .int .i64 m] h K := by
  refine in_law04_TableSquare (by simp) fun hw => ?_
  unfold c_law04_TableSquare
  have hl0 := H.le_new hw (H.le_refl h) ⟨some 23, 11, t.cells⟩
  have hr0 := H.rows_new h ⟨some 23, 11, t.cells⟩
  simp only [go_sem, ↓reduceIte, Nat.reduceEqDiff, Nat.reduceAdd, Bool.false_eq_true, Int.reduceToNat, av_held, av_cells, cells_len, true_and]
  generalize hg : h.new ⟨some 23, 11, t.cells⟩ = g0 at *
  refine length_calls fun a ha => ?_
  simp only [go_sem, ↓reduceIte, Nat.reduceEqDiff, Nat.reduceAdd, Bool.false_eq_true, Int.reduceToNat]
  refine length_calls fun b hb => ?_
  have q1 : a * b ≤ 400 * 400 := Nat.mul_le_mul ha hb
  have q2 : a * a ≤ 400 * 400 := Nat.mul_le_mul ha ha
  have e1 : IntKind.i64.wrap (8 * (a : Int)) = ((8 * a : Nat) : Int) := by rw [wI] <;> omega
  have e2 := mulI (a := 8 * a) (b := b) (by rw [Nat.mul_assoc]; omega)
  have e3 := mulI (a := 8 * a) (b := a) (by rw [Nat.mul_assoc]; omega)
  have c1 := costT_le (t := t) (n := a) (m := b) (by omega) (by omega)
  have c2 := sqT_le (t := t) (n := a) (by omega)
  have c3 := costT_zero (t := t) (n := a) (m := b) (by omega) (by omega)
  simp only [go_sem, ↓reduceIte, Nat.reduceEqDiff, Nat.reduceAdd, Bool.false_eq_true, Int.reduceToNat, gsT hr0, e1, e2]
  refine Cost_calls (by omega) (by omega) fun g1 hw1 hl1 => ?_
  have hr1 := hl1.2 _ _ hr0
  simp only [go_sem, ↓reduceIte, Nat.reduceEqDiff, Nat.reduceAdd, Bool.false_eq_true, Int.reduceToNat, gsT hr1, leT (show costT t a b ≤ 8 * a * b by rw [Nat.mul_assoc]; exact c1), e1, e3]
  refine Square_calls (by omega) fun g2 hw2 hl2 => ?_
  have hr2 := hl2.2 _ _ hr1
  simp only [go_sem, ↓reduceIte, Nat.reduceEqDiff, Nat.reduceAdd, Bool.false_eq_true, Int.reduceToNat, gsT hr2, leT (show sqT t a ≤ 8 * a * a by rw [Nat.mul_assoc]; exact c2)]
  refine Cost_calls (by omega) (by omega) fun g3 hw3 hl3 => ?_
  have hr3 := hl3.2 _ _ hr2
  simp only [go_sem, ↓reduceIte, Nat.reduceEqDiff, Nat.reduceAdd, Bool.false_eq_true, Int.reduceToNat, gsT hr3, and_true, true_and]
  refine Cost_calls (by omega) (by omega) fun g4 hw4 hl4 => ?_
  have hr4 := hl4.2 _ _ hr3
  rw [costT_comm (n := b)]
  simp only [go_sem, ↓reduceIte, Nat.reduceEqDiff, Nat.reduceAdd, Bool.false_eq_true, Int.reduceToNat, beq_self_int, gsT hr4]
  refine Cost_calls (by omega) (by omega) fun g5 hw5 hl5 => ?_
  have hle := (H.le_trans hl0 (H.le_trans hl1 (H.le_trans hl2 (H.le_trans hl3 (H.le_trans hl4 hl5)))))
  rcases Nat.eq_zero_or_pos a with h1 | h1
  · simp only [go_sem, ↓reduceIte, Nat.reduceEqDiff, Nat.reduceAdd, Bool.false_eq_true, Int.reduceToNat, eqT (show (a : Int) = 0 by omega), eqT (show ((costT t a b : Nat) : Int) = 0 by omega), beq_self_eq_true]
    refine wakes04_calls fun g6 hw6 hl6 => ?_
    simp only [go_sem, ↓reduceIte, Nat.reduceEqDiff, Nat.reduceAdd, Bool.false_eq_true, Int.reduceToNat]
    exact fun _ => hk g6 hw6 (H.le_trans hle hl6)
  · rcases Nat.eq_zero_or_pos b with h2 | h2
    · simp only [go_sem, ↓reduceIte, Nat.reduceEqDiff, Nat.reduceAdd, Bool.false_eq_true, Int.reduceToNat, eqF (show (a : Int) ≠ 0 by omega), eqT (show (b : Int) = 0 by omega), eqT (show ((costT t a b : Nat) : Int) = 0 by omega), beq_self_eq_true]
      refine wakes04_calls fun g6 hw6 hl6 => ?_
      simp only [go_sem, ↓reduceIte, Nat.reduceEqDiff, Nat.reduceAdd, Bool.false_eq_true, Int.reduceToNat]
      exact fun _ => hk g6 hw6 (H.le_trans hle hl6)
    · simp only [go_sem, ↓reduceIte, Nat.reduceEqDiff, Nat.reduceAdd, Bool.false_eq_true, Int.reduceToNat, eqF (show (a : Int) ≠ 0 by omega), eqF (show (b : Int) ≠ 0 by omega), eqF (show ((costT t a b : Nat) : Int) ≠ 0 by omega), beq_self_eq_true]
      refine wakes04_calls fun g6 hw6 hl6 => ?_
      simp only [go_sem, ↓reduceIte, Nat.reduceEqDiff, Nat.reduceAdd, Bool.false_eq_true, Int.reduceToNat]
      exact fun _ => hk g6 hw6 (H.le_trans hle hl6)
theorem TableMore_law {t : Tb} {n m w : Int} {h : H} {K : AV → H → Prop} (hk : ∀ h', h'.wf → h.le h' → K (.bool true) h') : ACalls Try.prog 11 [t.av, .int .i64 n, .int .i64 m, .int .i64 w] h K := by
  refine in_law04_TableMore (by simp) fun hw => ?_
  unfold c_law04_TableMore
  have hw0 := H.wf_new hw ⟨some 23, 11, t.cells⟩
  have hl0 := H.le_new hw (H.le_refl h) ⟨some 23, 11, t.cells⟩
  have hr0 := H.rows_new h ⟨some 23, 11, t.cells⟩
  simp only [go_sem, ↓reduceIte, Nat.reduceEqDiff, Nat.reduceAdd, Bool.false_eq_true, Int.reduceToNat, av_held, av_cells, cells_len, true_and]
  have hn0 : h.next < (h.new ⟨some 23, 11, t.cells⟩).next := Nat.lt_succ_self _
  generalize hg : h.new ⟨some 23, 11, t.cells⟩ = g0 at *
  refine length_calls fun a ha => ?_
  simp only [go_sem, ↓reduceIte, Nat.reduceEqDiff, Nat.reduceAdd, Bool.false_eq_true, Int.reduceToNat]
  refine length_calls fun b hb => ?_
  simp only [go_sem, ↓reduceIte, Nat.reduceEqDiff, Nat.reduceAdd, Bool.false_eq_true, Int.reduceToNat, gsT hr0]
  refine Clamp_calls fun g1 hw1 hl1 => ?_
  have hr1 := hl1.2 _ _ hr0
  have hn1 : h.next < g1.next := Nat.lt_of_lt_of_le hn0 hl1.1
  simp only [go_sem, ↓reduceIte, Nat.reduceEqDiff, Nat.reduceAdd, Bool.false_eq_true, Int.reduceToNat]
  simp only [Tb.av, k_sta, H.rows_new, k_put]
  refine ⟨rfl, rfl, Option.some_ne_none _, by simp [cells_len], ?_⟩
  have ep : ∀ z : List AV, z.length = 11 → putAt z 0 (clampT t).cells = (clampT t).cells := fun z hz => by
    simp only [putAt_zero, cells_len, List.drop_of_length_le (Nat.le_of_eq hz), List.append_nil]
  simp only [ep _ (rfl : ([.int .i64 0, .int .i64 0, .int .i64 0, .int .i64 0, .int .i64 0, .int .i64 0, .int .i64 0, .int .i64 0, .int .i64 0, .int .i64 0, .int .i64 0] : List AV).length = 11)]
  -- the clamped one lies behind
  generalize hz : (g1.new ⟨some 23, ([.int .i64 0, .int .i64 0, .int .i64 0, .int .i64 0, .int .i64 0, .int .i64 0, .int .i64 0, .int .i64 0, .int .i64 0, .int .i64 0, .int .i64 0] : List AV).length, [.int .i64 0, .int .i64 0, .int .i64 0, .int .i64 0, .int .i64 0, .int .i64 0, .int .i64 0, .int .i64 0, .int .i64 0, .int .i64 0, .int .i64 0]⟩).set g1.next ⟨some 23, ([.int .i64 0, .int .i64 0, .int .i64 0, .int .i64 0, .int .i64 0, .int .i64 0, .int .i64 0, .int .i64 0, .int .i64 0, .int .i64 0, .int .i64 0] : List AV).length, (clampT t).cells⟩ = g2
  have hw2 : g2.wf := by rw [← hz]; exact H.wf_set (H.wf_new hw1 _) (Nat.lt_succ_self _) _
  have hl2 : g1.le g2 := by rw [← hz]; exact H.le_set hw1 (H.le_new hw1 (H.le_refl g1) _) (Nat.le_refl _) _
  have hr2 := hl2.2 _ _ hr1
  have hc2 : g2.rows g1.next = some ⟨some 23, 11, (clampT t).cells⟩ := by rw [← hz]; exact H.rows_set _ _ _
  clear hz hg
  have e1 := incI (i := a) (by omega)
  have e2 := incI (i := b) (by omega)
  have tm : transZ a b 3 ≤ transZ ((a + 1 : Nat) : Int) ((b + 1 : Nat) : Int) 3 := by
    rw [show (3 : Int) = ((3 : Nat) : Int) from rfl, transZ_nat (n := a + 1) (m := b + 1) (by omega) (by omega) (by omega) (by omega) (by omega)]
    rcases Nat.eq_zero_or_pos a with h1 | h1
    · rw [bad_trans (.inl (by omega))]; omega
    · rcases Nat.eq_zero_or_pos b with h2 | h2
      · rw [bad_trans (.inr (.inl (by omega)))]; omega
      · rw [transZ_nat h1 h2 (by omega) (by omega) (by omega)]
        have := trans_mono (n := a) (m := b) (a := a + 1) (b := b + 1) (w := 3) (by omega) (by omega)
        omega
  have tw : transZ a b 2 ≤ transZ a b 3 := by
    rw [show (3 : Int) = ((3 : Nat) : Int) from rfl, show (2 : Int) = ((2 : Nat) : Int) from rfl]
    rcases Nat.eq_zero_or_pos a with h1 | h1
    · rw [bad_trans (.inl (by omega)), bad_trans (.inl (by omega))]; omega
    · rcases Nat.eq_zero_or_pos b with h2 | h2
      · rw [bad_trans (.inr (.inl (by omega))), bad_trans (.inr (.inl (by omega)))]; omega
      · rw [transZ_nat h1 h2 (by omega) (by omega) (by omega), transZ_nat h1 h2 (by omega) (by omega) (by omega)]
        have := trans_ways (n := a) (m := b) (w := 2) (v := 3) (by omega)
        omega
  simp only [go_sem, ↓reduceIte, Nat.reduceEqDiff, Nat.reduceAdd, Bool.false_eq_true, Int.reduceToNat, e1, e2]
  refine Transform_calls ?_
  simp only [go_sem, ↓reduceIte, Nat.reduceEqDiff, Nat.reduceAdd, Bool.false_eq_true, Int.reduceToNat]
  refine Transform_calls ?_
  simp only [go_sem, ↓reduceIte, Nat.reduceEqDiff, Nat.reduceAdd, Bool.false_eq_true, Int.reduceToNat, decide_eq_true tm]
  refine Transform_calls ?_
  simp only [go_sem, ↓reduceIte, Nat.reduceEqDiff, Nat.reduceAdd, Bool.false_eq_true, Int.reduceToNat]
  refine Transform_calls ?_
  simp only [go_sem, ↓reduceIte, Nat.reduceEqDiff, Nat.reduceAdd, Bool.false_eq_true, Int.reduceToNat, decide_eq_true tw, gsT hc2, gsT hr2]
  refine Cost_calls (t := clampT t) (by omega) (by omega) fun g3 hw3 hl3 => ?_
  have hr3 := hl3.2 _ _ hr2
  have hc3 := hl3.2 _ _ hc2
  rw [costT_clamp]
  simp only [go_sem, ↓reduceIte, Nat.reduceEqDiff, Nat.reduceAdd, Bool.false_eq_true, Int.reduceToNat, gsT hr3, and_true, true_and]
  refine Cost_calls (by omega) (by omega) fun g4 hw4 hl4 => ?_
  have hr4 := hl4.2 _ _ hr3
  have hc4 := hl4.2 _ _ hc3
  simp only [go_sem, ↓reduceIte, Nat.reduceEqDiff, Nat.reduceAdd, Bool.false_eq_true, Int.reduceToNat, beq_self_int, gsT hr4, gsT hc4]
  refine Square_calls (t := clampT t) (by omega) fun g5 hw5 hl5 => ?_
  have hr5 := hl5.2 _ _ hr4
  rw [sqT_clamp]
  simp only [go_sem, ↓reduceIte, Nat.reduceEqDiff, Nat.reduceAdd, Bool.false_eq_true, Int.reduceToNat, gsT hr5, and_true, true_and]
  refine Square_calls (by omega) fun g6 hw6 hl6 => ?_
  have hle := (H.le_trans hl0 (H.le_trans hl1 (H.le_trans hl2 (H.le_trans hl3 (H.le_trans hl4 (H.le_trans hl5 hl6))))))
  have fin : ∀ h', h'.wf → g6.le h' → K (.bool true) h' := fun h' hw' hl' => hk h' hw' (H.le_trans hle hl')
  by_cases w0 : 0 ≤ w
  · by_cases w3 : w ≤ 3
    · simp only [go_sem, ↓reduceIte, Nat.reduceEqDiff, Nat.reduceAdd, Bool.false_eq_true, Int.reduceToNat, beq_self_int, decide_eq_true w0, decide_eq_true w3]
      refine wakes04_calls fun g7 hw7 hl7 => ?_
      simp only [go_sem, ↓reduceIte, Nat.reduceEqDiff, Nat.reduceAdd, Bool.false_eq_true, Int.reduceToNat]
      exact fun _ => fin g7 hw7 hl7
    · simp only [go_sem, ↓reduceIte, Nat.reduceEqDiff, Nat.reduceAdd, Bool.false_eq_true, Int.reduceToNat, beq_self_int, decide_eq_true w0, decide_eq_false w3]
      refine Transform_calls ?_
      rw [bad_trans (n := a) (m := b) (w := w) (by omega)]
      simp only [go_sem, ↓reduceIte, Nat.reduceEqDiff, Nat.reduceAdd, Bool.false_eq_true, Int.reduceToNat, beq_self_int]
      refine wakes04_calls fun g7 hw7 hl7 => ?_
      simp only [go_sem, ↓reduceIte, Nat.reduceEqDiff, Nat.reduceAdd, Bool.false_eq_true, Int.reduceToNat]
      exact fun _ => fin g7 hw7 hl7
  · simp only [go_sem, ↓reduceIte, Nat.reduceEqDiff, Nat.reduceAdd, Bool.false_eq_true, Int.reduceToNat, beq_self_int, decide_eq_false w0]
    refine Transform_calls ?_
    rw [bad_trans (n := a) (m := b) (w := w) (by omega)]
    simp only [go_sem, ↓reduceIte, Nat.reduceEqDiff, Nat.reduceAdd, Bool.false_eq_true, Int.reduceToNat, beq_self_int]
    refine wakes04_calls fun g7 hw7 hl7 => ?_
    simp only [go_sem, ↓reduceIte, Nat.reduceEqDiff, Nat.reduceAdd, Bool.false_eq_true, Int.reduceToNat]
    exact fun _ => fin g7 hw7 hl7
end Ab
end Go.Proofs.Yteoagnggnekfiaa
