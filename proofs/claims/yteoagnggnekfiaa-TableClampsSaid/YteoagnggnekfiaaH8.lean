/- What the statement TableClamps computes. No condition. -/
import Derived.Test.YteoagnggnekfiaaH7
namespace Go.Proofs.Yteoagnggnekfiaa
namespace Ab
open Go Go.RowKit
set_option linter.unusedSimpArgs false
set_option linter.unusedVariables false
attribute [local go_sem ↓] x_mv x_pick x_bin x_beq x_peq x_seq x_cat x_aeq x_idxS x_un x_cvI x_idx x_idxA x_fld x_ld x_st x_nn x_prt x_slc x_mk x_bsl x_bld x_box x_alloc x_len x_capo x_mnx x_app x_cpy x_mkf x_ext x_call x_callV x_bad s_none s_some s_nil s_cons s_chks w_skip w_reg w_seq w_cond w_block w_exit w_ret t_normal t_exit t_ret b_normal b_ret b_exit n_normal n_exit n_ret p_normal p_ret f_nil f_t f_c k_ops k_chk k_fin
attribute [local go_sem] e_t e_c e_f u_some u_none u_at env_at k_v k_pick k_add k_sub k_mul k_quo k_rem k_and k_or k_xor k_shl k_shr k_eql k_neq k_lss k_leq k_gtr k_geq k_beq k_peqn k_peqs k_neg k_not k_com k_cvI k_idxS k_idx k_idxA k_idxG k_ldG k_gld k_seq k_cat k_aeq k_eqs k_fld k_ld1 k_ldn k_get k_gets k_sti k_stb k_stp k_sts k_stf k_sta k_put k_nn k_prt1 k_prtn k_slc_a k_slc_b k_slc_c k_mk k_agg k_bsl k_box k_len k_lenS k_cap k_max k_min k_ext k_callV k_true k_false k_gtt k_gtf k_gft k_gsk k_gff k_lit1i k_lit2i k_lit3i k_c0 k_c1 k_ck List.getElem?_cons_zero List.getElem?_cons_succ List.getElem?_nil Option.getD_some Option.getD_none tupOf List.map_cons List.map_nil Option.map_some Option.map_none List.nil_append List.cons_append List.append_nil Nat.mul_one Int.toNat_natCast Nat.zero_add
/-- The first i of a list, noughts behind: eleven cells. -/
def arr (xs : List Int) (i : Nat) : List AV := (List.range 11).map fun j => .int .i64 (if j < i then xs.getD j 0 else 0)
theorem arr_len {xs : List Int} {i : Nat} : (arr xs i).length = 11 := by simp [arr]
theorem arr_put {xs : List Int} {i : Nat} (hi : i < 11) : putAt (arr xs i) i [.int .i64 (xs.getD i 0)] = arr xs (i + 1) := by
  apply List.ext_getElem?
  intro j
  rcases Nat.lt_or_ge j 11 with hj | hj
  · have e : (arr xs (i + 1))[j]? = some (.int .i64 (if j < i + 1 then xs.getD j 0 else 0)) := by simp [arr, hj]
    rw [e]
    unfold putAt
    rcases Nat.lt_trichotomy j i with h1 | h1 | h1
    · rw [List.append_assoc, List.getElem?_append_left (by simp [arr]; omega), List.getElem?_take, if_pos h1, if_pos (by omega)]
      simp [arr, hj, h1]
    · subst h1
      rw [List.append_assoc, List.getElem?_append_right (by simp [arr]; omega), List.getElem?_append_left (by simp [arr]; omega)]
      have : j - ((arr xs j).take j).length = 0 := by simp [arr]; omega
      rw [this, if_pos (by omega)]
      rfl
    · rw [List.getElem?_append_right (by simp [arr]; omega), List.getElem?_drop]
      have : i + [AV.int .i64 (xs.getD i 0)].length + (j - ((arr xs i).take i ++ [AV.int .i64 (xs.getD i 0)]).length) = j := by simp [arr]; omega
      rw [this, if_neg (by omega)]
      simp [arr, hj]
      omega
  · rw [List.getElem?_eq_none (by rw [putAt_length (by simp [arr]; omega), arr_len]; exact hj), List.getElem?_eq_none (by rw [arr_len]; exact hj)]
theorem arr_at {xs : List Int} {i j : Nat} (hj : j < 11) (hi : j < i ∨ xs.length ≤ i) : (arr xs i)[j]? = some (.int .i64 (xs.getD j 0)) := by
  have e : (arr xs i)[j]? = some (.int .i64 (if j < i then xs.getD j 0 else 0)) := by simp [arr, hj]
  rw [e]
  split
  · rfl
  · have : xs.getD j 0 = 0 := by rw [List.getD_eq_getElem?_getD, List.getElem?_eq_none (by omega)]; rfl
    rw [this]
theorem rLeast_calls {v : AV} {xs : List Int} {h : H} {K : AV → H → Prop} (hv : IsW .i64 h v xs) (hl : xs.length ≤ maxLen) (hk : ∀ h', h'.wf → h.le h' → K (leastT xs).av h') : ACalls Try.prog 31 [v] h K := by
  obtain ⟨id, off, c, rfl⟩ := hv.form
  refine in_ref04_Least (by simp) fun hw => ?_
  unfold c_ref04_Least
  have hw1 := H.wf_new hw ⟨some 23, 11, [.int .i64 0, .int .i64 0, .int .i64 0, .int .i64 0, .int .i64 0, .int .i64 0, .int .i64 0, .int .i64 0, .int .i64 0, .int .i64 0, .int .i64 0]⟩
  have hl1 := H.le_new hw (H.le_refl h) ⟨some 23, 11, [.int .i64 0, .int .i64 0, .int .i64 0, .int .i64 0, .int .i64 0, .int .i64 0, .int .i64 0, .int .i64 0, .int .i64 0, .int .i64 0, .int .i64 0]⟩
  have hr1 := H.rows_new h ⟨some 23, 11, [.int .i64 0, .int .i64 0, .int .i64 0, .int .i64 0, .int .i64 0, .int .i64 0, .int .i64 0, .int .i64 0, .int .i64 0, .int .i64 0, .int .i64 0]⟩
  simp only [go_sem, ↓reduceIte, Nat.reduceEqDiff, Nat.reduceAdd, Bool.false_eq_true, Int.reduceToNat]
  refine for_rule (fun i ρ h' => i ≤ 11 ∧ i ≤ xs.length ∧ h'.wf ∧ h.le h' ∧ ρ 0 = .sl id off xs.length c ∧ ρ 2 = .ptr (some (h.next, 0)) ∧ ρ 3 = .ptr (some (h.next + 1, 0)) ∧ ρ 4 = .int .i64 (i : Int) ∧
    h'.rows h.next = some ⟨some 23, 11, [.int .i64 0, .int .i64 0, .int .i64 0, .int .i64 0, .int .i64 0, .int .i64 0, .int .i64 0, .int .i64 0, .int .i64 0, .int .i64 0, .int .i64 0]⟩ ∧
    h'.rows (h.next + 1) = some ⟨some 83, 11, arr xs i⟩) 11 ⟨by omega, by omega, H.wf_new hw1 _, H.le_new hw1 hl1 _, rfl, rfl, rfl, rfl, r_new2, ?_⟩ (fun i ρ h hI => hI.1) ?_
  · rw [show h.next + 1 = (h.new ⟨some 23, 11, [.int .i64 0, .int .i64 0, .int .i64 0, .int .i64 0, .int .i64 0, .int .i64 0, .int .i64 0, .int .i64 0, .int .i64 0, .int .i64 0, .int .i64 0]⟩).next from rfl]
    exact H.rows_new _ _
  rintro i ρ h' ⟨hi, hi2, hw', hle, h0, h2, h3, h4, ht, ha⟩
  by_cases hx : i < 11 ∧ i < xs.length
  · obtain ⟨j, rfl, _, hg⟩ := (hv.mono hle).at hx.2
    have e : xs.getD i 0 = xs[i]'hx.2 := by rw [List.getD_eq_getElem?_getD, List.getElem?_eq_getElem hx.2]; rfl
    have e1 := ltT hx.1
    simp only [go_sem, ↓reduceIte, Nat.reduceEqDiff, Nat.reduceAdd, Bool.false_eq_true, Int.reduceToNat, h0, h2, h3, h4, show decide ((i : Int) < 11) = true from e1, ltT hx.2, incI (i := i) (by omega)]
    refine ⟨by omega, by omega, ?_⟩
    simp only [go_sem, ↓reduceIte, Nat.reduceEqDiff, Nat.reduceAdd, Bool.false_eq_true, Int.reduceToNat, hg, h3, h4]
    refine ⟨by omega, by omega, ?_⟩
    simp only [go_sem, ↓reduceIte, Nat.reduceEqDiff, Nat.reduceAdd, Bool.false_eq_true, Int.reduceToNat, ha, arr_len]
    refine ⟨Option.some_ne_none _, by omega, ?_⟩
    simp only [go_sem, ↓reduceIte, Nat.reduceEqDiff, Nat.reduceAdd, Bool.false_eq_true, Int.reduceToNat, h0, h2, h3, h4, incI (i := i) (by omega)]
    refine ⟨by omega, by omega, H.wf_set hw' (H.row_lt hw' ha) _, H.le_set hw hle (by omega) _, by first | rfl | trivial | assumption, by first | rfl | trivial | assumption, by first | rfl | trivial | assumption, by first | rfl | trivial | assumption, ?_, ?_⟩
    · rw [H.rows_set_ne (by omega)]; exact ht
    · rw [H.rows_set, ← e, arr_put hx.1]
  · have hxx : i = 11 ∨ i = xs.length := by omega
    have gt : ∀ j, j < 11 → h'.get (h.next + 1) j = some (.int .i64 (xs.getD j 0)) := fun j hj => by
      rw [H.get_of ha, arr_at hj (by omega)]
    have stop : decide ((i : Int) < 11) = false ∨ (decide ((i : Int) < 11) = true ∧ decide ((i : Int) < (xs.length : Int)) = false) := by
      by_cases q : (i : Int) < 11
      · exact .inr ⟨decide_eq_true q, decide_eq_false (by omega)⟩
      · exact .inl (decide_eq_false q)
    have g0 := gt 0 (by omega)
    have g1 := gt 1 (by omega)
    have g2 := gt 2 (by omega)
    have g3 := gt 3 (by omega)
    have g4 := gt 4 (by omega)
    have g5 := gt 5 (by omega)
    have g6 := gt 6 (by omega)
    have g7 := gt 7 (by omega)
    have g8 := gt 8 (by omega)
    have g9 := gt 9 (by omega)
    have g10 := gt 10 (by omega)
    have c0 : ((11 : Nat) : Int) = 11 := rfl
    rcases stop with s1 | ⟨s1, s2⟩
    · simp only [go_sem, ↓reduceIte, Nat.reduceEqDiff, Nat.reduceAdd, Bool.false_eq_true, Int.reduceToNat, h0, h2, h3, h4, s1, c0, Int.reduceLE, Int.reduceLT, true_and, Nat.zero_add, Nat.zero_mul, Nat.mul_one, g0, g1, g2, g3, g4, g5, g6, g7, g8, g9, g10]
      simp only [bld11, h2, go_sem, ↓reduceIte, Nat.reduceEqDiff, Nat.reduceAdd, Bool.false_eq_true, Int.reduceToNat]
      refine ⟨rfl, rfl, ?_⟩
      rw [ht, k_put]
      refine ⟨Option.some_ne_none _, by simp, ?_⟩
      simp only [go_sem, ↓reduceIte, Nat.reduceEqDiff, Nat.reduceAdd, Bool.false_eq_true, Int.reduceToNat, put11, h2]
      rw [gs_set (by rfl)]
      simp only [go_sem, ↓reduceIte, Nat.reduceEqDiff, Nat.reduceAdd, Bool.false_eq_true, Int.reduceToNat]
      exact fun hw'' => hk _ hw'' (H.le_set hw hle (by omega) _)
    · simp only [go_sem, ↓reduceIte, Nat.reduceEqDiff, Nat.reduceAdd, Bool.false_eq_true, Int.reduceToNat, h0, h2, h3, h4, s1, s2, c0, Int.reduceLE, Int.reduceLT, true_and, Nat.zero_add, Nat.zero_mul, Nat.mul_one, g0, g1, g2, g3, g4, g5, g6, g7, g8, g9, g10]
      simp only [bld11, h2, go_sem, ↓reduceIte, Nat.reduceEqDiff, Nat.reduceAdd, Bool.false_eq_true, Int.reduceToNat]
      refine ⟨rfl, rfl, ?_⟩
      rw [ht, k_put]
      refine ⟨Option.some_ne_none _, by simp, ?_⟩
      simp only [go_sem, ↓reduceIte, Nat.reduceEqDiff, Nat.reduceAdd, Bool.false_eq_true, Int.reduceToNat, put11, h2]
      rw [gs_set (by rfl)]
      simp only [go_sem, ↓reduceIte, Nat.reduceEqDiff, Nat.reduceAdd, Bool.false_eq_true, Int.reduceToNat]
      exact fun hw'' => hk _ hw'' (H.le_set hw hle (by omega) _)
theorem eqs_self : ∀ (t : Tb), eqs t.cells t.cells = some true := by intro t; simp [Tb.cells, eqs]
theorem Muls_calls {id : Nat} {r : Row} {h : H} {K : AV → H → Prop} (hr : h.rows id = some r) (h0 : r.cells[0]? = some (.int .i64 0)) (hk : K (.int .i64 0) h) : ACalls Try.prog 29 [.ptr (some (id, 0))] h K := by
  refine in_meter_Meter_Muls (by simp) fun hw => ?_
  unfold c_meter_Meter_Muls
  have hg : h.get id 0 = some (.int .i64 0) := by rw [H.get_of hr]; exact h0
  simp only [go_sem, ↓reduceIte, Nat.reduceEqDiff, Nat.reduceAdd, Bool.false_eq_true, Int.reduceToNat, hg]
  exact fun _ => hk
theorem aeq_self {t : Tb} {h : H} {K : AV → H → Prop} : aeqK false 11 (.agg t.cells) (.agg t.cells) h K = K (.bool true) h := by
  rw [k_aeq, eqs_self, k_eqs]
  simp [cells_len]
theorem gsU {h' : H} {id : Nat} {t : Tb} (hr : h'.rows id = some ⟨some 45, 14, tuneCells t⟩) : h'.gets id 3 11 = some t.cells := by
  rw [H.gets_of hr (by simp [tuneCells, cells_len])]
  simp [tuneCells, Tb.cells]
theorem TableClamps_law {t : Tb} {v : AV} {xs : List Int} {h : H} {K : AV → H → Prop} (hv : IsW .i64 h v xs) (hl : xs.length ≤ maxLen) (hk : ∀ h', h'.wf → h.le h' → K (.bool true) h') : ACalls Try.prog 5 [t.av, v] h K := by
  obtain ⟨id, off, c, rfl⟩ := hv.form
  refine in_law04_TableClamps (by simp) fun hw => ?_
  unfold c_law04_TableClamps
  have hl0 := H.le_new hw (H.le_refl h) ⟨some 23, 11, t.cells⟩
  have hr0 := H.rows_new h ⟨some 23, 11, t.cells⟩
  simp only [go_sem, ↓reduceIte, Nat.reduceEqDiff, Nat.reduceAdd, Bool.false_eq_true, Int.reduceToNat, av_held, av_cells, cells_len, true_and, gsT hr0]
  have hn0 : h.next < (h.new ⟨some 23, 11, t.cells⟩).next := Nat.lt_succ_self _
  generalize hg : h.new ⟨some 23, 11, t.cells⟩ = g0 at *
  refine Clamp_calls fun g1 hw1 hl1 => ?_
  have hr1 := hl1.2 _ _ hr0
  have hn1 : h.next < g1.next := Nat.lt_of_lt_of_le hn0 hl1.1
  simp only [go_sem, ↓reduceIte, Nat.reduceEqDiff, Nat.reduceAdd, Bool.false_eq_true, Int.reduceToNat]
  simp only [Tb.av, k_sta, H.rows_new, k_put]
  refine ⟨rfl, rfl, Option.some_ne_none _, by simp [cells_len], ?_⟩
  have ep : ∀ z : List AV, z.length = 11 → putAt z 0 (clampT t).cells = (clampT t).cells := fun z hz => by
    simp only [putAt_zero, cells_len, List.drop_of_length_le (Nat.le_of_eq hz), List.append_nil]
  simp only [ep _ (rfl : ([.int .i64 0, .int .i64 0, .int .i64 0, .int .i64 0, .int .i64 0, .int .i64 0, .int .i64 0, .int .i64 0, .int .i64 0, .int .i64 0, .int .i64 0] : List AV).length = 11)]
  have hw2 := H.wf_set (H.wf_new hw1 ⟨some 23, ([.int .i64 0, .int .i64 0, .int .i64 0, .int .i64 0, .int .i64 0, .int .i64 0, .int .i64 0, .int .i64 0, .int .i64 0, .int .i64 0, .int .i64 0] : List AV).length, [.int .i64 0, .int .i64 0, .int .i64 0, .int .i64 0, .int .i64 0, .int .i64 0, .int .i64 0, .int .i64 0, .int .i64 0, .int .i64 0, .int .i64 0]⟩) (Nat.lt_succ_self _) ⟨some 23, ([.int .i64 0, .int .i64 0, .int .i64 0, .int .i64 0, .int .i64 0, .int .i64 0, .int .i64 0, .int .i64 0, .int .i64 0, .int .i64 0, .int .i64 0] : List AV).length, (clampT t).cells⟩
  have hl2 := H.le_set hw1 (H.le_new hw1 (H.le_refl g1) ⟨some 23, ([.int .i64 0, .int .i64 0, .int .i64 0, .int .i64 0, .int .i64 0, .int .i64 0, .int .i64 0, .int .i64 0, .int .i64 0, .int .i64 0, .int .i64 0] : List AV).length, [.int .i64 0, .int .i64 0, .int .i64 0, .int .i64 0, .int .i64 0, .int .i64 0, .int .i64 0, .int .i64 0, .int .i64 0, .int .i64 0, .int .i64 0]⟩) (Nat.le_refl _) ⟨some 23, ([.int .i64 0, .int .i64 0, .int .i64 0, .int .i64 0, .int .i64 0, .int .i64 0, .int .i64 0, .int .i64 0, .int .i64 0, .int .i64 0, .int .i64 0] : List AV).length, (clampT t).cells⟩
  have hc2 : ((g1.new ⟨some 23, ([.int .i64 0, .int .i64 0, .int .i64 0, .int .i64 0, .int .i64 0, .int .i64 0, .int .i64 0, .int .i64 0, .int .i64 0, .int .i64 0, .int .i64 0] : List AV).length, [.int .i64 0, .int .i64 0, .int .i64 0, .int .i64 0, .int .i64 0, .int .i64 0, .int .i64 0, .int .i64 0, .int .i64 0, .int .i64 0, .int .i64 0]⟩).set g1.next ⟨some 23, ([.int .i64 0, .int .i64 0, .int .i64 0, .int .i64 0, .int .i64 0, .int .i64 0, .int .i64 0, .int .i64 0, .int .i64 0, .int .i64 0, .int .i64 0] : List AV).length, (clampT t).cells⟩).rows g1.next = some ⟨some 23, 11, (clampT t).cells⟩ := H.rows_set _ _ _
  generalize hz : (g1.new ⟨some 23, ([.int .i64 0, .int .i64 0, .int .i64 0, .int .i64 0, .int .i64 0, .int .i64 0, .int .i64 0, .int .i64 0, .int .i64 0, .int .i64 0, .int .i64 0] : List AV).length, [.int .i64 0, .int .i64 0, .int .i64 0, .int .i64 0, .int .i64 0, .int .i64 0, .int .i64 0, .int .i64 0, .int .i64 0, .int .i64 0, .int .i64 0]⟩).set g1.next ⟨some 23, ([.int .i64 0, .int .i64 0, .int .i64 0, .int .i64 0, .int .i64 0, .int .i64 0, .int .i64 0, .int .i64 0, .int .i64 0, .int .i64 0, .int .i64 0] : List AV).length, (clampT t).cells⟩ = g2 at *
  have hr2 := hl2.2 _ _ hr1
  clear hz hg
  simp only [go_sem, ↓reduceIte, Nat.reduceEqDiff, Nat.reduceAdd, Bool.false_eq_true, Int.reduceToNat, gsT hr2]
  refine New_calls fun id3 g3 hw3 hl3 hn3 hu => ?_
  have hr3 := hl3.2 _ _ hr2
  have hc3 := hl3.2 _ _ hc2
  simp only [go_sem, ↓reduceIte, Nat.reduceEqDiff, Nat.reduceAdd, Bool.false_eq_true, Int.reduceToNat, gsT hr3, gsT hc3]
  refine rClamp_calls fun g4 hw4 hl4 => ?_
  have hr4 := hl4.2 _ _ hr3
  have hc4 := hl4.2 _ _ hc3
  have hu4 := hl4.2 _ _ hu
  simp only [go_sem, ↓reduceIte, Nat.reduceEqDiff, Nat.reduceAdd, Bool.false_eq_true, Int.reduceToNat, gsT hc4, and_true, true_and, Tb.av, aeq_self]
  refine Clamp_calls (t := clampT t) fun g5 hw5 hl5 => ?_
  have hc5 := hl5.2 _ _ hc4
  have hu5 := hl5.2 _ _ hu4
  rw [clamp_clamp]
  have gu3 : g5.get id3 3 = some (.int .i64 (clampT t).base) := by rw [H.get_of hu5]; rfl
  have gc0 : g5.get g1.next 0 = some (.int .i64 (clampT t).base) := by rw [H.get_of hc5]; rfl
  simp only [go_sem, ↓reduceIte, Nat.reduceEqDiff, Nat.reduceAdd, Bool.false_eq_true, Int.reduceToNat, gsT hc5, and_true, true_and, Tb.av, aeq_self, gsU hu5, gu3, gc0, beq_self_int]
  refine Muls_calls hu5 rfl ?_
  simp only [go_sem, ↓reduceIte, Nat.reduceEqDiff, Nat.reduceAdd, Bool.false_eq_true, Int.reduceToNat, beq_self_eq_true]
  have hl5' := (H.le_trans hl0 (H.le_trans hl1 (H.le_trans hl2 (H.le_trans hl3 (H.le_trans hl4 hl5)))))
  refine Least_calls (hv.mono hl5') hl fun g6 hw6 hl6 => ?_
  simp only [go_sem, ↓reduceIte, Nat.reduceEqDiff, Nat.reduceAdd, Bool.false_eq_true, Int.reduceToNat]
  refine rLeast_calls (hv.mono (H.le_trans hl5' hl6)) hl fun g7 hw7 hl7 => ?_
  simp only [go_sem, ↓reduceIte, Nat.reduceEqDiff, Nat.reduceAdd, Bool.false_eq_true, Int.reduceToNat, Tb.av, aeq_self]
  refine wakes04_calls fun g8 hw8 hl8 => ?_
  simp only [go_sem, ↓reduceIte, Nat.reduceEqDiff, Nat.reduceAdd, Bool.false_eq_true, Int.reduceToNat]
  exact fun _ => hk g8 hw8 (H.le_trans hl5' (H.le_trans hl6 (H.le_trans hl7 hl8)))
theorem TableClamps_row (h : H) (avs : List AV) (_ : h.wf) (r : ReadsAll Try.prog h [23, 39] avs) : ACalls Try.prog 5 avs h (fun r _ => r = .bool true) := by
  match avs, r with
  | [_, _], ⟨r0, r1, _⟩ =>
    obtain ⟨t0, rfl⟩ := reads_table r0
    obtain ⟨v, xs, e, h1, _, h3⟩ := cell_ints (k := .i64) (e := 3) (by kernel_rfl) (by kernel_rfl) (by kernel_rfl) (readsV_slice (e := 3) (by kernel_rfl) r1)
    injection e with e
    subst e
    exact TableClamps_law h1 h3 fun _ _ _ => rfl
end Ab
end Go.Proofs.Yteoagnggnekfiaa
