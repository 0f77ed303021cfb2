/- Tables: what is asked from outside, and the document's own answers. No condition. -/
import Derived.Test.YteoagnggnekfiaaH3
namespace Go.Proofs.Yteoagnggnekfiaa
namespace Ab
open Go Go.RowKit
set_option linter.unusedSimpArgs false
set_option linter.unusedVariables false
attribute [local go_sem ↓] x_mv x_pick x_bin x_beq x_peq x_seq x_cat x_aeq x_idxS x_un x_cvI x_idx x_idxA x_fld x_ld x_st x_nn x_prt x_slc x_mk x_bsl x_bld x_box x_alloc x_len x_capo x_mnx x_app x_cpy x_mkf x_ext x_call x_callV x_bad s_none s_some s_nil s_cons s_chks w_skip w_reg w_seq w_cond w_block w_exit w_ret t_normal t_exit t_ret b_normal b_ret b_exit n_normal n_exit n_ret p_normal p_ret f_nil f_t f_c k_ops k_chk k_fin
attribute [local go_sem] e_t e_c e_f u_some u_none u_at env_at k_v k_pick k_add k_sub k_mul k_quo k_rem k_and k_or k_xor k_shl k_shr k_eql k_neq k_lss k_leq k_gtr k_geq k_beq k_peqn k_peqs k_neg k_not k_com k_cvI k_idxS k_idx k_idxA k_idxG k_ldG k_gld k_seq k_cat k_aeq k_eqs k_fld k_ld1 k_ldn k_get k_gets k_sti k_stb k_stp k_sts k_stf k_sta k_put k_nn k_prt1 k_prtn k_slc_a k_slc_b k_slc_c k_mk k_agg k_bsl k_box k_len k_lenS k_cap k_max k_min k_ext k_callV k_true k_false k_gtt k_gtf k_gft k_gsk k_gff k_lit1i k_lit2i k_lit3i k_c0 k_c1 k_ck List.getElem?_cons_zero List.getElem?_cons_succ List.getElem?_nil Option.getD_some Option.getD_none tupOf List.map_cons List.map_nil Option.map_some Option.map_none List.nil_append List.cons_append List.append_nil Nat.mul_one Int.toNat_natCast Nat.zero_add
theorem gsT {h' : H} {id : Nat} {t : Tb} (hr : h'.rows id = some ⟨some 23, 11, t.cells⟩) : h'.gets id 0 11 = some t.cells := H.gets_of hr (by simp [cells_len])
/-- What a product costs, by any table. -/
def costT (t : Tb) (n m : Nat) : Nat := costF (clampT t).base.toNat (clampT t).toom.toNat (clampT t).ntt.toNat 20000 (max n m) (min n m)
def sqT (t : Tb) (n : Nat) : Nat := sqF (clampT t).base.toNat (clampT t).toom.toNat (clampT t).ntt.toNat 20000 n
def routeT (t : Tb) (n m : Int) : Nat := if n < 0 ∨ m < 0 ∨ 16384 < n ∨ 16384 < m then 0 else routeF (clampT t).base.toNat (clampT t).toom.toNat (clampT t).ntt.toNat (max n m).toNat (min n m).toNat
theorem clamp_isT (t : Tb) : (clampT t).is (clampT t).base.toNat (clampT t).toom.toNat (clampT t).ntt.toNat := by
  refine ⟨?_, ?_, ?_, ⟨?_, ?_, ?_, ?_⟩, ?_, ?_⟩ <;> simp only [clampT] <;> omega
theorem Cost_calls {t : Tb} {n m : Nat} {h : H} {K : AV → H → Prop} (hn : n ≤ 16384) (hm : m ≤ 16384) (hk : ∀ h', h'.wf → h.le h' → K (.int .i64 (costT t n m : Nat)) h') : ACalls Try.prog 19 [t.av, .int .i64 (n : Int), .int .i64 (m : Int)] h K := by
  refine in_table_Cost (by simp) fun hw => ?_
  unfold c_table_Cost
  simp only [go_sem, ↓reduceIte, Nat.reduceEqDiff, Nat.reduceAdd, Bool.false_eq_true, Int.reduceToNat, av_held, av_cells, cells_len, true_and]
  refine may_calls fun b hb => ?_
  have : b = true := by rw [hb]; exact decide_eq_true (by omega)
  subst this
  simp only [go_sem, ↓reduceIte, Nat.reduceEqDiff, Nat.reduceAdd, Bool.false_eq_true, Int.reduceToNat, Bool.not_true]
  refine may_calls fun b hb => ?_
  have : b = true := by rw [hb]; exact decide_eq_true (by omega)
  subst this
  simp only [go_sem, ↓reduceIte, Nat.reduceEqDiff, Nat.reduceAdd, Bool.false_eq_true, Int.reduceToNat, Bool.not_true, gsT (H.rows_new h _)]
  refine Clamp_calls fun h1 hw1 hl1 => ?_
  simp only [go_sem, ↓reduceIte, Nat.reduceEqDiff, Nat.reduceAdd, Bool.false_eq_true, Int.reduceToNat]
  refine cost_calls (clamp_isT t) 20000 n m _ _ (by omega) (by omega) fun h2 hw2 hl2 => ?_
  simp only [go_sem, ↓reduceIte, Nat.reduceEqDiff, Nat.reduceAdd, Bool.false_eq_true, Int.reduceToNat]
  exact fun _ => hk _ hw2 (H.le_trans (H.le_new hw (H.le_refl h) _) (H.le_trans hl1 hl2))
theorem Route_calls {t : Tb} {n m : Int} {h : H} {K : AV → H → Prop} (hk : ∀ h', h'.wf → h.le h' → K (.int .i64 (routeT t n m : Nat)) h') : ACalls Try.prog 32 [t.av, .int .i64 n, .int .i64 m] h K := by
  refine in_table_Route (by simp) fun hw => ?_
  unfold c_table_Route
  simp only [go_sem, ↓reduceIte, Nat.reduceEqDiff, Nat.reduceAdd, Bool.false_eq_true, Int.reduceToNat, av_held, av_cells, cells_len, true_and]
  refine may_calls fun b hb => ?_
  by_cases hn : 0 ≤ n ∧ n ≤ 16384
  · have : b = true := by rw [hb]; exact decide_eq_true hn
    subst this
    simp only [go_sem, ↓reduceIte, Nat.reduceEqDiff, Nat.reduceAdd, Bool.false_eq_true, Int.reduceToNat, Bool.not_true]
    refine may_calls fun b hb => ?_
    by_cases hm : 0 ≤ m ∧ m ≤ 16384
    · have : b = true := by rw [hb]; exact decide_eq_true hm
      subst this
      simp only [go_sem, ↓reduceIte, Nat.reduceEqDiff, Nat.reduceAdd, Bool.false_eq_true, Int.reduceToNat, Bool.not_true, gsT (H.rows_new h _)]
      refine Clamp_calls fun h1 hw1 hl1 => ?_
      simp only [go_sem, ↓reduceIte, Nat.reduceEqDiff, Nat.reduceAdd, Bool.false_eq_true, Int.reduceToNat]
      have e1 : max n m = ((max n m).toNat : Int) := by omega
      have e2 : min n m = ((min n m).toNat : Int) := by omega
      rw [e1, e2]
      refine route_calls (clamp_isT t) (by omega) (by omega) fun h2 r hw2 hl2 hr => ?_
      simp only [go_sem, ↓reduceIte, Nat.reduceEqDiff, Nat.reduceAdd, Bool.false_eq_true, Int.reduceToNat]
      have e3 : routeT t n m = routeF (clampT t).base.toNat (clampT t).toom.toNat (clampT t).ntt.toNat (max n m).toNat (min n m).toNat := by unfold routeT; rw [if_neg (by omega)]
      rw [hr, ← e3]
      exact fun _ => hk _ hw2 (H.le_trans (H.le_new hw (H.le_refl h) _) (H.le_trans hl1 hl2))
    · have : b = false := by rw [hb]; exact decide_eq_false hm
      subst this
      simp only [go_sem, ↓reduceIte, Nat.reduceEqDiff, Nat.reduceAdd, Bool.false_eq_true, Int.reduceToNat, Bool.not_false]
      have e3 : routeT t n m = 0 := by unfold routeT; rw [if_pos (by omega)]
      rw [e3] at hk
      exact fun hw' => hk _ hw' (H.le_new hw (H.le_refl h) _)
  · have : b = false := by rw [hb]; exact decide_eq_false hn
    subst this
    simp only [go_sem, ↓reduceIte, Nat.reduceEqDiff, Nat.reduceAdd, Bool.false_eq_true, Int.reduceToNat, Bool.not_false]
    have e3 : routeT t n m = 0 := by unfold routeT; rw [if_pos (by omega)]
    rw [e3] at hk
    exact fun hw' => hk _ hw' (H.le_new hw (H.le_refl h) _)
theorem square_calls {t : Tb} {B T N : Nat} (ht : t.is B T N) : ∀ (f n : Nat) (h : H) (K : AV → H → Prop), n < f → n ≤ 16384 → (∀ h', h'.wf → h.le h' → K (.int .i64 (sqF B T N f n : Nat)) h') →
    ACalls Try.prog 69 [t.av, .int .i64 (n : Int)] h K := by
  intro f
  induction f with
  | zero => intro n h K hf; omega
  | succ f ih =>
    intro n h K hf hn hk
    refine in_table_square (by simp) fun hw => ?_
    unfold c_table_square
    have e1 := incI (i := n) (by omega)
    have e2 : ((n + 1 : Nat) : Int).tdiv 2 = (((n + 1) / 2 : Nat) : Int) := tdivN (b := 2)
    have e3 : IntKind.i64.wrap (((n + 1) / 2 : Nat) : Int) = (((n + 1) / 2 : Nat) : Int) := wNI (by omega)
    have e4 : IntKind.i64.wrap ((n : Int) + 2) = ((n + 2 : Nat) : Int) := by rw [wI] <;> omega
    have e5 : ((n + 2 : Nat) : Int).tdiv 3 = (((n + 2) / 3 : Nat) : Int) := tdivN (b := 3)
    have e6 : IntKind.i64.wrap (((n + 2) / 3 : Nat) : Int) = (((n + 2) / 3 : Nat) : Int) := wNI (by omega)
    have hr0 := H.rows_new h ⟨some 23, 11, t.cells⟩
    have hl0 := H.le_new hw (H.le_refl h) ⟨some 23, 11, t.cells⟩
    simp only [go_sem, ↓reduceIte, Nat.reduceEqDiff, Nat.reduceAdd, Bool.false_eq_true, Int.reduceToNat, av_held, av_cells, cells_len, true_and, e1, e2, e3, e4, e5, e6]
    refine ⟨by omega, by omega, ?_⟩
    simp only [go_sem, ↓reduceIte, Nat.reduceEqDiff, Nat.reduceAdd, Bool.false_eq_true, Int.reduceToNat, gsT hr0]
    have fit := Nat.lt_of_le_of_lt (sq_bound ht.ok (f + 1) n hf) (cost_fit ht.ok (Nat.le_refl n) hf hn)
    have hb := ht.ok.b1
    refine route_calls ht (by omega) (by omega) fun h1 r hw1 hl1 hr => ?_
    have hle := (H.le_trans hl0 hl1)
    have hr1 := hl1.2 _ _ hr0
    generalize hg : h.new ⟨some 23, 11, t.cells⟩ = h00 at *
    rcases route_cases (B := B) (T := T) (N := N) n n with ⟨e, h0⟩ | ⟨e, h0, h1⟩ | ⟨e, h0, h1, h2⟩ | ⟨e, h0, h1, h2, h3⟩ | ⟨e, h0, h1, h2, h3, h4, h5⟩ | ⟨e, h0, h1, h2, h3, h4⟩
    · have : r = 0 := by omega
      subst this
      rw [sq_0 e] at hk
      simp only [go_sem, ↓reduceIte, Nat.reduceEqDiff, Nat.reduceAdd, Bool.false_eq_true, Int.reduceToNat, Int.reduceBEq]
      exact fun _ => hk _ hw1 hle
    · have : r = 1 := by omega
      subst this
      rw [sq_1 e] at hk fit
      have q : n * (n + 1) ≤ 16384 * 16385 := Nat.mul_le_mul hn (by omega)
      have e7 : ((n * (n + 1) : Nat) : Int).tdiv 2 = ((n * (n + 1) / 2 : Nat) : Int) := tdivN (b := 2)
      simp only [go_sem, ↓reduceIte, Nat.reduceEqDiff, Nat.reduceAdd, Bool.false_eq_true, Int.reduceToNat, Int.reduceBEq, mulI (a := n) (b := n + 1) (by omega), e1, e7, wNI (n := n * (n + 1) / 2) (by omega)]
      exact ⟨by omega, fun _ => hk _ hw1 hle⟩
    · omega
    · have : r = 3 := by omega
      subst this
      rw [sq_3 e] at hk fit
      have a1 := subI (a := n) (b := (n + 1) / 2) (by omega) (by omega)
      have a3 := incI (i := (n + 1) / 2) (by omega)
      simp only [go_sem, ↓reduceIte, Nat.reduceEqDiff, Nat.reduceAdd, Bool.false_eq_true, Int.reduceToNat, Int.reduceBEq, gsT hr1, a1, a3]
      refine ih ((n + 1) / 2) _ _ (by omega) (by omega) fun h2 hw2 hl2 => ?_
      have hr2 := hl2.2 _ _ hr1
      simp only [go_sem, ↓reduceIte, Nat.reduceEqDiff, Nat.reduceAdd, Bool.false_eq_true, Int.reduceToNat, gsT hr2, and_true, true_and]
      refine ih (n - (n + 1) / 2) _ _ (by omega) (by omega) fun h3 hw3 hl3 => ?_
      have hr3 := hl3.2 _ _ hr2
      simp only [go_sem, ↓reduceIte, Nat.reduceEqDiff, Nat.reduceAdd, Bool.false_eq_true, Int.reduceToNat, gsT hr3, and_true, true_and, addI (a := sqF B T N f ((n + 1) / 2)) (b := sqF B T N f (n - (n + 1) / 2)) (by omega)]
      refine ih ((n + 1) / 2 + 1) _ _ (by omega) (by omega) fun h4 hw4 hl4 => ?_
      simp only [go_sem, ↓reduceIte, Nat.reduceEqDiff, Nat.reduceAdd, Bool.false_eq_true, Int.reduceToNat, addI (a := sqF B T N f ((n + 1) / 2) + sqF B T N f (n - (n + 1) / 2)) (b := sqF B T N f ((n + 1) / 2 + 1)) (by omega)]
      exact fun _ => hk _ hw4 (H.le_trans hle (H.le_trans hl2 (H.le_trans hl3 hl4)))
    · have : r = 4 := by omega
      subst this
      rw [sq_4 e] at hk fit
      have a0 : IntKind.i64.wrap (2 * (((n + 2) / 3 : Nat) : Int)) = ((2 * ((n + 2) / 3) : Nat) : Int) := by rw [wI] <;> omega
      have a1 := subI (a := n) (b := 2 * ((n + 2) / 3)) (by omega) (by omega)
      have a3 := incI (i := (n + 2) / 3) (by omega)
      simp only [go_sem, ↓reduceIte, Nat.reduceEqDiff, Nat.reduceAdd, Bool.false_eq_true, Int.reduceToNat, Int.reduceBEq, gsT hr1, a0, a1, a3]
      refine ih ((n + 2) / 3) _ _ (by omega) (by omega) fun h2 hw2 hl2 => ?_
      have hr2 := hl2.2 _ _ hr1
      simp only [go_sem, ↓reduceIte, Nat.reduceEqDiff, Nat.reduceAdd, Bool.false_eq_true, Int.reduceToNat, gsT hr2, and_true, true_and]
      refine ih ((n + 2) / 3 + 1) _ _ (by omega) (by omega) fun h3 hw3 hl3 => ?_
      have hr3 := hl3.2 _ _ hr2
      have a4 : IntKind.i64.wrap (3 * ((sqF B T N f ((n + 2) / 3 + 1) : Nat) : Int)) = ((3 * sqF B T N f ((n + 2) / 3 + 1) : Nat) : Int) := by rw [wI] <;> omega
      simp only [go_sem, ↓reduceIte, Nat.reduceEqDiff, Nat.reduceAdd, Bool.false_eq_true, Int.reduceToNat, gsT hr3, and_true, true_and, a4, addI (a := sqF B T N f ((n + 2) / 3)) (b := 3 * sqF B T N f ((n + 2) / 3 + 1)) (by omega)]
      refine ih (n - 2 * ((n + 2) / 3)) _ _ (by omega) (by omega) fun h4 hw4 hl4 => ?_
      simp only [go_sem, ↓reduceIte, Nat.reduceEqDiff, Nat.reduceAdd, Bool.false_eq_true, Int.reduceToNat, addI (a := sqF B T N f ((n + 2) / 3) + 3 * sqF B T N f ((n + 2) / 3 + 1)) (b := sqF B T N f (n - 2 * ((n + 2) / 3))) (by omega)]
      exact fun _ => hk _ hw4 (H.le_trans hle (H.le_trans hl2 (H.le_trans hl3 hl4)))
    · have : r = 5 := by omega
      subst this
      rw [sq_5 e] at hk
      simp only [go_sem, ↓reduceIte, Nat.reduceEqDiff, Nat.reduceAdd, Bool.false_eq_true, Int.reduceToNat, Int.reduceBEq]
      refine Transform_calls ?_
      rw [show (2 : Int) = ((2 : Nat) : Int) from rfl, transZ_nat (by omega) (by omega) (by omega) (by omega) (by omega)]
      simp only [go_sem, ↓reduceIte, Nat.reduceEqDiff, Nat.reduceAdd, Bool.false_eq_true, Int.reduceToNat]
      exact fun _ => hk _ hw1 hle
theorem Square_calls {t : Tb} {n : Nat} {h : H} {K : AV → H → Prop} (hn : n ≤ 16384) (hk : ∀ h', h'.wf → h.le h' → K (.int .i64 (sqT t n : Nat)) h') : ACalls Try.prog 39 [t.av, .int .i64 (n : Int)] h K := by
  refine in_table_Square (by simp) fun hw => ?_
  unfold c_table_Square
  simp only [go_sem, ↓reduceIte, Nat.reduceEqDiff, Nat.reduceAdd, Bool.false_eq_true, Int.reduceToNat, av_held, av_cells, cells_len, true_and]
  refine may_calls fun b hb => ?_
  have : b = true := by rw [hb]; exact decide_eq_true (by omega)
  subst this
  simp only [go_sem, ↓reduceIte, Nat.reduceEqDiff, Nat.reduceAdd, Bool.false_eq_true, Int.reduceToNat, Bool.not_true, gsT (H.rows_new h _)]
  refine Clamp_calls fun h1 hw1 hl1 => ?_
  simp only [go_sem, ↓reduceIte, Nat.reduceEqDiff, Nat.reduceAdd, Bool.false_eq_true, Int.reduceToNat]
  refine square_calls (clamp_isT t) 20000 n _ _ (by omega) (by omega) fun h2 hw2 hl2 => ?_
  simp only [go_sem, ↓reduceIte, Nat.reduceEqDiff, Nat.reduceAdd, Bool.false_eq_true, Int.reduceToNat]
  exact fun _ => hk _ hw2 (H.le_trans (H.le_new hw (H.le_refl h) _) (H.le_trans hl1 hl2))
/-- What stands first in a list. -/
def leastT (xs : List Int) : Tb := ⟨xs.getD 0 0, xs.getD 1 0, xs.getD 2 0, xs.getD 3 0, xs.getD 4 0, xs.getD 5 0, xs.getD 6 0, xs.getD 7 0, xs.getD 8 0, xs.getD 9 0, xs.getD 10 0⟩
theorem Least1_calls {i : Nat} {id : Nat} {r : Row} {v : AV} {xs : List Int} {h : H} {K : AV → H → Prop} (hi : i < 11) (hr : h.rows id = some r) (hc : r.cells = [v]) (hv : IsW .i64 h v xs) (hl : xs.length ≤ maxLen) (hk : h.wf → K (.int .i64 (xs.getD i 0)) h) :
    ACalls Try.prog 65 [.int .i64 (i : Int), .ptr (some (id, 0))] h K := by
  obtain ⟨id', off, c, rfl⟩ := hv.form
  refine in_table_Least_1 (by simp) fun hw => ?_
  unfold c_table_Least_1
  have hg : h.get id 0 = some (.sl id' off xs.length c) := by rw [H.get_of hr, hc]; rfl
  simp only [go_sem, ↓reduceIte, Nat.reduceEqDiff, Nat.reduceAdd, Bool.false_eq_true, Int.reduceToNat, hg]
  rcases Nat.lt_or_ge i xs.length with hi2 | hi2
  · obtain ⟨j, rfl, _, hgx⟩ := hv.at hi2
    have e : xs.getD i 0 = xs[i] := by rw [List.getD_eq_getElem?_getD, List.getElem?_eq_getElem hi2]; rfl
    rw [e] at hk
    simp only [go_sem, ↓reduceIte, Nat.reduceEqDiff, Nat.reduceAdd, Bool.false_eq_true, Int.reduceToNat, ltT hi2, hg]
    refine ⟨by omega, by omega, ?_⟩
    simp only [go_sem, ↓reduceIte, Nat.reduceEqDiff, Nat.reduceAdd, Bool.false_eq_true, Int.reduceToNat, hgx]
    exact hk
  · have e : xs.getD i 0 = 0 := by rw [List.getD_eq_getElem?_getD, List.getElem?_eq_none hi2]; rfl
    rw [e] at hk
    simp only [go_sem, ↓reduceIte, Nat.reduceEqDiff, Nat.reduceAdd, Bool.false_eq_true, Int.reduceToNat, ltF hi2]
    exact hk
theorem Least_calls {v : AV} {xs : List Int} {h : H} {K : AV → H → Prop} (hv : IsW .i64 h v xs) (hl : xs.length ≤ maxLen) (hk : ∀ h', h'.wf → h.le h' → K (leastT xs).av h') : ACalls Try.prog 30 [v] h K := by
  obtain ⟨id, off, c, rfl⟩ := hv.form
  refine in_table_Least (by simp) fun hw => ?_
  unfold c_table_Least
  have hh : (AV.sl id off xs.length c).held = true := rfl
  have hcc : (AV.sl id off xs.length c).cells = [AV.sl id off xs.length c] := rfl
  simp only [go_sem, ↓reduceIte, Nat.reduceEqDiff, Nat.reduceAdd, Bool.false_eq_true, Int.reduceToNat, hh, hcc, true_and]
  have hw1 := H.wf_new hw ⟨some 39, 1, [AV.sl id off xs.length c]⟩
  have hl1 := H.le_new hw (H.le_refl h) ⟨some 39, 1, [AV.sl id off xs.length c]⟩
  have hl2 := H.le_new hw1 hl1 ⟨some 23, 11, [.int .i64 0, .int .i64 0, .int .i64 0, .int .i64 0, .int .i64 0, .int .i64 0, .int .i64 0, .int .i64 0, .int .i64 0, .int .i64 0, .int .i64 0]⟩
  have hv2 := hv.mono hl2
  refine Least1_calls (i := 0) (by omega) r_new2 rfl hv2 hl fun _ => ?_
  simp only [go_sem, ↓reduceIte, Nat.reduceEqDiff, Nat.reduceAdd, Bool.false_eq_true, Int.reduceToNat]
  refine Least1_calls (i := 1) (by omega) r_new2 rfl hv2 hl fun _ => ?_
  simp only [go_sem, ↓reduceIte, Nat.reduceEqDiff, Nat.reduceAdd, Bool.false_eq_true, Int.reduceToNat]
  refine Least1_calls (i := 2) (by omega) r_new2 rfl hv2 hl fun _ => ?_
  simp only [go_sem, ↓reduceIte, Nat.reduceEqDiff, Nat.reduceAdd, Bool.false_eq_true, Int.reduceToNat]
  refine Least1_calls (i := 3) (by omega) r_new2 rfl hv2 hl fun _ => ?_
  simp only [go_sem, ↓reduceIte, Nat.reduceEqDiff, Nat.reduceAdd, Bool.false_eq_true, Int.reduceToNat]
  refine Least1_calls (i := 4) (by omega) r_new2 rfl hv2 hl fun _ => ?_
  simp only [go_sem, ↓reduceIte, Nat.reduceEqDiff, Nat.reduceAdd, Bool.false_eq_true, Int.reduceToNat]
  refine Least1_calls (i := 5) (by omega) r_new2 rfl hv2 hl fun _ => ?_
  simp only [go_sem, ↓reduceIte, Nat.reduceEqDiff, Nat.reduceAdd, Bool.false_eq_true, Int.reduceToNat]
  refine Least1_calls (i := 6) (by omega) r_new2 rfl hv2 hl fun _ => ?_
  simp only [go_sem, ↓reduceIte, Nat.reduceEqDiff, Nat.reduceAdd, Bool.false_eq_true, Int.reduceToNat]
  refine Least1_calls (i := 7) (by omega) r_new2 rfl hv2 hl fun _ => ?_
  simp only [go_sem, ↓reduceIte, Nat.reduceEqDiff, Nat.reduceAdd, Bool.false_eq_true, Int.reduceToNat]
  refine Least1_calls (i := 8) (by omega) r_new2 rfl hv2 hl fun _ => ?_
  simp only [go_sem, ↓reduceIte, Nat.reduceEqDiff, Nat.reduceAdd, Bool.false_eq_true, Int.reduceToNat]
  refine Least1_calls (i := 9) (by omega) r_new2 rfl hv2 hl fun _ => ?_
  simp only [go_sem, ↓reduceIte, Nat.reduceEqDiff, Nat.reduceAdd, Bool.false_eq_true, Int.reduceToNat]
  refine Least1_calls (i := 10) (by omega) r_new2 rfl hv2 hl fun _ => ?_
  simp only [go_sem, ↓reduceIte, Nat.reduceEqDiff, Nat.reduceAdd, Bool.false_eq_true, Int.reduceToNat]
  simp only [bld11, go_sem, ↓reduceIte, Nat.reduceEqDiff, Nat.reduceAdd, Bool.false_eq_true, Int.reduceToNat]
  refine ⟨rfl, rfl, ?_⟩
  rw [H.rows_new, k_put]
  refine ⟨Option.some_ne_none _, by simp, ?_⟩
  simp only [go_sem, ↓reduceIte, Nat.reduceEqDiff, Nat.reduceAdd, Bool.false_eq_true, Int.reduceToNat, put11]
  rw [gs_set (by rfl)]
  simp only [go_sem, ↓reduceIte, Nat.reduceEqDiff, Nat.reduceAdd, Bool.false_eq_true, Int.reduceToNat]
  exact fun hw' => hk _ hw' (H.le_set hw hl2 (Nat.le_succ _) _)
theorem wakes04_calls {h : H} {K : AV → H → Prop} (hk : ∀ h', h'.wf → h.le h' → K (.bool true) h') : ACalls Try.prog 20 [] h K := by
  refine in_law04_wakes (by simp) fun hw => ?_
  unfold c_law04_wakes
  simp only [go_sem, ↓reduceIte, Nat.reduceEqDiff, Nat.reduceAdd, Bool.false_eq_true, Int.reduceToNat]
  refine Least_calls (IsW.lit [4]) (by simp [maxLen]) fun h1 hw1 hl1 => ?_
  simp only [go_sem, ↓reduceIte, Nat.reduceEqDiff, Nat.reduceAdd, Bool.false_eq_true, Int.reduceToNat]
  refine Cost_calls (n := 4) (m := 4) (by omega) (by omega) fun h2 hw2 hl2 => ?_
  have e : costT (leastT [4]) 4 4 = 17 := by decide +kernel
  rw [e]
  have e0 : (((17 : Nat) : Int) == 17) = true := by decide
  have e1 : ∀ l : List AV, abuild l [] = some l := fun l => by simp [abuild]
  have e2 : ((max 4 (min 0 64) : Int) == 4) = true := by decide
  simp only [go_sem, ↓reduceIte, Nat.reduceEqDiff, Nat.reduceAdd, Bool.false_eq_true, Int.reduceToNat, e0, e1]
  refine Clamp_calls (t := ⟨0, 0, 0, 0, 0, 0, 0, 0, 0, 0, 0⟩) fun h3 hw3 hl3 => ?_
  simp only [go_sem, ↓reduceIte, Nat.reduceEqDiff, Nat.reduceAdd, Bool.false_eq_true, Int.reduceToNat, Tb.av, Tb.cells, clampT, e2]
  exact fun _ => hk _ hw3 (H.le_trans (H.le_new hw (H.le_refl h) _) (H.le_trans hl1 (H.le_trans hl2 hl3)))
end Ab
end Go.Proofs.Yteoagnggnekfiaa
