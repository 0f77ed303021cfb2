/- Tables: the package's functions, and the document's. No condition. -/
import Derived.Test.YteoagnggnekfiaaH1
import Derived.Test.YteoagnggnekfiaaC4
import Derived.Test.YteoagnggnekfiaaK1
namespace Go.Proofs.Yteoagnggnekfiaa
namespace Ab
open Go Go.RowKit
set_option linter.unusedSimpArgs false
set_option linter.unusedVariables false
attribute [local go_sem ↓] x_mv x_pick x_bin x_beq x_peq x_seq x_cat x_aeq x_idxS x_un x_cvI x_idx x_idxA x_fld x_ld x_st x_nn x_prt x_slc x_mk x_bsl x_bld x_box x_alloc x_len x_capo x_mnx x_app x_cpy x_mkf x_ext x_call x_callV x_bad s_none s_some s_nil s_cons s_chks w_skip w_reg w_seq w_cond w_block w_exit w_ret t_normal t_exit t_ret b_normal b_ret b_exit n_normal n_exit n_ret p_normal p_ret f_nil f_t f_c k_ops k_chk k_fin
attribute [local go_sem] e_t e_c e_f u_some u_none u_at env_at k_v k_pick k_add k_sub k_mul k_quo k_rem k_and k_or k_xor k_shl k_shr k_eql k_neq k_lss k_leq k_gtr k_geq k_beq k_peqn k_peqs k_neg k_not k_com k_cvI k_idxS k_idx k_idxA k_idxG k_ldG k_gld k_seq k_cat k_aeq k_eqs k_fld k_ld1 k_ldn k_get k_gets k_sti k_stb k_stp k_sts k_stf k_sta k_put k_nn k_prt1 k_prtn k_slc_a k_slc_b k_slc_c k_mk k_agg k_bsl k_box k_len k_lenS k_cap k_max k_min k_ext k_callV k_true k_false k_gtt k_gtf k_gft k_gsk k_gff k_lit1i k_lit2i k_lit3i k_c0 k_c1 k_ck List.getElem?_cons_zero List.getElem?_cons_succ List.getElem?_nil Option.getD_some Option.getD_none tupOf List.map_cons List.map_nil Option.map_some Option.map_none List.nil_append List.cons_append List.append_nil Nat.mul_one Int.toNat_natCast Nat.zero_add
/-- A table. -/
structure Tb where
  (base toom ntt div recip lehmer radix poly kron series tree : Int)
def Tb.cells (t : Tb) : List AV := [.int .i64 t.base, .int .i64 t.toom, .int .i64 t.ntt, .int .i64 t.div, .int .i64 t.recip, .int .i64 t.lehmer, .int .i64 t.radix, .int .i64 t.poly, .int .i64 t.kron, .int .i64 t.series, .int .i64 t.tree]
def Tb.av (t : Tb) : AV := .agg t.cells
def clampT (t : Tb) : Tb := ⟨max 4 (min t.base 64), max 12 (min t.toom 8192), max 64 (min t.ntt 16384), max 4 (min t.div 1024), max 4 (min t.recip 4096), max 2 (min t.lehmer 1024), max 2 (min t.radix 1024), max 4 (min t.poly 256), max 4 (min t.kron 1024), max 2 (min t.series 1024), max 2 (min t.tree 256)⟩
theorem av_held {t : Tb} : t.av.held = true := _root_.id rfl
theorem av_cells {t : Tb} : t.av.cells = t.cells := _root_.id rfl
theorem cells_len {t : Tb} : t.cells.length = 11 := _root_.id rfl
theorem cells_one {t : Tb} : t.cells.all (·.one) = true := _root_.id rfl
theorem H.get_of {h : H} {id off : Nat} {r : Row} (hr : h.rows id = some r) : h.get id off = r.cells[off]? := by simp [H.get, hr]
theorem H.gets_of {h : H} {id off n : Nat} {r : Row} (hr : h.rows id = some r) (hl : off + n ≤ r.cells.length) : h.gets id off n = some ((r.cells.drop off).take n) := by simp [H.gets, hr, hl]
theorem g_new {h : H} {r : Row} {off : Nat} : (h.new r).get h.next off = r.cells[off]? := H.get_of (H.rows_new _ _)
theorem g_new2 {h : H} {r q : Row} {off : Nat} : ((h.new r).new q).get h.next off = r.cells[off]? := H.get_of (by rw [H.rows_new_ne (by simp [H.new]), H.rows_new])
theorem r_new2 {h : H} {r q : Row} : ((h.new r).new q).rows h.next = some r := by rw [H.rows_new_ne (by simp [H.new]), H.rows_new]
theorem gs_set {h : H} {id : Nat} {r : Row} (hl : r.cells.length = 11) : (h.set id r).gets id 0 11 = some r.cells := by
  rw [H.gets_of (H.rows_set _ _ _) (by omega)]
  simp only [List.drop_zero]
  rw [← hl, List.take_length]
theorem bld11 {a0 a1 a2 a3 a4 a5 a6 a7 a8 a9 a10 : Int} : abuild [.int .i64 0, .int .i64 0, .int .i64 0, .int .i64 0, .int .i64 0, .int .i64 0, .int .i64 0, .int .i64 0, .int .i64 0, .int .i64 0, .int .i64 0] [(0, 1, .int .i64 a0), (1, 1, .int .i64 a1), (2, 1, .int .i64 a2), (3, 1, .int .i64 a3), (4, 1, .int .i64 a4), (5, 1, .int .i64 a5), (6, 1, .int .i64 a6), (7, 1, .int .i64 a7), (8, 1, .int .i64 a8), (9, 1, .int .i64 a9), (10, 1, .int .i64 a10)] = some [.int .i64 a0, .int .i64 a1, .int .i64 a2, .int .i64 a3, .int .i64 a4, .int .i64 a5, .int .i64 a6, .int .i64 a7, .int .i64 a8, .int .i64 a9, .int .i64 a10] := by simp [abuild, putAt, AV.held, AV.cells]
theorem put11 {a0 a1 a2 a3 a4 a5 a6 a7 a8 a9 a10 : Int} : putAt [.int .i64 0, .int .i64 0, .int .i64 0, .int .i64 0, .int .i64 0, .int .i64 0, .int .i64 0, .int .i64 0, .int .i64 0, .int .i64 0, .int .i64 0] 0 [.int .i64 a0, .int .i64 a1, .int .i64 a2, .int .i64 a3, .int .i64 a4, .int .i64 a5, .int .i64 a6, .int .i64 a7, .int .i64 a8, .int .i64 a9, .int .i64 a10] = [.int .i64 a0, .int .i64 a1, .int .i64 a2, .int .i64 a3, .int .i64 a4, .int .i64 a5, .int .i64 a6, .int .i64 a7, .int .i64 a8, .int .i64 a9, .int .i64 a10] := by simp [putAt]
theorem bld14 {t : Tb} : abuild [.int .i64 0, .int .i64 0, .int .i64 0, .int .i64 0, .int .i64 0, .int .i64 0, .int .i64 0, .int .i64 0, .int .i64 0, .int .i64 0, .int .i64 0, .int .i64 0, .int .i64 0, .int .i64 0] [(3, 11, t.av)] = some ([.int .i64 0, .int .i64 0, .int .i64 0] ++ t.cells) := by simp [abuild, putAt, Tb.av, Tb.cells, AV.held, AV.cells]
theorem within_calls {n a b : Int} {h : H} {K : AV → H → Prop} (hk : K (.int .i64 (max a (min n b))) h) : ACalls Try.prog 58 [.int .i64 n, .int .i64 a, .int .i64 b] h K := by
  refine in_table_within (by simp) fun hw => ?_
  unfold c_table_within
  simp only [go_sem, ↓reduceIte, Nat.reduceEqDiff, Nat.reduceAdd, Bool.false_eq_true, Int.reduceToNat]
  exact fun _ => hk
theorem rwithin_calls {n a b : Int} {h : H} {K : AV → H → Prop} (hab : a ≤ b) (hk : K (.int .i64 (max a (min n b))) h) : ACalls Try.prog 64 [.int .i64 n, .int .i64 a, .int .i64 b] h K := by
  refine in_ref04_within (by simp) fun hw => ?_
  unfold c_ref04_within
  simp only [go_sem, ↓reduceIte, Nat.reduceEqDiff, Nat.reduceAdd, Bool.false_eq_true, Int.reduceToNat]
  have e : min (max n a) b = max a (min n b) := by omega
  rw [e]
  exact fun _ => hk
theorem Clamp_calls {t : Tb} {h : H} {K : AV → H → Prop} (hk : ∀ h', h'.wf → h.le h' → K (clampT t).av h') : ACalls Try.prog 18 [t.av] h K := by
  refine in_table_Clamp (by simp) fun hw => ?_
  unfold c_table_Clamp
  simp only [go_sem, ↓reduceIte, Nat.reduceEqDiff, Nat.reduceAdd, Bool.false_eq_true, Int.reduceToNat, av_held, av_cells, true_and, g_new2, Tb.cells]
  refine within_calls ?_
  simp only [go_sem, ↓reduceIte, Nat.reduceEqDiff, Nat.reduceAdd, Bool.false_eq_true, Int.reduceToNat, g_new2, and_true, true_and]
  refine within_calls ?_
  simp only [go_sem, ↓reduceIte, Nat.reduceEqDiff, Nat.reduceAdd, Bool.false_eq_true, Int.reduceToNat, g_new2, and_true, true_and]
  refine within_calls ?_
  simp only [go_sem, ↓reduceIte, Nat.reduceEqDiff, Nat.reduceAdd, Bool.false_eq_true, Int.reduceToNat, g_new2, and_true, true_and]
  refine within_calls ?_
  simp only [go_sem, ↓reduceIte, Nat.reduceEqDiff, Nat.reduceAdd, Bool.false_eq_true, Int.reduceToNat, g_new2, and_true, true_and]
  refine within_calls ?_
  simp only [go_sem, ↓reduceIte, Nat.reduceEqDiff, Nat.reduceAdd, Bool.false_eq_true, Int.reduceToNat, g_new2, and_true, true_and]
  refine within_calls ?_
  simp only [go_sem, ↓reduceIte, Nat.reduceEqDiff, Nat.reduceAdd, Bool.false_eq_true, Int.reduceToNat, g_new2, and_true, true_and]
  refine within_calls ?_
  simp only [go_sem, ↓reduceIte, Nat.reduceEqDiff, Nat.reduceAdd, Bool.false_eq_true, Int.reduceToNat, g_new2, and_true, true_and]
  refine within_calls ?_
  simp only [go_sem, ↓reduceIte, Nat.reduceEqDiff, Nat.reduceAdd, Bool.false_eq_true, Int.reduceToNat, g_new2, and_true, true_and]
  refine within_calls ?_
  simp only [go_sem, ↓reduceIte, Nat.reduceEqDiff, Nat.reduceAdd, Bool.false_eq_true, Int.reduceToNat, g_new2, and_true, true_and]
  refine within_calls ?_
  simp only [go_sem, ↓reduceIte, Nat.reduceEqDiff, Nat.reduceAdd, Bool.false_eq_true, Int.reduceToNat, g_new2, and_true, true_and]
  refine within_calls ?_
  simp only [go_sem, ↓reduceIte, Nat.reduceEqDiff, Nat.reduceAdd, Bool.false_eq_true, Int.reduceToNat, g_new2, and_true, true_and]
  simp only [bld11, go_sem, ↓reduceIte, Nat.reduceEqDiff, Nat.reduceAdd, Bool.false_eq_true, Int.reduceToNat]
  refine ⟨rfl, rfl, ?_⟩
  rw [H.rows_new, k_put]
  refine ⟨Option.some_ne_none _, by simp, ?_⟩
  simp only [go_sem, ↓reduceIte, Nat.reduceEqDiff, Nat.reduceAdd, Bool.false_eq_true, Int.reduceToNat, put11]
  rw [gs_set (by rfl)]
  simp only [go_sem, ↓reduceIte, Nat.reduceEqDiff, Nat.reduceAdd, Bool.false_eq_true, Int.reduceToNat]
  exact fun hw' => hk _ hw' (H.le_set hw (H.le_new (H.wf_new hw _) (H.le_new hw (H.le_refl h) _) _) (Nat.le_succ _) _)
theorem rClamp_calls {t : Tb} {h : H} {K : AV → H → Prop} (hk : ∀ h', h'.wf → h.le h' → K (clampT t).av h') : ACalls Try.prog 28 [t.av] h K := by
  refine in_ref04_Clamp (by simp) fun hw => ?_
  unfold c_ref04_Clamp
  simp only [go_sem, ↓reduceIte, Nat.reduceEqDiff, Nat.reduceAdd, Bool.false_eq_true, Int.reduceToNat, av_held, av_cells, true_and, g_new2, Tb.cells]
  refine rwithin_calls (by omega) ?_
  simp only [go_sem, ↓reduceIte, Nat.reduceEqDiff, Nat.reduceAdd, Bool.false_eq_true, Int.reduceToNat, g_new2, and_true, true_and]
  refine rwithin_calls (by omega) ?_
  simp only [go_sem, ↓reduceIte, Nat.reduceEqDiff, Nat.reduceAdd, Bool.false_eq_true, Int.reduceToNat, g_new2, and_true, true_and]
  refine rwithin_calls (by omega) ?_
  simp only [go_sem, ↓reduceIte, Nat.reduceEqDiff, Nat.reduceAdd, Bool.false_eq_true, Int.reduceToNat, g_new2, and_true, true_and]
  refine rwithin_calls (by omega) ?_
  simp only [go_sem, ↓reduceIte, Nat.reduceEqDiff, Nat.reduceAdd, Bool.false_eq_true, Int.reduceToNat, g_new2, and_true, true_and]
  refine rwithin_calls (by omega) ?_
  simp only [go_sem, ↓reduceIte, Nat.reduceEqDiff, Nat.reduceAdd, Bool.false_eq_true, Int.reduceToNat, g_new2, and_true, true_and]
  refine rwithin_calls (by omega) ?_
  simp only [go_sem, ↓reduceIte, Nat.reduceEqDiff, Nat.reduceAdd, Bool.false_eq_true, Int.reduceToNat, g_new2, and_true, true_and]
  refine rwithin_calls (by omega) ?_
  simp only [go_sem, ↓reduceIte, Nat.reduceEqDiff, Nat.reduceAdd, Bool.false_eq_true, Int.reduceToNat, g_new2, and_true, true_and]
  refine rwithin_calls (by omega) ?_
  simp only [go_sem, ↓reduceIte, Nat.reduceEqDiff, Nat.reduceAdd, Bool.false_eq_true, Int.reduceToNat, g_new2, and_true, true_and]
  refine rwithin_calls (by omega) ?_
  simp only [go_sem, ↓reduceIte, Nat.reduceEqDiff, Nat.reduceAdd, Bool.false_eq_true, Int.reduceToNat, g_new2, and_true, true_and]
  refine rwithin_calls (by omega) ?_
  simp only [go_sem, ↓reduceIte, Nat.reduceEqDiff, Nat.reduceAdd, Bool.false_eq_true, Int.reduceToNat, g_new2, and_true, true_and]
  refine rwithin_calls (by omega) ?_
  simp only [go_sem, ↓reduceIte, Nat.reduceEqDiff, Nat.reduceAdd, Bool.false_eq_true, Int.reduceToNat, g_new2, and_true, true_and]
  simp only [bld11, go_sem, ↓reduceIte, Nat.reduceEqDiff, Nat.reduceAdd, Bool.false_eq_true, Int.reduceToNat]
  refine ⟨rfl, rfl, ?_⟩
  rw [H.rows_new, k_put]
  refine ⟨Option.some_ne_none _, by simp, ?_⟩
  simp only [go_sem, ↓reduceIte, Nat.reduceEqDiff, Nat.reduceAdd, Bool.false_eq_true, Int.reduceToNat, put11]
  rw [gs_set (by rfl)]
  simp only [go_sem, ↓reduceIte, Nat.reduceEqDiff, Nat.reduceAdd, Bool.false_eq_true, Int.reduceToNat]
  exact fun hw' => hk _ hw' (H.le_set hw (H.le_new (H.wf_new hw _) (H.le_new hw (H.le_refl h) _) _) (Nat.le_succ _) _)
end Ab
end Go.Proofs.Yteoagnggnekfiaa
