/- Joined texts: H2 H3 H4 H5 L1 L2 L3 H6. No condition. -/
import Derived.Test.YtnmnkocibjdhjaaZ7
import Derived.WalkKit
import Derived.ProofKit
import Derived.OpenShut
import Derived.ChangeSame
import Derived.Carry
import Derived.Deep.Slices
import Derived.Test.YtnmnkocibjdhjaaProg
import Derived.KernelRfl
namespace Go.Proofs.Ytnmnkocibjdhjaa
namespace Ab
open Go Go.RowKit
set_option linter.unusedSimpArgs false
set_option linter.unusedVariables false
attribute [local go_sem ↓] x_mv x_pick x_bin x_beq x_peq x_seq x_cat x_aeq x_idxS x_un x_cvI x_idx x_idxA x_fld x_ld x_st x_nn x_prt x_slc x_mk x_bsl x_bld x_box x_alloc x_len x_capo x_mnx x_app x_cpy x_mkf x_ext x_call x_callV x_bad s_none s_some s_nil s_cons s_chks w_skip w_reg tP_fin tP_no tP_alt w_seq w_cond w_block w_exit w_ret t_normal t_exit t_ret b_normal b_ret b_exit n_normal n_exit n_ret p_normal p_ret f_nil f_t f_c k_ops k_chk k_fin
attribute [local go_sem] e_t e_c e_f u_some u_none u_at env_at k_v k_pick k_add k_sub k_mul k_quo k_rem k_and k_or k_xor k_shl k_shr k_eql k_neq k_lss k_leq k_gtr k_geq k_beq k_peqn k_peqs k_neg k_not k_com k_cvI k_idxS k_idx k_idxA k_idxG k_ldG k_gld k_seq k_cat k_aeq k_eqs k_fld k_ld1 k_ldn k_get k_gets k_sti k_stb k_stp k_sts k_stf k_sta k_put k_nn k_prt1 k_prtn k_slc_a k_slc_b k_slc_c k_mk k_agg k_bsl k_box k_len k_lenS k_cap k_max k_min k_ext k_callV k_true k_false k_gtt k_gtf k_gft k_gsk k_gff k_lit1i k_lit2i k_lit3i k_c0 k_c1 k_ck List.getElem?_cons_zero List.getElem?_cons_succ List.getElem?_nil Option.getD_some Option.getD_none tupOf List.map_cons List.map_nil Option.map_some Option.map_none List.nil_append List.cons_append List.append_nil Nat.mul_one Int.toNat_natCast Nat.zero_add
/-- A table. -/
structure Tb where
  (base toom ntt div recip lehmer radix poly kron series tree : Int)
def Tb.cells (t : Tb) : List AV := [.int .i64 t.base, .int .i64 t.toom, .int .i64 t.ntt, .int .i64 t.div, .int .i64 t.recip, .int .i64 t.lehmer, .int .i64 t.radix, .int .i64 t.poly, .int .i64 t.kron, .int .i64 t.series, .int .i64 t.tree]
def Tb.av (t : Tb) : AV := .agg t.cells
def clampT (t : Tb) : Tb := ⟨max 4 (min t.base 64), max 12 (min t.toom 8192), max 64 (min t.ntt 16384), max 4 (min t.div 1024), max 4 (min t.recip 4096), max 2 (min t.lehmer 1024), max 2 (min t.radix 1024), max 4 (min t.poly 256), max 4 (min t.kron 1024), max 2 (min t.series 1024), max 2 (min t.tree 256)⟩
theorem av_held {t : Tb} : t.av.held = true := _root_.id rfl
theorem av_cells {t : Tb} : t.av.cells = t.cells := _root_.id rfl
theorem cells_len {t : Tb} : t.cells.length = 11 := _root_.id rfl
theorem cells_one {t : Tb} : t.cells.all (·.one) = true := _root_.id rfl
theorem H.get_of {h : H} {id off : Nat} {r : Row} (hr : h.rows id = some r) : h.get id off = r.cells[off]? := by simp [H.get, hr]
theorem H.gets_of {h : H} {id off n : Nat} {r : Row} (hr : h.rows id = some r) (hl : off + n ≤ r.cells.length) : h.gets id off n = some ((r.cells.drop off).take n) := by simp [H.gets, hr, hl]
theorem g_new {h : H} {r : Row} {off : Nat} : (h.new r).get h.next off = r.cells[off]? := H.get_of (H.rows_new _ _)
theorem g_new2 {h : H} {r q : Row} {off : Nat} : ((h.new r).new q).get h.next off = r.cells[off]? := H.get_of (by rw [H.rows_new_ne (by simp [H.new]), H.rows_new])
theorem r_new2 {h : H} {r q : Row} : ((h.new r).new q).rows h.next = some r := by rw [H.rows_new_ne (by simp [H.new]), H.rows_new]
theorem gs_set {h : H} {id : Nat} {r : Row} (hl : r.cells.length = 11) : (h.set id r).gets id 0 11 = some r.cells := by
  rw [H.gets_of (H.rows_set _ _ _) (by omega)]
  simp only [List.drop_zero]
  rw [← hl, List.take_length]
theorem bld11 {a0 a1 a2 a3 a4 a5 a6 a7 a8 a9 a10 : Int} : abuild [.int .i64 0, .int .i64 0, .int .i64 0, .int .i64 0, .int .i64 0, .int .i64 0, .int .i64 0, .int .i64 0, .int .i64 0, .int .i64 0, .int .i64 0] [(0, 1, .int .i64 a0), (1, 1, .int .i64 a1), (2, 1, .int .i64 a2), (3, 1, .int .i64 a3), (4, 1, .int .i64 a4), (5, 1, .int .i64 a5), (6, 1, .int .i64 a6), (7, 1, .int .i64 a7), (8, 1, .int .i64 a8), (9, 1, .int .i64 a9), (10, 1, .int .i64 a10)] = some [.int .i64 a0, .int .i64 a1, .int .i64 a2, .int .i64 a3, .int .i64 a4, .int .i64 a5, .int .i64 a6, .int .i64 a7, .int .i64 a8, .int .i64 a9, .int .i64 a10] := by simp [abuild, putAt, AV.held, AV.cells]
theorem put11 {a0 a1 a2 a3 a4 a5 a6 a7 a8 a9 a10 : Int} : putAt [.int .i64 0, .int .i64 0, .int .i64 0, .int .i64 0, .int .i64 0, .int .i64 0, .int .i64 0, .int .i64 0, .int .i64 0, .int .i64 0, .int .i64 0] 0 [.int .i64 a0, .int .i64 a1, .int .i64 a2, .int .i64 a3, .int .i64 a4, .int .i64 a5, .int .i64 a6, .int .i64 a7, .int .i64 a8, .int .i64 a9, .int .i64 a10] = [.int .i64 a0, .int .i64 a1, .int .i64 a2, .int .i64 a3, .int .i64 a4, .int .i64 a5, .int .i64 a6, .int .i64 a7, .int .i64 a8, .int .i64 a9, .int .i64 a10] := by simp [putAt]
theorem bld14 {t : Tb} : abuild [.int .i64 0, .int .i64 0, .int .i64 0, .int .i64 0, .int .i64 0, .int .i64 0, .int .i64 0, .int .i64 0, .int .i64 0, .int .i64 0, .int .i64 0, .int .i64 0, .int .i64 0, .int .i64 0] [(3, 11, t.av)] = some ([.int .i64 0, .int .i64 0, .int .i64 0] ++ t.cells) := by simp [abuild, putAt, Tb.av, Tb.cells, AV.held, AV.cells]
theorem within_calls {n a b : Int} {h : H} {K : AV → H → Prop} (hk : K (.int .i64 (max a (min n b))) h) : ACalls Try.prog 129 [.int .i64 n, .int .i64 a, .int .i64 b] h K := by
  refine in_table_within (by simp) fun hw => ?_
  unfold c_table_within
  simp only [go_sem, ↓reduceIte, Nat.reduceEqDiff, Nat.reduceAdd, Bool.false_eq_true, Int.reduceToNat]
  exact fun _ => hk
theorem Clamp_calls {t : Tb} {h : H} {K : AV → H → Prop} (hk : ∀ h', h'.wf → h.le h' → K (clampT t).av h') : ACalls Try.prog 127 [t.av] h K := by
  refine in_table_Clamp (by simp) fun hw => ?_
  unfold c_table_Clamp
  simp only [go_sem, ↓reduceIte, Nat.reduceEqDiff, Nat.reduceAdd, Bool.false_eq_true, Int.reduceToNat, av_held, av_cells, true_and, g_new2, Tb.cells]
  refine within_calls ?_
  simp only [go_sem, ↓reduceIte, Nat.reduceEqDiff, Nat.reduceAdd, Bool.false_eq_true, Int.reduceToNat, g_new2, and_true, true_and]
  refine within_calls ?_
  simp only [go_sem, ↓reduceIte, Nat.reduceEqDiff, Nat.reduceAdd, Bool.false_eq_true, Int.reduceToNat, g_new2, and_true, true_and]
  refine within_calls ?_
  simp only [go_sem, ↓reduceIte, Nat.reduceEqDiff, Nat.reduceAdd, Bool.false_eq_true, Int.reduceToNat, g_new2, and_true, true_and]
  refine within_calls ?_
  simp only [go_sem, ↓reduceIte, Nat.reduceEqDiff, Nat.reduceAdd, Bool.false_eq_true, Int.reduceToNat, g_new2, and_true, true_and]
  refine within_calls ?_
  simp only [go_sem, ↓reduceIte, Nat.reduceEqDiff, Nat.reduceAdd, Bool.false_eq_true, Int.reduceToNat, g_new2, and_true, true_and]
  refine within_calls ?_
  simp only [go_sem, ↓reduceIte, Nat.reduceEqDiff, Nat.reduceAdd, Bool.false_eq_true, Int.reduceToNat, g_new2, and_true, true_and]
  refine within_calls ?_
  simp only [go_sem, ↓reduceIte, Nat.reduceEqDiff, Nat.reduceAdd, Bool.false_eq_true, Int.reduceToNat, g_new2, and_true, true_and]
  refine within_calls ?_
  simp only [go_sem, ↓reduceIte, Nat.reduceEqDiff, Nat.reduceAdd, Bool.false_eq_true, Int.reduceToNat, g_new2, and_true, true_and]
  refine within_calls ?_
  simp only [go_sem, ↓reduceIte, Nat.reduceEqDiff, Nat.reduceAdd, Bool.false_eq_true, Int.reduceToNat, g_new2, and_true, true_and]
  refine within_calls ?_
  simp only [go_sem, ↓reduceIte, Nat.reduceEqDiff, Nat.reduceAdd, Bool.false_eq_true, Int.reduceToNat, g_new2, and_true, true_and]
  refine within_calls ?_
  simp only [go_sem, ↓reduceIte, Nat.reduceEqDiff, Nat.reduceAdd, Bool.false_eq_true, Int.reduceToNat, g_new2, and_true, true_and]
  simp only [bld11, go_sem, ↓reduceIte, Nat.reduceEqDiff, Nat.reduceAdd, Bool.false_eq_true, Int.reduceToNat]
  refine ⟨rfl, rfl, ?_⟩
  rw [H.rows_new, k_put]
  refine ⟨Option.some_ne_none _, by simp, ?_⟩
  simp only [go_sem, ↓reduceIte, Nat.reduceEqDiff, Nat.reduceAdd, Bool.false_eq_true, Int.reduceToNat, put11]
  rw [gs_set (by rfl)]
  simp only [go_sem, ↓reduceIte, Nat.reduceEqDiff, Nat.reduceAdd, Bool.false_eq_true, Int.reduceToNat]
  exact fun hw' => hk _ hw' (H.le_set hw (H.le_new (H.wf_new hw _) (H.le_new hw (H.le_refl h) _) _) (Nat.le_succ _) _)
end Ab
end Go.Proofs.Ytnmnkocibjdhjaa
namespace Go.Proofs.Ytnmnkocibjdhjaa
namespace Ab
open Go Go.RowKit
set_option linter.unusedSimpArgs false
set_option linter.unusedVariables false
attribute [local go_sem ↓] x_mv x_pick x_bin x_beq x_peq x_seq x_cat x_aeq x_idxS x_un x_cvI x_idx x_idxA x_fld x_ld x_st x_nn x_prt x_slc x_mk x_bsl x_bld x_box x_alloc x_len x_capo x_mnx x_app x_cpy x_mkf x_ext x_call x_callV x_bad s_none s_some s_nil s_cons s_chks w_skip w_reg tP_fin tP_no tP_alt w_seq w_cond w_block w_exit w_ret t_normal t_exit t_ret b_normal b_ret b_exit n_normal n_exit n_ret p_normal p_ret f_nil f_t f_c k_ops k_chk k_fin
attribute [local go_sem] e_t e_c e_f u_some u_none u_at env_at k_v k_pick k_add k_sub k_mul k_quo k_rem k_and k_or k_xor k_shl k_shr k_eql k_neq k_lss k_leq k_gtr k_geq k_beq k_peqn k_peqs k_neg k_not k_com k_cvI k_idxS k_idx k_idxA k_idxG k_ldG k_gld k_seq k_cat k_aeq k_eqs k_fld k_ld1 k_ldn k_get k_gets k_sti k_stb k_stp k_sts k_stf k_sta k_put k_nn k_prt1 k_prtn k_slc_a k_slc_b k_slc_c k_mk k_agg k_bsl k_box k_len k_lenS k_cap k_max k_min k_ext k_callV k_true k_false k_gtt k_gtf k_gft k_gsk k_gff k_lit1i k_lit2i k_lit3i k_c0 k_c1 k_ck List.getElem?_cons_zero List.getElem?_cons_succ List.getElem?_nil Option.getD_some Option.getD_none tupOf List.map_cons List.map_nil Option.map_some Option.map_none List.nil_append List.cons_append List.append_nil Nat.mul_one Int.toNat_natCast Nat.zero_add
/-- A table whose first entries are these. -/
structure Tb.is (t : Tb) (B T N : Nat) : Prop where
  base : t.base = B
  toom : t.toom = T
  ntt : t.ntt = N
  ok : TOk B T N
  t2 : T ≤ 8192
  n2 : N ≤ 16384
theorem clamp_is (t : Tb) : ∃ B T N, (clampT t).is B T N := by
  refine ⟨(clampT t).base.toNat, (clampT t).toom.toNat, (clampT t).ntt.toNat, ?_, ?_, ?_, ⟨?_, ?_, ?_, ?_⟩, ?_, ?_⟩ <;> simp only [clampT] <;> omega
theorem clamp_clamp (t : Tb) : clampT (clampT t) = clampT t := by
  simp only [clampT, Tb.mk.injEq]
  refine ⟨?_, ?_, ?_, ?_, ?_, ?_, ?_, ?_, ?_, ?_, ?_⟩ <;> omega
theorem wNI {n : Nat} (h : n < 9223372036854775808) : IntKind.i64.wrap (n : Int) = (n : Int) := wI (by omega) (by omega)
theorem addI {a b : Nat} (h : a + b < 9223372036854775808) : IntKind.i64.wrap ((a : Int) + (b : Int)) = ((a + b : Nat) : Int) := by rw [wI] <;> omega
theorem subI {a b : Nat} (hb : b ≤ a) (h : a < 9223372036854775808) : IntKind.i64.wrap ((a : Int) - (b : Int)) = ((a - b : Nat) : Int) := by rw [wI] <;> omega
theorem mulI {a b : Nat} (h : a * b < 9223372036854775808) : IntKind.i64.wrap ((a : Int) * (b : Int)) = ((a * b : Nat) : Int) := by
  rw [← Int.natCast_mul, wI] <;> omega
/-- What a transform costs, whatever is asked. -/
def transZ (n m w : Int) : Int := if n < 1 ∨ m < 1 ∨ w < 0 ∨ 16384 < n ∨ 16384 < m ∨ 3 < w then 0 else (transF n.toNat m.toNat w.toNat : Nat)
theorem transZ_nat {n m w : Nat} (h1 : 1 ≤ n) (h2 : 1 ≤ m) (h3 : n ≤ 16384) (h4 : m ≤ 16384) (h5 : w ≤ 3) : transZ n m w = (transF n m w : Nat) := by
  unfold transZ
  rw [if_neg (by omega)]
  simp
theorem size_le {n m l : Nat} (hl : BL (n + m - 1) l) (h1 : 1 ≤ n) (h2 : 1 ≤ m) (h3 : n ≤ 16384) (h4 : m ≤ 16384) : l ≤ 15 ∧ 1 ≤ l ∧ 2 ^ l ≤ 32768 := by
  have hl0 := hl.pos (by omega)
  have h5 := hl.2.resolve_left hl0
  have hl15 : l ≤ 15 := by
    rcases Nat.lt_or_ge 15 l with h | h
    · have : 2 ^ 15 ≤ 2 ^ (l - 1) := Nat.pow_le_pow_right (by omega) (by omega)
      omega
    · exact h
  have := Nat.pow_le_pow_right (n := 2) (by omega) hl15
  exact ⟨hl15, by omega, this⟩
theorem bad_trans {n m w : Int} (hb : n < 1 ∨ m < 1 ∨ w < 0 ∨ 16384 < n ∨ 16384 < m ∨ 3 < w) : transZ n m w = 0 := by unfold transZ; rw [if_pos hb]
/-- Sums of costs fit. -/
theorem cost_fit {B T N f n m : Nat} (ok : TOk B T N) (hm : m ≤ n) (hf : n < f) (hn : n ≤ 16384) : costF B T N f n m < 4294967296 := by
  have h1 := cost_bound ok f n m hm hf hn
  have h2 : n * m ≤ 16384 * 16384 := Nat.mul_le_mul hn (by omega)
  omega
end Ab
end Go.Proofs.Ytnmnkocibjdhjaa
namespace Go.Proofs.Ytnmnkocibjdhjaa
namespace Ab
open Go Go.RowKit
set_option linter.unusedSimpArgs false
set_option linter.unusedVariables false
attribute [local go_sem ↓] x_mv x_pick x_bin x_beq x_peq x_seq x_cat x_aeq x_idxS x_un x_cvI x_idx x_idxA x_fld x_ld x_st x_nn x_prt x_slc x_mk x_bsl x_bld x_box x_alloc x_len x_capo x_mnx x_app x_cpy x_mkf x_ext x_call x_callV x_bad s_none s_some s_nil s_cons s_chks w_skip w_reg tP_fin tP_no tP_alt w_seq w_cond w_block w_exit w_ret t_normal t_exit t_ret b_normal b_ret b_exit n_normal n_exit n_ret p_normal p_ret f_nil f_t f_c k_ops k_chk k_fin
attribute [local go_sem] e_t e_c e_f u_some u_none u_at env_at k_v k_pick k_add k_sub k_mul k_quo k_rem k_and k_or k_xor k_shl k_shr k_eql k_neq k_lss k_leq k_gtr k_geq k_beq k_peqn k_peqs k_neg k_not k_com k_cvI k_idxS k_idx k_idxA k_idxG k_ldG k_gld k_seq k_cat k_aeq k_eqs k_fld k_ld1 k_ldn k_get k_gets k_sti k_stb k_stp k_sts k_stf k_sta k_put k_nn k_prt1 k_prtn k_slc_a k_slc_b k_slc_c k_mk k_agg k_bsl k_box k_len k_lenS k_cap k_max k_min k_ext k_callV k_true k_false k_gtt k_gtf k_gft k_gsk k_gff k_lit1i k_lit2i k_lit3i k_c0 k_c1 k_ck List.getElem?_cons_zero List.getElem?_cons_succ List.getElem?_nil Option.getD_some Option.getD_none tupOf List.map_cons List.map_nil Option.map_some Option.map_none List.nil_append List.cons_append List.append_nil Nat.mul_one Int.toNat_natCast Nat.zero_add
theorem gsT {h' : H} {id : Nat} {t : Tb} (hr : h'.rows id = some ⟨some 50, 11, t.cells⟩) : h'.gets id 0 11 = some t.cells := H.gets_of hr (by simp [cells_len])
/-- What a product costs, by any table. -/
def costT (t : Tb) (n m : Nat) : Nat := costF (clampT t).base.toNat (clampT t).toom.toNat (clampT t).ntt.toNat 20000 (max n m) (min n m)
def sqT (t : Tb) (n : Nat) : Nat := sqF (clampT t).base.toNat (clampT t).toom.toNat (clampT t).ntt.toNat 20000 n
def routeT (t : Tb) (n m : Int) : Nat := if n < 0 ∨ m < 0 ∨ 16384 < n ∨ 16384 < m then 0 else routeF (clampT t).base.toNat (clampT t).toom.toNat (clampT t).ntt.toNat (max n m).toNat (min n m).toNat
theorem clamp_isT (t : Tb) : (clampT t).is (clampT t).base.toNat (clampT t).toom.toNat (clampT t).ntt.toNat := by
  refine ⟨?_, ?_, ?_, ⟨?_, ?_, ?_, ?_⟩, ?_, ?_⟩ <;> simp only [clampT] <;> omega
/-- What stands first in a list. -/
def leastT (xs : List Int) : Tb := ⟨xs.getD 0 0, xs.getD 1 0, xs.getD 2 0, xs.getD 3 0, xs.getD 4 0, xs.getD 5 0, xs.getD 6 0, xs.getD 7 0, xs.getD 8 0, xs.getD 9 0, xs.getD 10 0⟩
end Ab
end Go.Proofs.Ytnmnkocibjdhjaa
namespace Go.Proofs.Ytnmnkocibjdhjaa
namespace Ab
open Go Go.RowKit
set_option linter.unusedSimpArgs false
set_option linter.unusedVariables false
attribute [local go_sem ↓] x_mv x_pick x_bin x_beq x_peq x_seq x_cat x_aeq x_idxS x_un x_cvI x_idx x_idxA x_fld x_ld x_st x_nn x_prt x_slc x_mk x_bsl x_bld x_box x_alloc x_len x_capo x_mnx x_app x_cpy x_mkf x_ext x_call x_callV x_bad s_none s_some s_nil s_cons s_chks w_skip w_reg tP_fin tP_no tP_alt w_seq w_cond w_block w_exit w_ret t_normal t_exit t_ret b_normal b_ret b_exit n_normal n_exit n_ret p_normal p_ret f_nil f_t f_c k_ops k_chk k_fin
attribute [local go_sem] e_t e_c e_f u_some u_none u_at env_at k_v k_pick k_add k_sub k_mul k_quo k_rem k_and k_or k_xor k_shl k_shr k_eql k_neq k_lss k_leq k_gtr k_geq k_beq k_peqn k_peqs k_neg k_not k_com k_cvI k_idxS k_idx k_idxA k_idxG k_ldG k_gld k_seq k_cat k_aeq k_eqs k_fld k_ld1 k_ldn k_get k_gets k_sti k_stb k_stp k_sts k_stf k_sta k_put k_nn k_prt1 k_prtn k_slc_a k_slc_b k_slc_c k_mk k_agg k_bsl k_box k_len k_lenS k_cap k_max k_min k_ext k_callV k_true k_false k_gtt k_gtf k_gft k_gsk k_gff k_lit1i k_lit2i k_lit3i k_c0 k_c1 k_ck List.getElem?_cons_zero List.getElem?_cons_succ List.getElem?_nil Option.getD_some Option.getD_none tupOf List.map_cons List.map_nil Option.map_some Option.map_none List.nil_append List.cons_append List.append_nil Nat.mul_one Int.toNat_natCast Nat.zero_add
theorem routeT_nat {t : Tb} {n m : Nat} (hn : n ≤ 16384) (hm : m ≤ 16384) : routeT t n m = routeF (clampT t).base.toNat (clampT t).toom.toNat (clampT t).ntt.toNat (max n m) (min n m) := by
  unfold routeT
  rw [if_neg (by omega)]
  congr 1 <;> omega
end Ab
end Go.Proofs.Ytnmnkocibjdhjaa
namespace Go.Proofs.Ytnmnkocibjdhjaa
namespace Ab
open Go Go.RowKit Go.WideShapes Go.ChangeShapes Go.ChangeAt
def h00 : H := ⟨fun _ => none, 0⟩
theorem globOK_none {base : Nat} {w : World} (h : gnum = none) : GlobOK base w := fun g off n hg => by simp [gcell, h] at hg
theorem rep00 (w : World) (hg : GlobOK w.heap.size w) : Rep w.heap.size w (fun _ => none) w h00 :=
  ⟨Below.refl _ _, Nat.le_refl _, hg, fun _ _ => rfl, fun _ _ hr => (by cases hr), fun _ _ _ _ _ _ hr => (by cases hr)⟩
theorem wf00 : h00.wf := fun _ _ => rfl
/-- A call that answers true, and turns nothing that was there. -/
theorem law_calls {P : Program} {f : FuncId} {fn : Func} {avs : List AV} {vs : List Value} {h : H} {μ : Mu} {w : World} (hf : P.funcs[f]? = some fn) (hb : fn.body.isSome = true) (hname : (fn.name == "runtime.NumGoroutine") = false)
    (R : Rep w.heap.size w μ w h) (hr : RelA μ avs vs) (hc : ACalls P f avs h (fun r _ => r = .bool true)) : Calls P f vs.toArray w (fun e w' => e = .returned (.bool true) ∧ Below w.heap.size w w') := by
  rcases hc _ _ _ _ _ R hr with ⟨_, h2⟩ | ⟨v, h1, _⟩
  · refine h2.mono ?_
    rintro e w' ⟨v, rfl, μ', r, h', _, q2, q3, rfl⟩
    cases q2
    exact ⟨rfl, q3.below⟩
  · exfalso
    have hname' : ¬ fn.name = "runtime.NumGoroutine" := by simpa using hname
    obtain ⟨c, hb⟩ := Option.isSome_iff_exists.1 hb
    simp [callFunc, hf, hname', hb] at h1
section
variable {T : Type} {enc : TypeId × Value → T} {P : Program}
/-- The row's end, where all that was there is kept. -/
theorem post_kept {f : Func} {s : ChangeSpec} {apart fresh handsOn again : Bool} {W W' : World} {args : Array Value} {v : Value} {ds gs : List (DataW T)} {before pa pv : List MemPlace}
    (hW : DataW.Whole enc P f.params.toList s.vars apart W args.toList ds gs before)
    (hres : ∀ (b : Nat) (sp : Nat → Bool) (hd : Bool), DataW.TrodAll enc P W' b sp hd f.resultTypes.toList (v.resultList f.resultTypes.size) (s.fn T (ds ++ gs)).results [])
    (hargs : ∀ sp : Nat → Bool, (∀ p ∈ before, sp p.block = true) → DataW.TrodAll enc P W' 0 sp true f.params.toList args.toList (s.fn T (ds ++ gs)).args pa)
    (hvars : ∀ sp : Nat → Bool, (∀ p ∈ before, sp p.block = true) → DataW.TrodVars enc P W' sp s.vars (s.fn T (ds ++ gs)).vars pv)
    (hsplit : before = pa ++ pv) (hB : Below W.heap.size W W')
    (hok : ∀ (j : Nat) (t : TypeId) (r : Value), f.resultTypes[j]? = some t → (v.resultList f.resultTypes.size)[j]? = some r → Value.okWide P W' .any 0 t r) :
    s.post enc P f apart fresh handsOn again W args v W' := by
  subst hsplit
  have low : ∀ p ∈ pa ++ pv, p.block < W.heap.size := fun p hp => hW.lt p hp
  have mark : ∀ p ∈ pa ++ pv, (fun b => decide (b < W.heap.size)) p.block = true := fun p hp => decide_eq_true (low p hp)
  have keep : W.keptBut W' (· ∈ pa ++ pv) := hB.frame _
  refine ⟨ds, gs, pa ++ pv, [], pa, pv, hW, hres _ _ _, hargs _ mark, hvars _ mark, World.keptBut_mono (fun p hp => ⟨hp, .inr (List.mem_append.1 hp)⟩) keep, fun _ => ⟨hok, _, _, ([] ++ pa) ++ pv, ⟨[] ++ pa, pv, trodAll_append (hargs _ (fun _ _ => rfl)) (hres _ _ _), hvars _ (fun _ _ => rfl), rfl, ?_, ?_⟩, ?_⟩⟩
  · intro b off hp
    have hp' : MemPlace.cell b off ∈ pa ++ pv := by simpa using hp
    obtain ⟨_, _, _, _, _, hz, _⟩ := hW
    rw [hB.frozen (low _ hp')]
    exact hz b off hp'
  · intro ha
    obtain ⟨_, _, _, _, _, _, hn⟩ := hW
    simpa using hn ha
  · intro p hp _
    simpa using hp
end
/-- A whole number that came in. -/
theorem wf_u64 {a : Int} (h : (Lit.int .u64 a).wf = true) : ∃ n : Nat, a = (n : Int) ∧ n < 18446744073709551616 := by
  simp [Lit.wf, IntKind.min, IntKind.max, IntKind.signed, IntKind.bits] at h
  exact ⟨a.toNat, by omega, by omega⟩
theorem wf_i64 {a : Int} (h : (Lit.int .i64 a).wf = true) : -9223372036854775808 ≤ a ∧ a < 9223372036854775808 := by
  simp [Lit.wf, IntKind.min, IntKind.max, IntKind.signed, IntKind.bits] at h
  omega
end Ab
end Go.Proofs.Ytnmnkocibjdhjaa
namespace Go.Proofs.Ytnmnkocibjdhjaa
namespace Ab
open Go Go.RowKit Go.WideShapes Go.ChangeShapes Go.ChangeAt

/-- What the cells of a variable that came in are like. -/
inductive Reads (P : Program) (h : H) : TypeId → List AV → Prop
  | int {t : TypeId} {k : IntKind} {n : Int} (ht : P.underlying t = some (.int k)) (hw : (Lit.int k n).wf = true) : Reads P h t [.int k n]
  | bool {t : TypeId} {b : Bool} (ht : P.underlying t = some .bool) : Reads P h t [.bool b]
  | str {t : TypeId} {s : ByteArray} (ht : P.underlying t = some .string) (hs : s.size ≤ maxLen) : Reads P h t [.str s]
  | snil {t e : TypeId} (ht : P.underlying t = some (.slice e)) : Reads P h t [.sl none 0 0 none]
  | sl {t e : TypeId} {id len : Nat} {r : Row} (ht : P.underlying t = some (.slice e)) (hr : h.rows id = some r) (ho : r.own = none) (hlen : len ≤ maxLen) (hl : r.cells.length = len * P.cellsOf e)
      (he : ∀ i, i < len → Reads P h e ((r.cells.drop (i * P.cellsOf e)).take (P.cellsOf e))) : Reads P h t [.sl (some id) 0 len none]
  | struct {t : TypeId} {fs : Array Field} {l : List AV} (ht : P.underlying t = some (.struct fs)) (hl : l.length = P.cellsOf t)
      (hf : ∀ f ∈ fs.toList, Reads P h f.type ((l.drop f.offset).take (P.cellsOf f.type))) : Reads P h t l
theorem Reads.mono {P : Program} {h h' : H} (hl : h.le h') {t : TypeId} {l : List AV} (r : Reads P h t l) : Reads P h' t l := by
  induction r with
  | int ht hw => exact .int ht hw
  | bool ht => exact .bool ht
  | str ht hs => exact .str ht hs
  | snil ht => exact .snil ht
  | sl ht hr ho hlen hl' _ ih => exact .sl ht (hl.2 _ _ hr) ho hlen hl' ih
  | struct ht hl' _ ih => exact .struct ht hl' ih
/-- An argument. -/
def ReadsV (P : Program) (h : H) (t : TypeId) (u : AV) : Prop :=
  match P.underlying t with
  | some (.struct _) => ∃ l, u = .agg l ∧ Reads P h t l
  | _ => Reads P h t [u]
theorem ReadsV.mono {P : Program} {h h' : H} (hl : h.le h') {t : TypeId} {u : AV} (r : ReadsV P h t u) : ReadsV P h' t u := by
  unfold ReadsV at *
  split at r
  · obtain ⟨l, e, r⟩ := r; exact ⟨l, e, r.mono hl⟩
  · exact r.mono hl
/-- Types that arguments of statements have. -/
def plainB (P : Program) : Nat → TypeId → Bool
  | 0, _ => false
  | d + 1, t => match P.underlying t with
    | some .bool => true
    | some (.int _) => true
    | some .string => true
    | some (.slice e) => decide (0 < P.cellsOf e) && plainB P d e
    | some (.struct fs) => fs.toList.all (fun f => plainB P d f.type) && P.cellsOf t == (fs.toList.map fun f => P.cellsOf f.type).sum &&
        (List.range fs.toList.length).all fun j => match fs.toList[j]? with | some f => f.offset == ((fs.toList.take j).map fun f => P.cellsOf f.type).sum | none => true
    | _ => false

section
variable {H' : Type} {enc : TypeId × Value → H'} {P : Program} {w : World}
structure Abs (w : World) (μ : Mu) (h : H) : Prop where
  rep : Rep w.heap.size w μ w h
theorem cells_get {base : Nat} {a : Addr} {n : Nat} {cs : List Value} (h : w.cells? base a n = some cs) : cs.length = n ∧ ∀ i v, cs[i]? = some v → w.cell? (a.add i) = some v := by
  unfold World.cells? at h
  split at h
  · refine ⟨by simpa using mapM_some_length h, fun i v hv => ?_⟩
    have hi : i < n := by
      have := mapM_some_length h
      have h2 := (List.getElem?_eq_some_iff.1 hv).1
      simp at this
      omega
    rw [mapM_some_get h i i (by simp [hi]), hv]
  · cases h
theorem cell_block {a : Addr} {v : Value} (h : w.cell? a = some v) : a.block < w.heap.size := by
  unfold World.cell? at h
  split at h
  · rename_i c _ _ e
    exact (Array.getElem?_eq_some_iff.1 e).1
  · cases h
/-- A row that came in is noted. -/
theorem Rep.note {base : Nat} {w0 : World} {μ : Mu} {h : H} (R : Rep base w0 μ w h) {a : Addr} {z : Nat} {l : List AV} (ha : a.block < base) (hl : ∀ (j : Nat) (u : AV), l[j]? = some u → ∃ v, w.cell? (a.add j) = some v ∧ Rel μ u v) :
    μ.le (μ.put h.next ⟨a, z, none⟩) ∧ Rep base w0 (μ.put h.next ⟨a, z, none⟩) w (h.new ⟨none, z, l⟩) := by
  have hfree := R.free h.next (Nat.le_refl _)
  have hle := Mu.le_put hfree (⟨a, z, none⟩ : Pl)
  refine ⟨hle, R.below, R.size, R.glob, fun id hid => ?_, fun id r hr => ?_, fun id id' r r' p p' hr hr' ho ho' hp hp' => ?_⟩
  · simp only [H.new] at hid
    simp only [Mu.put]
    rw [if_neg (by omega)]
    exact R.free id (by omega)
  · simp only [H.new] at hr
    split at hr
    · rename_i e
      injection hr with hr
      subst hr
      subst e
      exact ⟨⟨a, z, none⟩, by simp [Mu.put], ha, rfl, fun j u hu => by
        obtain ⟨v, h1, h2⟩ := hl j u hu
        exact ⟨v, h1, h2.mono hle⟩⟩
    · obtain ⟨p, hp, hR⟩ := R.row id r hr
      exact ⟨p, hle _ _ hp, hR.mono hle⟩
  · have old : ∀ {i : Nat} {r : Row} {p : Pl}, (h.new ⟨none, z, l⟩).rows i = some r → r.own ≠ none → (μ.put h.next ⟨a, z, none⟩) i = some p → h.rows i = some r ∧ μ i = some p := by
      intro i r p hr ho hp
      simp only [H.new] at hr
      split at hr
      · injection hr with hr
        subst hr
        exact absurd rfl ho
      · rename_i e
        simp only [Mu.put] at hp
        rw [if_neg e] at hp
        exact ⟨hr, hp⟩
    obtain ⟨a1, a2⟩ := old hr ho hp
    obtain ⟨b1, b2⟩ := old hr' ho' hp'
    exact R.apart id id' r r' p p' a1 b1 ho ho' a2 b2
theorem sum_take_succ {α : Type} (l : List α) (g : α → Nat) (j : Nat) (x : α) (h : l[j]? = some x) : ((l.take (j + 1)).map g).sum = ((l.take j).map g).sum + g x := by
  obtain ⟨hj, rfl⟩ := List.getElem?_eq_some_iff.1 h
  rw [List.take_succ_eq_append_getElem hj, List.map_append, List.sum_append]
  simp
/-- What a tread through memory meets, asx abstract values. -/
theorem absorb (base : Nat) : ∀ (n d : Nat) (t : TypeId) (cs : List Value) (x : DataW H' × List MemPlace) (μ : Mu) (h : H), plainB P d t = true → DataW.trod enc P w base (fun _ => true) true n t cs = some x →
    Rep w.heap.size w μ w h → ∃ μ' h' l, μ.le μ' ∧ h.le h' ∧ Rep w.heap.size w μ' w h' ∧ RelA μ' l cs ∧ Reads P h' t l := by
  intro n
  induction n with
  | zero => intro d t cs x μ h _ hx; simp [DataW.trod] at hx
  | succ n ih =>
    intro d t cs x μ h hp hx R
    cases d with
    | zero => simp [plainB] at hp
    | succ d =>
      rw [DataW.trod_step] at hx
      unfold DataW.trodStep at hx
      unfold plainB at hp
      split at hx
      case h_1 b ht => exact ⟨μ, h, [.bool b], μ.le_refl, H.le_refl h, R, (RelA.nil μ).cons (.bool b), .bool ht⟩
      case h_2 k k' m ht =>
        split at hx
        · rename_i hc
          obtain ⟨rfl, hw⟩ := hc
          exact ⟨μ, h, [.int k' m], μ.le_refl, H.le_refl h, R, (RelA.nil μ).cons (.int k' m), .int ht hw⟩
        · cases hx
      case h_4 s ht =>
        split at hx
        · rename_i hc
          exact ⟨μ, h, [.str s], μ.le_refl, H.le_refl h, R, (RelA.nil μ).cons (.str s), .str ht hc⟩
        · cases hx
      case h_7 e ht => exact ⟨μ, h, [.sl none 0 0 none], μ.le_refl, H.le_refl h, R, (RelA.nil μ).cons (.snil (fun x hx => by cases hx)), .snil ht⟩
      case h_8 e a len cap ht =>
        rw [ht] at hp
        simp only [Bool.and_eq_true, decide_eq_true_eq] at hp
        obtain ⟨hpos, hpe⟩ := hp
        simp only at hx
        split at hx
        · rename_i hc
          simp only [Option.map_eq_some_iff, Option.bind_eq_some_iff, if_true] at hx
          obtain ⟨elems, he, rest, hrest, rfl⟩ := hx
          rcases Nat.eq_zero_or_pos cap with hc0 | hc0
          · have hl0 : len = 0 := by omega
            subst hc0; subst hl0
            exact ⟨μ, h, [.sl none 0 0 none], μ.le_refl, H.le_refl h, R, (RelA.nil μ).cons (.snil (fun x hx => by cases hx)), .snil ht⟩
          · -- the block is there
            have hblk : a.block < w.heap.size := by
              rcases Nat.eq_zero_or_pos len with hl0 | hl0
              · subst hl0
                have h0 := mapM_some_get hrest 0 0 (List.getElem?_range (by omega))
                have hne := mapM_some_length hrest
                rw [List.length_range] at hne
                obtain ⟨y, hy⟩ : ∃ y, rest[0]? = some y := ⟨_, List.getElem?_eq_getElem (by omega)⟩
                rw [hy] at h0
                simp only [Option.bind_eq_some_iff] at h0
                obtain ⟨cs', hcs, _⟩ := h0
                obtain ⟨h1, h2⟩ := cells_get hcs
                have := cell_block (h2 0 _ (List.getElem?_eq_getElem (by omega)))
                simpa [block_add] using this
              · have h0 := mapM_some_get he 0 0 (List.getElem?_range (by omega))
                have hne := mapM_some_length he
                rw [List.length_range] at hne
                obtain ⟨y, hy⟩ : ∃ y, elems[0]? = some y := ⟨_, List.getElem?_eq_getElem (by omega)⟩
                rw [hy] at h0
                simp only [Option.bind_eq_some_iff] at h0
                obtain ⟨cs', hcs, _⟩ := h0
                obtain ⟨h1, h2⟩ := cells_get hcs
                have := cell_block (h2 0 _ (List.getElem?_eq_getElem (by omega)))
                simpa [block_add] using this
            -- the elements, one after the other
            have step : ∀ m, m ≤ len → ∃ (μ' : Mu) (h' : H) (l : List AV), μ.le μ' ∧ h.le h' ∧ Rep w.heap.size w μ' w h' ∧ l.length = m * P.cellsOf e ∧ (∀ (j : Nat) (u : AV), l[j]? = some u → ∃ v, w.cell? (a.add j) = some v ∧ Rel μ' u v) ∧
                ∀ i, i < m → Reads P h' e ((l.drop (i * P.cellsOf e)).take (P.cellsOf e)) := by
              intro m
              induction m with
              | zero => exact fun _ => ⟨μ, h, [], μ.le_refl, H.le_refl h, R, by simp, fun j u hu => by simp at hu, fun i hi => by omega⟩
              | succ m ihm =>
                intro hm
                obtain ⟨μ1, h1, l1, q1, q2, q3, q4, q5, q6⟩ := ihm (by omega)
                have hne := mapM_some_length he
                rw [List.length_range] at hne
                have h0 := mapM_some_get he m m (List.getElem?_range (by omega))
                rw [List.getElem?_eq_getElem (show m < elems.length by omega)] at h0
                simp only [Option.bind_eq_some_iff] at h0
                obtain ⟨cs', hcs, hy⟩ := h0
                obtain ⟨g1, g2⟩ := cells_get hcs
                obtain ⟨μ2, h2, l2, r1, r2, r3, r4, r5⟩ := ih d e cs' _ μ1 h1 hpe hy q3
                have hl2 : l2.length = P.cellsOf e := by rw [r4.1, g1]
                refine ⟨μ2, h2, l1 ++ l2, Mu.le_trans q1 r1, H.le_trans q2 r2, r3, by rw [List.length_append, q4, hl2, Nat.succ_mul], fun j u hu => ?_, fun i hi => ?_⟩
                · rcases Nat.lt_or_ge j l1.length with hj | hj
                  · rw [List.getElem?_append_left hj] at hu
                    obtain ⟨v, e1, e2⟩ := q5 j u hu
                    exact ⟨v, e1, e2.mono r1⟩
                  · rw [List.getElem?_append_right hj] at hu
                    have hj2 : j - l1.length < cs'.length := by
                      have := (List.getElem?_eq_some_iff.1 hu).1
                      omega
                    refine ⟨cs'[j - l1.length], ?_, r4.2 _ _ _ hu (List.getElem?_eq_getElem hj2)⟩
                    have := g2 _ _ (List.getElem?_eq_getElem hj2)
                    rw [add_add, ← q4] at this
                    rwa [show l1.length + (j - l1.length) = j from by omega] at this
                · rcases Nat.lt_or_ge i m with hi2 | hi2
                  · have := (q6 i hi2).mono r2
                    have hfit : i * P.cellsOf e + P.cellsOf e ≤ l1.length := by
                      rw [q4, ← Nat.succ_mul]
                      exact Nat.mul_le_mul_right _ hi2
                    rw [List.drop_append_of_le_length (by omega), List.take_append_of_le_length (by simp; omega)]
                    exact this
                  · have : i = m := by omega
                    subst this
                    rw [← q4, List.drop_left, ← hl2, List.take_length]
                    exact r5
            obtain ⟨μ1, h1, l, q1, q2, q3, q4, q5, q6⟩ := step len (Nat.le_refl _)
            obtain ⟨s1, s2⟩ := q3.note (z := P.cellsOf e) hblk q5
            have hw1 := q3.wf
            refine ⟨_, _, [.sl (some h1.next) 0 len none], Mu.le_trans q1 s1, H.le_trans q2 (H.le_new hw1 (H.le_refl h1) _), s2, (RelA.nil _).cons ?_, ?_⟩
            · exact Rel.sl (p := ⟨a, P.cellsOf e, none⟩) (by simp [Mu.put]) (.inr (by simp [Addr.add])) hc.2.1 (fun x hx => by cases hx) (fun T hT => by cases hT)
            · exact .sl ht (H.rows_new _ _) rfl (Nat.le_trans hc.2.1 hc.2.2) q4 (fun i hi => (q6 i hi).mono (H.le_new hw1 (H.le_refl h1) _))
        · cases hx
      case h_9 =>
        rename_i cs _ _ fs ht
        rw [ht] at hp
        simp only [Bool.and_eq_true, beq_iff_eq, List.all_eq_true] at hp
        obtain ⟨⟨hpf, hsum⟩, hoff⟩ := hp
        split at hx
        · rename_i hc
          simp only [Option.map_eq_some_iff] at hx
          obtain ⟨xs, hm, rfl⟩ := hx
          have off : ∀ j f, fs.toList[j]? = some f → f.offset = ((fs.toList.take j).map fun f => P.cellsOf f.type).sum := by
            intro j f hf
            have hj := (List.getElem?_eq_some_iff.1 hf).1
            have := hoff j (List.mem_range.2 hj)
            rw [hf] at this
            simpa using this
          have step : ∀ m, m ≤ fs.toList.length → ∃ (μ' : Mu) (h' : H) (l : List AV), μ.le μ' ∧ h.le h' ∧ Rep w.heap.size w μ' w h' ∧ l.length = ((fs.toList.take m).map fun f => P.cellsOf f.type).sum ∧ RelA μ' l (cs.take ((fs.toList.take m).map fun f => P.cellsOf f.type).sum) ∧
              ∀ j f, j < m → fs.toList[j]? = some f → Reads P h' f.type ((l.drop f.offset).take (P.cellsOf f.type)) := by
            intro m
            induction m with
            | zero => exact fun _ => ⟨μ, h, [], μ.le_refl, H.le_refl h, R, by simp, by simpa using RelA.nil μ, fun j f hj => by omega⟩
            | succ m ihm =>
              intro hm2
              obtain ⟨μ1, h1, l1, q1, q2, q3, q4, q5, q6⟩ := ihm (by omega)
              obtain ⟨f, hf⟩ : ∃ f, fs.toList[m]? = some f := ⟨_, List.getElem?_eq_getElem (by omega)⟩
              have h0 := mapM_some_get hm m f hf
              rw [List.getElem?_eq_getElem (show m < xs.length by rw [mapM_some_length hm]; omega)] at h0
              have ho := off m f hf
              obtain ⟨μ2, h2, l2, r1, r2, r3, r4, r5⟩ := ih d f.type _ _ μ1 h1 (hpf f (List.mem_of_getElem? hf)) h0 q3
              have htot : ((fs.toList.take (m + 1)).map fun f => P.cellsOf f.type).sum ≤ cs.length := by
                rw [hc, hsum]
                conv => rhs; rw [← List.take_append_drop (m + 1) fs.toList]
                rw [List.map_append, List.sum_append]
                omega
              rw [sum_take_succ _ _ _ _ hf] at htot ⊢
              have hl2 : l2.length = P.cellsOf f.type := by
                rw [r4.1, List.length_take, List.length_drop, ho]
                omega
              refine ⟨μ2, h2, l1 ++ l2, Mu.le_trans q1 r1, H.le_trans q2 r2, r3, by rw [List.length_append, q4, hl2], ?_, fun j g hj hg => ?_⟩
              · rw [List.take_add, ← ho]
                rw [← ho] at q5
                exact (q5.mono r1).append r4
              · rcases Nat.lt_or_ge j m with hj2 | hj2
                · have h3 := (q6 j g hj2 hg).mono r2
                  have hfit : g.offset + P.cellsOf g.type ≤ l1.length := by
                    rw [q4, off j g hg, ← sum_take_succ fs.toList (fun f => P.cellsOf f.type) j g hg]
                    have : fs.toList.take m = fs.toList.take (j + 1) ++ (fs.toList.take m).drop (j + 1) := by
                      conv => lhs; rw [← List.take_append_drop (j + 1) (fs.toList.take m)]
                      rw [List.take_take, Nat.min_eq_left (by omega)]
                    rw [this, List.map_append, List.sum_append]
                    omega
                  rw [List.drop_append_of_le_length (by omega), List.take_append_of_le_length (by simp; omega)]
                  exact h3
                · have : j = m := by omega
                  subst this
                  rw [hf] at hg
                  injection hg with hg
                  subst hg
                  rw [ho, ← q4, List.drop_left, ← hl2, List.take_length]
                  exact r5
          obtain ⟨μ1, h1, l, q1, q2, q3, q4, q5, q6⟩ := step fs.toList.length (Nat.le_refl _)
          rw [List.take_length, ← hsum] at q4 q5
          rw [List.take_of_length_le (by omega)] at q5
          refine ⟨μ1, h1, l, q1, q2, q3, q5, .struct ht q4 fun f hf => ?_⟩
          obtain ⟨j, hj, rfl⟩ := List.getElem_of_mem hf
          exact q6 j _ hj (List.getElem?_eq_getElem hj)
        · cases hx
      all_goals first
        | (simp only [‹P.underlying t = _›] at hp; cases hp; done)
        | (cases hx; done)
        | (split at hp <;> simp_all; done)
        | skip

/-- The arguments. -/
def ReadsAll (P : Program) (h : H) : List TypeId → List AV → Prop
  | [], [] => True
  | t :: ts, u :: us => ReadsV P h t u ∧ ReadsAll P h ts us
  | _, _ => False
theorem ReadsAll.mono {h h' : H} (hl : h.le h') : ∀ {ts : List TypeId} {us : List AV}, ReadsAll P h ts us → ReadsAll P h' ts us
  | [], [], _ => trivial
  | _ :: _, _ :: _, r => ⟨r.1.mono hl, r.2.mono hl⟩
  | [], _ :: _, r => r.elim
  | _ :: _, [], r => r.elim
theorem absorbV {base b d : Nat} {t : TypeId} {v : Value} {x : DataW H'} {ps : List MemPlace} {μ : Mu} {h : H} (hp : plainB P d t = true) (hx : DataW.Trod enc P w base (fun _ => true) true t v x ps) (hok : Value.okWide P w .any b t v)
    (R : Rep w.heap.size w μ w h) : ∃ μ' h' u, μ.le μ' ∧ h.le h' ∧ Rep w.heap.size w μ' w h' ∧ Rel μ' u v ∧ ReadsV P h' t u := by
  obtain ⟨n, hx⟩ := hx
  obtain ⟨μ', h', l, q1, q2, q3, q4, q5⟩ := absorb base n d t _ _ μ h hp hx R
  unfold ReadsV
  have one : v.cells.toList = [v] → ∃ u, Rel μ' u v ∧ l = [u] := by
    intro hv
    rw [hv] at q4
    cases l with
    | nil => simp [RelA] at q4
    | cons u l =>
      have hl : l = [] := by
        have := q4.1
        simp at this
        exact this
      subst hl
      exact ⟨u, q4.2 0 u v rfl rfl, rfl⟩
  cases d with
  | zero => simp [plainB] at hp
  | succ d =>
    unfold plainB at hp
    split at hp
    · rename_i ht
      have hv : ∃ y, v = .bool y := by
        simp only [Value.okWide, ht, Cell.okWide] at hok
        cases v <;> simp_all [Cell.ok]
      obtain ⟨y, rfl⟩ := hv
      obtain ⟨u, hu, rfl⟩ := one rfl
      exact ⟨μ', h', u, q1, q2, q3, hu, by simpa [ht] using q5⟩
    · rename_i k ht
      obtain ⟨y, rfl⟩ := okWide_int ht hok
      obtain ⟨u, hu, rfl⟩ := one rfl
      exact ⟨μ', h', u, q1, q2, q3, hu, by simpa [ht] using q5⟩
    · rename_i ht
      obtain ⟨y, rfl⟩ := okWide_string ht hok
      obtain ⟨u, hu, rfl⟩ := one rfl
      exact ⟨μ', h', u, q1, q2, q3, hu, by simpa [ht] using q5⟩
    · rename_i e ht
      obtain ⟨y, l', c', rfl⟩ := okWide_slice ht hok
      obtain ⟨u, hu, rfl⟩ := one rfl
      exact ⟨μ', h', u, q1, q2, q3, hu, by simpa [ht] using q5⟩
    · rename_i fs ht
      have hv : ∃ cs, v = .agg cs := by
        simp only [Value.okWide, ht] at hok
        obtain ⟨cs, rfl, _⟩ := hok
        exact ⟨cs, rfl⟩
      obtain ⟨cs, rfl⟩ := hv
      refine ⟨μ', h', .agg l, q1, q2, q3, ?_, by simpa [ht] using q5⟩
      simpa [Value.cells] using q4.agg
    · cases hp
theorem absorb_args {base b d : Nat} : ∀ {ts : List TypeId} {vs : List Value} {ds : List (DataW H')} {ps : List MemPlace} {μ : Mu} {h : H}, (∀ t ∈ ts, plainB P d t = true) → DataW.TrodAll enc P w base (fun _ => true) true ts vs ds ps →
    (∀ (j : Nat) (t : TypeId) (v : Value), ts[j]? = some t → vs[j]? = some v → Value.okWide P w .any b t v) → Rep w.heap.size w μ w h → ∃ μ' h' us, h.le h' ∧ Rep w.heap.size w μ' w h' ∧ μ.le μ' ∧ RelA μ' us vs ∧ ReadsAll P h' ts us
  | [], [], [], _, μ, h, _, _, _, R => ⟨μ, h, [], H.le_refl h, R, μ.le_refl, RelA.nil μ, trivial⟩
  | t :: ts, v :: vs, x :: ds, _, μ, h, hp, ⟨p, q, hx, hrest, _⟩, hok, R => by
    obtain ⟨μ1, h1, u, q1, q2, q3, q4, q5⟩ := absorbV (hp t (by simp)) hx (hok 0 t v rfl rfl) R
    obtain ⟨μ2, h2, us, r1, r2, r3, r4, r5⟩ := absorb_args (fun t ht => hp t (by simp [ht])) hrest (fun j t v ht hv => hok (j + 1) t v (by simpa using ht) (by simpa using hv)) q3
    exact ⟨μ2, h2, u :: us, H.le_trans q2 r1, r2, Mu.le_trans q1 r3, RelA.cons (q4.mono r3) r4, q5.mono r1, r5⟩
  | [], _ :: _, _, _, _, _, _, hx, _, _ => hx.elim
  | [], [], _ :: _, _, _, _, _, hx, _, _ => hx.elim
  | _ :: _, [], _, _, _, _, _, hx, _, _ => hx.elim
  | _ :: _, _ :: _, [], _, _, _, _, hx, _, _ => hx.elim
theorem trodAll_stays (hl : laidOutB P = true) {W W' : World} {sp' : Nat → Bool} : ∀ {ts : List TypeId} {vs : List Value} {ds : List (DataW H')} {ps : List MemPlace}, (∀ t ∈ ts, P.readableRec t = true ∧ t < P.types.size) →
    DataW.TrodAll enc P W 0 (fun _ => true) true ts vs ds ps → (∀ p ∈ ps, W.sameAt W' p) → (∀ p ∈ ps, sp' p.block = true) → DataW.TrodAll enc P W' 0 sp' true ts vs ds ps
  | [], [], [], _, _, hx, _, _ => hx
  | t :: ts, v :: vs, x :: ds, _, ht, ⟨p, q, hx, hrest, e⟩, h1, h2 => by
    subst e
    exact ⟨p, q, WideElems.Trod_stays hl (ht t (by simp)).1 (ht t (by simp)).2 hx (fun y hy => h1 y (by simp [hy])) (fun y hy => h2 y (by simp [hy])),
      trodAll_stays hl (fun t' ht' => ht t' (by simp [ht'])) hrest (fun y hy => h1 y (by simp [hy])) (fun y hy => h2 y (by simp [hy])), rfl⟩
  | [], _ :: _, _, _, _, hx, _, _ => hx.elim
  | [], [], _ :: _, _, _, hx, _, _ => hx.elim
  | _ :: _, [], _, _, _, hx, _, _ => hx.elim
  | _ :: _, _ :: _, [], _, _, hx, _, _ => hx.elim
theorem trodAll_length : ∀ {ts : List TypeId} {vs : List Value} {ds : List (DataW H')} {ps : List MemPlace} {W : World} {b : Nat} {sp : Nat → Bool} {hd : Bool}, DataW.TrodAll enc P W b sp hd ts vs ds ps → ds.length = ts.length
  | [], [], [], _, _, _, _, _, _ => rfl
  | _ :: _, _ :: _, _ :: _, _, _, _, _, _, ⟨_, _, _, h, _⟩ => by simp [trodAll_length h]
  | [], _ :: _, _, _, _, _, _, _, hx => hx.elim
  | [], [], _ :: _, _, _, _, _, _, hx => hx.elim
  | _ :: _, [], _, _, _, _, _, _, hx => hx.elim
  | _ :: _, _ :: _, [], _, _, _, _, _, hx => hx.elim
/-- A statement's row: the call answers true, and nothing that was there is turned. -/
theorem law_row {f : FuncId} {fn : Func} {s : ChangeSpec} {W : World} {b : Nat} {args : Array Value} {ds gs : List (DataW H')} {before : List MemPlace} {tb : TypeId} (hf : P.funcs[f]? = some fn) (hb : fn.body.isSome = true) (hname : (fn.name == "runtime.NumGoroutine") = false)
    (hg : GlobOK W.heap.size W) (hl : laidOutB P = true) (hts : (fn.params.toList.all fun t => P.readableRec t && decide (t < P.types.size) && plainB P 8 t) = true) (hv : s.vars = []) (hs : ∀ ds : List (DataW H'), ds.length = fn.params.size → s.fn H' ds = { results := [.lit (.bool true)], args := ds })
    (hr : fn.resultTypes = #[tb]) (ht : P.underlying tb = some .bool) (hwalk : ∀ h avs, h.wf → ReadsAll P h fn.params.toList avs → ACalls P f avs h (fun r _ => r = .bool true))
    (hval : ∀ (j : Nat) t v, fn.params[j]? = some t → args[j]? = some v → Value.okWide P W .any b t v) (hW : DataW.Whole enc P fn.params.toList s.vars false W args.toList ds gs before) :
    Calls P f args W fun e W' => ∃ v, e = .returned v ∧ s.post enc P fn false true false false W args v W' := by
  have hall : ∀ t ∈ fn.params.toList, (P.readableRec t = true ∧ t < P.types.size) ∧ plainB P 8 t = true := by
    intro t h
    have := List.all_eq_true.1 hts t h
    simpa only [Bool.and_eq_true, decide_eq_true_eq] using this
  have hW' := hW
  have hlt := hW.lt
  obtain ⟨p, q, hA, hV, rfl, hfz, hnd⟩ := hW
  rw [hv] at hV
  obtain ⟨rfl, rfl⟩ := trodVars_none hV
  have hd := trodAll_length hA
  obtain ⟨μ, h, us, _, R, _, hrel, hreads⟩ := absorb_args (fun t h => (hall t h).2) hA (fun j t v ht hv => hval j t v (by simpa using ht) (by simpa using hv)) (rep00 W hg)
  have hc := law_calls hf hb hname R hrel (hwalk h us R.wf hreads)
  rw [show args.toList.toArray = args from by simp] at hc
  refine hc.mono ?_
  rintro e W' ⟨rfl, hB⟩
  have hsp := hs ds (by simpa using hd)
  refine ⟨_, rfl, post_kept (pa := p) (pv := []) hW' (fun b sp hd => ?_) (fun sp hsp' => ?_) (fun sp _ => ?_) rfl hB ?_⟩
  · rw [List.append_nil, hsp, hr]
    exact trodAll_cons_mk (shut_bool ht _) trodAll_mk0
  · rw [List.append_nil, hsp]
    rw [List.append_nil] at hlt hsp'
    exact trodAll_stays hl (fun t h => (hall t h).1) hA (fun x hx => hB.same (hlt x hx)) (fun x hx => hsp' x hx)
  · rw [List.append_nil, hsp, hv]
    rfl
  · exact ok_one hr rfl (okWide_bool_mk ht _)
end
end Ab
end Go.Proofs.Ytnmnkocibjdhjaa
namespace Go.Proofs.Ytnmnkocibjdhjaa
namespace Ab
open Go Go.RowKit
set_option maxRecDepth 100000
section
variable {h : H} {u : AV}
theorem reads_int {t : TypeId} {k : IntKind} (ht : Try.prog.underlying t = some (.int k)) (r : ReadsV Try.prog h t u) : ∃ n : Int, u = .int k n ∧ (Lit.int k n).wf = true := by
  unfold ReadsV at r
  rw [ht] at r
  cases r with
  | int ht' hw => rw [ht] at ht'; injection ht' with e; injection e with e; subst e; exact ⟨_, rfl, hw⟩
  | bool ht' => rw [ht] at ht'; cases ht'
  | str ht' => rw [ht] at ht'; cases ht'
  | snil ht' => rw [ht] at ht'; cases ht'
  | sl ht' => rw [ht] at ht'; cases ht'
  | struct ht' => rw [ht] at ht'; cases ht'
theorem reads_u64 (r : ReadsV Try.prog h 23 u) : ∃ n : Nat, u = .int .u64 (n : Int) ∧ n < 18446744073709551616 := by
  obtain ⟨n, rfl, hw⟩ := reads_int Try.underlying23 r
  obtain ⟨m, rfl, hm⟩ := wf_u64 hw
  exact ⟨m, rfl, hm⟩
theorem reads_i64 (r : ReadsV Try.prog h 3 u) : ∃ n : Int, u = .int .i64 n ∧ -9223372036854775808 ≤ n ∧ n < 9223372036854775808 := by
  obtain ⟨n, rfl, hw⟩ := reads_int Try.underlying3 r
  exact ⟨n, rfl, wf_i64 hw⟩
theorem reads_bool (r : ReadsV Try.prog h 4 u) : ∃ b : Bool, u = .bool b := by
  have ht := Try.underlying4
  unfold ReadsV at r
  rw [ht] at r
  cases r with
  | int ht' hw => rw [ht] at ht'; cases ht'
  | bool ht' => exact ⟨_, rfl⟩
  | str ht' => rw [ht] at ht'; cases ht'
  | snil ht' => rw [ht] at ht'; cases ht'
  | sl ht' => rw [ht] at ht'; cases ht'
  | struct ht' => rw [ht] at ht'; cases ht'
theorem cell_int {t : TypeId} {k : IntKind} (ht : Try.prog.underlying t = some (.int k)) {l : List AV} (r : Reads Try.prog h t l) : ∃ n : Int, l = [.int k n] ∧ (Lit.int k n).wf = true := by
  cases r with
  | int ht' hw => rw [ht] at ht'; injection ht' with e; injection e with e; subst e; exact ⟨_, rfl, hw⟩
  | bool ht' => rw [ht] at ht'; cases ht'
  | str ht' => rw [ht] at ht'; cases ht'
  | snil ht' => rw [ht] at ht'; cases ht'
  | sl ht' => rw [ht] at ht'; cases ht'
  | struct ht' => rw [ht] at ht'; cases ht'
/-- A slice of whole numbers. -/
theorem cell_ints {t e : TypeId} {k : IntKind} (ht : Try.prog.underlying t = some (.slice e)) (he : Try.prog.underlying e = some (.int k)) (hz : Try.prog.cellsOf e = 1) {l : List AV} (r : Reads Try.prog h t l) : ∃ v xs, l = [v] ∧ IsW k h v xs ∧ (∀ x ∈ xs, (Lit.int k x).wf = true) ∧ xs.length ≤ maxLen := by
  cases r with
  | int ht' hw => rw [ht] at ht'; cases ht'
  | bool ht' => rw [ht] at ht'; cases ht'
  | str ht' => rw [ht] at ht'; cases ht'
  | snil ht' => exact ⟨_, [], rfl, ⟨none, 0, none, rfl, .inl ⟨rfl, rfl, rfl⟩⟩, fun x hx => (by cases hx), by simp⟩
  | struct ht' => rw [ht] at ht'; cases ht'
  | @sl _ e' id len r ht' hr ho hlen hl hall =>
    rw [ht] at ht'
    injection ht' with e1
    injection e1 with e1
    subst e1
    rw [hz, Nat.mul_one] at hl
    have hall' : ∀ i, (hi : i < len) → ∃ n : Int, r.cells[i]? = some (.int k n) ∧ (Lit.int k n).wf = true := by
      intro i hi
      obtain ⟨n, e2, hw⟩ := cell_int he (hall i hi)
      refine ⟨n, ?_, hw⟩
      rw [hz, Nat.mul_one] at e2
      have := congrArg (fun l => l[0]?) e2
      simpa [List.getElem?_take, List.getElem?_drop] using this
    let xs : List Int := r.cells.map fun v => match v with | .int _ n => n | _ => 0
    have hx : ∀ i : Nat, i < len → ∃ n, r.cells[i]? = some (.int k n) ∧ xs[i]? = some n ∧ (Lit.int k n).wf = true := by
      intro i hi
      obtain ⟨n, h1, h2⟩ := hall' i hi
      exact ⟨n, h1, by simp [xs, h1], h2⟩
    have hxl : xs.length = len := by simp [xs, hl]
    refine ⟨_, xs, rfl, ⟨some id, 0, none, by rw [hxl], .inr ⟨id, r, rfl, hr, .inl ho, by omega, ?_⟩⟩, fun x hm => ?_, by rw [hxl]; exact hlen⟩
    · rw [List.drop_zero, List.take_of_length_le (by omega)]
      apply List.ext_getElem?
      intro i
      rw [W_get]
      rcases Nat.lt_or_ge i len with hi | hi
      · obtain ⟨n, h1, h2, _⟩ := hx i hi
        rw [h1, h2]; rfl
      · rw [List.getElem?_eq_none (by omega), List.getElem?_eq_none (by omega)]; rfl
    · obtain ⟨i, hi, rfl⟩ := List.getElem_of_mem hm
      obtain ⟨n, _, h2, h3⟩ := hx i (by omega)
      rw [List.getElem?_eq_getElem hi] at h2
      injection h2 with h2
      rw [h2]
      exact h3
theorem readsV_slice {t e : TypeId} (ht : Try.prog.underlying t = some (.slice e)) (r : ReadsV Try.prog h t u) : Reads Try.prog h t [u] := by
  unfold ReadsV at r
  rw [ht] at r
  exact r
theorem nats {xs : List Int} (hx : ∀ x ∈ xs, (Lit.int .u64 x).wf = true) : ∃ ys : List Nat, xs = ys.map (fun n : Nat => (n : Int)) ∧ ∀ y ∈ ys, y < 18446744073709551616 := by
  induction xs with
  | nil => exact ⟨[], rfl, by simp⟩
  | cons x xs ih =>
    obtain ⟨ys, e, hy⟩ := ih (fun z hz => hx z (by simp [hz]))
    obtain ⟨m, rfl, hm⟩ := wf_u64 (hx x (by simp))
    refine ⟨m :: ys, by simp [e], fun y hy2 => ?_⟩
    rcases List.mem_cons.1 hy2 with rfl | h2
    · exact hm
    · exact hy y h2
theorem cell_words {t : TypeId} (ht : Try.prog.underlying t = some (.slice 23)) {l : List AV} (r : Reads Try.prog h t l) : ∃ v xs, l = [v] ∧ IsN h v xs ∧ (∀ x ∈ xs, x < 18446744073709551616) ∧ xs.length ≤ maxLen := by
  obtain ⟨v, xs, rfl, h1, h2, h3⟩ := cell_ints ht Try.underlying23 (by kernel_rfl) r
  obtain ⟨ys, rfl, hy⟩ := nats h2
  exact ⟨v, ys, rfl, h1, hy, by simpa using h3⟩
theorem reads_words (r : ReadsV Try.prog h 28 u) : ∃ xs, IsN h u xs ∧ (∀ x ∈ xs, x < 18446744073709551616) ∧ xs.length ≤ maxLen := by
  obtain ⟨v, xs, e, h1, h2, h3⟩ := cell_words (by kernel_rfl) (readsV_slice (e := 23) (by kernel_rfl) r)
  injection e with e
  subst e
  exact ⟨xs, h1, h2, h3⟩
end
end Ab
end Go.Proofs.Ytnmnkocibjdhjaa
namespace Go.Proofs.Ytnmnkocibjdhjaa
namespace Ab
open Go Go.RowKit
set_option linter.unusedSimpArgs false
set_option linter.unusedVariables false
attribute [local go_sem ↓] x_mv x_pick x_bin x_beq x_peq x_seq x_cat x_aeq x_idxS x_un x_cvI x_idx x_idxA x_fld x_ld x_st x_nn x_prt x_slc x_mk x_bsl x_bld x_box x_alloc x_len x_capo x_mnx x_app x_cpy x_mkf x_ext x_call x_callV x_bad s_none s_some s_nil s_cons s_chks w_skip w_reg tP_fin tP_no tP_alt w_seq w_cond w_block w_exit w_ret t_normal t_exit t_ret b_normal b_ret b_exit n_normal n_exit n_ret p_normal p_ret f_nil f_t f_c k_ops k_chk k_fin
attribute [local go_sem] e_t e_c e_f u_some u_none u_at env_at k_v k_pick k_add k_sub k_mul k_quo k_rem k_and k_or k_xor k_shl k_shr k_eql k_neq k_lss k_leq k_gtr k_geq k_beq k_peqn k_peqs k_neg k_not k_com k_cvI k_idxS k_idx k_idxA k_idxG k_ldG k_gld k_seq k_cat k_aeq k_eqs k_fld k_ld1 k_ldn k_get k_gets k_sti k_stb k_stp k_sts k_stf k_sta k_put k_nn k_prt1 k_prtn k_slc_a k_slc_b k_slc_c k_mk k_agg k_bsl k_box k_len k_lenS k_cap k_max k_min k_ext k_callV k_true k_false k_gtt k_gtf k_gft k_gsk k_gff k_lit1i k_lit2i k_lit3i k_c0 k_c1 k_ck List.getElem?_cons_zero List.getElem?_cons_succ List.getElem?_nil Option.getD_some Option.getD_none tupOf List.map_cons List.map_nil Option.map_some Option.map_none List.nil_append List.cons_append List.append_nil Nat.mul_one Int.toNat_natCast Nat.zero_add
/-- A tune that nothing was spent of. -/
def tuneCells (t : Tb) : List AV := [.int .i64 0, .int .i64 0, .int .i64 0] ++ t.cells
theorem New_calls {t : Tb} {h : H} {K : AV → H → Prop} (hk : ∀ id h', h'.wf → h.le h' → h.next ≤ id → h'.rows id = some ⟨some 82, 14, tuneCells (clampT t)⟩ → K (.ptr (some (id, 0))) h') : ACalls Try.prog 125 [t.av] h K := by
  refine in_table_New (by simp) fun hw => ?_
  unfold c_table_New
  have hl1 := H.le_new hw (H.le_refl h) ⟨some 50, 11, t.cells⟩
  simp only [go_sem, ↓reduceIte, Nat.reduceEqDiff, Nat.reduceAdd, Bool.false_eq_true, Int.reduceToNat, av_held, av_cells, cells_len, true_and, gsT (H.rows_new h _)]
  refine Clamp_calls fun h1 hw1 hl2 => ?_
  simp only [go_sem, ↓reduceIte, Nat.reduceEqDiff, Nat.reduceAdd, Bool.false_eq_true, Int.reduceToNat]
  simp only [bld14, go_sem, ↓reduceIte, Nat.reduceEqDiff, Nat.reduceAdd, Bool.false_eq_true, Int.reduceToNat]
  exact ⟨rfl, fun hw' => hk _ _ hw' (H.le_new hw1 (H.le_trans hl1 hl2) _) (Nat.le_trans (Nat.le_succ _) hl2.1) (H.rows_new _ _)⟩
theorem routeT_comm {t : Tb} {n m : Int} : routeT t n m = routeT t m n := by
  unfold routeT
  rw [Int.max_comm, Int.min_comm]
  congr 1
  simp only [eq_iff_iff]
  omega
theorem routeT_clamp {t : Tb} {n m : Int} : routeT (clampT t) n m = routeT t n m := by unfold routeT; rw [clamp_clamp]
theorem costT_clamp {t : Tb} {n m : Nat} : costT (clampT t) n m = costT t n m := by unfold costT; rw [clamp_clamp]
theorem sqT_clamp {t : Tb} {n : Nat} : sqT (clampT t) n = sqT t n := by unfold sqT; rw [clamp_clamp]
theorem costT_comm {t : Tb} {n m : Nat} : costT t n m = costT t m n := by unfold costT; rw [Nat.max_comm, Nat.min_comm]
theorem costT_le {t : Tb} {n m : Nat} (hn : n ≤ 16384) (hm : m ≤ 16384) : costT t n m ≤ 8 * (n * m) := by
  have := cost_bound (clamp_isT t).ok 20000 (max n m) (min n m) (by omega) (by omega) (by omega)
  have e : max n m * min n m = n * m := by
    rcases Nat.le_total n m with h | h
    · rw [Nat.max_eq_right h, Nat.min_eq_left h, Nat.mul_comm]
    · rw [Nat.max_eq_left h, Nat.min_eq_right h]
  rw [e] at this
  exact this
theorem sqT_le {t : Tb} {n : Nat} (hn : n ≤ 16384) : sqT t n ≤ 8 * (n * n) := by
  have h1 := sq_bound (clamp_isT t).ok 20000 n (by omega)
  have h2 := cost_bound (clamp_isT t).ok 20000 n n (Nat.le_refl n) (by omega) hn
  exact Nat.le_trans h1 h2
theorem costT_zero {t : Tb} {n m : Nat} (hn : n ≤ 16384) (hm : m ≤ 16384) : costT t n m = 0 ↔ (n = 0 ∨ m = 0) := by
  constructor
  · intro h
    rcases Nat.eq_zero_or_pos (min n m) with h0 | h0
    · omega
    · have := cost_pos (clamp_isT t).ok 20000 (max n m) (min n m) (by omega) (by omega) h0
      unfold costT at h
      omega
  · intro h
    have := costT_le (t := t) hn hm
    have e : n * m = 0 := by rcases h with h | h <;> simp [h]
    omega
theorem gsK {h h' : H} {t : Tb} (hw : h.wf) (hl : (h.new ⟨some 50, 11, t.cells⟩).le h') : h'.gets h.next 0 11 = some t.cells := gsT (hl.2 _ _ (H.rows_new h _))
theorem beq_self_int {a : Int} : (a == a) = true := by simp
end Ab
end Go.Proofs.Ytnmnkocibjdhjaa
