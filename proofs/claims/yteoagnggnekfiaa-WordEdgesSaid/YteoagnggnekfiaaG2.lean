/- What the statements of chapter 1 compute. No condition. -/
import Derived.Test.YteoagnggnekfiaaG1
namespace Go.Proofs.Yteoagnggnekfiaa
namespace Ab
open Go Go.RowKit
set_option linter.unusedSimpArgs false
set_option linter.unusedVariables false
attribute [local go_sem ↓] x_mv x_pick x_bin x_beq x_peq x_idxS x_un x_cvI x_idx x_idxA x_fld x_ld x_st x_nn x_prt x_slc x_mk x_bsl x_bld x_box x_alloc x_len x_capo x_mnx x_app x_cpy x_mkf x_ext x_call x_callV x_bad s_none s_some s_nil s_cons s_chks w_skip w_reg w_seq w_cond w_block w_exit w_ret t_normal t_exit t_ret b_normal b_ret b_exit n_normal n_exit n_ret p_normal p_ret f_nil f_t f_c k_ops k_chk k_fin
attribute [local go_sem] e_t e_c e_f u_some u_none u_at env_at k_v k_pick k_add k_sub k_mul k_quo k_rem k_and k_or k_xor k_shl k_shr k_eql k_neq k_lss k_leq k_gtr k_geq k_beq k_peqn k_peqs k_neg k_not k_com k_cvI k_idxS k_idx k_idxA k_fld k_ld1 k_ldn k_get k_gets k_sti k_stb k_stp k_sts k_stf k_sta k_put k_nn k_prt1 k_prtn k_slc_a k_slc_b k_slc_c k_mk k_agg k_bsl k_box k_len k_lenS k_cap k_max k_min k_ext k_callV k_true k_false k_gtt k_gtf k_gft k_gsk k_gff k_lit1i k_lit2i k_lit3i k_c0 k_c1 k_ck List.getElem?_cons_zero List.getElem?_cons_succ List.getElem?_nil Option.getD_some Option.getD_none tupOf List.map_cons List.map_nil Option.map_some Option.map_none List.nil_append List.cons_append List.append_nil Nat.mul_one Int.toNat_natCast Nat.zero_add
theorem cmpI_eq {x : Nat} : (cmpI x x == 0) = true := by simp [cmpI]
theorem cmpI_ne {x : Nat} : (cmpI x x != 0) = false := by simp [cmpI]
theorem Big.words {x k : Nat} (h : x < 18446744073709551616 ^ k) (hk : k ≤ 500000) : Big x := lt_big64 h hk
theorem Big.w1 {x : Nat} (h : x < 18446744073709551616) : Big x := lt_big64 (k := 1) (by omega) (by omega)
theorem Big.w2 {x : Nat} (h : x < 340282366920938463463374607431768211456) : Big x := lt_big64 (k := 2) (by omega) (by omega)
theorem Big.w3 {x : Nat} (h : x < 6277101735386680763835789423207666416102355444464034512896) : Big x := lt_big64 (k := 3) (by omega) (by omega)
theorem WordMuls_law {a b : Nat} {h : H} {K : AV → H → Prop} (ha : a < 18446744073709551616) (hb : b < 18446744073709551616) (hk : ∀ h', h'.wf → h.le h' → K (.bool true) h') : ACalls Try.prog 4 [.int .u64 (a : Int), .int .u64 (b : Int)] h K := by
  refine in_law01_WordMuls (by simp) fun hw => ?_
  unfold c_law01_WordMuls
  simp only [go_sem, ↓reduceIte, Nat.reduceEqDiff, Nat.reduceAdd, Bool.false_eq_true, Int.reduceToNat]
  refine wMul_calls ha hb ?_
  simp only [go_sem, ↓reduceIte, Nat.reduceEqDiff, Nat.reduceAdd, Bool.false_eq_true, Int.reduceToNat]
  have hab : a * b < 340282366920938463463374607431768211456 := Nat.lt_of_lt_of_le (Nat.mul_lt_mul'' ha hb) (by omega)
  refine two_calls (by omega) (by omega) fun r1 h1 hw1 hl1 n1 => ?_
  simp only [go_sem, ↓reduceIte, Nat.reduceEqDiff, Nat.reduceAdd, Bool.false_eq_true, Int.reduceToNat]
  refine Small_calls ha fun r2 h2 hw2 hl2 n2 => ?_
  simp only [go_sem, ↓reduceIte, Nat.reduceEqDiff, Nat.reduceAdd, Bool.false_eq_true, Int.reduceToNat]
  refine Small_calls hb fun r3 h3 hw3 hl3 n3 => ?_
  simp only [go_sem, ↓reduceIte, Nat.reduceEqDiff, Nat.reduceAdd, Bool.false_eq_true, Int.reduceToNat]
  refine Mul_calls (n2.mono hl3) n3 (Big.w1 ha) (Big.w1 hb) fun r4 h4 hw4 hl4 n4 => ?_
  simp only [go_sem, ↓reduceIte, Nat.reduceEqDiff, Nat.reduceAdd, Bool.false_eq_true, Int.reduceToNat]
  have e : a * b / 18446744073709551616 * 18446744073709551616 + a * b % 18446744073709551616 = a * b := by omega
  rw [e] at n1
  refine Cmp_calls (n1.mono (H.le_trans hl2 (H.le_trans hl3 hl4))) n4 (Big.w2 hab) (Big.w2 hab) ?_
  simp only [go_sem, ↓reduceIte, Nat.reduceEqDiff, Nat.reduceAdd, Bool.false_eq_true, Int.reduceToNat, cmpI_eq]
  refine wakes01_calls fun _ => ?_
  simp only [go_sem, ↓reduceIte, Nat.reduceEqDiff, Nat.reduceAdd, Bool.false_eq_true, Int.reduceToNat]
  intro hw'
  exact hk h4 hw' (H.le_trans hl1 (H.le_trans hl2 (H.le_trans hl3 hl4)))
end Ab
end Go.Proofs.Yteoagnggnekfiaa
