/- What the statement WordInverses computes. No condition. -/
import Derived.Test.YteoagnggnekfiaaG5
namespace Go.Proofs.Yteoagnggnekfiaa
namespace Ab
open Go Go.RowKit
set_option linter.unusedSimpArgs false
set_option linter.unusedVariables false
attribute [local go_sem ↓] x_mv x_pick x_bin x_beq x_peq x_idxS x_un x_cvI x_idx x_idxA x_fld x_ld x_st x_nn x_prt x_slc x_mk x_bsl x_bld x_box x_alloc x_len x_capo x_mnx x_app x_cpy x_mkf x_ext x_call x_callV x_bad s_none s_some s_nil s_cons s_chks w_skip w_reg w_seq w_cond w_block w_exit w_ret t_normal t_exit t_ret b_normal b_ret b_exit n_normal n_exit n_ret p_normal p_ret f_nil f_t f_c k_ops k_chk k_fin
attribute [local go_sem] e_t e_c e_f u_some u_none u_at env_at k_v k_pick k_add k_sub k_mul k_quo k_rem k_and k_or k_xor k_shl k_shr k_eql k_neq k_lss k_leq k_gtr k_geq k_beq k_peqn k_peqs k_neg k_not k_com k_cvI k_idxS k_idx k_idxA k_fld k_ld1 k_ldn k_get k_gets k_sti k_stb k_stp k_sts k_stf k_sta k_put k_nn k_prt1 k_prtn k_slc_a k_slc_b k_slc_c k_mk k_agg k_bsl k_box k_len k_lenS k_cap k_max k_min k_ext k_callV k_true k_false k_gtt k_gtf k_gft k_gsk k_gff k_lit1i k_lit2i k_lit3i k_c0 k_c1 k_ck List.getElem?_cons_zero List.getElem?_cons_succ List.getElem?_nil Option.getD_some Option.getD_none tupOf List.map_cons List.map_nil Option.map_some Option.map_none List.nil_append List.cons_append List.append_nil Nat.mul_one Int.toNat_natCast Nat.zero_add
theorem inv_eq {d : Nat} (hd : d < 18446744073709551616) (h2 : 9223372036854775808 ≤ d) : (18446744073709551615 * 18446744073709551616 + 18446744073709551615) / d = 1 * 18446744073709551616 + ((18446744073709551615 - d) * 18446744073709551616 + 18446744073709551615) / d := by
  have e : 18446744073709551615 * 18446744073709551616 + 18446744073709551615 = d * (1 * 18446744073709551616) + ((18446744073709551615 - d) * 18446744073709551616 + 18446744073709551615) := by omega
  rw [e, Nat.mul_add_div (by omega)]
theorem WordInverses_law {hi lo d : Nat} {h : H} {K : AV → H → Prop} (hh : hi < 18446744073709551616) (hl : lo < 18446744073709551616) (hd : d < 18446744073709551616) (hk : ∀ h', h'.wf → h.le h' → K (.bool true) h') : ACalls Try.prog 13 [.int .u64 (hi : Int), .int .u64 (lo : Int), .int .u64 (d : Int)] h K := by
  refine in_law01_WordInverses (by simp) fun hw => ?_
  unfold c_law01_WordInverses
  simp only [go_sem, ↓reduceIte, Nat.reduceEqDiff, Nat.reduceAdd, Bool.false_eq_true, Int.reduceToNat]
  have d0 : ((0 : Int) == 0) = true := by decide
  refine Inverse_calls hd (fun hc => ?_) (fun hc => ?_)
  · have d1 : decide ((d : Int) < 9223372036854775808) = true := by simp; omega
    simp only [go_sem, ↓reduceIte, Nat.reduceEqDiff, Nat.reduceAdd, Bool.false_eq_true, Int.reduceToNat, d1]
    refine DivBy_calls (v := 0) hh hl hd (fun _ => ?_) (fun hn => absurd (.inr hc) hn) (fun _ h2 => absurd h2 (by omega))
    · simp only [go_sem, ↓reduceIte, Nat.reduceEqDiff, Nat.reduceAdd, Bool.false_eq_true, Int.reduceToNat, d0, Bool.not_false]
      refine wakes01_calls fun _ => ?_
      simp only [go_sem, ↓reduceIte, Nat.reduceEqDiff, Nat.reduceAdd, Bool.false_eq_true, Int.reduceToNat]
      exact fun hw' => hk h hw' (H.le_refl h)
  · have d1 : decide ((d : Int) < 9223372036854775808) = false := by simp; omega
    have hI := inv_of hd hc
    have hv := hI.1
    have hE := inv_eq hd hc
    obtain ⟨v, hv0⟩ : ∃ v, v = ((18446744073709551615 - d) * 18446744073709551616 + 18446744073709551615) / d := ⟨_, rfl⟩
    rw [← hv0] at hI hv hE
    rw [← hv0]
    clear hv0
    simp only [go_sem, ↓reduceIte, Nat.reduceEqDiff, Nat.reduceAdd, Bool.false_eq_true, Int.reduceToNat, d1]
    refine two_calls (hi := 18446744073709551615) (lo := 18446744073709551615) (by decide) (by decide) fun r1 h1 hw1 hl1 n1 => ?_
    simp only [go_sem, ↓reduceIte, Nat.reduceEqDiff, Nat.reduceAdd, Bool.false_eq_true, Int.reduceToNat]
    refine Small_calls hd fun r2 h2 hw2 hl2 n2 => ?_
    simp only [go_sem, ↓reduceIte, Nat.reduceEqDiff, Nat.reduceAdd, Bool.false_eq_true, Int.reduceToNat]
    refine DivMod_calls (n1.mono hl2) n2 (Big.w2 (by omega)) (Big.w1 hd) (by omega) fun q r h3 hw3 hl3 nq nr => ?_
    rw [hE] at nq
    simp only [go_sem, ↓reduceIte, Nat.reduceEqDiff, Nat.reduceAdd, Bool.false_eq_true, Int.reduceToNat, Bool.not_true]
    refine two_calls (hi := 1) (by decide) hv fun r4 h4 hw4 hl4 n4 => ?_
    simp only [go_sem, ↓reduceIte, Nat.reduceEqDiff, Nat.reduceAdd, Bool.false_eq_true, Int.reduceToNat]
    refine Cmp_calls (nq.mono hl4) n4 (Big.w2 (by omega)) (Big.w2 (by omega)) ?_
    simp only [go_sem, ↓reduceIte, Nat.reduceEqDiff, Nat.reduceAdd, Bool.false_eq_true, Int.reduceToNat, cmpI_ne]
    have hle := H.le_trans hl1 (H.le_trans hl2 (H.le_trans hl3 hl4))
    refine DivBy_calls hh hl hd (fun hc2 => ?_) (fun _ => hI) (fun hc2 _ => ?_)
    · have d2 : decide ((d : Int) ≤ (hi : Int)) = true := by simp; omega
      simp only [go_sem, ↓reduceIte, Nat.reduceEqDiff, Nat.reduceAdd, Bool.false_eq_true, Int.reduceToNat, d0, d2, Bool.not_false]
      refine wakes01_calls fun _ => ?_
      simp only [go_sem, ↓reduceIte, Nat.reduceEqDiff, Nat.reduceAdd, Bool.false_eq_true, Int.reduceToNat]
      exact fun hw' => hk h4 hw' hle
    · have d2 : decide ((d : Int) ≤ (hi : Int)) = false := by simp; omega
      simp only [go_sem, ↓reduceIte, Nat.reduceEqDiff, Nat.reduceAdd, Bool.false_eq_true, Int.reduceToNat, d2]
      refine divided_calls hc2 hl hd fun h5 hw5 hl5 => ?_
      simp only [go_sem, ↓reduceIte, Nat.reduceEqDiff, Nat.reduceAdd, Bool.false_eq_true, Int.reduceToNat]
      refine wakes01_calls fun _ => ?_
      simp only [go_sem, ↓reduceIte, Nat.reduceEqDiff, Nat.reduceAdd, Bool.false_eq_true, Int.reduceToNat]
      exact fun hw' => hk h5 hw' (H.le_trans hle hl5)
end Ab
end Go.Proofs.Yteoagnggnekfiaa
