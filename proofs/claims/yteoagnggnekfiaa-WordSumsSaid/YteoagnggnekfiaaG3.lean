/- What the statement WordAdds computes. No condition. -/
import Derived.Test.YteoagnggnekfiaaG2
namespace Go.Proofs.Yteoagnggnekfiaa
namespace Ab
open Go Go.RowKit
set_option linter.unusedSimpArgs false
set_option linter.unusedVariables false
attribute [local go_sem ↓] x_mv x_pick x_bin x_beq x_peq x_idxS x_un x_cvI x_idx x_idxA x_fld x_ld x_st x_nn x_prt x_slc x_mk x_bsl x_bld x_box x_alloc x_len x_capo x_mnx x_app x_cpy x_mkf x_ext x_call x_callV x_bad s_none s_some s_nil s_cons s_chks w_skip w_reg w_seq w_cond w_block w_exit w_ret t_normal t_exit t_ret b_normal b_ret b_exit n_normal n_exit n_ret p_normal p_ret f_nil f_t f_c k_ops k_chk k_fin
attribute [local go_sem] e_t e_c e_f u_some u_none u_at env_at k_v k_pick k_add k_sub k_mul k_quo k_rem k_and k_or k_xor k_shl k_shr k_eql k_neq k_lss k_leq k_gtr k_geq k_beq k_peqn k_peqs k_neg k_not k_com k_cvI k_idxS k_idx k_idxA k_fld k_ld1 k_ldn k_get k_gets k_sti k_stb k_stp k_sts k_stf k_sta k_put k_nn k_prt1 k_prtn k_slc_a k_slc_b k_slc_c k_mk k_agg k_bsl k_box k_len k_lenS k_cap k_max k_min k_ext k_callV k_true k_false k_gtt k_gtf k_gft k_gsk k_gff k_lit1i k_lit2i k_lit3i k_c0 k_c1 k_ck List.getElem?_cons_zero List.getElem?_cons_succ List.getElem?_nil Option.getD_some Option.getD_none tupOf List.map_cons List.map_nil Option.map_some Option.map_none List.nil_append List.cons_append List.append_nil Nat.mul_one Int.toNat_natCast Nat.zero_add
theorem WordAdds_law {a b c : Nat} {h : H} {K : AV → H → Prop} (ha : a < 18446744073709551616) (hb : b < 18446744073709551616) (hk : ∀ h', h'.wf → h.le h' → K (.bool true) h') : ACalls Try.prog 12 [.int .u64 (a : Int), .int .u64 (b : Int), .int .u64 (c : Int)] h K := by
  refine in_law01_WordAdds (by simp) fun hw => ?_
  unfold c_law01_WordAdds
  simp only [go_sem, ↓reduceIte, Nat.reduceEqDiff, Nat.reduceAdd, Bool.false_eq_true, Int.reduceToNat]
  refine Small_calls (x := 0) (by decide) fun r1 h1 hw1 hl1 n1 => ?_
  simp only [go_sem, ↓reduceIte, Nat.reduceEqDiff, Nat.reduceAdd, Bool.false_eq_true, Int.reduceToNat]
  refine cond_cut (fun ρ' h' => h'.wf ∧ h.le h' ∧ ρ' 0 = .int .u64 (a : Int) ∧ ρ' 1 = .int .u64 (b : Int) ∧ ρ' 2 = .int .u64 (c : Int) ∧ Num 4294967296 h' (ρ' 7) (if c = 0 then 0 else 1)) ?_ ?_
  · refine cond_split (fun hc => ?_) (fun hc => ?_)
    · simp only [go_sem, ↓reduceIte, Nat.reduceEqDiff, Nat.reduceAdd, Bool.false_eq_true, Int.reduceToNat]
      refine Small_calls (x := 1) (by decide) fun r2 h2 hw2 hl2 n2 => ?_
      simp only [go_sem, ↓reduceIte, Nat.reduceEqDiff, Nat.reduceAdd, Bool.false_eq_true, Int.reduceToNat]
      have e : ¬ c = 0 := by rintro rfl; simp at hc
      rw [if_neg e]
      exact ⟨hw2, H.le_trans hl1 hl2, by first | rfl | trivial | assumption, by first | rfl | trivial | assumption, by first | rfl | trivial | assumption, n2⟩
    · simp only [go_sem, ↓reduceIte, Nat.reduceEqDiff, Nat.reduceAdd, Bool.false_eq_true, Int.reduceToNat]
      have e : c = 0 := by simp at hc; omega
      rw [if_pos e]
      exact ⟨hw1, hl1, by first | rfl | trivial | assumption, by first | rfl | trivial | assumption, by first | rfl | trivial | assumption, n1⟩
  generalize hk0 : (if c = 0 then 0 else 1) = k
  have hk1 : k ≤ 1 := by rw [← hk0]; split <;> omega
  rintro ρ h0 ⟨hw0, hl0, g0, g1, g2, n7⟩
  clear n1 hl1 hw1
  simp only [go_sem, ↓reduceIte, Nat.reduceEqDiff, Nat.reduceAdd, Bool.false_eq_true, Int.reduceToNat, g0, g1, g2]
  refine Small_calls ha fun r1 h1 hw1 hl1 n1 => ?_
  simp only [go_sem, ↓reduceIte, Nat.reduceEqDiff, Nat.reduceAdd, Bool.false_eq_true, Int.reduceToNat, g0, g1, g2]
  refine Small_calls hb fun r2 h2 hw2 hl2 n2 => ?_
  simp only [go_sem, ↓reduceIte, Nat.reduceEqDiff, Nat.reduceAdd, Bool.false_eq_true, Int.reduceToNat, g0, g1, g2]
  refine Add_calls n2 ((n7.mono hl1).mono hl2) (Big.w1 hb) (Big.w1 (by omega)) fun r3 h3 hw3 hl3 n3 => ?_
  simp only [go_sem, ↓reduceIte, Nat.reduceEqDiff, Nat.reduceAdd, Bool.false_eq_true, Int.reduceToNat, g0, g1, g2]
  refine wAdd_calls ha hb fun k' hk' => ?_
  rw [hk0] at hk'
  replace hk' := hk'.symm
  subst hk'
  simp only [go_sem, ↓reduceIte, Nat.reduceEqDiff, Nat.reduceAdd, Bool.false_eq_true, Int.reduceToNat, g0, g1, g2]
  refine two_calls (by omega) (by omega) fun r4 h4 hw4 hl4 n4 => ?_
  simp only [go_sem, ↓reduceIte, Nat.reduceEqDiff, Nat.reduceAdd, Bool.false_eq_true, Int.reduceToNat, g0, g1, g2]
  have n1 := (((n1.mono hl2).mono hl3).mono hl4)
  have n3 := n3.mono hl4
  refine Add_calls n1 n3 (Big.w1 ha) (Big.w2 (by omega)) fun r5 h5 hw5 hl5 n5 => ?_
  simp only [go_sem, ↓reduceIte, Nat.reduceEqDiff, Nat.reduceAdd, Bool.false_eq_true, Int.reduceToNat, g0, g1, g2]
  have n1 := n1.mono hl5
  have n3 := n3.mono hl5
  have n4 := n4.mono hl5
  rw [show (a + b + k) / 18446744073709551616 * 18446744073709551616 + (a + b + k) % 18446744073709551616 = a + (b + k) from by omega] at n4
  refine Cmp_calls n4 n5 (Big.w2 (by omega)) (Big.w2 (by omega)) ?_
  have d1 : decide ((1 : Int) < (((a + b + k) / 18446744073709551616 : Nat) : Int)) = false := by simp; omega
  simp only [go_sem, ↓reduceIte, Nat.reduceEqDiff, Nat.reduceAdd, Bool.false_eq_true, Int.reduceToNat, g0, g1, g2, cmpI_ne, d1]
  refine wSub_calls fun k' hk' => ?_
  rw [hk0] at hk'
  replace hk' := hk'.symm
  subst hk'
  have d2 : decide ((1 : Int) < (((if a < b + k then 1 else 0 : Nat)) : Int)) = false := by split <;> rfl
  simp only [go_sem, ↓reduceIte, Nat.reduceEqDiff, Nat.reduceAdd, Bool.false_eq_true, Int.reduceToNat, g0, g1, g2, d2]
  refine Cmp_calls n1 n3 (Big.w1 ha) (Big.w2 (by omega)) ?_
  have d3 : ((((if a < b + k then 1 else 0 : Nat)) : Int) == 1) = decide (a < b + k) := by split <;> simp [*]
  have d4 : decide (cmpI a (b + k) < 0) = decide (a < b + k) := by
    unfold cmpI
    split
    · simp [*]
    · split <;> simp [*]
  have d5 : (decide (a < b + k) != decide (a < b + k)) = false := by cases decide (a < b + k) <;> rfl
  simp only [go_sem, ↓reduceIte, Nat.reduceEqDiff, Nat.reduceAdd, Bool.false_eq_true, Int.reduceToNat, g0, g1, g2, d3, d4, d5]
  refine Small_calls (by omega) fun r6 h6 hw6 hl6 n6 => ?_
  simp only [go_sem, ↓reduceIte, Nat.reduceEqDiff, Nat.reduceAdd, Bool.false_eq_true, Int.reduceToNat, g0, g1, g2]
  refine Add_calls n6 (n3.mono hl6) (Big.w1 (by omega)) (Big.w2 (by omega)) fun r7 h7 hw7 hl7 n7 => ?_
  simp only [go_sem, ↓reduceIte, Nat.reduceEqDiff, Nat.reduceAdd, Bool.false_eq_true, Int.reduceToNat, g0, g1, g2]
  refine two_calls (by split <;> omega) ha fun r8 h8 hw8 hl8 n8 => ?_
  simp only [go_sem, ↓reduceIte, Nat.reduceEqDiff, Nat.reduceAdd, Bool.false_eq_true, Int.reduceToNat, g0, g1, g2]
  have e8 : (a + 18446744073709551616 - b - k) % 18446744073709551616 + (b + k) = (if a < b + k then 1 else 0) * 18446744073709551616 + a := by split <;> omega
  rw [e8] at n7
  have hB : (if a < b + k then 1 else 0) * 18446744073709551616 + a < 340282366920938463463374607431768211456 := by split <;> omega
  refine Cmp_calls (n7.mono hl8) n8 (Big.w2 hB) (Big.w2 hB) ?_
  simp only [go_sem, ↓reduceIte, Nat.reduceEqDiff, Nat.reduceAdd, Bool.false_eq_true, Int.reduceToNat, cmpI_eq]
  refine wakes01_calls fun _ => ?_
  simp only [go_sem, ↓reduceIte, Nat.reduceEqDiff, Nat.reduceAdd, Bool.false_eq_true, Int.reduceToNat]
  intro hw'
  exact hk h8 hw' (H.le_trans hl0 (H.le_trans hl1 (H.le_trans hl2 (H.le_trans hl3 (H.le_trans hl4 (H.le_trans hl5 (H.le_trans hl6 (H.le_trans hl7 hl8))))))))
end Ab
end Go.Proofs.Yteoagnggnekfiaa
