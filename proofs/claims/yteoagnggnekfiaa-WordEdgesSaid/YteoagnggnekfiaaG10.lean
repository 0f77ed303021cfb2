/- What the statement WordThrees computes. No condition. -/
import Derived.Test.YteoagnggnekfiaaG9
import Derived.Test.YteoagnggnekfiaaL3
namespace Go.Proofs.Yteoagnggnekfiaa
namespace Ab
open Go Go.RowKit
set_option linter.unusedSimpArgs false
set_option linter.unusedVariables false
attribute [local go_sem ↓] x_mv x_pick x_bin x_beq x_peq x_idxS x_un x_cvI x_idx x_idxA x_fld x_ld x_st x_nn x_prt x_slc x_mk x_bsl x_bld x_box x_alloc x_len x_capo x_mnx x_app x_cpy x_mkf x_ext x_call x_callV x_bad s_none s_some s_nil s_cons s_chks w_skip w_reg w_seq w_cond w_block w_exit w_ret t_normal t_exit t_ret b_normal b_ret b_exit n_normal n_exit n_ret p_normal p_ret f_nil f_t f_c k_ops k_chk k_fin
attribute [local go_sem] e_t e_c e_f u_some u_none u_at env_at k_v k_pick k_add k_sub k_mul k_quo k_rem k_and k_or k_xor k_shl k_shr k_eql k_neq k_lss k_leq k_gtr k_geq k_beq k_peqn k_peqs k_neg k_not k_com k_cvI k_idxS k_idx k_idxA k_fld k_ld1 k_ldn k_get k_gets k_sti k_stb k_stp k_sts k_stf k_sta k_put k_nn k_prt1 k_prtn k_slc_a k_slc_b k_slc_c k_mk k_agg k_bsl k_box k_len k_lenS k_cap k_max k_min k_ext k_callV k_true k_false k_gtt k_gtf k_gft k_gsk k_gff k_lit1i k_lit2i k_lit3i k_c0 k_c1 k_ck List.getElem?_cons_zero List.getElem?_cons_succ List.getElem?_nil Option.getD_some Option.getD_none tupOf List.map_cons List.map_nil Option.map_some Option.map_none List.nil_append List.cons_append List.append_nil Nat.mul_one Int.toNat_natCast Nat.zero_add
theorem div_of {x d q r : Nat} (h : x = q * d + r) (hr : r < d) : x / d = q ∧ x % d = r := by
  subst h
  rw [Nat.mul_comm, Nat.mul_add_div (by omega), Nat.div_eq_of_lt hr, Nat.mul_add_mod, Nat.mod_eq_of_lt hr]
  exact ⟨rfl, rfl⟩
theorem three_max : (18446744073709551615 * 18446744073709551616 + 18446744073709551615) * 18446744073709551616 + 18446744073709551615 = 6277101735386680763835789423207666416102355444464034512895 := by decide
theorem inv2_div {d1 d0 v : Nat} (i : IsInv2 d1 d0 v) : ((18446744073709551615 * 18446744073709551616 + 18446744073709551615) * 18446744073709551616 + 18446744073709551615) / (d1 * 18446744073709551616 + d0) = 1 * 18446744073709551616 + v := by
  obtain ⟨hv, k, h1, h2, h3⟩ := i
  refine (div_of (r := k - 1) ?_ (by omega)).1
  rw [Nat.one_mul, three_max]
  omega
theorem cmp_ge {x y : Nat} (h : y ≤ x) : decide ((0 : Int) ≤ cmpI x y) = true := by
  refine decide_eq_true ?_
  unfold cmpI
  split
  · omega
  · split <;> omega
theorem cmp_nge {x y : Nat} (h : x < y) : decide ((0 : Int) ≤ cmpI x y) = false := by
  refine decide_eq_false ?_
  unfold cmpI
  rw [if_pos h]
  omega
theorem lt3 {a b c : Nat} (ha : a < 18446744073709551616) (hb : b < 18446744073709551616) (hc : c < 18446744073709551616) : (a * 18446744073709551616 + b) * 18446744073709551616 + c < 6277101735386680763835789423207666416102355444464034512896 := by omega
theorem lt2 {a b : Nat} (ha : a < 18446744073709551616) (hb : b < 18446744073709551616) : a * 18446744073709551616 + b < 340282366920938463463374607431768211456 := by omega
theorem lt2a {a b r : Nat} (ha : a < 18446744073709551616) (hb : b < 18446744073709551616) (h : r < a * 18446744073709551616 + b) : r < 340282366920938463463374607431768211456 := by omega
theorem hilo {r : Nat} : r / 18446744073709551616 * 18446744073709551616 + r % 18446744073709551616 = r := by omega
theorem hi_lt {r : Nat} (h : r < 340282366920938463463374607431768211456) : r / 18446744073709551616 < 18446744073709551616 := by omega
theorem WordThrees_law {a2 a1 a0 d1 d0 : Nat} {h : H} {K : AV → H → Prop} (h2 : a2 < 18446744073709551616) (h1 : a1 < 18446744073709551616) (h0 : a0 < 18446744073709551616) (hd1 : d1 < 18446744073709551616) (hd0 : d0 < 18446744073709551616) (hk : ∀ h', h'.wf → h.le h' → K (.bool true) h') : ACalls Try.prog 15 [.int .u64 (a2 : Int), .int .u64 (a1 : Int), .int .u64 (a0 : Int), .int .u64 (d1 : Int), .int .u64 (d0 : Int)] h K := by
  refine in_law01_WordThrees (by simp) fun hw => ?_
  unfold c_law01_WordThrees
  simp only [go_sem, ↓reduceIte, Nat.reduceEqDiff, Nat.reduceAdd, Bool.false_eq_true, Int.reduceToNat]
  have z0 : ((0 : Int) == 0) = true := by decide
  refine Inverse2_calls hd1 hd0 (fun hc => ?_) (fun hc v hI => ?_)
  · have t1 : decide ((d1 : Int) < 9223372036854775808) = true := by simp; omega
    simp only [go_sem, ↓reduceIte, Nat.reduceEqDiff, Nat.reduceAdd, Bool.false_eq_true, Int.reduceToNat, t1]
    refine Div3_calls (v := 0) h2 h1 h0 hd1 hd0 (fun _ => ?_) (fun h _ => absurd h (by omega)) (fun h _ => absurd h (by omega))
    simp only [go_sem, ↓reduceIte, Nat.reduceEqDiff, Nat.reduceAdd, Bool.false_eq_true, Int.reduceToNat, z0, Bool.not_false]
    refine wakes01_calls fun _ => ?_
    simp only [go_sem, ↓reduceIte, Nat.reduceEqDiff, Nat.reduceAdd, Bool.false_eq_true, Int.reduceToNat]
    exact fun hw' => hk h hw' (H.le_refl h)
  · have t1 : decide ((d1 : Int) < 9223372036854775808) = false := by simp; omega
    have hv := hI.1
    have hE := inv2_div hI
    simp only [go_sem, ↓reduceIte, Nat.reduceEqDiff, Nat.reduceAdd, Bool.false_eq_true, Int.reduceToNat, t1]
    refine two_calls hd1 hd0 fun r1 g1 hw1 hl1 n1 => ?_
    simp only [go_sem, ↓reduceIte, Nat.reduceEqDiff, Nat.reduceAdd, Bool.false_eq_true, Int.reduceToNat]
    refine three_calls (w2 := 18446744073709551615) (w1 := 18446744073709551615) (w0 := 18446744073709551615) (by decide) (by decide) (by decide) fun r2 g2 hw2 hl2 n2 => ?_
    simp only [go_sem, ↓reduceIte, Nat.reduceEqDiff, Nat.reduceAdd, Bool.false_eq_true, Int.reduceToNat]
    have hD0 : 0 < d1 * 18446744073709551616 + d0 := by omega
    refine DivMod_calls n2 (n1.mono hl2) (Big.w3 (by decide)) (Big.w2 (lt2 hd1 hd0)) hD0 fun q r g3 hw3 hl3 nq nr => ?_
    rw [hE] at nq
    simp only [go_sem, ↓reduceIte, Nat.reduceEqDiff, Nat.reduceAdd, Bool.false_eq_true, Int.reduceToNat, Bool.not_true]
    refine two_calls (hi := 1) (by decide) hv fun r4 g4 hw4 hl4 n4 => ?_
    simp only [go_sem, ↓reduceIte, Nat.reduceEqDiff, Nat.reduceAdd, Bool.false_eq_true, Int.reduceToNat]
    refine Cmp_calls (nq.mono hl4) n4 (Big.w2 (lt2 (by decide) hv)) (Big.w2 (lt2 (by decide) hv)) ?_
    simp only [go_sem, ↓reduceIte, Nat.reduceEqDiff, Nat.reduceAdd, Bool.false_eq_true, Int.reduceToNat, cmpI_ne]
    have hle := (H.le_trans hl1 (H.le_trans hl2 (H.le_trans hl3 hl4)))
    have n1' := n1.mono (H.le_trans hl2 (H.le_trans hl3 hl4))
    refine Div3_calls h2 h1 h0 hd1 hd0 (fun hc2 => ?_) (fun _ _ => hI) (fun _ hc2 q r hq hr e => ?_)
    · have hc3 : d1 * 18446744073709551616 + d0 ≤ a2 * 18446744073709551616 + a1 := hc2.resolve_left (by omega)
      simp only [go_sem, ↓reduceIte, Nat.reduceEqDiff, Nat.reduceAdd, Bool.false_eq_true, Int.reduceToNat]
      refine two_calls h2 h1 fun r5 g5 hw5 hl5 n5 => ?_
      simp only [go_sem, ↓reduceIte, Nat.reduceEqDiff, Nat.reduceAdd, Bool.false_eq_true, Int.reduceToNat]
      refine Cmp_calls n5 (n1'.mono hl5) (Big.w2 (lt2 h2 h1)) (Big.w2 (lt2 hd1 hd0)) ?_
      simp only [go_sem, ↓reduceIte, Nat.reduceEqDiff, Nat.reduceAdd, Bool.false_eq_true, Int.reduceToNat, cmp_ge hc3, z0, Bool.not_false]
      refine wakes01_calls fun _ => ?_
      simp only [go_sem, ↓reduceIte, Nat.reduceEqDiff, Nat.reduceAdd, Bool.false_eq_true, Int.reduceToNat]
      exact fun hw' => hk g5 hw' (H.le_trans hle hl5)
    · simp only [go_sem, ↓reduceIte, Nat.reduceEqDiff, Nat.reduceAdd, Bool.false_eq_true, Int.reduceToNat]
      refine two_calls h2 h1 fun r5 g5 hw5 hl5 n5 => ?_
      simp only [go_sem, ↓reduceIte, Nat.reduceEqDiff, Nat.reduceAdd, Bool.false_eq_true, Int.reduceToNat]
      refine Cmp_calls n5 (n1'.mono hl5) (Big.w2 (lt2 h2 h1)) (Big.w2 (lt2 hd1 hd0)) ?_
      simp only [go_sem, ↓reduceIte, Nat.reduceEqDiff, Nat.reduceAdd, Bool.false_eq_true, Int.reduceToNat, cmp_nge hc2]
      refine three_calls h2 h1 h0 fun r6 g6 hw6 hl6 n6 => ?_
      simp only [go_sem, ↓reduceIte, Nat.reduceEqDiff, Nat.reduceAdd, Bool.false_eq_true, Int.reduceToNat]
      obtain ⟨e1, e2⟩ := div_of e hr
      refine DivMod_calls n6 (n1'.mono (H.le_trans hl5 hl6)) (Big.w3 (lt3 h2 h1 h0)) (Big.w2 (lt2 hd1 hd0)) hD0 fun q' r' g7 hw7 hl7 nq nr => ?_
      rw [e1] at nq
      rw [e2] at nr
      simp only [go_sem, ↓reduceIte, Nat.reduceEqDiff, Nat.reduceAdd, Bool.false_eq_true, Int.reduceToNat]
      refine Small_calls hq fun r8 g8 hw8 hl8 n8 => ?_
      simp only [go_sem, ↓reduceIte, Nat.reduceEqDiff, Nat.reduceAdd, Bool.false_eq_true, Int.reduceToNat]
      refine Cmp_calls (nq.mono hl8) n8 (Big.w1 hq) (Big.w1 hq) ?_
      simp only [go_sem, ↓reduceIte, Nat.reduceEqDiff, Nat.reduceAdd, Bool.false_eq_true, Int.reduceToNat, cmpI_eq]
      have hr2 := lt2a hd1 hd0 hr
      refine two_calls (hi_lt hr2) (Nat.mod_lt _ (by decide)) fun r9 g9 hw9 hl9 n9 => ?_
      rw [hilo] at n9
      simp only [go_sem, ↓reduceIte, Nat.reduceEqDiff, Nat.reduceAdd, Bool.false_eq_true, Int.reduceToNat]
      refine Cmp_calls (nr.mono (H.le_trans hl8 hl9)) n9 (Big.w2 hr2) (Big.w2 hr2) ?_
      simp only [go_sem, ↓reduceIte, Nat.reduceEqDiff, Nat.reduceAdd, Bool.false_eq_true, Int.reduceToNat, cmpI_eq]
      refine wakes01_calls fun _ => ?_
      simp only [go_sem, ↓reduceIte, Nat.reduceEqDiff, Nat.reduceAdd, Bool.false_eq_true, Int.reduceToNat]
      exact fun hw' => hk g9 hw' (H.le_trans hle (H.le_trans hl5 (H.le_trans hl6 (H.le_trans hl7 (H.le_trans hl8 hl9)))))
theorem WordThrees_row (h : H) (avs : List AV) (_ : h.wf) (r : ReadsAll Try.prog h [29, 29, 29, 29, 29] avs) : ACalls Try.prog 15 avs h (fun r _ => r = .bool true) := by
  match avs, r with
  | [_, _, _, _, _], ⟨r0, r1, r2, r3, r4, _⟩ =>
    obtain ⟨n0, rfl, h0⟩ := reads_u64 r0
    obtain ⟨n1, rfl, h1⟩ := reads_u64 r1
    obtain ⟨n2, rfl, h2⟩ := reads_u64 r2
    obtain ⟨n3, rfl, h3⟩ := reads_u64 r3
    obtain ⟨n4, rfl, h4⟩ := reads_u64 r4
    exact WordThrees_law h0 h1 h2 h3 h4 fun _ _ _ => rfl
end Ab
end Go.Proofs.Yteoagnggnekfiaa
