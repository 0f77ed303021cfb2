/- The naturals of the document: what they come to. No condition. -/
import Derived.Test.YteoagnggnekfiaaC2
import Derived.Test.YteoagnggnekfiaaD1
namespace Go.Proofs.Yteoagnggnekfiaa
namespace Ab
open Go Go.RowKit
set_option linter.unusedSimpArgs false
set_option linter.unusedVariables false
attribute [local go_sem ↓] x_mv x_pick x_bin x_beq x_peq x_seq x_cat x_aeq x_idxS x_un x_cvI x_idx x_idxA x_fld x_ld x_st x_nn x_prt x_slc x_mk x_bsl x_bld x_box x_alloc x_len x_capo x_mnx x_app x_cpy x_mkf x_ext x_call x_callV x_bad s_none s_some s_nil s_cons s_chks w_skip w_reg w_seq w_cond w_block w_exit w_ret t_normal t_exit t_ret b_normal b_ret b_exit n_normal n_exit n_ret p_normal p_ret f_nil f_t f_c k_ops k_chk k_fin
attribute [local go_sem] e_t e_c e_f u_some u_none u_at env_at k_v k_pick k_add k_sub k_mul k_quo k_rem k_and k_or k_xor k_shl k_shr k_eql k_neq k_lss k_leq k_gtr k_geq k_beq k_peqn k_peqs k_neg k_not k_com k_cvI k_idxS k_idx k_idxA k_idxG k_ldG k_gld k_seq k_cat k_aeq k_eqs k_fld k_ld1 k_ldn k_get k_gets k_sti k_stb k_stp k_sts k_stf k_sta k_put k_nn k_prt1 k_prtn k_slc_a k_slc_b k_slc_c k_mk k_agg k_bsl k_box k_len k_lenS k_cap k_max k_min k_ext k_callV k_true k_false k_gtt k_gtf k_gft k_gsk k_gff k_lit1i k_lit2i k_lit3i k_c0 k_c1 k_ck List.getElem?_cons_zero List.getElem?_cons_succ List.getElem?_nil Option.getD_some Option.getD_none tupOf List.map_cons List.map_nil Option.map_some Option.map_none List.nil_append List.cons_append List.append_nil Nat.mul_one Int.toNat_natCast Nat.zero_add
theorem norm_calls {v : AV} {xs : List Nat} {h : H} {K : AV → H → Prop} (hv : IsN h v xs) (hlen : xs.length < 4611686018427387904)
    (hk : ∀ r k, k ≤ xs.length → IsN h r (xs.take k) → (∀ x ∈ xs.drop k, x = 0) → (∀ x, (xs.take k).getLast? = some x → x ≠ 0) → K r h) : ACalls Try.prog 63 [v] h K := by
  obtain ⟨id, off, c, rfl⟩ := hv.form
  refine in_ref02_norm (by simp) fun hw => ?_
  unfold c_ref02_norm
  simp only [go_sem, ↓reduceIte, Nat.reduceEqDiff, Nat.reduceAdd, Bool.false_eq_true, Int.reduceToNat]
  refine ⟨fun n ρ h' => h' = h ∧ ρ 0 = .sl id off xs.length c ∧ ρ 3 = .int .i64 (n : Int) ∧ n ≤ xs.length ∧ (∀ x ∈ xs.drop n, x = 0), xs.length, ⟨rfl, rfl, rfl, Nat.le_refl _, by simp⟩, ?_⟩
  rintro k ρ h' ⟨rfl, h0, h3, hk1, hz⟩
  have fin : (∀ x, (xs.take k).getLast? = some x → x ≠ 0) → K (.sl id off k c) h' := fun hl => hk _ k hk1 (hv.take hk1) hz hl
  rcases Nat.eq_zero_or_pos k with rfl | hp
  · have hd : decide ((0 : Int) < ((0 : Nat) : Int)) = false := by decide
    simp only [go_sem, ↓reduceIte, Nat.reduceEqDiff, Nat.reduceAdd, Bool.false_eq_true, Int.reduceToNat, h0, h3, hd]
    refine ⟨by omega, by omega, hv.row, ?_⟩
    intro _
    exact fin (by simp)
  · have hd : decide ((0 : Int) < (k : Int)) = true := by simp; omega
    obtain ⟨i, rfl, _, hg⟩ := hv.at (j := k - 1) (by omega)
    have hw1 : IntKind.i64.wrap ((k : Int) - 1) = ((k - 1 : Nat) : Int) := by rw [wI] <;> omega
    simp only [go_sem, ↓reduceIte, Nat.reduceEqDiff, Nat.reduceAdd, Bool.false_eq_true, Int.reduceToNat, h0, h3, hd, hw1]
    refine ⟨by omega, by omega, ?_⟩
    simp only [go_sem, ↓reduceIte, Nat.reduceEqDiff, Nat.reduceAdd, Bool.false_eq_true, Int.reduceToNat, Int.toNat_natCast, Nat.mul_one, hg]
    by_cases hx : xs[k - 1] = 0
    · have he : (((xs[k - 1] : Nat) : Int) == 0) = true := by simp [hx]
      simp only [go_sem, ↓reduceIte, Nat.reduceEqDiff, Nat.reduceAdd, Bool.false_eq_true, Int.reduceToNat, h0, h3, he, hw1]
      refine ⟨k - 1, by omega, by simp, by simp, by simp, by omega, fun x hm => ?_⟩
      rw [List.drop_eq_getElem_cons (by omega)] at hm
      rcases List.mem_cons.1 hm with rfl | hm
      · exact hx
      · exact hz x (by rwa [show k - 1 + 1 = k from by omega] at hm)
    · have he : (((xs[k - 1] : Nat) : Int) == 0) = false := by simp; omega
      simp only [go_sem, ↓reduceIte, Nat.reduceEqDiff, Nat.reduceAdd, Bool.false_eq_true, Int.reduceToNat, h0, h3, he]
      refine ⟨by omega, by omega, hv.row, ?_⟩
      intro _
      refine fin fun x hl => ?_
      rw [List.getLast?_eq_getElem?, List.length_take, Nat.min_eq_left hk1, List.getElem?_take, if_pos (by omega), List.getElem?_eq_getElem (by omega)] at hl
      injection hl with hl
      omega
end Ab
end Go.Proofs.Yteoagnggnekfiaa
