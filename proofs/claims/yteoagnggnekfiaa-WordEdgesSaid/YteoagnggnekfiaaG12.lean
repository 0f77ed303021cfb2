/- What the statement WordEdges computes. No condition. -/
import Derived.Test.YteoagnggnekfiaaG11
namespace Go.Proofs.Yteoagnggnekfiaa
namespace Ab
open Go Go.RowKit
set_option linter.unusedSimpArgs false
set_option linter.unusedVariables false
attribute [local go_sem ↓] x_mv x_pick x_bin x_beq x_peq x_idxS x_un x_cvI x_idx x_idxA x_fld x_ld x_st x_nn x_prt x_slc x_mk x_bsl x_bld x_box x_alloc x_len x_capo x_mnx x_app x_cpy x_mkf x_ext x_call x_callV x_bad s_none s_some s_nil s_cons s_chks w_skip w_reg w_seq w_cond w_block w_exit w_ret t_normal t_exit t_ret b_normal b_ret b_exit n_normal n_exit n_ret p_normal p_ret f_nil f_t f_c k_ops k_chk k_fin
attribute [local go_sem] e_t e_c e_f u_some u_none u_at env_at k_v k_pick k_add k_sub k_mul k_quo k_rem k_and k_or k_xor k_shl k_shr k_eql k_neq k_lss k_leq k_gtr k_geq k_beq k_peqn k_peqs k_neg k_not k_com k_cvI k_idxS k_idx k_idxA k_fld k_ld1 k_ldn k_get k_gets k_sti k_stb k_stp k_sts k_stf k_sta k_put k_nn k_prt1 k_prtn k_slc_a k_slc_b k_slc_c k_mk k_agg k_bsl k_box k_len k_lenS k_cap k_max k_min k_ext k_callV k_true k_false k_gtt k_gtf k_gft k_gsk k_gff k_lit1i k_lit2i k_lit3i k_c0 k_c1 k_ck List.getElem?_cons_zero List.getElem?_cons_succ List.getElem?_nil Option.getD_some Option.getD_none tupOf List.map_cons List.map_nil Option.map_some Option.map_none List.nil_append List.cons_append List.append_nil Nat.mul_one Int.toNat_natCast Nat.zero_add
theorem shl_lt {k : Nat} (hk : k < 64) : 1 * 2 ^ k < 18446744073709551616 := by
  have := Nat.pow_lt_pow_right (a := 2) (by omega) hk
  rw [Nat.one_mul]
  exact this
theorem negU {a : Nat} : ∃ b : Nat, b < 18446744073709551616 ∧ IntKind.u64.wrap (0 - (a : Int)) = (b : Int) := ⟨((0 - (a : Int)) % 18446744073709551616).toNat, by omega, by rw [wUm]; omega⟩
theorem WordEdges_law {i j k : Int} {more : Bool} {h : H} {K : AV → H → Prop} (hk : ∀ h', h'.wf → h.le h' → K (.bool true) h') :
    ACalls Try.prog 16 [.int .i64 i, .int .i64 j, .int .i64 k, .bool more] h K := by
  refine in_law01_WordEdges (by simp) fun hw => ?_
  unfold c_law01_WordEdges
  simp only [go_sem, ↓reduceIte, Nat.reduceEqDiff, Nat.reduceAdd, Bool.false_eq_true, Int.reduceToNat]
  refine Within_calls (n := 64) (by omega) (by omega) fun x hx _ => ?_
  simp only [go_sem, ↓reduceIte, Nat.reduceEqDiff, Nat.reduceAdd, Bool.false_eq_true, Int.reduceToNat, wUn (x := x) (by omega)]
  refine ⟨by omega, ?_⟩
  refine Within_calls (n := 64) (by omega) (by omega) fun y hy _ => ?_
  simp only [go_sem, ↓reduceIte, Nat.reduceEqDiff, Nat.reduceAdd, Bool.false_eq_true, Int.reduceToNat, wUn (x := y) (by omega)]
  refine ⟨by omega, ?_⟩
  refine Within_calls (n := 64) (by omega) (by omega) fun z hz _ => ?_
  simp only [go_sem, ↓reduceIte, Nat.reduceEqDiff, Nat.reduceAdd, Bool.false_eq_true, Int.reduceToNat, wUn (x := z) (by omega)]
  refine ⟨by omega, ?_⟩
  have s1 : ∀ {n : Nat}, n < 64 → bShl .u64 1 n = ((1 * 2 ^ n : Nat) : Int) := fun hn => shlS (x := 1) (by omega) (shl_lt hn)
  simp only [go_sem, ↓reduceIte, Nat.reduceEqDiff, Nat.reduceAdd, Bool.false_eq_true, Int.reduceToNat, s1 hx, s1 hy, s1 hz]
  refine cond_cut (fun ρ' h' => h' = h ∧ ∃ a b d : Nat, a < 18446744073709551616 ∧ b < 18446744073709551616 ∧ d < 18446744073709551616 ∧ ρ' 9 = .int .u64 (a : Int) ∧ ρ' 10 = .int .u64 (b : Int) ∧ ρ' 11 = .int .u64 (d : Int)) ?_ ?_
  · cases more
    · simp only [go_sem, ↓reduceIte, Nat.reduceEqDiff, Nat.reduceAdd, Bool.false_eq_true, Int.reduceToNat]
      exact ⟨trivial, _, _, _, shl_lt hx, shl_lt hy, shl_lt hz, rfl, rfl, rfl⟩
    · obtain ⟨a, ha, e1⟩ := negU (a := 1 * 2 ^ x)
      obtain ⟨b, hb, e2⟩ := negU (a := 1 * 2 ^ y)
      obtain ⟨d, hd, e3⟩ := negU (a := 1 * 2 ^ z)
      simp only [go_sem, ↓reduceIte, Nat.reduceEqDiff, Nat.reduceAdd, Bool.false_eq_true, Int.reduceToNat, e1, e2, e3]
      exact ⟨trivial, _, _, _, ha, hb, hd, rfl, rfl, rfl⟩
  · rintro ρ h' ⟨rfl, a, b, d, ha, hb, hd, h9, h10, h11⟩
    simp only [go_sem, ↓reduceIte, Nat.reduceEqDiff, Nat.reduceAdd, Bool.false_eq_true, Int.reduceToNat, h9, h10, h11]
    refine WordMuls_law ha hb fun h1 hw1 hl1 => ?_
    simp only [go_sem, ↓reduceIte, Nat.reduceEqDiff, Nat.reduceAdd, Bool.false_eq_true, Int.reduceToNat, h9, h10, h11]
    refine WordDivs_law ha hb hd fun h2 hw2 hl2 => ?_
    simp only [go_sem, ↓reduceIte, Nat.reduceEqDiff, Nat.reduceAdd, Bool.false_eq_true, Int.reduceToNat, h9, h10, h11]
    refine WordInverses_law ha hb hd fun h3 hw3 hl3 => ?_
    simp only [go_sem, ↓reduceIte, Nat.reduceEqDiff, Nat.reduceAdd, Bool.false_eq_true, Int.reduceToNat, h9, h10, h11]
    refine WordThrees_law ha hb hd hd ha fun h4 hw4 hl4 => ?_
    simp only [go_sem, ↓reduceIte, Nat.reduceEqDiff, Nat.reduceAdd, Bool.false_eq_true, Int.reduceToNat, h9, h10, h11]
    refine WordAdds_law ha hb fun h5 hw5 hl5 => ?_
    simp only [go_sem, ↓reduceIte, Nat.reduceEqDiff, Nat.reduceAdd, Bool.false_eq_true, Int.reduceToNat]
    refine wakes01_calls fun _ => ?_
    simp only [go_sem, ↓reduceIte, Nat.reduceEqDiff, Nat.reduceAdd, Bool.false_eq_true, Int.reduceToNat]
    exact fun hw' => hk h5 hw' (H.le_trans hl1 (H.le_trans hl2 (H.le_trans hl3 (H.le_trans hl4 hl5))))
theorem WordEdges_row (h : H) (avs : List AV) (_ : h.wf) (r : ReadsAll Try.prog h [3, 3, 3, 4] avs) : ACalls Try.prog 16 avs h (fun r _ => r = .bool true) := by
  match avs, r with
  | [_, _, _, _], ⟨r0, r1, r2, r3, _⟩ =>
    obtain ⟨n0, rfl, _⟩ := reads_i64 r0
    obtain ⟨n1, rfl, _⟩ := reads_i64 r1
    obtain ⟨n2, rfl, _⟩ := reads_i64 r2
    obtain ⟨b, rfl⟩ := reads_bool r3
    exact WordEdges_law fun _ _ _ => rfl
end Ab
end Go.Proofs.Yteoagnggnekfiaa
