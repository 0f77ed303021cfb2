/- Joined texts: X26 X27. No condition. -/
import Derived.Test.YtkbglkjpdndkiaaDoorZ8
namespace Go.Proofs.YtkbglkjpdndkiaaDoor
namespace Ab
open Go Go.RowKit
set_option linter.unusedSimpArgs false
set_option linter.unusedVariables false
attribute [local go_sem ↓] x_mv x_pick x_bin x_beq x_peq x_seq x_cat x_aeq x_idxS x_idxV x_un x_cvI x_bts x_idx x_idxA x_fld x_ld x_st x_nn x_prt x_slc x_mk x_bsl x_bld x_box x_alloc x_len x_capo x_mnx x_app x_cpy x_mkf x_ext x_call x_callV x_bad s_none s_some s_nil s_cons s_chks w_skip w_reg tP_fin tP_no tP_alt w_seq w_cond w_block w_exit w_ret t_normal t_exit t_ret b_normal b_ret b_exit n_normal n_exit n_ret p_normal p_ret f_nil f_t f_c k_ops k_chk k_fin
attribute [local go_sem] e_t e_c e_f u_some u_none u_at env_at k_v k_pick k_add k_sub k_mul k_quo k_rem k_and k_or k_xor k_shl k_shr k_eql k_neq k_lss k_leq k_gtr k_geq k_beq k_peqn k_peqs k_neg k_not k_com k_cvI k_idxS k_idxV1 k_idxVn k_idx k_idxA k_idxG k_ldG k_gld k_seq k_cat k_aeq k_eqs k_fld k_ld1 k_ldn k_get k_gets k_sti k_stb k_stp k_sts k_stf k_sta k_put k_nn k_prt1 k_prtn k_slc_a k_slc_b k_slc_c k_mk k_agg k_bsl k_box k_len k_lenS k_cap k_max k_min k_ext k_callV k_true k_false k_gtt k_gtf k_gft k_gsk k_gff k_lit1i k_lit2i k_lit3i k_c0 k_c1 k_ck List.getElem?_cons_zero List.getElem?_cons_succ List.getElem?_nil Option.getD_some Option.getD_none tupOf List.map_cons List.map_nil Option.map_some Option.map_none List.nil_append List.cons_append List.append_nil Nat.mul_one Int.toNat_natCast Nat.zero_add
attribute [local go_sem_proc] Nat.reduceEqDiff Nat.reduceAdd Int.reduceToNat
attribute [local go_sem_proc ↓] reduceIte
attribute [local go_sem] Bool.false_eq_true
section
section
variable {k:Nat} {va vb vl:AV} {xs0 ys0 ls0:List Nat} {h:H} {K:AV→H→Prop}
theorem PolypNews_law {p:Nat} (hp:p<18446744073709551616) (hk:∀h',h'.wf→K (.bool true) h'):ACalls Tryd.prog 3 [.int .u64 (p:Int)] h K:=by
 refine in_law23_PolypNews (by simp) fun hw=> ?_
 unfold c_law23_PolypNews
 simp only[go_sem]
 by_cases hP:PrimeP p
 ·refine pNew_calls ⟨hP.1,hP.2.1⟩ hP.2.2.1 hP.2.2.2 fun e h1 hw1 hl1 hr=> ?_
  simp only[go_sem]
  refine Modulus_calls hp fun b h2 hb hw2 hl2=> ?_
  rw[hb.2 hP]
  obtain⟨i,hgi,hm⟩:=hr.mono hl2
  simp only[go_sem,show((0:Int)==0)=true from rfl,Option.isNone,Bool.true_bne,Bool.not_false,hgi]
  refine mP_calls hm ?_
  simp only[go_sem,beq_self_eq_true]
  refine wakes23_calls fun h3 hw3 hl3=> ?_
  simp only[go_sem]
  exact fun hw'=>hk h3 hw'
 ·refine pNew_none hp (fun h0=>hP ⟨?_,h0.2.1,h0.1,h0.2.2⟩) fun h1 hw1 hl1=> ?_
  ·have h1:=h0.1
   rcases Nat.lt_or_ge p 3 with h2|h2
   ·have:p=1:=by omega
    rw[this] at h0
    exact absurd h0.2.2 (by decide+kernel)
   ·exact h2
  simp only[go_sem]
  refine Modulus_calls hp fun b h2 hb hw2 hl2=> ?_
  rw[show b=false by
   cases b
   ·rfl
   ·exact absurd (hb.1 rfl) hP]
  simp only[go_sem,show((3:Int)==3)=true from rfl,Option.isNone,Bool.false_bne]
  refine wakes23_calls fun h3 hw3 hl3=> ?_
  simp only[go_sem]
  exact fun hw'=>hk h3 hw'
end
end
section
section
variable {k x:Nat} {va vb vl:AV} {xs0 ys0 ls0:List Nat} {h:H} {K:AV→H→Prop}
set_option maxRecDepth 100000 in
theorem PolypNews_row (h:H) (avs:List AV) (_:h.wf) (r:ReadsAll Tryd.prog h [22] avs):ACalls Tryd.prog 3 avs h (fun r _=>r= .bool true):=by
 match avs,r with
 |[_],⟨r0,_⟩=>
  obtain⟨p,rfl,hp⟩:=reads_u64 r0
  exact PolypNews_law hp fun _ _=>rfl
end
end
end Ab
end Go.Proofs.YtkbglkjpdndkiaaDoor
