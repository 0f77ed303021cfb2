/- Joined texts: X26 X27. No condition. -/
import Derived.Test.YtkbglkjpdndkiaaDoorZ8
namespace Go.Proofs.YtkbglkjpdndkiaaDoor
namespace Ab
open Go Go.RowKit
set_option linter.unusedSimpArgs false
set_option linter.unusedVariables false
attribute [local go_sem ↓] x_mv x_pick x_bin x_beq x_peq x_seq x_cat x_aeq x_idxS x_idxV x_un x_cvI x_bts x_idx x_idxA x_fld x_ld x_st x_nn x_prt x_slc x_mk x_bsl x_bld x_box x_alloc x_len x_capo x_mnx x_app x_cpy x_mkf x_ext x_call x_callV x_bad s_none s_some s_nil s_cons s_chks w_skip w_reg tP_fin tP_no tP_alt w_seq w_cond w_block w_exit w_ret t_normal t_exit t_ret b_normal b_ret b_exit n_normal n_exit n_ret p_normal p_ret f_nil f_t f_c k_ops k_chk k_fin
attribute [local go_sem] e_t e_c e_f u_some u_none u_at env_at k_v k_pick k_add k_sub k_mul k_quo k_rem k_and k_or k_xor k_shl k_shr k_eql k_neq k_lss k_leq k_gtr k_geq k_beq k_peqn k_peqs k_neg k_not k_com k_cvI k_idxS k_idxV1 k_idxVn k_idx k_idxA k_idxG k_ldG k_gld k_seq k_cat k_aeq k_eqs k_fld k_ld1 k_ldn k_get k_gets k_sti k_stb k_stp k_sts k_stf k_sta k_put k_nn k_prt1 k_prtn k_slc_a k_slc_b k_slc_c k_mk k_agg k_bsl k_box k_len k_lenS k_cap k_max k_min k_ext k_callV k_true k_false k_gtt k_gtf k_gft k_gsk k_gff k_lit1i k_lit2i k_lit3i k_c0 k_c1 k_ck List.getElem?_cons_zero List.getElem?_cons_succ List.getElem?_nil Option.getD_some Option.getD_none tupOf List.map_cons List.map_nil Option.map_some Option.map_none List.nil_append List.cons_append List.append_nil Nat.mul_one Int.toNat_natCast Nat.zero_add
attribute [local go_sem_proc] Nat.reduceEqDiff Nat.reduceAdd Int.reduceToNat
attribute [local go_sem_proc ↓] reduceIte
attribute [local go_sem] Bool.false_eq_true
section
section
variable {k:Nat} {va vb vl:AV} {xs0 ys0 ls0:List Nat} {h:H} {K:AV→H→Prop}
theorem PolypShifts_law {n:Int} (hv0:IsN h va xs0) (hk:∀h',h'.wf→K (.bool true) h'):ACalls Tryd.prog 4 [.int .u64 (k:Int),va, .int .i64 n] h K:=by
 refine in_law23_PolypShifts (by simp) fun hw=> ?_
 unfold c_law23_PolypShifts
 simp only[go_sem]
 refine Cut_calls (n:=30) hv0 fun a ha=> ?_
 have hlx:(xs0.take 30).length≤30:=by rw[List.length_take];omega
 generalize xs0.take 30=xs at*
 simp only[go_sem]
 refine ring_calls fun e p h1 hw1 hl1 hr hP=> ?_
 have hp0:0<p:=by have:=hP.1;omega
 simp only[go_sem,Option.isNone,Bool.false_bne]
 have ha:=ha.mono hl1
 refine Lend_calls ha (by omega) fun x h2 hw2 hl2 lx=> ?_
 have ha:=ha.mono hl2
 have hr:=hr.mono hl2
 simp only[go_sem]
 refine pShift_calls hr lx.isN (by omega) fun r1 ys1 h3 hw3 hl3 hr1 hyl1 ht1=> ?_
 simp only[go_sem]
 refine r3Shift_calls hp0 (ha.mono hl3) (by omega) fun r2 ys2 h4 hw4 hl4 hr2 ht2=> ?_
 obtain rfl:=ht1.uniq ht2
 simp only[go_sem]
 refine kSame_calls (hr1.mono hl4) hr2 (by omega) ?_
 simp only[go_sem]
 refine pCut_calls (hr.mono (H.le_trans hl3 hl4)) (lx.mono (H.le_trans hl3 hl4)).isN (by omega) fun m r3 ys3 h5 hm hw5 hl5 hr3 ht3 hyl3=> ?_
 simp only[go_sem]
 refine r3Cut_calls hp0 (ha.mono (H.le_trans hl3 (H.le_trans hl4 hl5))) (by omega) fun m' r4 ys4 h6 hm' hw6 hl6 hr4 ht4 _=> ?_
 obtain rfl:m=m':=by omega
 obtain rfl:=ht3.uniq ht4
 simp only[go_sem]
 refine kSame_calls (hr3.isN.mono hl6) hr4.isN (by omega) ?_
 simp only[go_sem]
 have l26:=(H.le_trans hl3 (H.le_trans hl4 (H.le_trans hl5 hl6)))
 refine Intact_calls (lx.mono l26) (ha.mono l26) (by omega) ?_
 simp only[go_sem]
 refine wakes23_calls fun h7 hw7 hl7=> ?_
 simp only[go_sem]
 exact fun hw'=>hk h7 hw'
theorem PolypTimes_law (hv0:IsN h va xs0) (hu0:IsN h vb ys0) (hz0:IsN h vl ls0) (hk:∀h',h'.wf→K (.bool true) h'):ACalls Tryd.prog 5 [.int .u64 (k:Int),va,vb,vl] h K:=by
 refine in_law23_PolypTimes (by simp) fun hw=> ?_
 unfold c_law23_PolypTimes
 simp only[go_sem]
 refine Cut_calls (n:=30) hv0 fun a ha=> ?_
 simp only[go_sem]
 refine Cut_calls (n:=30) hu0 fun b hb=> ?_
 simp only[go_sem]
 refine Cut_calls (n:=16) hz0 fun c hc=> ?_
 have hlx:(xs0.take 30).length≤30:=by rw[List.length_take];omega
 have hly:(ys0.take 30).length≤30:=by rw[List.length_take];omega
 have hlz:(ls0.take 16).length≤16:=by rw[List.length_take];omega
 generalize xs0.take 30=xs at*
 generalize ys0.take 30=ys at*
 generalize ls0.take 16=ls at*
 simp only[go_sem]
 refine ring_calls fun e p h1 hw1 hl1 hr hP=> ?_
 have hp0:1<p:=by have:=hP.1;omega
 have hpB:=hP.2.1
 simp only[go_sem,Option.isNone,Bool.false_bne]
 have ha:=ha.mono hl1
 have hb:=hb.mono hl1
 have hc:=hc.mono hl1
 refine pTimes_calls hr ha hb (by omega) (by omega) fun r1 ys1 h2 hw2 hl2 hr1 ht1 hyl1=> ?_
 simp only[go_sem]
 refine r3Mul_calls (by omega) hpB (ha.mono hl2) (hb.mono hl2) (by omega) (by omega) fun r2 ys2 h3 hw3 hl3 hr2 ht2 _=> ?_
 obtain rfl:=ht1.uniq ht2
 simp only[go_sem]
 refine kSame_calls (hr1.isN.mono hl3) hr2.isN (by omega) ?_
 have l13:=H.le_trans hl2 hl3
 simp only[go_sem]
 refine pRoots_calls (hr.mono l13) (hc.mono l13) (by omega) fun r3 ys3 h4 hw4 hl4 hr3 ht3 hyl3=> ?_
 have l14:=H.le_trans l13 hl4
 simp only[go_sem]
 refine r3Roots_calls hp0 hpB (hc.mono l14) (by omega) fun r4 ys4 h5 hw5 hl5 hr4 ht4 _=> ?_
 obtain rfl:=ht3.uniq ht4
 simp only[go_sem]
 refine kSame_calls (hr3.isN.mono hl5) hr4.isN (by omega) ?_
 simp only[go_sem]
 refine wakes23_calls fun h6 hw6 hl6=> ?_
 simp only[go_sem]
 exact fun hw'=>hk h6 hw'
end
end
section
section
variable {k x:Nat} {va vb vl:AV} {xs0 ys0 ls0:List Nat} {h:H} {K:AV→H→Prop}
set_option maxRecDepth 100000 in
theorem PolypTimes_row (h:H) (avs:List AV) (_:h.wf) (r:ReadsAll Tryd.prog h [22,33,33,33] avs):ACalls Tryd.prog 5 avs h (fun r _=>r= .bool true):=by
 match avs,r with
 |[_,_,_,_],⟨r0,r1,r2,r3,_⟩=>
  obtain⟨p,rfl,hp⟩:=reads_u64 r0
  obtain⟨xs,h1,_,_⟩:=reads_words r1
  obtain⟨ys,h2,_,_⟩:=reads_words r2
  obtain⟨ls,h3,_,_⟩:=reads_words r3
  exact PolypTimes_law h1 h2 h3 fun _ _=>rfl
end
end
end Ab
end Go.Proofs.YtkbglkjpdndkiaaDoor
