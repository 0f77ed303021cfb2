/- Joined texts: X9 X11. No condition. -/
import Derived.Test.YtkbglkjpdndkiaaGreatDoorZ15
namespace Go.Proofs.YtkbglkjpdndkiaaGreatDoor
namespace Ab
open Go Go.RowKit
set_option linter.unusedSimpArgs false
set_option linter.unusedVariables false
attribute [local go_sem ↓] x_mv x_pick x_bin x_beq x_peq x_seq x_cat x_aeq x_idxS x_idxV x_un x_cvI x_bts x_idx x_idxA x_fld x_ld x_st x_nn x_prt x_slc x_mk x_bsl x_bld x_box x_alloc x_len x_capo x_mnx x_app x_cpy x_mkf x_ext x_call x_callV x_bad s_none s_some s_nil s_cons s_chks w_skip w_reg tP_fin tP_no tP_alt w_seq w_cond w_block w_exit w_ret t_normal t_exit t_ret b_normal b_ret b_exit n_normal n_exit n_ret p_normal p_ret f_nil f_t f_c k_ops k_chk k_fin
attribute [local go_sem] e_t e_c e_f u_some u_none u_at env_at k_v k_pick k_add k_sub k_mul k_quo k_rem k_and k_or k_xor k_shl k_shr k_eql k_neq k_lss k_leq k_gtr k_geq k_beq k_peqn k_peqs k_neg k_not k_com k_cvI k_idxS k_idxV1 k_idxVn k_idx k_idxA k_idxG k_ldG k_gld k_seq k_cat k_aeq k_eqs k_fld k_ld1 k_ldn k_get k_gets k_sti k_stb k_stp k_sts k_stf k_sta k_put k_nn k_prt1 k_prtn k_slc_a k_slc_b k_slc_c k_mk k_agg k_bsl k_box k_len k_lenS k_cap k_max k_min k_ext k_callV k_true k_false k_gtt k_gtf k_gft k_gsk k_gff k_lit1i k_lit2i k_lit3i k_c0 k_c1 k_ck List.getElem?_cons_zero List.getElem?_cons_succ List.getElem?_nil Option.getD_some Option.getD_none tupOf List.map_cons List.map_nil Option.map_some Option.map_none List.nil_append List.cons_append List.append_nil Nat.mul_one Int.toNat_natCast Nat.zero_add
attribute [local go_sem] e_t e_c e_f u_some u_none u_at env_at k_v k_pick k_add k_sub k_mul k_quo k_rem k_and k_or k_xor k_shl k_shr k_eql k_neq k_lss k_leq k_gtr k_geq k_beq k_peqn k_peqs k_neg k_not k_com k_cvI k_idxS k_idxV1 k_idxVn k_idx k_idxA k_idxG k_ldG k_gld k_seq k_cat k_aeq k_eqs k_fld k_ld1 k_ldn k_get k_gets k_sti k_stb k_stp k_sts k_stf k_sta k_put k_nn k_prt1 k_prtn k_slc_a k_slc_b k_slc_c k_mk k_agg k_bsl k_box k_len k_lenS k_cap k_max k_min k_ext k_callV k_true k_false k_gtt k_gtf k_gft k_gsk k_gff k_lit1i k_lit2i k_lit3i k_c0 k_c1 k_ck List.getElem?_cons_zero List.getElem?_cons_succ List.getElem?_nil Option.getD_some Option.getD_none tupOf List.map_cons List.map_nil Option.map_some Option.map_none List.nil_append List.cons_append List.append_nil Nat.mul_one Int.toNat_natCast Nat.zero_add
--what a store into a cell of two leaves
attribute [local go_sem_proc] Nat.reduceEqDiff Nat.reduceAdd Int.reduceToNat
attribute [local go_sem_proc ↓] reduceIte
attribute [local go_sem] Bool.false_eq_true
section
section
variable {t:Tb} {va vb wc:AV} {bc:Bool} {ps0 qs0:List (Bool×List Nat)} {cs0:List Nat} {h:H} {K:AV→H→Prop}
theorem IsA.zt {T:TypeId} {b c W:Nat} {v:AV} {zs:List Int} (hv:Live T 2 b (ZbL c W) h v zs):IsA 2 ZtL h v zs:=(hv.isA ZbL.grows).imp fun _ _ hx=>hx.zt
set_option maxHeartbeats 1000000 in
theorem PolyzHands_law (hv0:IsA 2 IsI h va ps0) (hl0:ps0.length≤maxLen) (hu0:IsA 2 IsI h vb qs0) (hm0:qs0.length≤maxLen) (hk:∀h',h'.wf→K (.bool true) h'):ACalls Tryz.prog 3 [t.av,va,vb] h K:=by
 refine in_law28_PolyzHands (by simp) fun hw=> ?_
 unfold c_law28_PolyzHands
 have hmx:maxLen≤9223372036854775807:=by decide
 have hlA:=H.le_new hw (H.le_refl h) ⟨some 23,11,t.cells⟩
 have hr0:=H.rows_new h ⟨some 23,11,t.cells⟩
 simp only[go_sem,av_held,av_cells,cells_len,true_and]
 generalize hg:h.new ⟨some 23,11,t.cells⟩=g0 at*
 refine cut28_calls (k:=12) (n:=4) (hv0.mono IsI.grows hlA) (by omega) (by omega) (by omega) fun a x ps ys1 h1 hw1 hl1 _ hpl _ haw hx htx hyl1 hsa hsx=> ?_
 simp only[go_sem]
 refine cut28_calls (k:=12) (n:=4) ((hu0.mono IsI.grows hlA).mono IsI.grows hl1) (by omega) (by omega) (by omega) fun b y qs ys2 h2 hw2 hl2 _ hql _ hbw hy hty hyl2 _ _=> ?_
 have haw:=haw.mono ZwL.grows hl2
 have hx:=hx.mono ZqL.grows hl2
 have hr0:=hl1.2 _ _ hr0
 have hr0:=hl2.2 _ _ hr0
 have hpl2:(ps.map zI).length≤12:=by rw[List.length_map];exact hpl
 have hql2:(qs.map zI).length≤12:=by rw[List.length_map];exact hql
 generalize ps.map zI=zs at*
 generalize qs.map zI=ws at*
 simp only[go_sem,gsT hr0]
 refine pzNew_calls fun e u h3 hw3 hl3 hn3 hue he ht=> ?_
 simp only[go_sem,Option.isNone,Bool.true_bne,Bool.not_false]
 refine zrMulP_calls (hx.mono ZqL.grows hl3) (hy.mono ZqL.grows hl3) (by omega) (by omega) (by omega) (by omega) fun r1 m1 h4 hw4 hl4 hr1 ht1 hm1=> ?_
 have l34:=H.le_trans hl3 hl4
 simp only[go_sem]
 refine zHand_calls (he.mono hl4) (ht.mono hl4) (haw.mono ZwL.grows l34) (hbw.mono ZwL.grows l34) (by omega) (by omega) (by omega) (by omega) (by omega) fun r2 us ws' m2 h5 s5 hr2 htu htw ht2 hm2=> ?_
 obtain rfl:=htu.uniq htx
 obtain rfl:=htw.uniq hty
 obtain rfl:=ht1.uniq ht2
 simp only[go_sem]
 refine zSame28_calls (by omega) (s5.zq (ht.mono hl4) hr1) (IsA.zt hr2) (by omega) fun h6 hw6 hl6=> ?_
 simp only[go_sem]
 refine wakes28_calls fun h7 hw7 hl7=> ?_
 simp only[go_sem]
 exact fun hw'=>hk h7 hw'
end
end
section
section
variable {t:Tb} {va vb wc:AV} {bc ev:Bool} {ps0 qs0:List (Bool×List Nat)} {cs0:List Nat} {h:H} {K:AV→H→Prop}
set_option maxRecDepth 100000 in
theorem PolyzHands_row (h:H) (avs:List AV) (_:h.wf) (r:ReadsAll Tryz.prog h [23,24,24] avs):ACalls Tryz.prog 3 avs h (fun r _=>r= .bool true):=by
 match avs,r with
 |[_,_,_],⟨r0,r1,r2,_⟩=>
  obtain⟨t0,rfl⟩:=reads_table r0
  obtain⟨ps,h1,h1l⟩:=reads_wholes r1
  obtain⟨qs,h2,h2l⟩:=reads_wholes r2
  exact PolyzHands_law h1 h1l h2 h2l fun _ _=>rfl
end
end
end Ab
end Go.Proofs.YtkbglkjpdndkiaaGreatDoor
