/- Joined texts: X26 X27. No condition. -/
import Derived.Test.YtkbglkjpdndkiaaDoorZ8
namespace Go.Proofs.YtkbglkjpdndkiaaDoor
namespace Ab
open Go Go.RowKit
set_option linter.unusedSimpArgs false
set_option linter.unusedVariables false
attribute [local go_sem ↓] x_mv x_pick x_bin x_beq x_peq x_seq x_cat x_aeq x_idxS x_idxV x_un x_cvI x_bts x_idx x_idxA x_fld x_ld x_st x_nn x_prt x_slc x_mk x_bsl x_bld x_box x_alloc x_len x_capo x_mnx x_app x_cpy x_mkf x_ext x_call x_callV x_bad s_none s_some s_nil s_cons s_chks w_skip w_reg tP_fin tP_no tP_alt w_seq w_cond w_block w_exit w_ret t_normal t_exit t_ret b_normal b_ret b_exit n_normal n_exit n_ret p_normal p_ret f_nil f_t f_c k_ops k_chk k_fin
attribute [local go_sem] e_t e_c e_f u_some u_none u_at env_at k_v k_pick k_add k_sub k_mul k_quo k_rem k_and k_or k_xor k_shl k_shr k_eql k_neq k_lss k_leq k_gtr k_geq k_beq k_peqn k_peqs k_neg k_not k_com k_cvI k_idxS k_idxV1 k_idxVn k_idx k_idxA k_idxG k_ldG k_gld k_seq k_cat k_aeq k_eqs k_fld k_ld1 k_ldn k_get k_gets k_sti k_stb k_stp k_sts k_stf k_sta k_put k_nn k_prt1 k_prtn k_slc_a k_slc_b k_slc_c k_mk k_agg k_bsl k_box k_len k_lenS k_cap k_max k_min k_ext k_callV k_true k_false k_gtt k_gtf k_gft k_gsk k_gff k_lit1i k_lit2i k_lit3i k_c0 k_c1 k_ck List.getElem?_cons_zero List.getElem?_cons_succ List.getElem?_nil Option.getD_some Option.getD_none tupOf List.map_cons List.map_nil Option.map_some Option.map_none List.nil_append List.cons_append List.append_nil Nat.mul_one Int.toNat_natCast Nat.zero_add
attribute [local go_sem_proc] Nat.reduceEqDiff Nat.reduceAdd Int.reduceToNat
attribute [local go_sem_proc ↓] reduceIte
attribute [local go_sem] Bool.false_eq_true
section
section
variable {k:Nat} {va vb vl:AV} {xs0 ys0 ls0:List Nat} {h:H} {K:AV→H→Prop}
theorem PolypShifts_law {n:Int} (hv0:IsN h va xs0) (hk:∀h',h'.wf→K (.bool true) h'):ACalls Tryd.prog 4 [.int .u64 (k:Int),va, .int .i64 n] h K:=by
 refine in_law23_PolypShifts (by simp) fun hw=> ?_
 unfold c_law23_PolypShifts
 simp only[go_sem]
 refine Cut_calls (n:=30) hv0 fun a ha=> ?_
 have hlx:(xs0.take 30).length≤30:=by rw[List.length_take];omega
 generalize xs0.take 30=xs at*
 simp only[go_sem]
 refine ring_calls fun e p h1 hw1 hl1 hr hP=> ?_
 have hp0:0<p:=by have:=hP.1;omega
 simp only[go_sem,Option.isNone,Bool.false_bne]
 have ha:=ha.mono hl1
 refine Lend_calls ha (by omega) fun x h2 hw2 hl2 lx=> ?_
 have ha:=ha.mono hl2
 have hr:=hr.mono hl2
 simp only[go_sem]
 refine pShift_calls hr lx.isN (by omega) fun r1 ys1 h3 hw3 hl3 hr1 hyl1 ht1=> ?_
 simp only[go_sem]
 refine r3Shift_calls hp0 (ha.mono hl3) (by omega) fun r2 ys2 h4 hw4 hl4 hr2 ht2=> ?_
 obtain rfl:=ht1.uniq ht2
 simp only[go_sem]
 refine kSame_calls (hr1.mono hl4) hr2 (by omega) ?_
 simp only[go_sem]
 refine pCut_calls (hr.mono (H.le_trans hl3 hl4)) (lx.mono (H.le_trans hl3 hl4)).isN (by omega) fun m r3 ys3 h5 hm hw5 hl5 hr3 ht3 hyl3=> ?_
 simp only[go_sem]
 refine r3Cut_calls hp0 (ha.mono (H.le_trans hl3 (H.le_trans hl4 hl5))) (by omega) fun m' r4 ys4 h6 hm' hw6 hl6 hr4 ht4 _=> ?_
 obtain rfl:m=m':=by omega
 obtain rfl:=ht3.uniq ht4
 simp only[go_sem]
 refine kSame_calls (hr3.isN.mono hl6) hr4.isN (by omega) ?_
 simp only[go_sem]
 have l26:=(H.le_trans hl3 (H.le_trans hl4 (H.le_trans hl5 hl6)))
 refine Intact_calls (lx.mono l26) (ha.mono l26) (by omega) ?_
 simp only[go_sem]
 refine wakes23_calls fun h7 hw7 hl7=> ?_
 simp only[go_sem]
 exact fun hw'=>hk h7 hw'
theorem PolypValues_law (hv0:IsN h va xs0) (hu0:IsN h vb ys0) (hk:∀h',h'.wf→K (.bool true) h'):ACalls Tryd.prog 6 [.int .u64 (k:Int),va,vb] h K:=by
 refine in_law23_PolypValues (by simp) fun hw=> ?_
 unfold c_law23_PolypValues
 simp only[go_sem]
 refine Cut_calls (n:=30) hv0 fun a ha=> ?_
 simp only[go_sem]
 refine Cut_calls (n:=20) hu0 fun b hb=> ?_
 have hlx:(xs0.take 30).length≤30:=by rw[List.length_take];omega
 have hly:(ys0.take 20).length≤20:=by rw[List.length_take];omega
 generalize xs0.take 30=xs at*
 generalize ys0.take 20=ys at*
 simp only[go_sem]
 refine ring_calls fun e p h1 hw1 hl1 hr hP=> ?_
 have hp0:1<p:=by have:=hP.1;omega
 have hpB:=hP.2.1
 simp only[go_sem,Option.isNone,Bool.false_bne]
 have ha:=ha.mono hl1
 have hb:=hb.mono hl1
 refine pAt_calls hr ha hb (by omega) (by omega) fun r1 h2 hw2 hl2 hr1=> ?_
 have ha:=ha.mono hl2
 have hb:=hb.mono hl2
 have hr:=hr.mono hl2
 have hlv:(ys.map fun x=>val x xs%p).length=ys.length:=by simp
 obtain⟨ida,offa,ca,rfl⟩:=ha.form
 obtain⟨idb,offb,cb,rfl⟩:=hb.form
 obtain⟨id1,c1,rfl⟩:=hr1.form
 simp only[go_sem,hlv,neF (show(ys.length:Int)=ys.length from rfl)]
 rw[hlv] at hr1
 refine loop_cut (fun ρ h'=>h'=h2∧ρ 1= .sl ida offa xs.length ca∧ρ 7= .ptr (some (e,0))∧ρ 8= .int .u64 (p:Int)) ?_ ?_
 ·refine for_rule (fun j ρ h'=>j≤ys.length∧h'=h2∧ρ 1= .sl ida offa xs.length ca∧ρ 2= .sl idb offb ys.length cb∧ρ 7= .ptr (some (e,0))∧ρ 8= .int .u64 (p:Int)∧ρ 9= .sl id1 0 ys.length c1∧ρ 10= .int .i64 (j:Int)) ys.length ⟨by omega,rfl,by first|rfl|trivial|assumption,by first|rfl|trivial|assumption,by first|rfl|trivial|assumption,by first|rfl|trivial|assumption,by first|rfl|trivial|assumption,by first|rfl|trivial|assumption⟩ (fun i ρ h hI=>hI.1) ?_
  rintro j ρ h' ⟨hj,rfl,q1,q2,q7,q8,q9,q10⟩
  rcases Nat.lt_or_ge j ys.length with h3|h3
  ·obtain⟨ii,rfl,_,hg1⟩:=hr1.isN.at (j:=j) (by omega)
   obtain⟨jj,rfl,_,hg2⟩:=hb.at h3
   rw[Nat.zero_add,List.getElem_map] at hg1
   simp only[go_sem,q1,q2,q7,q8,q9,q10,ltT h3]
   refine⟨by omega,by omega, ?_⟩
   simp only[go_sem,hg1,q1,q2,q7,q8,q9,q10]
   refine⟨by omega,by omega, ?_⟩
   simp only[go_sem,hg1,hg2,q1,q2,q7,q8,q9,q10]
   refine r3At_calls (by omega) hpB ha (by omega) ?_
   simp only[go_sem,hg1,true_and,bne_self_eq_false,q1,q2,q7,q8,q9,q10,incI (i:=j) (by omega)]
   exact⟨by omega,by first|rfl|trivial|assumption⟩
  ·obtain rfl:j=ys.length:=by omega
   simp only[go_sem,q2,q10,ltF (Nat.le_refl ys.length)]
   exact⟨by first|rfl|trivial|assumption,q1,q7,q8⟩
 rintro ρ h' ⟨rfl,q1,q7,q8⟩
 simp only[go_sem,q1,q7,q8]
 refine pMonic_calls hr ha (by omega) (fun h3 hw3 hl3 ht=> ?_) (fun r ms zs c h3 hw3 hl3 hne hms hinv hz hzl hzt=> ?_)
 ·simp only[go_sem,q1,q7,q8]
  refine pDerive_calls (hr.mono hl3) (ha.mono hl3) (by omega) fun r2 ys2 h4 hw4 hl4 hr2 ht2 hyl2=> ?_
  have l24:=H.le_trans hl3 hl4
  simp only[go_sem,q1,q7,q8]
  refine r3Derive_calls (by omega) hpB (ha.mono l24) (by omega) fun r3 ys3 h5 hw5 hl5 hr3 ht3 _=> ?_
  obtain rfl:=ht2.uniq ht3
  have l25:=H.le_trans l24 hl5
  simp only[go_sem]
  refine kSame_calls (hr2.isN.mono hl5) hr3.isN (by omega) ?_
  simp only[go_sem,q1,q7,q8]
  refine r3Deg_calls (by omega) (ha.mono l25) (by omega) fun ds h6 hw6 hl6 hds=> ?_
  obtain rfl:=hds.uniq ht
  have l26:=H.le_trans l25 hl6
  simp only[go_sem,show decide ((((([]:List Nat).length:Nat):Int)-1)≥0)=false from rfl,show(false==false)=true from rfl,q1,q7,q8]
  refine r3Monic_calls hp0 hpB (ha.mono l26) (by omega) (fun h7 hw7 hl7 _=> ?_) (fun r ms zs c h7 hw7 hl7 hne hms _ _ _=>absurd (hms.uniq ht) hne)
  simp only[go_sem]
  refine kSame_calls (xs:=[]) (IsN.nil _ _) (IsN.nil _ _) (by simp) ?_
  simp only[go_sem]
  refine wakes23_calls fun h8 hw8 hl8=> ?_
  simp only[go_sem]
  exact fun hw'=>hk h8 hw'
 ·simp only[go_sem,q1,q7,q8]
  refine pDerive_calls (hr.mono hl3) (ha.mono hl3) (by omega) fun r2 ys2 h4 hw4 hl4 hr2 ht2 hyl2=> ?_
  have l24:=H.le_trans hl3 hl4
  simp only[go_sem,q1,q7,q8]
  refine r3Derive_calls (by omega) hpB (ha.mono l24) (by omega) fun r3 ys3 h5 hw5 hl5 hr3 ht3 _=> ?_
  obtain rfl:=ht2.uniq ht3
  have l25:=H.le_trans l24 hl5
  simp only[go_sem]
  refine kSame_calls (hr2.isN.mono hl5) hr3.isN (by omega) ?_
  simp only[go_sem,q1,q7,q8]
  refine r3Deg_calls (by omega) (ha.mono l25) (by omega) fun ds h6 hw6 hl6 hds=> ?_
  obtain rfl:=hds.uniq hms
  have l26:=H.le_trans l25 hl6
  have hdl:0<ds.length:=by
   rcases Nat.eq_zero_or_pos ds.length with h0|h0
   ·exact absurd (List.eq_nil_of_length_eq_zero h0) hne
   ·exact h0
  simp only[go_sem,show decide ((ds.length:Int)-1≥0)=true from decide_eq_true (by omega),show(true==true)=true from rfl,q1,q7,q8]
  refine r3Monic_calls hp0 hpB (ha.mono l26) (by omega) (fun h7 hw7 hl7 ht=>absurd (hms.uniq ht) hne) (fun r' ms' zs' c' h7 hw7 hl7 _ hms' hinv' hz' hzt'=> ?_)
  obtain rfl:=hms.uniq hms'
  obtain rfl:=hinv.uniq hinv'
  obtain rfl:=hzt.uniq hzt'
  simp only[go_sem]
  refine kSame_calls (hz.isN.mono (H.le_trans hl4 (H.le_trans hl5 (H.le_trans hl6 hl7)))) hz'.isN (by omega) ?_
  simp only[go_sem]
  refine wakes23_calls fun h8 hw8 hl8=> ?_
  simp only[go_sem]
  exact fun hw'=>hk h8 hw'
end
end
section
section
variable {k x:Nat} {va vb vl:AV} {xs0 ys0 ls0:List Nat} {h:H} {K:AV→H→Prop}
set_option maxRecDepth 100000 in
theorem PolypValues_row (h:H) (avs:List AV) (_:h.wf) (r:ReadsAll Tryd.prog h [22,33,33] avs):ACalls Tryd.prog 6 avs h (fun r _=>r= .bool true):=by
 match avs,r with
 |[_,_,_],⟨r0,r1,r2,_⟩=>
  obtain⟨p,rfl,hp⟩:=reads_u64 r0
  obtain⟨xs,h1,_,_⟩:=reads_words r1
  obtain⟨ys,h2,_,_⟩:=reads_words r2
  exact PolypValues_law h1 h2 fun _ _=>rfl
end
end
end Ab
end Go.Proofs.YtkbglkjpdndkiaaDoor
