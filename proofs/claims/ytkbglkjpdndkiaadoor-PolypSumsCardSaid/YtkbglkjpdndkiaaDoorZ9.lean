/- Joined texts: X26 X27. No condition. -/
import Derived.Test.YtkbglkjpdndkiaaDoorZ8
namespace Go.Proofs.YtkbglkjpdndkiaaDoor
namespace Ab
open Go Go.RowKit
set_option linter.unusedSimpArgs false
set_option linter.unusedVariables false
attribute [local go_sem ↓] x_mv x_pick x_bin x_beq x_peq x_seq x_cat x_aeq x_idxS x_idxV x_un x_cvI x_bts x_idx x_idxA x_fld x_ld x_st x_nn x_prt x_slc x_mk x_bsl x_bld x_box x_alloc x_len x_capo x_mnx x_app x_cpy x_mkf x_ext x_call x_callV x_bad s_none s_some s_nil s_cons s_chks w_skip w_reg tP_fin tP_no tP_alt w_seq w_cond w_block w_exit w_ret t_normal t_exit t_ret b_normal b_ret b_exit n_normal n_exit n_ret p_normal p_ret f_nil f_t f_c k_ops k_chk k_fin
attribute [local go_sem] e_t e_c e_f u_some u_none u_at env_at k_v k_pick k_add k_sub k_mul k_quo k_rem k_and k_or k_xor k_shl k_shr k_eql k_neq k_lss k_leq k_gtr k_geq k_beq k_peqn k_peqs k_neg k_not k_com k_cvI k_idxS k_idxV1 k_idxVn k_idx k_idxA k_idxG k_ldG k_gld k_seq k_cat k_aeq k_eqs k_fld k_ld1 k_ldn k_get k_gets k_sti k_stb k_stp k_sts k_stf k_sta k_put k_nn k_prt1 k_prtn k_slc_a k_slc_b k_slc_c k_mk k_agg k_bsl k_box k_len k_lenS k_cap k_max k_min k_ext k_callV k_true k_false k_gtt k_gtf k_gft k_gsk k_gff k_lit1i k_lit2i k_lit3i k_c0 k_c1 k_ck List.getElem?_cons_zero List.getElem?_cons_succ List.getElem?_nil Option.getD_some Option.getD_none tupOf List.map_cons List.map_nil Option.map_some Option.map_none List.nil_append List.cons_append List.append_nil Nat.mul_one Int.toNat_natCast Nat.zero_add
attribute [local go_sem_proc] Nat.reduceEqDiff Nat.reduceAdd Int.reduceToNat
attribute [local go_sem_proc ↓] reduceIte
attribute [local go_sem] Bool.false_eq_true
section
theorem IsG.own {b:Nat} {h:H} {v:AV} {xs:List Nat} (hv:IsG b h v xs):Own b h v:=by
 obtain⟨id,c,rfl,h1⟩:=hv
 refine⟨id,_,c,rfl, ?_⟩
 rcases h1 with⟨rfl,e⟩|⟨i,r,rfl,hb,hr,ho,hz,_⟩
 ·exact .inl ⟨rfl,by rw[e];rfl⟩
 ·exact .inr ⟨i,r,rfl,hb,hr,by rw[ho];simp,hz⟩
theorem two_rows {h:H} {T:TypeId} {va vb:AV} {xs ys:List Nat} (hw:h.wf) (ha:IsN h va xs) (hb:IsN h vb ys):IsA 1 IsNl (h.new ⟨some T,1,[va,vb]⟩) (.sl (some h.next) 0 2 (some 2)) [xs,ys]:=by
 have hl:=H.le_new hw (H.le_refl h) ⟨some T,1,[va,vb]⟩
 refine⟨[va,vb],⟨rfl,some h.next,0,some 2,rfl, .inr ⟨h.next,_,rfl,H.rows_new _ _, .inr rfl,by simp,rfl⟩⟩,rfl,fun j x hx=> ?_⟩
 rcases j with _|_|j
 ·simp at hx
  subst hx
  exact⟨va,rfl,ha.mono hl⟩
 ·simp at hx
  subst hx
  exact⟨vb,rfl,hb.mono hl⟩
 ·simp at hx
theorem bld2 {a b:AV} (ha:a.one=true) (hb:b.one=true):abuild (zs [.sl none 0 0 none] 2) [(0,1,a),(1,1,b)]=some [a,b]:=by
 cases a<;>simp[AV.one] at ha<;>cases b<;>simp[AV.one] at hb<;>rfl
theorem IsN.one {h:H} {v:AV} {xs:List Nat} (hv:IsN h v xs):v.one=true:=by
 obtain⟨_,_,_,rfl⟩:=hv.form
 rfl
theorem sumL_two {p:Nat} {xs ys:List Nat} (i:Nat):sumL p [xs,ys] [xs,ys].length i=(xs.getD i 0+ys.getD i 0)%p:=by
 show((([xs,ys].take 2).map fun l=>l.getD i 0).sum)%p=_
 simp
theorem diff_zero {p x y:Nat} (hp:0<p):(x%p+p-y%p)%p=0↔x%p=y%p:=by
 have h1:=Nat.mod_lt x hp
 have h2:=Nat.mod_lt y hp
 generalize x%p=a at*
 generalize y%p=b at*
 constructor
 ·intro h
  rcases Nat.lt_or_ge a b with h3|h3
  ·rw[Nat.mod_eq_of_lt (by omega)] at h
   omega
  ·rw[show a+p-b=a-b+p by omega,Nat.add_mod_right,Nat.mod_eq_of_lt (by omega)] at h
   omega
 ·intro h
  rw[h,Nat.add_sub_cancel_left,Nat.mod_self]
section
variable {k:Nat} {va vb vl:AV} {xs0 ys0 ls0:List Nat} {h:H} {K:AV→H→Prop}
set_option maxHeartbeats 1000000 in
theorem PolypSums_law {c:Nat} (hv0:IsN h va xs0) (hu0:IsN h vb ys0) (hk:∀h',h'.wf→K (.bool true) h'):ACalls Tryd.prog 7 [.int .u64 (k:Int),va,vb, .int .u64 (c:Int)] h K:=by
 refine in_law23_PolypSums (by simp) fun hw=> ?_
 unfold c_law23_PolypSums
 simp only[go_sem]
 refine Cut_calls (n:=40) hv0 fun a ha=> ?_
 simp only[go_sem]
 refine Cut_calls (n:=40) hu0 fun b hb=> ?_
 have hlx:(xs0.take 40).length≤40:=by rw[List.length_take];omega
 have hly:(ys0.take 40).length≤40:=by rw[List.length_take];omega
 generalize xs0.take 40=xs at*
 generalize ys0.take 40=ys at*
 simp only[go_sem]
 refine ring_calls fun e p h1 hw1 hl1 hr hP=> ?_
 have hp0:0<p:=by have:=hP.1;omega
 have hpB:=hP.2.1
 simp only[go_sem,Option.isNone,Bool.false_bne]
 refine Lend_calls (ha.mono hl1) (by omega) fun x h2 hw2 hl2 lx=> ?_
 simp only[go_sem]
 refine Lend_calls (hb.mono (H.le_trans hl1 hl2)) (by omega) fun y h3 hw3 hl3 ly=> ?_
 have lx:=lx.mono hl3
 have ha:=ha.mono (H.le_trans hl1 (H.le_trans hl2 hl3))
 have hb:=hb.mono (H.le_trans hl1 (H.le_trans hl2 hl3))
 have hr:=hr.mono (H.le_trans hl2 hl3)
 simp only[go_sem,bld2 lx.isN.one ly.isN.one]
 have hl4:=H.le_new hw3 (H.le_refl h3) ⟨some 33,1,[x,y]⟩
 refine pPlus_calls (hr.mono hl4) (two_rows hw3 lx.isN ly.isN) (by simp) (by simp;omega) fun s ss h5 hw5 hl5 hs hst hsl=> ?_
 have l35:=H.le_trans hl4 hl5
 have hst:=hst.congr sumL_two
 have hsl:ss.length≤40:=Nat.le_trans hsl (mxL_bound _ 0 (Nat.zero_le _) (by simp;omega))
 have hs:IsG h3.next h5 s ss:=hs.base (by have:=hl4.1;omega)
 simp only[go_sem]
 refine r3Add_calls hp0 hpB (ha.mono l35) (hb.mono l35) (by omega) (by omega) fun r1 ys1 h6 hw6 hl6 hr1 ht1 _=> ?_
 obtain rfl:=hst.uniq ht1
 simp only[go_sem]
 refine kSame_calls (hs.isN.mono hl6) hr1.isN (by omega) ?_
 have l36:=H.le_trans l35 hl6
 simp only[go_sem,Bool.not_true]
 refine pMinus_calls (hr.mono l36) (lx.mono l36).isN (ly.mono l36).isN (by omega) (by omega) fun r2 ys2 h7 hw7 hl7 hr2 ht2 hyl2=> ?_
 have l37:=H.le_trans l36 hl7
 simp only[go_sem]
 refine r3Sub_calls hp0 hpB (ha.mono l37) (hb.mono l37) (by omega) (by omega) fun r3 ys3 h8 hw8 hl8 hr3 ht3 _=> ?_
 obtain rfl:=ht2.uniq ht3
 simp only[go_sem]
 refine kSame_calls (hr2.isN.mono hl8) hr3.isN (by omega) ?_
 have l38:=H.le_trans l37 hl8
 simp only[go_sem,Bool.not_true]
 refine pScale_calls (hr.mono l38) (lx.mono l38).isN (by omega) fun r4 ys4 h9 hw9 hl9 hr4 ht4 hyl4=> ?_
 have l39:=H.le_trans l38 hl9
 simp only[go_sem]
 refine r3Scale_calls hp0 hpB (ha.mono l39) (by omega) fun r5 ys5 h10 hw10 hl10 hr5 ht5 _=> ?_
 obtain rfl:=ht4.uniq ht5
 simp only[go_sem]
 refine kSame_calls (hr4.isN.mono hl10) hr5.isN (by omega) ?_
 have l310:=H.le_trans l39 hl10
 simp only[go_sem,Bool.not_true]
 refine pNorm_calls (hr.mono l310) (lx.mono l310).isN (by omega) fun r6 ys6 h11 hw11 hl11 hr6 ht6 hyl6=> ?_
 have l311:=H.le_trans l310 hl11
 simp only[go_sem]
 refine r3Norm_calls hp0 (ha.mono l311) (by omega) fun r7 ys7 h12 hw12 hl12 hr7 ht7 _=> ?_
 obtain rfl:=ht6.uniq ht7
 simp only[go_sem]
 refine kSame_calls (hr6.isN.mono hl12) hr7.isN (by omega) ?_
 have l512:=(H.le_trans hl6 (H.le_trans hl7 (H.le_trans hl8 (H.le_trans hl9 (H.le_trans hl10 (H.le_trans hl11 hl12))))))
 have l312:=H.le_trans l311 hl12
 simp only[go_sem,Bool.not_true]
 refine Spoil_calls (hs.mono l512).own fun h13 hw13 hka _=> ?_
 have l313:=hka h3 hw3 l312 (Nat.le_refl _)
 simp only[go_sem]
 refine pNorm_calls (hr.mono l313) (lx.mono l313).isN (by omega) fun r8 ys8 h14 hw14 hl14 hr8 ht8 _=> ?_
 simp only[go_sem]
 refine Spoil_calls hr8.own fun h15 hw15 hka2 _=> ?_
 have l315:=H.le_trans l313 (hka2 h13 hw13 hl14 (Nat.le_refl _))
 simp only[go_sem]
 refine r3Sub_calls hp0 hpB (ha.mono l315) (hb.mono l315) (by omega) (by omega) fun r9 ys9 h16 hw16 hl16 hr9 ht9 _=> ?_
 obtain⟨i9,c9,rfl⟩:=hr9.form
 have l316:=H.le_trans l315 hl16
 simp only[go_sem]
 refine pDeg_calls (hr.mono l316) (lx.mono l316).isN (by omega) fun ds hds=> ?_
 simp only[go_sem]
 refine r3Deg_calls hp0 (ha.mono l316) (by omega) fun ds' h17 hw17 hl17 hds'=> ?_
 obtain rfl:=hds.uniq hds'
 have l317:=H.le_trans l316 hl17
 simp only[go_sem,beq_self_eq_true]
 refine pSame_calls (hr.mono l317) (lx.mono l317).isN (ly.mono l317).isN (by omega) (by omega) fun q hq=> ?_
 have eq:(q==((ys9.length:Int)==0))=true:=by
  have h5:(∀i,xs.getD i 0%p=ys.getD i 0%p)↔ys9.length=0:=by
   constructor
   ·intro h6
    have:=ht9.uniq (TrimF.nil fun i=>(diff_zero hp0).2 (h6 i))
    rw[this]
    rfl
   ·intro h6 i
    have:=ht9.1 i
    rw[getD_out (by omega)] at this
    exact(diff_zero hp0).1 this.symm
  have h6:q=true↔ys9.length=0:=hq.trans h5
  cases q
  ·have:ys9.length≠0:=fun h7=>by have:=h6.2 h7;cases this
   rw[eqF (show(ys9.length:Int)≠0 by omega)]
   rfl
  ·have:ys9.length=0:=h6.1 rfl
   rw[this]
   rfl
 simp only[go_sem,eq]
 refine Intact_calls (lx.mono l317) (ha.mono l317) (by omega) ?_
 simp only[go_sem]
 refine Intact_calls (ly.mono l317) (hb.mono l317) (by omega) ?_
 simp only[go_sem]
 refine wakes23_calls fun h18 hw18 hl18=> ?_
 simp only[go_sem]
 exact fun hw'=>hk h18 hw'
end
end
section
section
variable {k x:Nat} {va vb vl:AV} {xs0 ys0 ls0:List Nat} {h:H} {K:AV→H→Prop}
set_option maxRecDepth 100000 in
theorem PolypSums_row (h:H) (avs:List AV) (_:h.wf) (r:ReadsAll Tryd.prog h [22,33,33,22] avs):ACalls Tryd.prog 7 avs h (fun r _=>r= .bool true):=by
 match avs,r with
 |[_,_,_,_],⟨r0,r1,r2,r3,_⟩=>
  obtain⟨p,rfl,hp⟩:=reads_u64 r0
  obtain⟨xs,h1,_,_⟩:=reads_words r1
  obtain⟨ys,h2,_,_⟩:=reads_words r2
  obtain⟨c,rfl,_⟩:=reads_u64 r3
  exact PolypSums_law h1 h2 fun _ _=>rfl
end
end
end Ab
end Go.Proofs.YtkbglkjpdndkiaaDoor
