/- Joined texts: J1 J2 I1 J6. No condition. -/
import Derived.Test.YtdfpgoppcflpjaaGreatDoorZ14
import Derived.Test.YtdfpgoppcflpjaaGreatDoorProg
import Derived.KernelRfl
namespace Go.Proofs.YtdfpgoppcflpjaaGreatDoor
namespace Ab
open Go Go.RowKit
set_option linter.unusedSimpArgs false
set_option linter.unusedVariables false
attribute [local go_sem ↓] x_mv x_pick x_bin x_beq x_peq x_seq x_cat x_aeq x_idxS x_idxV x_un x_cvI x_idx x_idxA x_fld x_ld x_st x_nn x_prt x_slc x_mk x_bsl x_bld x_box x_alloc x_len x_capo x_mnx x_app x_cpy x_mkf x_ext x_call x_callV x_bad s_none s_some s_nil s_cons s_chks w_skip w_reg tP_fin tP_no tP_alt w_seq w_cond w_block w_exit w_ret t_normal t_exit t_ret b_normal b_ret b_exit n_normal n_exit n_ret p_normal p_ret f_nil f_t f_c k_ops k_chk k_fin
attribute [local go_sem] e_t e_c e_f u_some u_none u_at env_at k_v k_pick k_add k_sub k_mul k_quo k_rem k_and k_or k_xor k_shl k_shr k_eql k_neq k_lss k_leq k_gtr k_geq k_beq k_peqn k_peqs k_neg k_not k_com k_cvI k_idxS k_idxV1 k_idxVn k_idx k_idxA k_idxG k_ldG k_gld k_seq k_cat k_aeq k_eqs k_fld k_ld1 k_ldn k_get k_gets k_sti k_stb k_stp k_sts k_stf k_sta k_put k_nn k_prt1 k_prtn k_slc_a k_slc_b k_slc_c k_mk k_agg k_bsl k_box k_len k_lenS k_cap k_max k_min k_ext k_callV k_true k_false k_gtt k_gtf k_gft k_gsk k_gff k_lit1i k_lit2i k_lit3i k_c0 k_c1 k_ck List.getElem?_cons_zero List.getElem?_cons_succ List.getElem?_nil Option.getD_some Option.getD_none tupOf List.map_cons List.map_nil Option.map_some Option.map_none List.nil_append List.cons_append List.append_nil Nat.mul_one Int.toNat_natCast Nat.zero_add
attribute [local go_sem] e_t e_c e_f u_some u_none u_at env_at k_v k_pick k_add k_sub k_mul k_quo k_rem k_and k_or k_xor k_shl k_shr k_eql k_neq k_lss k_leq k_gtr k_geq k_beq k_peqn k_peqs k_neg k_not k_com k_cvI k_idxS k_idxV1 k_idxVn k_idx k_idxA k_idxG k_ldG k_gld k_seq k_cat k_aeq k_eqs k_fld k_ld1 k_ldn k_get k_gets k_sti k_stb k_stp k_sts k_stf k_sta k_put k_nn k_prt1 k_prtn k_slc_a k_slc_b k_slc_c k_mk k_agg k_bsl k_box k_len k_lenS k_cap k_max k_min k_ext k_callV k_true k_false k_gtt k_gtf k_gft k_gsk k_gff k_lit1i k_lit2i k_lit3i k_c0 k_c1 k_ck List.getElem?_cons_zero List.getElem?_cons_succ List.getElem?_nil Option.getD_some Option.getD_none tupOf List.map_cons List.map_nil Option.map_some Option.map_none List.nil_append List.cons_append List.append_nil Nat.mul_one Int.toNat_natCast Nat.zero_add
--what a store into a cell of two leaves
attribute [local go_sem_proc] Nat.reduceEqDiff Nat.reduceAdd Int.reduceToNat
attribute [local go_sem_proc ↓] reduceIte
attribute [local go_sem] Bool.false_eq_true
section
theorem H.le_over {u:Nat} {a b c:H} (hw:a.wf) (h1:a.le b) (hu:a.next≤u) (h2:H.lee u b c):a.le c:=
 ⟨Nat.le_trans h1.1 h2.1,fun i r e=>h2.2 i r (by have:=H.row_lt hw e;omega) (h1.2 i r e)⟩
theorem by_quot {a d v k:Nat} (h1:v*d≤k):a*v/k*d≤a:=by
 rcases Nat.eq_zero_or_pos k with h0|h0
 ·subst h0;simp
 ·have h2:a*v/k*d*k≤a*k:=by
   have h3:a*v/k*k≤a*v:=Nat.div_mul_le_self _ _
   calc a*v/k*d*k=a*v/k*k*d:=by ac_rfl
    _≤a*v*d:=Nat.mul_le_mul_right _ h3
    _=a*(v*d):=Nat.mul_assoc _ _ _
    _≤a*k:=Nat.mul_le_mul_left _ h1
  exact Nat.le_of_mul_le_mul_right h2 h0
section
variable {e u m nw dp a d v n:Nat} {t:Tb} {va vd vv:AV} {h:H} {K:AV→H→Prop}
theorem By0_calls {n:Int} (nd:Nn h vd 0) (hk:h.wf→K (.tup [.sl none 0 0 none, .sl none 0 0 none, .int .i64 2]) h):ACalls Tryz.prog 35 [.ptr (some (e,0)),va,vd,vv, .int .i64 n] h K:=by
 refine in_recip_Engine_By (by simp) fun hw=> ?_
 unfold c_recip_Engine_By
 simp only[go_sem]
 refine Zero_calls nd ?_
 rw[show decide ((0:Nat)=0)=true from rfl]
 simp only[go_sem]
 exact hk
set_option maxHeartbeats 1000000 in
theorem By_calls (he:Eng 6 h e u) (ht:Tune h u m nw dp t) (na:Nn h va a) (nd:Nn h vd d) (nv:Nn h vv v) (wa:wlen a≤4000) (wd:wlen d≤4000) (wv:wlen v≤8000) (hd:0<d) (hn:n≤200000) (hnw:nw≤600000000)
  (hk1:¬(v*d≤2^n∧2^n-v*d<d∧a≤2^n)→∀h' m' dp',h'.wf→H.lee u h h'→Tune h' u m' nw dp' t→K (.tup [.sl none 0 0 none, .sl none 0 0 none, .int .i64 1]) h')
  (hk:v*d≤2^n→2^n-v*d<d→a≤2^n→∀q r h' m' dp',h'.wf→H.lee u h h'→Tune h' u m' nw dp' t→Nf h.next h' q (a/d)→Nf h.next h' r (a%d)→K (.tup [q,r, .int .i64 0]) h'):
  ACalls Tryz.prog 35 [.ptr (some (e,0)),va,vd,vv, .int .i64 (n:Int)] h K:=by
 have ba:Big a:=wbig wa (by omega)
 have bd:Big d:=wbig wd (by omega)
 have bv:Big v:=wbig wv (by omega)
 have bp:Big (v*d):=mul_big wv wd (by omega)
 have b2:Big (2^n):=bits_big (b:=n+1) (Nat.pow_lt_pow_right (by omega) (by omega)) (by omega)
 refine in_recip_Engine_By (by simp) fun hw=> ?_
 unfold c_recip_Engine_By
 obtain⟨f,rfl,rfl,G,E⟩:=Eng.path ht he
 have hu:=H.row_lt hw ht
 have l0:=H.lee_refl (f 6) h
 simp only[go_sem]
 refine Zero_calls nd ?_
 simp only[go_sem,decide_eq_false (show¬d=0 by omega),show decide ((n:Int)<0)=false from decide_eq_false (by omega),show decide ((n:Int)>1048576)=false from decide_eq_false (by omega),G 0 (by omega) _ l0,G 1 (by omega) _ l0]
 refine power_calls (n:=n) (by omega) fun p h1 hw1 hl1 hp=> ?_
 have l1:H.lee (f 6) h h1:=hl1.lee
 simp only[go_sem,G 0 (by omega) _ l1,G 1 (by omega) _ l1,true_and]
 refine Mul2_calls ((E 2 (by omega)).monoE ht l1) (ht.mono hl1) (nv.mono hl1) (nd.mono hl1) (by omega) (by omega) (by omega) fun q h2 m2 dp2 hw2 hl2 ht2 _ hq=> ?_
 have l02:=l1.trans hl2
 have hu1:f 6<h1.next:=Nat.lt_of_lt_of_le hu hl1.1
 have hp2:=hp.monoE hu hl2
 simp only[go_sem]
 refine lSub_calls (hp2.nn b2) (hq.nn bp) (fun hlt _=> ?_) fun hle left h3 hw3 hl3 hleft=> ?_
 ·simp only[go_sem,Bool.not_false]
  exact fun hw'=>hk1 (by omega) h2 m2 dp2 hw' l02 ht2
 have l03:=l02.trans hl3.lee
 have bl:Big (2^n-v*d):=b2.le (Nat.sub_le _ _)
 simp only[go_sem,Bool.not_true]
 refine lCmp_calls (hleft.nn bl) (nd.monoE' ht l03) ?_
 rcases Nat.lt_or_ge (2^n-v*d) d with c1|c1
 rotate_left
 ·simp only[go_sem,show decide (cmpI (2^n-v*d) d≥0)=true by unfold cmpI;rw[if_neg (by omega)];split<;>rfl]
  exact fun hw'=>hk1 (by omega) h3 m2 dp2 hw' l03 (ht2.mono hl3)
 simp only[go_sem,show decide (cmpI (2^n-v*d) d≥0)=false by unfold cmpI;rw[if_pos c1];rfl]
 refine power_calls (n:=n) (by omega) fun p' h4 hw4 hl4 hp'=> ?_
 have l04:=l03.trans hl4.lee
 simp only[go_sem]
 refine lCmp_calls (na.monoE' ht l04) (hp'.nn b2) ?_
 rcases Nat.lt_or_ge (2^n) a with c2|c2
 ·simp only[go_sem,show decide (0<cmpI a (2^n))=true by unfold cmpI;rw[if_neg (by omega),if_neg (by omega)];rfl]
  exact fun hw'=>hk1 (by omega) h4 m2 dp2 hw' l04 ((ht2.mono hl3).mono hl4)
 have ht4:=(ht2.mono hl3).mono hl4
 simp only[go_sem,show decide (0<cmpI a (2^n))=false by unfold cmpI;split;rfl;rw[if_pos (by omega)];rfl,G 0 (by omega) _ l04,G 1 (by omega) _ l04]
 refine Mul2_calls ((E 2 (by omega)).monoE ht l04) ht4 (na.monoE' ht l04) (nv.monoE' ht l04) (by omega) (by omega) (by omega) fun x h5 m5 dp5 hw5 hl5 ht5 _ hx=> ?_
 have l05:=l04.trans hl5
 have bx:Big (a*v):=mul_big wa wv (by omega)
 simp only[go_sem]
 refine lShr_calls (hx.nn bx) (by omega) fun y h6 hw6 hl6 hy=> ?_
 have l06:=l05.trans hl6.lee
 have hQ:=by_quot (a:=a) (d:=d) (v:=v) (k:=2^n) hle
 have bQ0:a*v/2^n≤a:=Nat.le_trans (Nat.le_mul_of_pos_right _ hd) hQ
 have wQ:wlen (a*v/2^n)≤4000:=Nat.le_trans (wlen_mono bQ0) wa
 generalize a*v/2^n=Q at*
 have bQ:Big Q:=ba.le bQ0
 have bQd:Big (Q*d):=ba.le hQ
 simp only[go_sem,G 0 (by omega) _ l06,G 1 (by omega) _ l06]
 refine Mul2_calls ((E 2 (by omega)).monoE ht l06) (ht5.mono hl6) (hy.nn bQ) (nd.monoE' ht l06) (by omega) (by omega) (by omega) fun z h7 m7 dp7 hw7 hl7 ht7 _ hz=> ?_
 have l07:=l06.trans hl7
 have hy7:=hy.monoE (Nat.lt_of_lt_of_le hu l05.1) hl7
 simp only[go_sem]
 refine lSub_calls (na.monoE' ht l07) (hz.nn bQd) (fun hc=>absurd hc (by omega)) fun _ r h8 hw8 hl8 hr=> ?_
 have l08:=l07.trans hl8.lee
 have hy8:=(hy7.mono hl8).base l05.1
 have nd8:=nd.monoE' ht l08
 have hb0':h.next≤h8.next:=l08.1
 have hb7:h.next≤h7.next:=l07.1
 simp only[go_sem]
 refine loop_cut (fun ρ h'=>h'.wf∧h8.le h'∧Nf h.next h' (ρ 10) (a/d)∧Nf h.next h' (ρ 11) (a%d)) ?_ ?_
 ·refine⟨fun s ρ h'=>h'.wf∧h8.le h'∧ρ 2=vd∧∃Q',Nf h.next h' (ρ 10) Q'∧Nf h.next h' (ρ 11) s∧a=Q'*d+s,a-Q*d,⟨hw8,H.le_refl _,by first|rfl|trivial|assumption,Q,hy8,hr.base hb7,by omega⟩, ?_⟩
  rintro s ρ h9 ⟨hw9,hl9,q2,Q',hQ',hs,hinv⟩
  have hQa:Q'≤a:=by
   have:=Nat.le_mul_of_pos_right Q' hd
   omega
  simp only[go_sem,q2]
  refine lCmp_calls (hs.nn (ba.le (by omega))) (nd8.mono hl9) ?_
  rcases Nat.lt_or_ge s d with hc|hc
  ·have hdd:decide (cmpI s d≥0)=false:=by unfold cmpI;rw[if_pos hc];rfl
   have e1:a/d=Q':=by
    rw[hinv,Nat.mul_comm,Nat.mul_add_div hd,Nat.div_eq_of_lt hc,Nat.add_zero]
   have e2:a%d=s:=by
    rw[hinv,Nat.mul_comm,Nat.mul_add_mod,Nat.mod_eq_of_lt hc]
   simp only[go_sem,q2,hdd]
   exact⟨hw9,hl9,by rw[e1];exact hQ',by rw[e2];exact hs⟩
  ·have hdd:decide (cmpI s d≥0)=true:=by
    unfold cmpI
    rw[if_neg (by omega)]
    split<;>rfl
   simp only[go_sem,q2,hdd]
   refine lSub_calls (hs.nn (ba.le (by omega))) (nd8.mono hl9) (fun h=>absurd h (by omega)) fun _ s' hA hwA hlA hs'=> ?_
   simp only[go_sem,q2]
   refine One_calls (x:=1) (by decide) fun o hB hwB hlB ho=> ?_
   simp only[go_sem,q2]
   refine lAdd_calls ((hQ'.nn (ba.le hQa)).mono (H.le_trans hlA hlB)) (ho.nn (word_big (by decide))) fun q' hC hwC hlC hq'=> ?_
   have hb6:=hl9.1
   have hbA:=hlA.1
   have hbB:=hlB.1
   simp only[go_sem,q2]
   refine⟨s-d,by omega,hwC,(H.le_trans hl9 (H.le_trans hlA (H.le_trans hlB hlC))),by first|rfl|trivial|assumption,Q'+1,hq'.base (by omega),(hs'.mono (H.le_trans hlB hlC)).base (by omega), ?_⟩
   rw[Nat.add_mul,Nat.one_mul]
   omega
 ·rintro ρ h9 ⟨hw9,hl9,hQ9,hR9⟩
  simp only[go_sem]
  exact fun hw'=>hk hle c1 c2 _ _ h9 _ _ hw' (l08.trans hl9.lee) ((ht7.mono hl8).mono hl9) hQ9 hR9
end
end
section
theorem two_big {n:Nat} (hn:n≤1048576):Big (2^n):=bits_big (b:=n+1) (Nat.pow_lt_pow_right (by omega) (by omega)) (by omega)
section
variable {va vb:AV} {x y n:Nat} {h:H} {K:AV→H→Prop}
theorem from14_calls (hv:Nn h va x) (hk:∀r h',h'.wf→h.le h'→Num 4294967296 h' r x→K r h'):ACalls Tryz.prog 27 [va] h K:=by
 obtain⟨xs,h1,h2,h3,rfl⟩:=hv
 refine in_law14_from (by simp) fun hw=> ?_
 unfold c_law14_from
 simp only[go_sem]
 refine From_calls h1 h2 (by omega) fun r h' hw' hl' hr=> ?_
 simp only[go_sem]
 exact fun _=>hk r h' hw' hl' hr
theorem power14_calls (hn:n≤1048576) (hk:∀r h',h'.wf→h.le h'→Num 4294967296 h' r (2^n)→K r h'):ACalls Tryz.prog 26 [.int .i64 (n:Int)] h K:=by
 refine in_law14_power (by simp) fun hw=> ?_
 unfold c_law14_power
 simp only[go_sem]
 refine Small_calls (x:=1) (by decide) fun r h1 hw1 hl1 hr=> ?_
 simp only[go_sem]
 refine rShl_calls hr (word_big (by decide)) hn fun s h2 hw2 hl2 hs=> ?_
 rw[Nat.one_mul] at hs
 simp only[go_sem]
 exact fun _=>hk s h2 hw2 (H.le_trans hl1 hl2) hs
theorem wakes14_calls (hk:∀h',h'.wf→h.le h'→K (.bool true) h'):ACalls Tryz.prog 24 [] h K:=by
 refine in_law14_wakes (by simp) fun hw=> ?_
 unfold c_law14_wakes
 have e1:∀l:List AV,abuild l []=some l:=fun l=>by simp[abuild]
 simp only[go_sem,e1]
 refine rNew_calls (t:=⟨0,0,0,0,0,0,0,0,0,0,0⟩) fun e u h1 hw1 hl1 hn1 hue he ht=> ?_
 simp only[go_sem,Bool.false_bne,Option.isNone]
 have hl2:=H.le_new hw1 (H.le_refl h1) ⟨some 47,1,[AV.int .u64 3]⟩
 have d2:Dig [3]:=Dig.one (by omega)
 refine Recip_calls (n:=4) (d:=val 18446744073709551616 [3]) (he.mono hl2) (ht.mono hl2) ((IsN.lit [3] _ rfl rfl).nn d2 (by simp)) (by decide) (by decide) (by omega) (by omega) fun v h3 m3 dp3 hw3 hl3 ht3 _ hv=> ?_
 rw[show 2^4/val 18446744073709551616 [3]=5 by decide] at hv
 obtain⟨vs,hv1,hv2,hv3,hv4⟩:=hv
 have hvl:vs=[5]:=top_inj hv2 (Dig.one (by omega)) hv3 (fun z hz=>by simp at hz;omega) (by rw[hv4];decide)
 subst hvl
 have hl03:=H.le_over hw (H.le_trans hl1 hl2) hn1 hl3
 simp only[go_sem,beq_self_eq_true]
 have hl4:=H.le_new hw3 (H.le_refl h3) ⟨some 47,1,[AV.int .u64 5]⟩
 refine kSame_calls (xs:=[5]) (hv1.isN.mono hl4) (IsN.lit [5] _ rfl rfl) (by simp) ?_
 simp only[go_sem]
 exact fun hw'=>hk _ hw' (H.le_trans hl03 hl4)
end
section
variable {t:Tb} {va vb:AV} {xs0 ys0:List Nat} {h:H} {K:AV→H→Prop}
set_option maxHeartbeats 1000000 in
theorem RecipBys_law {n:Int} {turn:Nat} (hturn:turn<18446744073709551616) (ha0:IsN h va xs0) (hx0:Dig xs0) (hd0:IsN h vb ys0) (hy0:Dig ys0) (hk:∀h',h'.wf→K (.bool true) h'):ACalls Tryz.prog 6 [t.av,va,vb, .int .i64 n, .int .u64 (turn:Int)] h K:=by
 refine in_law14_RecipBys (by simp) fun hw=> ?_
 unfold c_law14_RecipBys
 have hl0:=H.le_new hw (H.le_refl h) ⟨some 23,11,t.cells⟩
 have hr0:=H.rows_new h ⟨some 23,11,t.cells⟩
 simp only[go_sem,av_held,av_cells,cells_len,true_and]
 generalize hg:h.new ⟨some 23,11,t.cells⟩=g0 at*
 refine Cut_calls (n:=24) (ha0.mono hl0) fun a ha=> ?_
 simp only[go_sem]
 refine Cut_calls (n:=16) (hd0.mono hl0) fun b hb=> ?_
 have hxd:Dig (xs0.take 24):=Dig.take hx0 24
 have hxl:(xs0.take 24).length≤24:=by simp;omega
 have hyd:Dig (ys0.take 16):=Dig.take hy0 16
 have hyl:(ys0.take 16).length≤16:=by simp;omega
 generalize xs0.take 24=xs at*
 generalize ys0.take 16=ys at*
 simp only[go_sem,gsT hr0]
 refine rNew_calls fun e u g1 hw1 hl1 hn1 hue he ht=> ?_
 have na:=(ha.mono hl1).nn hxd (by omega)
 have nd:=(hb.mono hl1).nn hyd (by omega)
 have wa:wlen (val 18446744073709551616 xs)≤24:=Nat.le_trans (wlen_len hxd) hxl
 have wd:wlen (val 18446744073709551616 ys)≤16:=Nat.le_trans (wlen_len hyd) hyl
 clear ha hb ha0 hd0 hxd hyd hxl hyl hx0 hy0
 generalize val 18446744073709551616 xs=x at*
 generalize val 18446744073709551616 ys=d at*
 have bx:Big x:=wbig wa (by omega)
 have bd:Big d:=wbig wd (by omega)
 simp only[go_sem,Option.isNone,Bool.false_bne]
 refine Within_calls (n:=2000) (by omega) (by omega) fun k hk2 _=> ?_
 have b2:Big (2^k):=two_big (by omega)
 simp only[go_sem]
 refine Zero_calls nd ?_
 rcases Nat.eq_zero_or_pos d with h0|h0
 ·subst h0
  rw[show decide ((0:Nat)=0)=true from rfl]
  simp only[go_sem]
  refine By0_calls nd fun hw3=> ?_
  simp only[go_sem,beq_self_eq_true]
  refine wakes14_calls fun g5 hw5 hl5=> ?_
  simp only[go_sem]
  exact fun _=>hk g5 hw5
 simp only[go_sem,decide_eq_false (show¬d=0 by omega)]
 refine Recip_calls he ht nd h0 (by omega) (by omega) (by omega) fun v g2 m2 dp2 hw2 hl2 ht2 _ hv=> ?_
 have hle:=Nat.div_mul_le_self (2^k) d
 have hlt:=Nat.lt_div_mul_add (a:=2^k) h0
 have bq:Big (2^k/d):=b2.le (Nat.div_le_self _ _)
 have wq:wlen (2^k/d)≤33:=Nat.le_trans (wlen_mono (Nat.div_le_self _ _)) (Nat.le_trans (wlen_two (Nat.le_refl _)) (by omega))
 generalize 2^k/d=q at*
 have na2:=na.monoE' ht hl2
 have nd2:=nd.monoE' ht hl2
 have he2:=he.monoE ht hl2
 have hu2:=H.row_lt hw2 ht2
 simp only[go_sem,show((0:Int) !=0)=false from rfl]
 refine By_calls he2 ht2 na2 nd2 (hv.nn bq) (by omega) (by omega) (by omega) h0 (by omega) (by omega) (fun hno g3 m3 dp3 hw3 hl3 ht3=> ?_) (fun _ _ hax q1 r1 g3 m3 dp3 hw3 hl3 ht3 hq1 hr1=> ?_)
 ·have hxk:2^k<x:=by omega
  simp only[go_sem]
  refine from14_calls (na2.monoE' ht2 hl3) fun f1 g4 hw4 hl4 n1=> ?_
  simp only[go_sem]
  refine power14_calls (n:=k) (by omega) fun w g5 hw5 hl5 nw=> ?_
  simp only[go_sem]
  refine Cmp_calls (n1.mono hl5) nw bx b2 ?_
  simp only[go_sem,show decide (0<cmpI x (2^k))=true by unfold cmpI;rw[if_neg (by omega),if_neg (by omega)];rfl,beq_self_eq_true,eqT (show((0:Nat):Int)=0 from rfl)]
  refine wakes14_calls fun g5 hw5 hl5=> ?_
  simp only[go_sem]
  exact fun _=>hk g5 hw5
 have na3:=na2.monoE' ht2 hl3
 have nd3:=nd2.monoE' ht2 hl3
 have he3:=he2.monoE ht2 hl3
 have nv3:=(hv.nn bq).monoE' ht2 hl3
 simp only[go_sem]
 refine from14_calls na3 fun f1 g4 hw4 hl4 n1=> ?_
 simp only[go_sem]
 refine power14_calls (n:=k) (by omega) fun w g5 hw5 hl5 nw=> ?_
 simp only[go_sem]
 refine Cmp_calls (n1.mono hl5) nw bx b2 ?_
 have l35:=(H.le_trans hl4 hl5)
 simp only[go_sem,show decide (0<cmpI x (2^k))=false by unfold cmpI;split;rfl;rw[if_pos (by omega)];rfl]
 refine from14_calls (na3.mono l35) fun f2 g6 hw6 hl6 n2=> ?_
 simp only[go_sem]
 refine from14_calls (nd3.mono (H.le_trans l35 hl6)) fun f3 g7 hw7 hl7 n3=> ?_
 simp only[go_sem]
 refine DivMod_calls (n2.mono hl7) n3 bx bd h0 fun qq rr g8 hw8 hl8 nq nr=> ?_
 have l38:=(H.le_trans l35 (H.le_trans hl6 (H.le_trans hl7 hl8)))
 simp only[go_sem,show((0:Int) !=0)=false from rfl]
 refine rSame_calls nq (bx.le (Nat.div_le_self _ _)) (hq1.nt.mono l38) fun g9 hw9 hl9=> ?_
 simp only[go_sem,Bool.not_true]
 refine rSame_calls (nr.mono hl9) (bd.le (Nat.le_of_lt (Nat.mod_lt _ h0))) (hr1.nt.mono (H.le_trans l38 hl9)) fun g10 hw10 hl10=> ?_
 have l310:=(H.le_trans l38 (H.le_trans hl9 hl10))
 simp only[go_sem,Bool.not_true]
 refine from14_calls (nv3.mono l310) fun f4 g11 hw11 hl11 n4=> ?_
 simp only[go_sem]
 refine Small_calls (x:=turn) hturn fun f5 g12 hw12 hl12 n5=> ?_
 simp only[go_sem]
 refine Add_calls (n4.mono hl12) n5 bq (word_big hturn) fun f6 g13 hw13 hl13 n6=> ?_
 have bqt:Big (q+turn):=by
  have h1:=wlen_le.1 wq
  have h4:18446744073709551616^34=18446744073709551616^33*18446744073709551616:=Nat.pow_succ ..
  exact lt_bigW (k:=34) (by omega) (by omega)
 have wqt:wlen (q+turn)≤34:=by
  have h1:=wlen_le.1 wq
  have h4:18446744073709551616^34=18446744073709551616^33*18446744073709551616:=Nat.pow_succ ..
  exact wlen_le.2 (by omega)
 simp only[go_sem]
 refine To_calls n6 bqt fun w' g14 hw14 hl14 nw'=> ?_
 have l314:=(H.le_trans l310 (H.le_trans hl11 (H.le_trans hl12 (H.le_trans hl13 hl14))))
 simp only[go_sem]
 rcases Nat.eq_zero_or_pos turn with hz|hz
 ·subst hz
  refine By_calls (he3.mono l314) (ht3.mono l314) (na3.mono l314) (nd3.mono l314) (nw'.nn bqt) (by omega) (by omega) (by omega) h0 (by omega) (by omega) (fun hno g3 m3 dp3 hw3 hl3 ht3=> ?_) (fun _ _ hax q1 r1 g15 m15 dp15 hw15 hl15 ht15 hq15 hr15=> ?_)
  ·exact absurd ⟨hle,by omega,hax⟩ hno
  ·simp only[go_sem,beq_self_eq_true,show(((0:Nat):Int)==0)=true from rfl]
   refine wakes14_calls fun g5 hw5 hl5=> ?_
   simp only[go_sem]
   exact fun _=>hk g5 hw5
 ·refine By_calls (he3.mono l314) (ht3.mono l314) (na3.mono l314) (nd3.mono l314) (nw'.nn bqt) (by omega) (by omega) (by omega) h0 (by omega) (by omega) (fun hno g15 m15 dp15 hw15 hl15 ht15=> ?_) (fun ha1 ha2 hax q1 r1 g15 m15 dp15 hw15 hl15 ht15 hq15 hr15=> ?_)
  ·simp only[go_sem,show((1:Int)==0)=false from rfl,show(((turn:Nat):Int)==0)=false by simp;omega,beq_self_eq_true]
   refine wakes14_calls fun g5 hw5 hl5=> ?_
   simp only[go_sem]
   exact fun _=>hk g5 hw5
  ·exfalso
   have h1:(q+1)*d≤(q+turn)*d:=Nat.mul_le_mul_right _ (by omega)
   rw[Nat.add_mul,Nat.one_mul] at h1
   omega
end
set_option maxRecDepth 100000 in
theorem RecipBys_row (h:H) (avs:List AV) (_:h.wf) (r:ReadsAll Tryz.prog h [23,24,24,3,47] avs):ACalls Tryz.prog 6 avs h (fun r _=>r= .bool true):=by
 match avs,r with
 |[_,_,_,_,_],⟨r0,r1,r2,r3,r4,_⟩=>
  obtain⟨t0,rfl⟩:=reads_table r0
  obtain⟨xs,h1,hx,_⟩:=reads_words r1
  obtain⟨ys,h2,hy,_⟩:=reads_words r2
  obtain⟨n,rfl,_⟩:=reads_i64 r3
  obtain⟨w,rfl,hw⟩:=reads_u64 r4
  exact RecipBys_law hw h1 hx h2 hy fun _ _=>rfl
end
def sg (b:Bool) (x:Nat):Int:=if b=true then-(x:Int) else(x:Int)
theorem g2 {h:H} {i:Nat} {T:Option TypeId} {a b:AV} (hr:h.rows i=some ⟨T,2,[a,b]⟩):h.get i 0=some a∧h.get i 1=some b∧h.gets i 0 2=some [a,b]:=by
 rw[H.get_of hr,H.get_of hr,H.gets_of hr (by simp)]
 exact⟨rfl,rfl,rfl⟩
def Kp (b u:Nat) (h h':H):Prop:=h.next≤h'.next∧∀j r,j≠u→(j<b∨r.own=some 47)→h.rows j=some r→h'.rows j=some r
end Ab
end Go.Proofs.YtdfpgoppcflpjaaGreatDoor
