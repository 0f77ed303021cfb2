/- Joined texts: U5 U6 U7 Y1 W1 W2 W3 W4 W5 W6. No condition. -/
import Derived.Test.YtnlkbdmmoplkoaaGreatDoorZ12
namespace Go.Proofs.YtnlkbdmmoplkoaaGreatDoor
namespace Ab
open Go Go.RowKit
set_option linter.unusedSimpArgs false
set_option linter.unusedVariables false
attribute [local go_sem ↓] x_mv x_pick x_bin x_beq x_peq x_seq x_cat x_aeq x_idxS x_idxV x_un x_cvI x_bts x_idx x_idxA x_fld x_ld x_st x_nn x_prt x_slc x_mk x_bsl x_bld x_box x_alloc x_len x_capo x_mnx x_app x_cpy x_mkf x_ext x_call x_callV x_bad s_none s_some s_nil s_cons s_chks w_skip w_reg tP_fin tP_no tP_alt w_seq w_cond w_block w_exit w_ret t_normal t_exit t_ret b_normal b_ret b_exit n_normal n_exit n_ret p_normal p_ret f_nil f_t f_c k_ops k_chk k_fin
attribute [local go_sem] e_t e_c e_f u_some u_none u_at env_at k_v k_pick k_add k_sub k_mul k_quo k_rem k_and k_or k_xor k_shl k_shr k_eql k_neq k_lss k_leq k_gtr k_geq k_beq k_peqn k_peqs k_neg k_not k_com k_cvI k_idxS k_idxV1 k_idxVn k_idx k_idxA k_idxG k_ldG k_gld k_seq k_cat k_aeq k_eqs k_fld k_ld1 k_ldn k_get k_gets k_sti k_stb k_stp k_sts k_stf k_sta k_put k_nn k_prt1 k_prtn k_slc_a k_slc_b k_slc_c k_mk k_agg k_bsl k_box k_len k_lenS k_cap k_max k_min k_ext k_callV k_true k_false k_gtt k_gtf k_gft k_gsk k_gff k_lit1i k_lit2i k_lit3i k_c0 k_c1 k_ck List.getElem?_cons_zero List.getElem?_cons_succ List.getElem?_nil Option.getD_some Option.getD_none tupOf List.map_cons List.map_nil Option.map_some Option.map_none List.nil_append List.cons_append List.append_nil Nat.mul_one Int.toNat_natCast Nat.zero_add
attribute [local go_sem] e_t e_c e_f u_some u_none u_at env_at k_v k_pick k_add k_sub k_mul k_quo k_rem k_and k_or k_xor k_shl k_shr k_eql k_neq k_lss k_leq k_gtr k_geq k_beq k_peqn k_peqs k_neg k_not k_com k_cvI k_idxS k_idxV1 k_idxVn k_idx k_idxA k_idxG k_ldG k_gld k_seq k_cat k_aeq k_eqs k_fld k_ld1 k_ldn k_get k_gets k_sti k_stb k_stp k_sts k_stf k_sta k_put k_nn k_prt1 k_prtn k_slc_a k_slc_b k_slc_c k_mk k_agg k_bsl k_box k_len k_lenS k_cap k_max k_min k_ext k_callV k_true k_false k_gtt k_gtf k_gft k_gsk k_gff k_lit1i k_lit2i k_lit3i k_c0 k_c1 k_ck List.getElem?_cons_zero List.getElem?_cons_succ List.getElem?_nil Option.getD_some Option.getD_none tupOf List.map_cons List.map_nil Option.map_some Option.map_none List.nil_append List.cons_append List.append_nil Nat.mul_one Int.toNat_natCast Nat.zero_add
--what a store into a cell of two leaves
attribute [local go_sem_proc] Nat.reduceEqDiff Nat.reduceAdd Int.reduceToNat
attribute [local go_sem_proc ↓] reduceIte
attribute [local go_sem] Bool.false_eq_true
section
def TwoOK (e u:Nat) (t:Tb) (N:Nat) (h0:H):Prop:=
 ∀(h1:H) (m nw dp a b:Nat) (va vb:AV) (K:AV→H→Prop),H.lee u h0 h1→Tune h1 u m nw dp t→Nn h1 va a→Nn h1 vb b→a<b*18446744073709551616^N→18446744073709551616^N≤2*b→b<18446744073709551616^N→nw+N+2≤700000000→
  (∀q r h' m' dp',h'.wf→H.lee u h1 h'→Tune h' u m' nw dp' t→Sp m dp m' dp' nw (8*(N*N)) (lev N+1)→Nf h1.next h' q (a/b)→Nf h1.next h' r (a%b)→K (.tup [q,r]) h')→
  ACalls Tryz.prog 152 [.ptr (some (e,0)),va,vb, .int .i64 (N:Int)] h1 K
theorem quot_math {a b q r p:Nat} (h:a+p=q*b+r) (h1:p≤r) (h2:r<p+b):a/b=q∧a%b=r-p:=by
 have e:a=(r-p)+b*q:=by rw[Nat.mul_comm b q];omega
 have hb:0<b:=by omega
 have h3:r-p<b:=by omega
 constructor
 ·rw[e,Nat.add_mul_div_left _ _ hb,Nat.div_eq_of_lt h3,Nat.zero_add]
 ·rw[e,Nat.add_mul_mod_self_left,Nat.mod_eq_of_lt h3]
theorem three_pieces {a b X b0 b1 low rest:Nat} (hb0:b0=b%X) (hb1:b1=b/X) (hl:low=a%X) (hr:rest=a/X) {Q R:Nat} (h:Q*b1+R=rest):a+Q*b0=Q*b+(low+X*R):=by
 have e1:=Nat.div_add_mod b X
 have e2:=Nat.div_add_mod a X
 rw[←hb0,←hb1] at e1
 rw[←hl,←hr,←h] at e2
 rw[←e2,←e1,Nat.mul_add,Nat.mul_add]
 have:X*(Q*b1)=Q*(X*b1):=by ac_rfl
 omega
theorem big_pow {x n:Nat} (h:x<18446744073709551616^n) (hn:n≤400000):Big x:=lt_bigW h hn
theorem mul_lt_pow {x y n k:Nat} (hx:x<18446744073709551616^n) (hy:y≤18446744073709551616^k):x*y<18446744073709551616^(n+k):=by
 rw[Nat.pow_add]
 exact Nat.mul_lt_mul_of_lt_of_le hx hy (Nat.pow_pos oM)
section
variable {e u m nw dp a b N:Nat} {t:Tb} {va vb:AV} {h:H} {K:AV→H→Prop}
theorem three_pre {η a b b0 b1 low rest:Nat} (hlo:18446744073709551616^(2*η)≤2*b) (hhi:b<18446744073709551616^(2*η)) (hab:a<b*18446744073709551616^η) (hb0:b0=b%18446744073709551616^η) (hb1:b1=b/18446744073709551616^η) (hl:low=a%18446744073709551616^η) (hr:rest=a/18446744073709551616^η):
  b0<18446744073709551616^η∧b1<18446744073709551616^η∧18446744073709551616^η≤2*b1+1∧low<18446744073709551616^η∧rest<b∧b1*18446744073709551616^η≤b∧1≤18446744073709551616^η∧rest/18446744073709551616^η≤b1:=by
 have hX:0<18446744073709551616^η:=Nat.pow_pos oM
 have e2:18446744073709551616^(2*η)=18446744073709551616^η*18446744073709551616^η:=by rw[←Nat.pow_add];congr 1;omega
 rw[e2] at hlo hhi
 have hdm:=Nat.div_add_mod b (18446744073709551616^η)
 have m1:=Nat.mod_lt b hX
 have m2:=Nat.mod_lt a hX
 have hrest:a/18446744073709551616^η<b:=(Nat.div_lt_iff_lt_mul hX).2 hab
 have hb1':b/18446744073709551616^η<18446744073709551616^η:=(Nat.div_lt_iff_lt_mul hX).2 hhi
 have hle:b/18446744073709551616^η*18446744073709551616^η≤b:=Nat.div_mul_le_self b _
 generalize 18446744073709551616^η=X at*
 subst hb0 hb1 hl hr
 refine⟨m1,hb1', ?_,m2,hrest,hle,hX,Nat.div_le_div_right (Nat.le_of_lt hrest)⟩
 rcases Nat.lt_or_ge (2*(b/X)+1) X with h|h
 ·exfalso
  have h1:2*b<X*(2*(b/X)+2):=by
   have:X*(2*(b/X)+2)=2*(X*(b/X))+2*X:=by rw[Nat.mul_add,←Nat.mul_assoc,Nat.mul_comm X 2,Nat.mul_assoc]
   omega
  have h2:X*(2*(b/X)+2)≤X*X:=Nat.mul_le_mul_left _ oM
  omega
 ·exact h
theorem three_even {η b1:Nat} (hη:1≤η) (h:18446744073709551616^η≤2*b1+1):18446744073709551616^η≤2*b1:=by
 obtain⟨k,rfl⟩:∃k,η=k+1:=⟨η-1,oM⟩
 have:18446744073709551616^(k+1)=2*(18446744073709551616^k*9223372036854775808):=by rw[Nat.pow_succ];omega
 omega
set_option maxHeartbeats 1000000 in
theorem three_calls2 {η:Nat} (he:Eng 7 h e u) (ht:Tune h u m nw dp t) (na:Nn h va a) (nb:Nn h vb b) (hη:1≤η) (hη2:η≤16000) (hab:a<b*18446744073709551616^η) (hlo:18446744073709551616^(2*η)≤2*b) (hhi:b<18446744073709551616^(2*η)) (hnw:nw+η+2≤700000000) (htwo:TwoOK e u t η h)
  (hk:∀q r h' m' dp',h'.wf→H.lee u h h'→Tune h' u m' nw dp' t→Sp m dp m' dp' nw (16*(η*η)) (lev η+1)→Nf h.next h' q (a/b)→Nf h.next h' r (a%b)→K (.tup [q,r]) h'):
  ACalls Tryz.prog 177 [.ptr (some (e,0)),va,vb, .int .i64 (η:Int)] h K:=by
 refine in_div_Engine_three sM fun hw=> ?_
 unfold c_div_Engine_three
 obtain⟨f,rfl,rfl,G,E⟩:=Eng.path ht he
 have hu:=H.row_lt hw ht
 have wb:wlen b≤2*η:=wlen_le.2 hhi
 have wa:wlen a≤3*η:=wlen_le.2 (by
  have:=mul_lt_pow hhi (Nat.le_refl (18446744073709551616^η))
  rw[show 2*η+η=3*η by omega] at this
  exact Nat.lt_trans hab this)
 simp only[go_sem]
 refine Split_calls nb oM oM fun v0 v1 h1 hw1 hl1 hb0 hb1=> ?_
 simp only[go_sem]
 refine Split_calls (na.mono hl1) oM oM fun vl vr h2 hw2 hl2 hlow hrest=> ?_
 obtain⟨p1,p2,p3,p4,p5,p6,p7,p8⟩:=three_pre hlo hhi hab rfl rfl rfl rfl
 have p3:=three_even hη p3
 have tp:= @three_pieces a b (18446744073709551616^η) _ _ _ _ rfl rfl rfl rfl
 have wr:wlen (a/18446744073709551616^η)≤2*η:=Nat.le_trans (wlen_mono (Nat.le_of_lt p5)) wb
 have hr1:a/18446744073709551616^η/18446744073709551616^η*18446744073709551616^η≤a/18446744073709551616^η:=Nat.div_mul_le_self _ _
 have hdv:=Nat.div_add_mod (a/18446744073709551616^η) (18446744073709551616^η)
 have hm4:=Nat.mod_lt (a/18446744073709551616^η) (show 0<18446744073709551616^η by omega)
 generalize b%18446744073709551616^η=b0 at*
 generalize b/18446744073709551616^η=b1 at*
 generalize a%18446744073709551616^η=low at*
 generalize a/18446744073709551616^η=rest at*
 simp only[go_sem]
 refine Split_calls (hrest.nn (wbig wr oM)) oM oM fun vr0 vh h3 hw3 hl3 hr0 hhigh=> ?_
 have l23:=hl3
 have hb0:=hb0.mono (H.le_trans hl2 hl3)
 have hb1:=hb1.mono (H.le_trans hl2 hl3)
 have hlow:=hlow.mono hl3
 have hrest:=hrest.mono hl3
 have l03:=(H.le_trans hl1 (H.le_trans hl2 hl3))
 have ht3:=ht.mono l03
 have bb0:Big b0:=big_pow p1 oM
 have bb1:Big b1:=big_pow p2 oM
 have blow:Big low:=big_pow p4 oM
 have brest:Big rest:=wbig wr oM
 have hub0:=Nat.lt_of_lt_of_le hu hl1.1
 have hub1:=Nat.lt_of_lt_of_le hub0 hl2.1
 simp only[go_sem]
 refine lCmp_calls (hhigh.nn (brest.le (Nat.div_le_self _ _))) (hb1.nn bb1) ?_
 simp only[go_sem]
 refine cond_cut (fun ρ' h'=>h'.wf∧H.lee (f 7) h3 h'∧ρ' 0= .ptr (some (f 0,0))∧ρ' 2=vb∧ρ' 3= .int .i64 (η:Int)∧ρ' 10=v0∧ρ' 12=vl∧∃Q R m' dp',Nf h3.next h' (ρ' 8) Q∧Nf h3.next h' (ρ' 9) R∧Q*b1+R=rest∧Q<18446744073709551616^η∧R<2*18446744073709551616^η∧low+18446744073709551616^η*R<Q*b0+b∧Tune h' (f 7) m' nw dp' t∧Sp m dp m' dp' nw (8*(η*η)) (lev η+1)) ?_ ?_
 ·rcases Nat.lt_or_ge (rest/18446744073709551616^η) b1 with hc|hc
  ·have hlt:rest<b1*18446744073709551616^η:=(Nat.div_lt_iff_lt_mul oM).1 hc
   rw[show decide (cmpI (rest/18446744073709551616^η) b1<0)=true by unfold cmpI;rw[if_pos hc];rfl]
   simp only[go_sem]
   refine htwo h3 _ _ _ rest b1 _ _ _ l03.lee ht3 (hrest.nn brest) (hb1.nn bb1) hlt p3 p2 hnw fun q r h4 m4 dp4 hw4 hl4 ht4 hsp hq hr=> ?_
   have hb1p:0<b1:=by omega
   have hm:=Nat.mod_lt rest hb1p
   have hq2:rest/b1<18446744073709551616^η:=(Nat.div_lt_iff_lt_mul hb1p).2 (by rw[Nat.mul_comm];exact hlt)
   simp only[go_sem]
   refine⟨hw4,hl4,tR,tR,tR,tR,tR,rest/b1,rest%b1,m4,dp4,hq,hr, ?_,hq2,oM, ?_,ht4,hsp⟩
   ·rw[Nat.mul_comm];exact Nat.div_add_mod _ _
   ·have h5:low+18446744073709551616^η*(rest%b1)<18446744073709551616^η*(rest%b1+1):=by rw[Nat.mul_add,Nat.mul_one];omega
    have h6:18446744073709551616^η*(rest%b1+1)≤18446744073709551616^η*b1:=Nat.mul_le_mul_left _ hm
    rw[Nat.mul_comm (18446744073709551616^η) b1] at h6
    omega
  ·have hcd:decide (cmpI (rest/18446744073709551616^η) b1<0)=false:=by
    unfold cmpI
    rw[if_neg oM]
    split<;>rfl
   have hge:b1*18446744073709551616^η≤rest:=Nat.le_trans (Nat.mul_le_mul_right _ hc) hr1
   rw[hcd]
   simp only[go_sem]
   refine One_calls (x:=1) dM fun o1 h4 hw4 hl4 ho1=> ?_
   simp only[go_sem,lit2a (show(AV.sl none 0 0 none).one=true from rfl) ho1.one]
   refine Join2_calls hw4 (Nn.nil _) (ho1.nn (word_big dM)) (word_big (x:=0) dM) (word_big dM) oM fun vt h5 hw5 hl5 hvt=> ?_
   rw[Nat.zero_add,Nat.mul_one] at hvt
   simp only[go_sem]
   refine One_calls (x:=1) dM fun o2 h6 hw6 hl6 ho2=> ?_
   have bX:Big (18446744073709551616^η):=big_pow (n:=η+1) (Nat.pow_lt_pow_right oM oM) oM
   simp only[go_sem]
   refine lSub_calls ((hvt.nn bX).mono hl6) (ho2.nn (word_big dM)) (fun h=>absurd h oM) fun _ q h7 hw7 hl7 hq=> ?_
   have l37:=(H.le_trans hl4 (H.le_trans hl5 (H.le_trans hl6 hl7)))
   simp only[go_sem]
   refine lAdd_calls ((hrest.nn brest).mono l37) ((hb1.nn bb1).mono l37) fun vs h8 hw8 hl8 hvs=> ?_
   have hb18:=hb1.mono (H.le_trans l37 hl8)
   simp only[go_sem,lit2a (show(AV.sl none 0 0 none).one=true from rfl) hb18.one]
   refine Join2_calls hw8 (Nn.nil _) (hb18.nn bb1) (word_big (x:=0) dM) bb1 oM fun vm h9 hw9 hl9 hvm=> ?_
   rw[Nat.zero_add,Nat.mul_comm] at hvm
   have bm:Big (b1*18446744073709551616^η):=brest.le hge
   have bs:Big (rest+b1):=big_pow (n:=2*η+1) (by
    have h8:18446744073709551616^(2*η+1)=18446744073709551616^(2*η)*18446744073709551616:=Nat.pow_succ ..
    have h9:b1≤b:=Nat.le_trans (Nat.le_mul_of_pos_right b1 oM) p6
    omega) oM
   simp only[go_sem]
   refine lSub_calls ((hvs.nn bs).mono hl9) (hvm.nn bm) (fun h=>absurd h oM) fun _ r h10 hw10 hl10 hr=> ?_
   have l310:=(H.le_trans l37 (H.le_trans hl8 (H.le_trans hl9 hl10)))
   have hn37:=l37.1
   simp only[go_sem]
   have hR:rest+b1-b1*18446744073709551616^η<2*18446744073709551616^η:=by
    have h1:rest<b1*18446744073709551616^η+18446744073709551616^η:=by
     have h3:18446744073709551616^η*(rest/18446744073709551616^η)≤18446744073709551616^η*b1:=Nat.mul_le_mul_left _ p8
     rw[Nat.mul_comm (18446744073709551616^η) b1] at h3
     omega
    omega
   have e1:(18446744073709551616^η-1)*b1+(rest+b1-b1*18446744073709551616^η)=rest:=by
    have h1:(18446744073709551616^η-1)*b1=b1*18446744073709551616^η-b1:=by rw[Nat.sub_mul,Nat.one_mul,Nat.mul_comm]
    have h2:b1≤b1*18446744073709551616^η:=Nat.le_mul_of_pos_right b1 oM
    omega
   refine⟨hw10,l310.lee,tR,tR,tR,tR,tR,18446744073709551616^η-1,rest+b1-b1*18446744073709551616^η,m,dp,(hq.mono (H.le_trans hl8 (H.le_trans hl9 hl10))).base (by have:=hl4.1;have:=hl5.1;have:=hl6.1;omega),hr.base (by have:=hl8.1;have:=hl9.1;omega),e1,oM,hR, ?_,ht3.mono l310,(Sp.refl m dp nw 0 0).le (Nat.zero_le _) (Nat.zero_le _)⟩
   have h5:=tp e1
   have h6:(18446744073709551616^η-1)*b=b*18446744073709551616^η-b:=by rw[Nat.sub_mul,Nat.one_mul,Nat.mul_comm]
   have h7:b≤b*18446744073709551616^η:=Nat.le_mul_of_pos_right b oM
   omega
 rintro ρ h4 ⟨hw4,hl4,q0,q2,q3,q10,q12,Q,R,m4,dp4,hQ,hR,hQR,hQl,hRl,hfin,ht4,hsp4⟩
 have bQ:Big Q:=big_pow hQl oM
 have bR:Big R:=big_pow (n:=η+1) (by
  have h8:18446744073709551616^(η+1)=18446744073709551616^η*18446744073709551616:=Nat.pow_succ ..
  omega) oM
 have l04:H.lee (f 7) h h4:=l03.lee.trans hl4
 have hl4n:=hl4.1
 have hb04:=hb0.monoE hu hl4
 have hlow4:=hlow.monoE hub0 hl4
 have nb4:=nb.monoE' ht l04
 have hu4:f 7<h3.next:=Nat.lt_of_lt_of_le hu l03.1
 have hu5:f 7<h4.next:=Nat.lt_of_lt_of_le hu4 hl4n
 simp only[go_sem,q0,q2,q3,q10,q12,lit2a hlow4.one hR.one]
 refine Join2_calls hw4 (hlow4.nn blow) (hR.nn bR) blow bR oM fun w9 h5 hw5 hl5 hw9=> ?_
 have l05:H.lee (f 7) h h5:=l04.trans hl5.lee
 have ht5:=ht4.mono hl5
 simp only[go_sem,q0,q2,q3,q10,q12,G 0 oM _ l05,G 1 oM _ l05,G 2 oM _ l05]
 have wQ:wlen Q≤η:=wlen_le.2 hQl
 have wb0:wlen b0≤η:=wlen_le.2 p1
 refine Mul2_calls ((E 3 oM).monoE ht l05) ht5 ((hQ.mono hl5).nn bQ) ((hb04.mono hl5).nn bb0) oM oM oM fun vp h6 m6 dp6 hw6 hl6 ht6 hsp6 hp=> ?_
 have bp:Big (Q*b0):=mul_big wQ wb0 oM
 have cb:costT t (wlen Q) (wlen b0)≤8*(η*η):=Nat.le_trans (costT_le oM oM) (Nat.mul_le_mul_left 8 (Nat.mul_le_mul wQ wb0))
 have lv:lev2 (wlen Q) (wlen b0)≤lev η:=lev_of oM
 have l06:=l05.trans hl6
 have nb6:=nb4.mono hl5|>.monoE' ht5 hl6
 have hQ6:=((hQ.mono hl5).monoE hu4 hl6)
 have hw96:=hw9.monoE hu5 hl6
 have hmain:=tp hQR
 have bpb:Big (Q*b0+b):=big_pow (n:=2*η+1) (by
  have h8:18446744073709551616^(2*η+1)=18446744073709551616^(2*η)*18446744073709551616:=Nat.pow_succ ..
  have h9:Q*b0<18446744073709551616^(η+η):=mul_lt_pow hQl (Nat.le_of_lt p1)
  rw[show η+η=2*η by omega] at h9
  omega) oM
 simp only[go_sem,q0,q2,q3,q10,q12]
 refine loop_cut (fun ρ' h'=>h'.wf∧h6.le h'∧ρ' 16=vp∧∃Q' R',Nf h3.next h' (ρ' 8) Q'∧Nf h3.next h' (ρ' 9) R'∧a/b=Q'∧a%b=R'-Q*b0∧Q*b0≤R'∧R'<Q*b0+b) ?_ ?_
 ·refine⟨fun s ρ' h'=>h'.wf∧h6.le h'∧ρ' 2=vb∧ρ' 16=vp∧∃R',s≤Q∧Nf h3.next h' (ρ' 8) s∧Nf h3.next h' (ρ' 9) R'∧a+Q*b0=s*b+R'∧R'<Q*b0+b,Q,⟨hw6,H.le_refl _,tR,tR,_,Nat.le_refl _,hQ6,hw96.base hl4n,hmain,hfin⟩, ?_⟩
  rintro s ρ' h7 ⟨hw7,hl7,q2,q16,R',hs0,hs,hR',hinv,hlt⟩
  have hpn:=hp.mono hl7
  simp only[go_sem,q2,q16]
  refine lCmp_calls (hR'.nn (bpb.le oM)) (hpn.nn bp) ?_
  rcases Nat.lt_or_ge R' (Q*b0) with hc|hc
  ·have hs1:1≤s:=by
    rcases Nat.eq_zero_or_pos s with h|h
    ·subst h
     rw[Nat.zero_mul] at hinv
     omega
    ·exact h
   rw[show cmpI R' (Q*b0)= -1 by unfold cmpI;rw[if_pos hc]]
   simp only[go_sem,q2,q16,show decide ((-1:Int)<0)=true from rfl]
   refine One_calls (x:=1) dM fun o h8 hw8' hl8 ho=> ?_
   simp only[go_sem,q2,q16]
   refine lSub_calls ((hs.nn (bQ.le hs0)).mono hl8) (ho.nn (word_big dM)) (fun h=>absurd h oM) fun _ s' h9 hw9 hl9 hs'=> ?_
   simp only[go_sem,q2,q16]
   refine lAdd_calls ((hR'.nn (bpb.le oM)).mono (H.le_trans hl8 hl9)) (nb6.mono (H.le_trans hl7 (H.le_trans hl8 hl9))) fun r' h10 hw10 hl10 hr'=> ?_
   simp only[go_sem,q2,q16]
   have hb7:=hl7.1
   have hb8:=hl8.1
   have hb9:=hl9.1
   have hb6:=hl6.1
   have hb5:=hl5.1
   refine⟨s-1,oM,hw10,(H.le_trans hl7 (H.le_trans hl8 (H.le_trans hl9 hl10))),tR,tR,R'+b,oM,(hs'.mono hl10).base oM,hr'.base oM, ?_,oM⟩
   have:s*b=(s-1)*b+b:=by
    obtain⟨k,rfl⟩:∃k,s=k+1:=⟨s-1,oM⟩
    rw[Nat.add_sub_cancel,Nat.add_mul,Nat.one_mul]
   omega
  ·have hcd:decide (cmpI R' (Q*b0)<0)=false:=by
    unfold cmpI
    rw[if_neg oM]
    split<;>rfl
   simp only[go_sem,q2,q16,hcd]
   obtain⟨r1,r2⟩:=quot_math hinv hc hlt
   exact⟨hw7,hl7,tR,s,R',hs,hR',r1,r2,hc,hlt⟩
 ·rintro ρ' h7 ⟨hw7,hl7,q16,Q',R',hs,hR',r1,r2,hc,hlt⟩
  simp only[go_sem,q16]
  refine lSub_calls (hR'.nn (bpb.le oM)) ((hp.mono hl7).nn bp) (fun h=>absurd h oM) fun _ r h8 hw8' hl8 hr=> ?_
  rw[r1,r2] at hk
  simp only[go_sem,q16]
  have hb7:=hl7.1
  have hb6:=hl6.1
  have hb5:=hl5.1
  have hb3:=l03.1
  refine fun hw'=>hk _ r h8 _ _ hw' (l06.trans (H.le_trans hl7 hl8).lee) ((ht6.mono hl7).mono hl8) ((hsp4.trans hsp6).le oM oM) ((hs.mono hl8).base hb3) (hr.base oM)
end
end
section
theorem two_math {a b X q1 r1 q0 r0 low:Nat} (hb:0<b) (h1:q1=a/X/b) (h2:r1=a/X%b) (h3:low=a%X) (h4:q0=(low+X*r1)/b) (h5:r0=(low+X*r1)%b):a/b=q0+X*q1∧a%b=r0:=by
 have e1:=Nat.div_add_mod (a/X) b
 have e2:=Nat.div_add_mod (low+X*r1) b
 have e3:=Nat.div_add_mod a X
 have m:=Nat.mod_lt (low+X*r1) hb
 rw[←h1,←h2] at e1
 rw[←h4,←h5] at e2
 rw[←h5] at m
 rw[←h3,←e1,Nat.mul_add] at e3
 have e:a=r0+b*(q0+X*q1):=by
  rw[Nat.mul_add]
  have:X*(b*q1)=b*(X*q1):=by ac_rfl
  omega
 constructor
 ·rw[e,Nat.add_mul_div_left _ _ hb,Nat.div_eq_of_lt m,Nat.zero_add]
 ·rw[e,Nat.add_mul_mod_self_left,Nat.mod_eq_of_lt m]
section
variable {u:Nat} {t:Tb}
theorem two_ok (hT:TbOK t):∀N:Nat,1≤N→N≤16000→∀(h:H) (m nw dp e:Nat),Eng 7 h e u→Tune h u m nw dp t→TwoOK e u t N h:=by
 intro N
 induction N using Nat.strongRecOn with
 |_ N ih=>
  intro hN1 hN h m nw dp e he ht h1 m1 nw1 dp1 a b va vb K hl1 ht1 na nb hab hlo hhi hnw hk
  have he1:=he.monoE ht hl1
  clear he
  have hb0:0<b:=by
   have:0<18446744073709551616^N:=Nat.pow_pos oM
   omega
  have wb:wlen b≤N:=wlen_le.2 hhi
  have wa:wlen a≤2*N:=wlen_le.2 (by
   have:=mul_lt_pow hhi (Nat.le_refl (18446744073709551616^N))
   rw[show N+N=2*N by omega] at this
   exact Nat.lt_trans hab this)
  have ba:Big a:=wbig wa oM
  have bb:Big b:=wbig wb oM
  refine in_div_Engine_two sM fun hw=> ?_
  unfold c_div_Engine_two
  obtain⟨f,rfl,rfl,G,E⟩:=Eng.path ht1 he1
  have hu:=H.row_lt hw ht1
  have l0:=H.lee_refl (f 7) h1
  have longc:longCost a b≤8*(N*N):=by
   have hbw:N≤wlen b:=by
    rcases Nat.lt_or_ge (wlen b) N with h|h
    ·exfalso
     have h2:=wlen_lt b
     have h3:18446744073709551616^wlen b≤18446744073709551616^(N-1):=Nat.pow_le_pow_right oM oM
     have h4:18446744073709551616^N=18446744073709551616^(N-1)*18446744073709551616:=by rw[←Nat.pow_succ];congr 1;omega
     omega
    ·exact h
   unfold longCost
   split
   ·omega
   ·have h2:(wlen a-wlen b+1)*(wlen b+1)≤(2*N)*(2*N):=Nat.mul_le_mul oM oM
    have h3:(2*N)*(2*N)=4*(N*N):=by rw[Nat.mul_mul_mul_comm]
    omega
  have c1:((N:Int)).tmod 2=((N%2:Nat):Int):=tmodN (b:=2)
  --by hand
  have hand:∀(K0:AV→H→Prop),(∀q r h',h'.wf→H.lee (f 7) h1 h'→Tune h' (f 7) (m1+longCost a b) nw1 dp1 t→Nf h1.next h' q (a/b)→Nf h1.next h' r (a%b)→K0 (.tup [q,r, .int .i64 0]) h')→ACalls Tryz.prog 126 [.ptr (some (f 2,0)),va,vb] h1 K0:=fun K0 hK=>Long_calls (E 2 oM) ht1 na nb ba bb (fun h=>absurd h oM) fun _ q r h' a1 a2 a3 a4 a5=>hK q r h' a1 a2 a3 a4 a5
  have spl:Sp m1 dp1 (m1+longCost a b) dp1 nw1 (8*(N*N)) (lev N+1):=⟨oM,oM,oM,oM⟩
  rcases Nat.mod_two_eq_zero_or_one N with hpar|hpar
  ·rw[hpar] at c1
   by_cases hD:(N:Int)<t.div
   ·simp only[go_sem,c1,show(((0:Nat):Int)==1)=false from rfl,G 0 oM _ l0,G 1 oM _ l0,G 2 oM _ l0,G 3 oM _ l0,G 4 oM _ l0,G 5 oM _ l0,G 6 oM _ l0,tune_div ht1]
    refine⟨dM, ?_⟩
    simp only[go_sem,decide_eq_true hD,G 0 oM _ l0,G 1 oM _ l0]
    refine hand _ fun q r h2 hw2 hl2 ht2 hq hr=> ?_
    simp only[go_sem]
    exact fun hw'=>hk q r h2 _ _ hw' hl2 ht2 spl hq hr
   ·have hN4:4≤N:=by have:=hT.1;omega
    obtain⟨η,rfl⟩:∃η,N=2*η:=⟨N/2,oM⟩
    have c2:(((2*η:Nat):Int)).tdiv 2=(η:Int):=by
     have:=tdivN (a:=2*η) (b:=2)
     rw[Nat.mul_div_cancel_left _ oM] at this
     exact this
    have c3:IntKind.i64.wrap (η:Int)=(η:Int):=wNI oM
    simp only[go_sem,c1,show(((0:Nat):Int)==1)=false from rfl,G 0 oM _ l0,G 1 oM _ l0,G 2 oM _ l0,G 3 oM _ l0,G 4 oM _ l0,G 5 oM _ l0,G 6 oM _ l0,tune_div ht1]
    refine⟨dM, ?_⟩
    simp only[go_sem,decide_eq_false hD,G 0 oM _ l0,G 1 oM _ l0,G 2 oM _ l0,G 3 oM _ l0,G 4 oM _ l0,G 5 oM _ l0,G 6 oM _ l0]
    refine Enter_calls ht1 oM fun _ h2 hw2 hl2 hn2 ht2=> ?_
    have htwo:∀g,H.lee (f 7) h1 g→TwoOK (f 0) (f 7) t η g:=fun g hg g' m' nw' dp' a' b' va' vb' K' hl'=>ih η oM oM oM h1 _ _ _ _ he1 ht1 g' m' nw' dp' a' b' va' vb' K' (hg.trans hl')
    have na2:=na.monoE' ht1 hl2
    simp only[go_sem,c2,c3]
    refine⟨dM, ?_⟩
    refine Split_calls na2 oM oM fun vl vr h3 hw3 hl3 hlow hrest=> ?_
    have l13:=hl2.trans hl3.lee
    have hX:0<18446744073709551616^η:=Nat.pow_pos oM
    have e2:18446744073709551616^(2*η)=18446744073709551616^η*18446744073709551616^η:=by rw[←Nat.pow_add];congr 1;omega
    have hab1:a/18446744073709551616^η<b*18446744073709551616^η:=by
     rw[Nat.div_lt_iff_lt_mul hX,Nat.mul_assoc,←e2]
     exact hab
    have hlt:=Nat.mod_lt a hX
    have tm:= @two_math a b (18446744073709551616^η) _ _ _ _ _ hb0 rfl rfl rfl rfl rfl
    have brest:Big (a/18446744073709551616^η):=ba.le (Nat.div_le_self _ _)
    have blow:Big (a%18446744073709551616^η):=ba.le (Nat.mod_le _ _)
    generalize a/18446744073709551616^η=rest at*
    generalize a%18446744073709551616^η=low at*
    have nb3:=nb.monoE' ht1 l13
    simp only[go_sem]
    refine three_calls2 (he1.monoE ht1 l13) (ht2.mono hl3) (hrest.nn brest) nb3 oM oM hab1 hlo hhi oM (htwo h3 l13) fun q1 r1 h4 m4 dp4 hw4 hl4 ht4 hsp4 hq1 hr1=> ?_
    have l14:=l13.trans hl4
    have hmr:=Nat.mod_lt rest hb0
    have hq1b:Big (rest/b):=brest.le (Nat.div_le_self _ _)
    generalize rest/b=Q1 at*
    generalize rest%b=R1 at*
    have bR1:Big R1:=bb.le (Nat.le_of_lt hmr)
    have hu2:f 7<h2.next:=Nat.lt_of_lt_of_le hu hl2.1
    have hu3:f 7<h3.next:=Nat.lt_of_lt_of_le hu2 hl3.1
    have hlow4:=hlow.monoE hu2 hl4
    simp only[go_sem,lit2a hlow4.one hr1.one]
    refine Join2_calls hw4 (hlow4.nn blow) (hr1.nn bR1) blow bR1 oM fun v5 h5 hw5 hl5 hv5=> ?_
    have l15:=l14.trans hl5.lee
    have hab2:low+18446744073709551616^η*R1<b*18446744073709551616^η:=by
     have:18446744073709551616^η*(R1+1)≤18446744073709551616^η*b:=Nat.mul_le_mul_left _ hmr
     rw[Nat.mul_add,Nat.mul_one,Nat.mul_comm (18446744073709551616^η) b] at this
     omega
    have bj:Big (low+18446744073709551616^η*R1):=big_pow (n:=3*η) (by
     have:=mul_lt_pow hhi (Nat.le_refl (18446744073709551616^η))
     rw[show 2*η+η=3*η by omega] at this
     exact Nat.lt_trans hab2 this) oM
    simp only[go_sem]
    refine three_calls2 (he1.monoE ht1 l15) (ht4.mono hl5) (hv5.nn bj) (nb.monoE' ht1 l15) oM oM hab2 hlo hhi oM (htwo h5 l15) fun q0 r0 h6 m6 dp6 hw6 hl6 ht6 hsp6 hq0 hr0=> ?_
    have l16:=l15.trans hl6
    simp only[go_sem,G 0 oM _ l16,G 1 oM _ l16,G 2 oM _ l16,G 3 oM _ l16,G 4 oM _ l16,G 5 oM _ l16,G 6 oM _ l16]
    refine Leave_calls ht6 oM fun _ h7 hw7 hl7 hn7 ht7=> ?_
    have l17:=l16.trans hl7
    have hu5:f 7<h5.next:=Nat.lt_of_lt_of_le (Nat.lt_of_lt_of_le hu3 hl4.1) hl5.1
    have hq07:=hq0.monoE hu5 hl7
    have hr07:=hr0.monoE hu5 hl7
    have hq17:=((hq1.monoE hu3 hl5.lee).monoE hu3 hl6).monoE hu3 hl7
    have bq0:Big ((low+18446744073709551616^η*R1)/b):=bj.le (Nat.div_le_self _ _)
    simp only[go_sem,lit2a hq07.one hq17.one]
    refine Join2_calls hw7 (hq07.nn bq0) (hq17.nn hq1b) bq0 hq1b oM fun v8 h8 hw8 hl8 hv8=> ?_
    rw[tm.1,tm.2] at hk
    have hb5:=l15.1
    have hb7:=l17.1
    simp only[go_sem]
    refine fun hw'=>hk _ _ h8 _ _ hw' (l17.trans hl8.lee) (ht7.mono hl8) ?_ (hv8.base hb7) ((hr07.mono hl8).base hb5)
    refine((hsp4.trans hsp6).deep).le ?_ ?_
    ·have:2*η*(2*η)=4*(η*η):=by rw[Nat.mul_mul_mul_comm]
     omega
    ·have h1:=lev_big hN4
     have h2:lev η≤lev ((2*η+1)/2+1):=lev_of oM
     omega
  ·rw[hpar] at c1
   simp only[go_sem,c1,show(((1:Nat):Int)==1)=true from rfl]
   refine⟨dM, ?_⟩
   simp only[go_sem,G 0 oM _ l0,G 1 oM _ l0]
   refine hand _ fun q r h2 hw2 hl2 ht2 hq hr=> ?_
   simp only[go_sem]
   exact fun hw'=>hk q r h2 _ _ hw' hl2 ht2 spl hq hr
end
section
variable {va:AV} {xs:List Nat} {from_ n:Nat} {h:H} {K:AV→H→Prop}
theorem dpiece_calls (hv:IsN h va xs) (hd:Dig xs) (hl:xs.length≤400000) (hf:from_≤1000000) (hn:n≤1000000)
  (hk:∀r h',h'.wf→h.le h'→Nf h.next h' r (val 18446744073709551616 ((xs.drop from_).take n))→K r h'):ACalls Tryz.prog 154 [va, .int .i64 (from_:Int), .int .i64 (n:Int)] h K:=by
 obtain⟨id,off,c,rfl⟩:=hv.form
 refine in_div_piece sM fun hw=> ?_
 unfold c_div_piece
 rcases Nat.lt_or_ge from_ xs.length with h1|h1
 ·have a1:=addI (a:=from_) (b:=n) oM
  simp only[go_sem,show decide ((from_:Int)≥(xs.length:Int))=false from decide_eq_false oM,a1,minN]
  refine⟨oM,oM,oM, .inl oM,hv.row, ?_⟩
  have hcut:=hv.cut (c':=c.map (· -from_)) (a:=from_) (b:=min xs.length (from_+n)) oM oM
  have e:(xs.take (min xs.length (from_+n))).drop from_=(xs.drop from_).take n:=by
   apply List.ext_getElem?
   intro j
   rw[List.getElem?_drop,List.getElem?_take,List.getElem?_take,List.getElem?_drop]
   by_cases hj:j<n
   ·rw[if_pos hj]
    split
    ·rfl
    ·rw[List.getElem?_eq_none oM]
   ·rw[if_neg hj,if_neg oM]
  rw[e] at hcut
  refine Norm_calls ⟨_,hcut,fun z hz=>hd z (List.mem_of_mem_drop (List.mem_of_mem_take hz)),by simp;omega,rfl⟩ fun r h2 hw2 hl2 hr=> ?_
  simp only[go_sem]
  exact fun hw'=>hk r h2 hw' hl2 hr
 ·rw[List.drop_of_length_le h1] at hk
  simp only[go_sem,show decide ((from_:Int)≥(xs.length:Int))=true from decide_eq_true oM]
  exact fun hw'=>hk _ h hw' (H.le_refl _) (by simpa [val] using Nf.nil h.next h none)
end
end
theorem H.del_set {h:H} {i:Nat} {r:Row}:(h.set i r).del (some i)=h.del (some i):=by
 unfold H.del H.set
 congr 1
 funext j
 by_cases e:some j=some i
 ·rw[if_pos e,if_pos e]
 ·rw[if_neg e,if_neg e]
  show(if j=i then some r else h.rows j)=h.rows j
  rw[if_neg (fun h=>e (by rw[h]))]
theorem Live.app2 {α:Type} {t:TypeId} {z:Nat} {R:H→List AV→α→Prop} (hR:Grows R) {b:Nat} {h h2:H} {K:AV→H→Prop} {io:Option Nat} {co:Option Nat} {l:List AV} {ys:List α} {y:α} {bt n:Nat} (hz:0<z) (hw:h.wf) (hbh:b≤h.next)
  (hs:Live t z b R h (.sl io 0 n co) ys) (hn:n=ys.length) (hx:R (h.del io) l y) (hlz:l.length=z) (h1:l.all (·.one)=true) (hbt:bt≤64) (hl:n+1≤1099511627776)
  (hh:h2=h.new ⟨some t,z,l⟩) (hk:∀v h',h'.wf→(h.del io).le h'→Live t z b R h' v (ys++[y])→K v h'):appK t z bt (.sl io 0 n co) (.sl (some h.next) 0 1 (some 1)) h2 K:=by
 subst hh
 subst hn
 obtain⟨io',co',cs,e,hs,hc⟩:=hs
 injection e with e1 e2 e3 e4
 subst e1;subst e4
 have hbb:=Nat.mul_le_mul hl hbt
 have hw2:=H.wf_new hw ⟨some t,z,l⟩
 have hs2:=hs.mono (H.le_new hw (H.le_refl h) ⟨some t,z,l⟩)
 obtain⟨hcl,id',c',e,h3⟩:=hs2
 injection e with e1 e2 e3 e4
 subst e1;subst e4
 have hnx:(h.new ⟨some t,z,l⟩).next=h.next+1:=rfl
 simp only[appK]
 refine⟨fun h0=>by omega,fun _=>⟨h.next,_,rfl,H.rows_new _ _, ?_, ?_,oM,oM, ?_⟩⟩
 ·show 0+1*z≤l.length
  omega
 ·show((l.drop 0).take (1*z)).all (·.one)=true
  rw[List.drop_zero,Nat.one_mul,List.take_of_length_le oM]
  exact h1
 have et:((⟨some t,z,l⟩:Row).cells.drop 0).take (1*z)=l:=by
  show(l.drop 0).take (1*z)=l
  rw[List.drop_zero,Nat.one_mul,List.take_of_length_le oM]
 rw[et]
 have hlen1:(ys++[y]).length=ys.length+1:=by simp
 rcases h3 with⟨rfl,h0⟩|⟨i,q,rfl,hbi,hq,ho,he,hf2,ht2⟩
 ·have hy:ys=[]:=List.eq_nil_of_length_eq_zero h0
  subst hy
  have:cs=[]:=List.eq_nil_of_length_eq_zero (by simpa using hcl)
  subst this
  refine .inl ⟨rfl,rfl,hk _ _ (H.wf_new hw2 _) (H.le_trans (H.del_le none) (H.le_new hw2 (H.le_new hw (H.le_refl h) _) _)) ⟨some (h.next+1),none,[]++l,rfl, ?_, ?_⟩⟩
  ·exact⟨by simp[hlz],some (h.next+1),none,rfl, .inr ⟨h.next+1,_,rfl,oM,H.rows_new _ _,rfl,rfl,by simp[hlz],List.take_of_length_le (by simp[hlz])⟩⟩
  ·refine(hc.snoc hlz hx).mono fun l' x' hx'=>hR hx' ⟨by show h.next≤h.next+1+1;omega,fun j r hj=> ?_⟩
   have hj':=(H.del_le none).2 j r hj
   have hlt:=H.row_lt hw hj'
   simp only[H.del]
   rw[if_neg (by intro e;injection e;omega),H.rows_new_ne (by rw[hnx];omega),H.rows_new_ne oM]
   exact hj'
 ·have hil:=H.row_lt hw2 hq
  have hi2:i≠h.next:=by
   intro e
   obtain⟨_,id2,c2,e2,h4⟩:=hs
   injection e2 with e2
   rcases h4 with⟨h4,_⟩|⟨i2,q2,h4,_,h5,_⟩
   ·rw[←e2] at h4;cases h4
   ·rw[←e2] at h4
    injection h4 with h4
    have:=H.row_lt hw h5
    omega
  refine .inr ⟨i,q,rfl,hq,ho,he,sM,hf2,hk _ _ (H.wf_new (H.wf_del hw2 _) _) (H.le_new (H.wf_del hw2 _) (H.del_mono (H.le_new hw (H.le_refl h) _) _) _) ⟨some (h.next+1),none,cs++l,by rw[hlen1];rfl, ?_, ?_⟩⟩
  ·refine⟨by simp[hcl,hlz,Nat.add_mul],some (h.next+1),none,by rw[hlen1];rfl, .inr ⟨h.next+1,_,rfl,oM,H.rows_new _ _,rfl,rfl, ?_, ?_⟩⟩
   ·rw[hlen1]
    simp only[List.length_append,ht2,hcl,hlz,Nat.add_mul];omega
   ·rw[hlen1,ht2]
    exact List.take_of_length_le (by simp[hcl,hlz,Nat.add_mul])
  ·refine(hc.snoc hlz hx).mono fun l' x' hx'=>hR hx' ⟨by show h.next≤h.next+1+1;omega,fun j r hj=> ?_⟩
   have hj':=(H.del_le (some i)).2 j r hj
   have hlt:=H.row_lt hw hj'
   have hji:j≠i:=by
    rintro rfl
    simp[H.del] at hj
   simp only[H.del]
   rw[if_neg (by intro e;injection e;omega)]
   show((H.del _ (some i)).new _).rows j=some r
   rw[H.rows_new_ne (by rw[H.next_del,hnx];omega),H.rows_del_ne hji,H.rows_new_ne oM]
   exact hj'
theorem Live.get1 {α:Type} {t:TypeId} {b:Nat} {R:H→List AV→α→Prop} {h:H} {io:Option Nat} {n:Nat} {c:Option Nat} {xs:List α} (hv:Live t 1 b R h (.sl io 0 n c) xs) {j:Nat} (hj:j<xs.length):∃i a,io=some i∧n=xs.length∧h.get i j=some a∧R (h.del (some i)) [a] xs[j]:=by
 obtain⟨io',c',cs,e,h1,h2⟩:=hv
 injection e with e1 e2 e3 e4
 subst e1;subst e4;subst e3
 obtain⟨i,e5,e6,e7⟩:=h1.isC.at (j:=j) oM
 subst e5
 have hl:=h2.1
 have h3:=h2.2 j _ (List.getElem?_eq_getElem hj)
 rw[Nat.mul_one,take_one oM] at h3
 rw[Nat.zero_add] at e7
 exact⟨i,cs[j],rfl,rfl,e7.trans (List.getElem?_eq_getElem oM),h3⟩
theorem Live.io_ge {α:Type} {t:TypeId} {z b n:Nat} {R:H→List AV→α→Prop} {h:H} {io c:Option Nat} {xs:List α} (hv:Live t z b R h (.sl io 0 n c) xs) {i:Nat} (hi:io=some i):b≤i:=by
 obtain⟨io',c',cs,e,⟨_,id,c2,e2,h3⟩,_⟩:=hv
 injection e2 with e2
 subst e2
 subst hi
 rcases h3 with⟨h3,_⟩|⟨i',q,h3,hb,_⟩
 ·cases h3
 ·injection h3 with h3
  rw[h3];exact hb
theorem Live.put1 {α:Type} {t:TypeId} {b:Nat} {R:H→List AV→α→Prop} {h:H} {i:Nat} {n:Nat} {c:Option Nat} {xs:List α} (hw:h.wf) (hv:Live t 1 b R h (.sl (some i) 0 n c) xs) {j:Nat} (hj:j<xs.length):∃r,b≤i∧i<h.next∧h.rows i=some r∧r.own=some t∧j+1≤r.cells.length∧
  ∀(a:AV) (x:α),R (h.del (some i)) [a] x→Live t 1 b R (h.set i {r with cells:=putAt r.cells j [a]}) (.sl (some i) 0 n c) (xs.set j x):=by
 obtain⟨io',c',cs,e,h1,h2⟩:=hv
 injection e with e1 e2 e3 e4
 subst e1;subst e4;subst e3
 obtain⟨i',r,e5,hb,hlt,hr,ho,_,hf,hp⟩:=h1.put hw (k:=j) (w:=1) oM oM
 injection e5 with e5
 subst e5
 have ho2:r.own=some t:=by
  obtain⟨_,id2,c2,e6,h6⟩:=h1
  injection e6 with e6
  rcases h6 with⟨h6,_⟩|⟨i6,r6,h6,_,h7,h8,_⟩
  ·rw[←e6] at h6;cases h6
  ·rw[←e6] at h6
   injection h6 with h6
   rw[←h6,hr] at h7
   injection h7 with h7
   rw[h7];exact h8
 refine⟨r,hb,hlt,hr,ho2,hf,fun a x hx=>⟨some i,c,putAt cs j [a],by rw[List.length_set], ?_, ?_⟩⟩
 ·rw[List.length_set]
  exact hp [a] rfl
 ·rw[H.del_set]
  have:=h2.set (j:=j) (l:=[a]) (x:=x) hj rfl hx
  rwa[Nat.mul_one] at this
theorem Nf.put {b i x:Nat} {h:H} {v:AV} {r r':Row} {T:TypeId} (hv:Nf b h v x) (hr:h.rows i=some r) (ho:r.own=some T) (hT:T≠54):Nf b (h.set i r') v x:=by
 obtain⟨xs,⟨id,c,rfl,h1⟩,h2⟩:=hv
 refine⟨xs,⟨id,c,rfl, ?_⟩,h2⟩
 rcases h1 with h1|⟨j,q,rfl,hb,hq,hqo,h3⟩
 ·exact .inl h1
 ·refine .inr ⟨j,q,rfl,hb, ?_,hqo,h3⟩
  rw[H.rows_set_ne ?_]
  ·exact hq
  ·rintro rfl
   rw[hr] at hq
   injection hq with hq
   rw[←hq,ho] at hqo
   injection hqo with hqo
   exact hT hqo
def turnL (P:List Nat) (i:Nat):List Nat:=(List.range P.length).map fun k=>if k<i∨P.length-i≤k then P.getD (P.length-1-k) 0 else P.getD k 0
theorem turnL_zero (P:List Nat):turnL P 0=P:=by
 unfold turnL
 apply List.ext_getElem sM
 intro k h1 h2
 simp only[List.getElem_map,List.getElem_range]
 rw[if_neg oM,List.getD_eq_getElem?_getD,List.getElem?_eq_getElem h2]
 rfl
theorem turnL_len (P:List Nat) (i:Nat):(turnL P i).length=P.length:=by simp[turnL]
theorem turnL_get {P:List Nat} {i k:Nat} (hk:k<P.length):(turnL P i)[k]'(by rw[turnL_len];exact hk)=if k<i∨P.length-i≤k then P.getD (P.length-1-k) 0 else P.getD k 0:=by simp[turnL]
theorem turnL_step {P:List Nat} {i:Nat} (h:i<P.length-1-i):((turnL P i).set i (P.getD (P.length-1-i) 0)).set (P.length-1-i) (P.getD i 0)=turnL P (i+1):=by
 apply List.ext_getElem (by simp[turnL])
 intro k h1 h2
 have hk:k<P.length:=by simpa [turnL] using h2
 rw[turnL_get hk,List.getElem_set,List.getElem_set]
 split
 ·rename_i e
  rw[if_pos oM,show P.length-1-k=i by omega]
 ·rename_i e
  split
  ·rename_i e2
   rw[if_pos oM,←e2]
  ·rename_i e2
   rw[turnL_get hk]
   by_cases h3:k<i∨P.length-i≤k
   ·rw[if_pos h3,if_pos oM]
   ·rw[if_neg h3,if_neg oM]
theorem turnL_end {P:List Nat} {i:Nat} (h:P.length-1-i≤i):turnL P i=P.reverse:=by
 apply List.ext_getElem (by simp[turnL])
 intro k h1 h2
 have hk:k<P.length:=by simpa using h2
 rw[turnL_get hk,List.getElem_reverse]
 have e1:∀j,(hj:j<P.length)→P.getD j 0=P[j]:=fun j hj=>by rw[List.getD_eq_getElem?_getD,List.getElem?_eq_getElem hj];rfl
 split
 ·rw[e1 _ oM]
 ·rw[e1 _ hk]
  have:P.length-1-k=k:=by omega
  simp only[this]
theorem halved {M s half N:Nat} (h1:M≤s*2^half) (h2:(s-1)*2^half<M) (h3:2≤s∨half=0) (h4:1≤s) (hN:N=s*2^half):M≤N∧N+1≤2*M∧2^half≤N:=by
 have hp:1≤2^half:=Nat.pow_pos oM
 have e:s*2^half=(s-1)*2^half+2^half:=by
  obtain⟨k,rfl⟩:∃k,s=k+1:=⟨s-1,oM⟩
  rw[Nat.add_sub_cancel,Nat.add_mul,Nat.one_mul]
 rcases h3 with h3|h3
 ·have:1*2^half≤(s-1)*2^half:=Nat.mul_le_mul_right _ oM
  omega
 ·subst h3
  simp at*
  omega
theorem halved_up {M s half:Nat} (h:M≤s*2^half):M≤(s+1)/2*2^(half+1):=by
 have e:(s+1)/2*2^(half+1)=((s+1)/2*2)*2^half:=by rw[Nat.pow_succ];ac_rfl
 rw[e]
 exact Nat.le_trans h (Nat.mul_le_mul_right _ oM)
theorem halved_lo {M s half:Nat} (h:(s-1)*2^half<M):((s+1)/2-1)*2^(half+1)<M:=by
 have e:((s+1)/2-1)*2^(half+1)=(((s+1)/2-1)*2)*2^half:=by rw[Nat.pow_succ];ac_rfl
 rw[e]
 exact Nat.lt_of_le_of_lt (Nat.mul_le_mul_right _ oM) h
theorem halves_cost {M N na ul top:Nat} (h1:M≤N) (h2:N+1≤2*M) (h3:M≤na) (hu:ul≤na+N-M+1) (ht:top=(ul+N-1)/N):top*(8*(N*N))≤64*(na*na):=by
 have h4:top*N≤ul+N-1:=by rw[ht];exact Nat.div_mul_le_self _ _
 have h5:top*(8*(N*N))=8*((top*N)*N):=by
  rw[Nat.mul_left_comm,Nat.mul_assoc]
 have h6:(top*N)*N≤(4*na)*(2*na):=by
  refine Nat.mul_le_mul ?_ oM
  omega
 have h7:(4*na)*(2*na)=8*(na*na):=by rw[Nat.mul_mul_mul_comm]
 omega
theorem halves_step {B N p r d U1:Nat} (_:0<d):(p+B^N*U1)/d=B^N*(U1/d)+(p+B^N*(U1%d))/d∧(p+B^N*U1)%d=(p+B^N*(U1%d))%d:=by
 have e:=Nat.div_add_mod U1 d
 have e1:p+B^N*U1=(p+B^N*(U1%d))+d*(B^N*(U1/d)):=by
  conv=>lhs;rw[←e]
  rw[Nat.mul_add]
  have:B^N*(d*(U1/d))=d*(B^N*(U1/d)):=by ac_rfl
  omega
 rw[e1,Nat.add_mul_div_left _ _ (by assumption),Nat.add_mul_mod_self_left]
 exact⟨oM,rfl⟩
theorem val_take_drop (B:Nat) (xs:List Nat) (N:Nat):val B xs=val B (xs.take N)+B^N*val B (xs.drop N):=by
 rcases Nat.lt_or_ge xs.length N with h|h
 ·rw[List.take_of_length_le oM,List.drop_of_length_le oM]
  simp[val]
 ·exact val_cut B xs N h
theorem shl_int {s half:Nat} (h:s*2^half<9223372036854775808) (hh:half≤64):bShl .i64 (s:Int) half=((s*2^half:Nat):Int):=by
 unfold bShl
 rw[show IntKind.i64.bits=64 from rfl,Nat.min_eq_left hh]
 have:((2:Int)^half)=((2^half:Nat):Int):=by simp
 rw[this]
 exact mulI h
def dg (b:Nat):Nat→Nat→List Nat
 |0,_=>[]
 |n+1,x=>x%b::dg b n (x/b)
theorem dg_len (b:Nat):∀n x,(dg b n x).length=n
 |0,_=>rfl
 |n+1,x=>by rw[dg,List.length_cons,dg_len b n]
theorem dg_lt {b:Nat} (hb:0<b):∀n x,∀y∈dg b n x,y<b
 |0,_,y,h=>by cases h
 |n+1,x,y,h=>by
  rw[dg] at h
  rcases List.mem_cons.1 h with rfl|h
  ·exact Nat.mod_lt _ hb
  ·exact dg_lt hb n _ y h
theorem dg_val (b:Nat):∀n x,val b (dg b n x)=x%b^n
 |0,x=>by rw[Nat.pow_zero,Nat.mod_one];rfl
 |n+1,x=>by
  show x%b+b*val b (dg b n (x/b))=_
  rw[dg_val b n,Nat.pow_succ',Nat.mod_mul]
theorem dg_add (b:Nat):∀m n x,dg b (m+n) x=dg b m x++dg b n (x/b^m)
 |0,n,x=>by rw[Nat.zero_add,Nat.pow_zero,Nat.div_one];rfl
 |m+1,n,x=>by
  rw[Nat.add_right_comm,dg,dg_add b m n,dg,List.cons_append,Nat.div_div_eq_div_mul,←Nat.pow_succ']
theorem dg_mod {b:Nat} (hb:0<b):∀m x,dg b m (x%b^m)=dg b m x
 |m,x=>by
  refine val_inj b hb _ _ (by rw[dg_len,dg_len]) (dg_lt hb _ _) (dg_lt hb _ _) ?_
  rw[dg_val,dg_val,Nat.mod_mod]
theorem top_uniq {b:Nat} (hb:1<b) {xs ys:List Nat} (hx:∀x∈xs,x<b) (hy:∀y∈ys,y<b) (tx:∀x,xs.getLast? =some x→x≠0) (ty:∀y,ys.getLast? =some y→y≠0) (h:val b xs=val b ys):xs=ys:=by
 have key:∀{xs ys:List Nat},(∀x∈xs,x<b)→(∀y,ys.getLast? =some y→y≠0)→val b xs=val b ys→ys.length≤xs.length:=by
  intro xs ys hx ty h
  rcases Nat.eq_zero_or_pos ys.length with h0|h0
  ·omega
  have h1:=val_lt b oM xs hx
  have h2:=val_ge b ys ty (by intro h3;rw[h3] at h0;exact absurd h0 sM)
  rw[←h] at h2
  have h3:=(Nat.pow_lt_pow_iff_right hb).1 (Nat.lt_of_le_of_lt h2 h1)
  omega
 exact val_inj b oM xs ys (Nat.le_antisymm (key hy tx h.symm) (key hx ty h)) hx hy h
def SqOK (f:FuncId) (first caps:List AV) (h0:H) (u:Nat) (t:Tb) (N top:Nat):Prop:=
 ∀(h1:H) (m0 nw dp n x:Nat) (va:AV) (K:AV→H→Prop),H.lee u h0 h1→Tune h1 u m0 nw dp t→Wn h1 va n x→n≤N→nw+lev n≤top→
  (∀r h' m' dp',h'.wf→H.lee u h1 h'→Tune h' u m' nw dp' t→Nf h1.next h' r (x*x)→K r h')→ACalls Tryz.prog f (first++[va]++caps) h1 K
theorem KaraSqr_calls {e u m0 nw dp n x N top:Nat} {t:Tb} {va:AV} {f:FuncId} {first caps:List AV} {h:H} {K:AV→H→Prop} (he:Eng 2 h e u) (ht:Tune h u m0 nw dp t) (nv:Wn h va n x) (hn2:2≤n) (hn:n≤16384)
  (hin:SqOK f first caps h u t N top) (hN:(n+1)/2+1≤N) (htop:nw+1+lev ((n+1)/2+1)≤top) (hnw:nw≤1000000000)
  (hk:∀r h' m' dp',h'.wf→H.lee u h h'→Tune h' u m' nw dp' t→Nf h.next h' r (x*x)→K (.tup [r, .bool true]) h'):
  ACalls Tryz.prog 155 [.ptr (some (e,0)),va, .fn f first caps] h K:=by
 refine in_kara_Engine_KaraSqr sM fun hw=> ?_
 unfold c_kara_Engine_KaraSqr
 obtain⟨η,hH⟩:∃η,η=(n+1)/2:=⟨_,rfl⟩
 rw[←hH] at hN htop
 have lm1:lev η≤lev (η+1):=lev_mono _ _ oM
 have lm2:lev (n-η)≤lev (η+1):=lev_mono _ _ oM
 obtain⟨xs,hv,hxd,hxl,hxv⟩:=nv
 obtain⟨ida,offa,ca,rfl⟩:=hv.form
 obtain⟨e1,he1,G1⟩:=he.open ht
 obtain⟨e2,he2,G2⟩:=he1.open ht
 obtain rfl:e2=u:=he2
 have g1:=G1 h (H.lee_refl _ _)
 have g2:=G2 h (H.lee_refl _ _)
 have a1:IntKind.i64.wrap ((n:Int)+1)=((n+1:Nat):Int):=incI oM
 have a2:IntKind.i64.wrap (((n+1:Nat):Int).tdiv 2)=(η:Int):=by
  have e:((n+1:Nat):Int).tdiv 2=(((n+1)/2:Nat):Int):=tdivN (a:=n+1) (b:=2)
  rw[e,←hH,wI]<;>omega
 have a3:decide ((n:Int)<2)=false:=decide_eq_false oM
 have a4:=subI (a:=n) (b:=η) oM oM
 have a6:=incI (i:=η) oM
 simp only[go_sem,hxl,a1,a2,a3,g1,g2]
 refine⟨dM, ?_⟩
 refine Enter_calls ht oM fun _ h1 hw1 hl1 hn1 ht1=> ?_
 have hv1:=hv.monoE ht hl1
 rw[hxl] at hv1
 simp only[go_sem,a4]
 refine piece_calls (from_:=0) hv1 hxd oM oM fun A0 h2 hw2 hl2 pA0=> ?_
 simp only[go_sem,a4,a6]
 refine piece_calls (from_:=η) (hv1.mono hl2) hxd oM oM fun A1 h3 hw3 hl3 pA1=> ?_
 have ex:x=val 18446744073709551616 ((xs.drop 0).take η)+18446744073709551616^η*val 18446744073709551616 ((xs.drop η).take (n-η)):=by
  rw[←hxv,List.drop_zero,List.take_of_length_le (l:=xs.drop η) (by simp;omega)]
  exact val_cut 18446744073709551616 xs η oM
 have sA0:=pA0.wn.mono hl3
 have sA1:=pA1.wn
 generalize val 18446744073709551616 ((xs.drop 0).take η)=α0 at*
 generalize val 18446744073709551616 ((xs.drop η).take (n-η))=α1 at*
 have lα0:=sA0.lt
 have lα1:=sA1.lt
 have pH:18446744073709551616^(n-η)≤18446744073709551616^η:=Nat.pow_le_pow_right oM oM
 have pH3:18446744073709551616^(η+1)=18446744073709551616^η*18446744073709551616:=Nat.pow_succ ..
 simp only[go_sem,a4,a6]
 refine lAdd_calls (sA0.nn oM) (sA1.nn oM) fun S h6 hw6 hl6 nS=> ?_
 simp only[go_sem,a4,a6]
 refine wide_calls (n:=η+1) nS oM oM fun SA h9 hw9 hl9 pSA=> ?_
 have l19:=(H.le_trans hl2 (H.le_trans hl3 (H.le_trans hl6 hl9)))
 have l09:H.lee e2 h h9:=hl1.trans l19.lee
 have ht9:=ht1.mono l19
 have sA0:=sA0.mono (H.le_trans hl6 hl9)
 have sA1:=sA1.mono (H.le_trans hl6 hl9)
 have sSA:=pSA.wn
 have hul:=H.row_lt hw ht
 simp only[go_sem,a4,a6]
 refine hin h9 _ _ _ _ _ _ _ l09 ht9 sA0 oM oM fun low h10 m1 d1 hw10 hl10 ht10 nlow=> ?_
 simp only[go_sem,a4,a6]
 refine hin h10 _ _ _ _ _ _ _ (l09.trans hl10) ht10 (sA1.monoE ht9 hl10) oM oM fun high h11 m2 d2 hw11 hl11 ht11 nhigh=> ?_
 simp only[go_sem,a4,a6]
 have l911:=hl10.trans hl11
 refine hin h11 _ _ _ _ _ _ _ (l09.trans l911) ht11 (sSA.monoE ht9 l911) oM oM fun both h12 m3 d3 hw12 hl12 ht12 nboth=> ?_
 have l012:=(l09.trans l911).trans hl12
 simp only[go_sem,G1 _ l012,G2 _ l012]
 refine Leave_calls ht12 oM fun _ h13 hw13 hl13 hn13 ht13=> ?_
 have l1013:=(hl11.trans hl12).trans hl13
 have nlow13:=nlow.monoE (u:=e2) (by have:=l09.1;omega) l1013
 have nhigh13:=nhigh.monoE (u:=e2) (by have:=(l09.trans hl10).1;omega) (hl12.trans hl13)
 have nboth13:=nboth.monoE (u:=e2) (by have:=(l09.trans l911).1;omega) hl13
 have plow:α0*α0<18446744073709551616^η*18446744073709551616^η:=Nat.mul_lt_mul_of_lt_of_le lα0 (Nat.le_of_lt lα0) (Nat.pow_pos oM)
 have phigh:α1*α1<18446744073709551616^η*18446744073709551616^η:=Nat.mul_lt_mul_of_lt_of_le oM oM (Nat.pow_pos oM)
 have pboth:(α0+α1)*(α0+α1)<18446744073709551616^(η+1)*18446744073709551616^(η+1):=Nat.mul_lt_mul_of_lt_of_le oM oM (Nat.pow_pos oM)
 rw[←Nat.pow_add] at plow phigh pboth
 have bl:Big (α0*α0):=lt_bigW plow oM
 have bh:Big (α1*α1):=lt_bigW phigh oM
 have bb:Big ((α0+α1)*(α0+α1)):=lt_bigW pboth oM
 obtain⟨km1,km2⟩:=kara_mid (a0:=α0) (a1:=α1) (b0:=α0) (b1:=α1)
 simp only[go_sem]
 refine lAdd_calls (nlow13.nn bl) (nhigh13.nn bh) fun s h14 hw14 hl14 ns=> ?_
 simp only[go_sem]
 refine lSub_calls ((nboth13.mono hl14).nn bb) (ns.nn (bb.le km2)) (fun hc=>by omega) fun _ mid h15 hw15 hl15 nmid=> ?_
 rw[km1] at nmid
 have l15:=(H.le_trans hl14 hl15)
 have s1:=(nlow13.mono l15)
 have s3:=(nhigh13.mono l15)
 simp only[go_sem,lit3 s1.one nmid.one s3.one]
 have hl16:=H.le_new hw15 (H.le_refl h15) ⟨some 25,1,[low,mid,high]⟩
 have bm:Big (α0*α1+α1*α0):=bb.le (by rw[←km1];omega)
 refine Join_calls (xs:=[α0*α0,α0*α1+α1*α0,α1*α1]) oM (nnl_lit rfl rfl ?_) (fun z hz=> ?_) sM fun r h17 hw17 hl17 nr=> ?_
 ·intro j c z h1 h2
  match j with
  |0=>simp at h1 h2;subst h1;subst h2;exact(s1.mono hl16).nn bl
  |1=>simp at h1 h2;subst h1;subst h2;exact(nmid.mono hl16).nn bm
  |2=>simp at h1 h2;subst h1;subst h2;exact(s3.mono hl16).nn bh
  |j+3=>simp at h1
 ·simp at hz
  rcases hz with rfl|rfl|rfl
  ·exact bl
  ·exact bm
  ·exact bh
 ·have ev:val (18446744073709551616^η) [α0*α0,α0*α1+α1*α0,α1*α1]=x*x:=by
   rw[ex,kara_val]
   simp only[val]
   generalize 18446744073709551616^η=X
   grind
  rw[ev] at nr
  have l1317:=(H.le_trans hl14 (H.le_trans hl15 (H.le_trans hl16 hl17)))
  simp only[go_sem]
  exact fun _=>hk r h17 _ _ hw17 (l012.trans (hl13.trans l1317.lee)) (ht13.mono l1317) (nr.base (by have:=l012.1;have:=hl13.1;have:=hl14.1;have:=hl15.1;have:=hl16.1;omega))
theorem ToomSqr_calls {e u m0 nw dp n x N top:Nat} {t:Tb} {va:AV} {f:FuncId} {first caps:List AV} {h:H} {K:AV→H→Prop} (he:Eng 3 h e u) (ht:Tune h u m0 nw dp t) (nv:Wn h va n x) (hlen:2*((n+2)/3)<n) (hn:n≤16384)
  (hin:SqOK f first caps h u t N top) (hN:(n+2)/3+1≤N) (htop:nw+1+lev ((n+2)/3+1)≤top) (hnw:nw≤1000000000)
  (hk:∀r h' m' dp',h'.wf→H.lee u h h'→Tune h' u m' nw dp' t→Nf h.next h' r (x*x)→K (.tup [r, .bool true]) h'):
  ACalls Tryz.prog 156 [.ptr (some (e,0)),va, .fn f first caps] h K:=by
 refine in_toom_Engine_ToomSqr sM fun hw=> ?_
 unfold c_toom_Engine_ToomSqr
 obtain⟨ida,offa,ca,rfl⟩:=nv.form
 obtain⟨k,hH⟩:∃k,k=(n+2)/3:=⟨_,rfl⟩
 rw[←hH] at hlen hN htop
 have lm1:lev k≤lev (k+1):=lev_mono _ _ oM
 have lm2:lev (n-2*k)≤lev (k+1):=lev_mono _ _ oM
 obtain⟨e1,he1,G1⟩:=he.open ht
 obtain⟨e2,he2,G2⟩:=he1.open ht
 obtain⟨e3,he3,G3⟩:=he2.open ht
 obtain rfl:e3=u:=he3
 have g1:=G1 h (H.lee_refl _ _)
 have g2:=G2 h (H.lee_refl _ _)
 have g3:=G3 h (H.lee_refl _ _)
 have hul:=H.row_lt hw ht
 have a1:IntKind.i64.wrap ((n:Int)+2)=((n+2:Nat):Int):=by rw[wI]<;>omega
 have a2:IntKind.i64.wrap (((n+2:Nat):Int).tdiv 3)=(k:Int):=by
  have e:((n+2:Nat):Int).tdiv 3=(((n+2)/3:Nat):Int):=tdivN (a:=n+2) (b:=3)
  rw[e,←hH,wI]<;>omega
 have a3:IntKind.i64.wrap (2*(k:Int))=((2*k:Nat):Int):=mulI (a:=2) (b:=k) oM
 have a4:decide ((n:Int)≤((2*k:Nat):Int))=false:=leF oM
 have a5:=incI (i:=k) oM
 have a6:=subI (a:=n) (b:=2*k) oM oM
 simp only[go_sem,a1,a2,a3,a4,g1,g2,g3]
 refine⟨dM, ?_⟩
 refine Enter_calls ht oM fun _ h1 hw1 hl1 hn1 ht1=> ?_
 simp only[go_sem,a1,a2,a3,a4,a5,a6]
 refine Points_calls (nv.monoE ht hl1) oM oM oM fun A0 A1 Am A2 Ai α0 α1 α2 h2 hw2 hl2 ex lα0 lα1 lα2 nA0 nA1 nAm nA2 nAi=> ?_
 have s0:=PSt.five (l:=[AV.sl none 0 0 none, .bool false]) hw2
 simp only[go_sem,a1,a2,a3,a4,a5,a6,H.next_new]
 simp only[Nat.add_assoc,Nat.reduceAdd]
 have hn02:h.next≤h2.next:=(hl1.trans hl2.lee).1
 have hno:∀i,h2.rows (h2.next+i)=none:=fun i=>hw2 _ oM
 refine s0.st2 (v:=A0) (w:= .bool false) (i:=0) hw2 (Nat.le_refl _) oM (hno 0) rfl nA0.one rfl fun i1 s1 _=> ?_
 simp only[go_sem]
 refine s1.st2 (v:=A1) (w:= .bool false) (i:=1) hw2 (Nat.le_refl _) oM (hno 1) rfl nA1.one rfl fun i2 s2 _=> ?_
 simp only[go_sem]
 refine s2.st2 (v:=Am) (w:= .bool (decide (α0+α2<α1))) (i:=2) hw2 (Nat.le_refl _) oM (hno 2) rfl nAm.one rfl fun i3 s3 _=> ?_
 simp only[go_sem]
 refine s3.st2 (v:=A2) (w:= .bool false) (i:=3) hw2 (Nat.le_refl _) oM (hno 3) rfl nA2.one rfl fun i4 s4 _=> ?_
 simp only[go_sem]
 refine s4.st2 (v:=Ai) (w:= .bool false) (i:=4) hw2 (Nat.le_refl _) oM (hno 4) rfl nAi.one rfl fun j5 s5 _=> ?_
 have l2j:h2.le j5:=s5.le
 have l0j:H.lee e3 h j5:=hl1.trans (H.le_trans hl2 l2j).lee
 have tj:Tune j5 e3 m0 (nw+1) (max dp (nw+1)) t:=ht1.mono (H.le_trans hl2 l2j)
 have hu1:e3<h1.next:=Nat.lt_of_lt_of_le hul hl1.1
 have hu2:e3<h2.next:=Nat.lt_of_lt_of_le hu1 hl2.1
 rw[show α0+α2+α1=α0+α1+α2 by omega] at nA1
 have fa:=fun(i j:Nat) (g:H) (hi:i<5) (hl:H.lee e3 j5 g)=>s5.getE (i:=i) (j:=j) hi hu2 hl
 have na:∀{v:AV} {z:Nat} {g:H},Nf h1.next h2 v z→H.lee e3 j5 g→Nt g v z:=fun hn hl=>(hn.monoE hu1 (l2j.lee.trans hl)).nt
 have pk:18446744073709551616^(k+1)=18446744073709551616^k*18446744073709551616:=Nat.pow_succ ..
 have pn:18446744073709551616^(n-2*k)≤18446744073709551616^k:=Nat.pow_le_pow_right oM oM
 have am:am1 (α0+α2) α1≤α0+α2+α1:=am1_le
 clear s0 s1 s2 s3 s4 hno
 simp only[go_sem,a1,a2,a3,a4,a5,a6,show j5.get (h2.next) 0=some A0 from fa 0 0 j5 oM (H.lee_refl e3 j5)]
 refine twide_calls (n:=k) (na nA0 (H.lee_refl e3 j5)) oM oM fun WA0 z0 hwz0 hlz0 pA0=> ?_
 have lz0:=(H.lee_refl e3 j5).trans hlz0.lee
 have tz0:=tj.mono hlz0
 simp only[go_sem,a1,a2,a3,a4,a5,a6]
 refine hin z0 _ _ _ _ _ _ _ (l0j.trans lz0) tz0 pA0.wn oM oM fun R0 X0 m0 d0 hwx0 hlx0 tx0 nR0=> ?_
 have lx0:=lz0.trans hlx0
 simp only[go_sem,a1,a2,a3,a4,a5,a6,show X0.get (h2.next+1) 0=some A1 from fa 1 0 X0 oM lx0]
 refine twide_calls (n:=k+1) (na nA1 lx0) oM oM fun WA1 z1 hwz1 hlz1 pA1=> ?_
 have lz1:=lx0.trans hlz1.lee
 have tz1:=tx0.mono hlz1
 simp only[go_sem,a1,a2,a3,a4,a5,a6]
 refine hin z1 _ _ _ _ _ _ _ (l0j.trans lz1) tz1 pA1.wn oM oM fun R1 X1 m1 d1 hwx1 hlx1 tx1 nR1=> ?_
 have lx1:=lz1.trans hlx1
 simp only[go_sem,a1,a2,a3,a4,a5,a6,show X1.get (h2.next+2) 0=some Am from fa 2 0 X1 oM lx1]
 refine twide_calls (n:=k+1) (na nAm lx1) oM oM fun WA2 z2 hwz2 hlz2 pA2=> ?_
 have lz2:=lx1.trans hlz2.lee
 have tz2:=tx1.mono hlz2
 simp only[go_sem,a1,a2,a3,a4,a5,a6]
 refine hin z2 _ _ _ _ _ _ _ (l0j.trans lz2) tz2 pA2.wn oM oM fun Rm X2 m2 d2 hwx2 hlx2 tx2 nRm=> ?_
 have lx2:=lz2.trans hlx2
 simp only[go_sem,a1,a2,a3,a4,a5,a6,show X2.get (h2.next+3) 0=some A2 from fa 3 0 X2 oM lx2]
 refine twide_calls (n:=k+1) (na nA2 lx2) oM oM fun WA3 z3 hwz3 hlz3 pA3=> ?_
 have lz3:=lx2.trans hlz3.lee
 have tz3:=tx2.mono hlz3
 simp only[go_sem,a1,a2,a3,a4,a5,a6]
 refine hin z3 _ _ _ _ _ _ _ (l0j.trans lz3) tz3 pA3.wn oM oM fun R2 X3 m3 d3 hwx3 hlx3 tx3 nR2=> ?_
 have lx3:=lz3.trans hlx3
 simp only[go_sem,a1,a2,a3,a4,a5,a6,show X3.get (h2.next+4) 0=some Ai from fa 4 0 X3 oM lx3]
 refine twide_calls (n:=n-2*k) (na nAi lx3) oM oM fun WA4 z4 hwz4 hlz4 pA4=> ?_
 have lz4:=lx3.trans hlz4.lee
 have tz4:=tx3.mono hlz4
 simp only[go_sem,a1,a2,a3,a4,a5,a6]
 refine hin z4 _ _ _ _ _ _ _ (l0j.trans lz4) tz4 pA4.wn oM oM fun Ri X4 m4 d4 hwx4 hlx4 tx4 nRi=> ?_
 have lx4:=lz4.trans hlx4
 have l05:=l0j.trans lx4
 simp only[go_sem,a1,a2,a3,a4,a5,a6,G1 _ l05,G2 _ l05,G3 _ l05]
 refine Leave_calls tx4 oM fun _ X hwX hlX hnX tX=> ?_
 have lX:=lx4.trans hlX
 have b0:e3<z0.next:=Nat.lt_of_lt_of_le hu2 (H.le.lee (u:=e3) l2j|>.trans lz0).1
 have b1:e3<z1.next:=Nat.lt_of_lt_of_le hu2 (H.le.lee (u:=e3) l2j|>.trans lz1).1
 have b2:e3<z2.next:=Nat.lt_of_lt_of_le hu2 (H.le.lee (u:=e3) l2j|>.trans lz2).1
 have b3:e3<z3.next:=Nat.lt_of_lt_of_le hu2 (H.le.lee (u:=e3) l2j|>.trans lz3).1
 have b4:e3<z4.next:=Nat.lt_of_lt_of_le hu2 (H.le.lee (u:=e3) l2j|>.trans lz4).1
 have c4:=hlX
 have c3:H.lee e3 X3 X:=hlz4.lee.trans (hlx4.trans c4)
 have c2:H.lee e3 X2 X:=hlz3.lee.trans (hlx3.trans c3)
 have c1:H.lee e3 X1 X:=hlz2.lee.trans (hlx2.trans c2)
 have c0:H.lee e3 X0 X:=hlz1.lee.trans (hlx1.trans c1)
 have nR0:=(nR0.monoE b0 c0).nt
 have nR1:=(nR1.monoE b1 c1).nt
 have nRm:=(nRm.monoE b2 c2).nt
 have nR2:=(nR2.monoE b3 c3).nt
 have nRi:=(nRi.monoE b4 c4).nt
 have five:=five_of (a0:=α0) (a1:=α1) (a2:=α2) (b0:=α0) (b1:=α1) (b2:=α2)
 have p2k:18446744073709551616^(k+1)*18446744073709551616^(k+1)=18446744073709551616^(2*k+2):=by rw[←Nat.pow_add];congr 1;omega
 have g1:(α0+α1+α2)*(α0+α1+α2)<18446744073709551616^(2*k+2):=by
  rw[←p2k]
  exact Nat.mul_lt_mul_of_lt_of_le oM oM (Nat.pow_pos oM)
 have g2:(α0+2*α1+4*α2)*(α0+2*α1+4*α2)<18446744073709551616^(2*k+2):=by
  rw[←p2k]
  exact Nat.mul_lt_mul_of_lt_of_le oM oM (Nat.pow_pos oM)
 have bR:∀{z:Nat},z<18446744073709551616^(2*k+2)→Big z:=fun hz=>lt_bigW hz oM
 have gm:am1 (α0+α2) α1*am1 (α0+α2) α1<18446744073709551616^(2*k+2):=by
  rw[←p2k]
  exact Nat.mul_lt_mul_of_lt_of_le oM oM (Nat.pow_pos oM)
 have g0:α0*α0<18446744073709551616^(2*k+2):=by
  rw[←p2k]
  exact Nat.mul_lt_mul_of_lt_of_le oM oM (Nat.pow_pos oM)
 have gi:α2*α2<18446744073709551616^(2*k+2):=by
  rw[←p2k]
  exact Nat.mul_lt_mul_of_lt_of_le oM oM (Nat.pow_pos oM)
 rw[show(decide (α0+α2<α1) !=decide (α0+α2<α1))=false by simp] at five
 simp only[go_sem,a1,a2,a3,a4,a5,a6]
 refine joined_calls (k:=k) oM five (nR0.nn (bR g0)) (nR1.nn (bR g1)) (nRm.nn (bR gm)) (nR2.nn (bR g2)) (nRi.nn (bR gi)) (κ:=2*k+2) oM g1 g2 fun r Y hwY hlY hr=> ?_
 have ev:val (18446744073709551616^k) [α0*α0,α0*α1+α1*α0,α0*α2+α1*α1+α2*α0,α1*α2+α2*α1,α2*α2]=x*x:=by
  rw[ex,toom_val]
  simp only[val]
  generalize 18446744073709551616^k=X
  grind
 rw[ev] at hr
 simp only[go_sem]
 exact fun _=>hk r Y _ _ hwY (l05.trans (hlX.trans hlY.lee)) (tX.mono hlY) (hr.base (l05.trans hlX).1)
section
theorem getD_pad {xs:List Nat} {n k:Nat}:(xs++List.replicate n 0).getD k 0=xs.getD k 0:=by
 rw[List.getD_eq_getElem?_getD,List.getD_eq_getElem?_getD]
 rcases Nat.lt_or_ge k xs.length with h|h
 ·rw[List.getElem?_append_left h]
 ·rw[List.getElem?_append_right h,List.getElem?_eq_none h,List.getElem?_replicate]
  split<;>rfl
def autoCost (log:Nat):Nat:=2*(2^log/2*log)+2*2^log
section
variable {p u log T w v m nw dp:Nat} [NeZero p] {tb:Tb} {h:H} {K:AV→H→Prop}
theorem Fwd2_calls {a:AV} {xs:List Nat} (hP:PL h T u p log w v) (ht:Tune h u m nw dp tb) (ha:IsN h a xs) (hx:xs.length=2^log)
  (hk:∀r zs h',h'.wf→H.lee u h h'→Tune h' u (m+2^log/2*log) nw dp tb→IsG h.next h' r zs→zs.length=2^log→(∀i,i<2^log→∃z,zs[i]? =some z∧z<p∧zp p z=fsum (2^log) (fun k=>zp p (xs.getD k 0)*(zp p w^i)^k))→K (.tup [r, .bool true]) h'):
  ACalls Tryz.prog 209 [.ptr (some (T,0)),a] h K:=by
 have hP0:=hP
 obtain⟨mm,up,dn,ups,dns,part,hr,hM,hup,hdn,hups,hdns,h7,h8,h9,hwr,hwp,hvp,hl,h14,h15⟩:=hP
 obtain⟨ia,oa,ca,rfl⟩:=ha.form
 refine in_ntt_Plan_Forward sM fun hw=> ?_
 unfold c_ntt_Plan_Forward
 have g2:h.get T 2=some (.int .i64 (log:Int)):=by rw[H.get_of hr];rfl
 simp only[go_sem]
 refine plSize_calls g2 hl ?_
 simp only[go_sem,neF (show(xs.length:Int)=(2^log:Nat) by rw[hx])]
 refine fwd_calls hP0 ht ha oM fun r zs h1 hw1 hl1 ht1 hG hzl hzv=> ?_
 simp only[go_sem]
 exact fun hw'=>hk r zs h1 hw' hl1 ht1 hG hzl hzv
theorem Inv2_calls {a:AV} {xs:List Nat} (hP:PL h T u p log w v) (ht:Tune h u m nw dp tb) (ha:IsN h a xs) (hx:xs.length=2^log)
  (hk:∀r zs h' part,h'.wf→H.lee u h h'→Tune h' u (m+2^log/2*log+2^log) nw dp tb→IsG h.next h' r zs→zs.length=2^log→2^log*part%p=1→(∀i,i<2^log→∃z,zs[i]? =some z∧z<p∧zp p z=fsum (2^log) (fun k=>zp p (xs.getD k 0)*(zp p v^i)^k)*zp p part)→K (.tup [r, .bool true]) h'):
  ACalls Tryz.prog 211 [.ptr (some (T,0)),a] h K:=by
 have hP0:=hP
 obtain⟨mm,up,dn,ups,dns,part,hr,hM,hup,hdn,hups,hdns,h7,h8,h9,hwr,hwp,hvp,hl,h14,h15⟩:=hP
 obtain⟨ia,oa,ca,rfl⟩:=ha.form
 refine in_ntt_Plan_Inverse sM fun hw=> ?_
 unfold c_ntt_Plan_Inverse
 have g2:h.get T 2=some (.int .i64 (log:Int)):=by rw[H.get_of hr];rfl
 simp only[go_sem]
 refine plSize_calls g2 hl ?_
 simp only[go_sem,neF (show(xs.length:Int)=(2^log:Nat) by rw[hx])]
 refine inv_calls hP0 ht ha oM fun r zs h1 part hw1 hl1 ht1 hG hzl hpart hzv=> ?_
 simp only[go_sem]
 exact fun hw'=>hk r zs h1 part hw' hl1 ht1 hG hzl hpart hzv
theorem auto_calls {a:AV} {xs:List Nat} (hP:PL h T u p log w v) (ht:Tune h u m nw dp tb) (ha:IsN h a xs) (hx:0<xs.length) (hxy:xs.length+xs.length-1≤2^log)
  (hk:∀r zs h',h'.wf→H.lee u h h'→Tune h' u (m+autoCost log) nw dp tb→IsG h.next h' r zs→zs.length=2^log→(∀i,i<2^log→zs[i]? =some ((cvL xs xs).getD i 0%p))→K (.tup [r, .bool true]) h'):
  ACalls Tryz.prog 186 [.ptr (some (T,0)),a] h K:=by
 have hP0:=hP
 obtain⟨mm,up,dn,ups,dns,part0,hr,hM,hup,hdn,hups,hdns,h7,h8,h9,hwr,hwp,hvp,hl,h14,h15⟩:=hP
 obtain⟨ia,oa,ca,rfl⟩:=ha.form
 refine in_conv_auto sM fun hw=> ?_
 unfold c_conv_auto
 have hpl:2^log≤2^20:=Nat.pow_le_pow_right dM hl
 have hp:=hM.p0
 have hub:=H.row_lt hw ht
 have g2:h.get T 2=some (.int .i64 (log:Int)):=by rw[H.get_of hr];rfl
 simp only[go_sem]
 refine plSize_calls g2 hl ?_
 simp only[go_sem]
 refine⟨oM,oM,oM, ?_⟩
 have hl1:=H.le_new hw (H.le_refl h) ⟨some 54,1,zs [AV.int .u64 0] (2^log)⟩
 have hw1:=H.wf_new hw ⟨some 54,1,zs [AV.int .u64 0] (2^log)⟩
 have hG:=IsG.made (b:=h.next) (h:=h) (Nat.le_refl _) (2^log)
 refine cpy_num (b:=h.next) hw1 hG (ha.mono hl1) (by simp;omega) fun h1 hw1 hn1 hle1 hs1=> ?_
 have l01:h.le h1:=hle1 h hw hl1 (Nat.le_refl _)
 rw[List.drop_replicate] at hs1
 have hwl:(xs++List.replicate (2^log-xs.length) 0).length=2^log:=by simp;omega
 simp only[go_sem]
 refine Fwd2_calls (hP0.mono l01) (ht.mono l01) hs1.isN hwl fun x X h2 hw2 hl2 ht2 hX hXl hXv=> ?_
 have hXv:∀i,i<2^log→∃z,X[i]? =some z∧z<p∧zp p z=fsum (2^log) (fun k=>zp p (xs.getD k 0)*(zp p w^i)^k):=fun i hi=>by
  obtain⟨z,z1,z2,z3⟩:=hXv i hi
  exact⟨z,z1,z2,by rw[z3];exact fsum_congr fun k _=>by rw[getD_pad]⟩
 have l02:H.lee u h h2:=l01.lee.trans hl2
 have hX:IsG h.next h2 x X:=IsF.base hX l01.1
 obtain⟨ix,cx,rfl⟩:=hX.form
 rw[hXl] at hX⊢
 have hpos:0<2^log:=Nat.pow_pos dM
 obtain⟨ix,rfl,-⟩:=hX.isN.at (j:=0) oM
 have hix:=hX.id hw2 oM
 simp only[go_sem,Bool.not_true]
 refine loop_cut (fun ρ h'=>h'.wf∧H.lee u h h'∧Tune h' u (m+2^log/2*log) nw dp tb∧ρ 0= .ptr (some (T,0))∧ρ 7= .sl (some ix) 0 (2^log) cx∧
  ∃Z,IsG h.next h' (.sl (some ix) 0 (2^log) cx) Z∧Z.length=2^log∧∀i,i<2^log→Z[i]? =some (X.getD i 0*X.getD i 0%p)) ?_ ?_
 ·refine for_rule (fun k ρ h'=>k≤2^log∧h'.wf∧H.lee u h h'∧Tune h' u (m+2^log/2*log) nw dp tb∧ρ 0= .ptr (some (T,0))∧ρ 7= .sl (some ix) 0 (2^log) cx∧ρ 25= .int .i64 ((2^log:Nat):Int)∧ρ 26= .int .i64 (k:Int)∧
   ∃Z,IsG h.next h' (.sl (some ix) 0 (2^log) cx) Z∧Z.length=2^log∧∀i,i<2^log→Z[i]? =some (if i<k then X.getD i 0*X.getD i 0%p else X.getD i 0)) (2^log)
   ⟨oM,hw2,l02,ht2,tR,tR,rfl,rfl,X,hX,hXl,fun i hi=>by rw[if_neg oM,List.getD_eq_getElem?_getD,List.getElem?_eq_getElem oM];rfl⟩ (fun i ρ h hI=>hI.1) ?_
  rintro k ρ h3 ⟨hkn,hw3,hl3,ht3,q0,q7,q17,q18,Z,hZ,hZl,hZv⟩
  have g0':h3.get T 0=some (.ptr (some (mm,0))):=by rw[H.get_of (hl3.2 _ _ h15 hr)];rfl
  have hM3:=hM.monoE h14 hl3
  generalize 2^log=N at*
  rcases Nat.lt_or_ge k N with h1'|h1'
  ·obtain⟨j,ej,_,hg⟩:=hZ.isN.at (j:=k) oM
   injection ej with ej
   subst ej
   have hv:=hZv k h1'
   rw[if_neg oM,List.getElem?_eq_getElem oM] at hv
   injection hv with hv
   rw[hv,Nat.zero_add] at hg
   obtain⟨j2,r2,ej,bj,lj,hrj,oj,fj,pj⟩:=hZ.put hw3 (j:=k) oM
   injection ej with ej
   subst ej
   simp only[go_sem,q0,q7,q17,q18,ltT h1']
   simp only[go_sem,q0,q7,q17,q18,g0',Int.toNat_natCast]
   refine⟨oM,oM, ?_⟩
   simp only[go_sem,q0,q7,q17,q18,hg,Int.toNat_natCast]
   refine⟨oM,oM, ?_⟩
   refine mMul_calls hM3 ?_
   simp only[go_sem,q0,q7,q17,q18,Int.toNat_natCast]
   refine⟨oM,oM, ?_⟩
   simp only[go_sem,hrj,q0,q7,q17,q18]
   refine⟨oj,oM, ?_⟩
   have pj:=pj (X.getD k 0*X.getD k 0%p)
   have hw4:=H.wf_set hw3 lj {r2 with cells:=putAt r2.cells k [AV.int .u64 ((X.getD k 0*X.getD k 0%p:Nat):Int)]}
   have hl4:H.lee u h (h3.set ix {r2 with cells:=putAt r2.cells k [AV.int .u64 ((X.getD k 0*X.getD k 0%p:Nat):Int)]}):=⟨hl3.1,fun i q hi hq=>by
    rw[H.rows_set_ne (by have:=H.row_lt hw hq;omega)]
    exact hl3.2 i q hi hq⟩
   have ht4:Tune (h3.set ix {r2 with cells:=putAt r2.cells k [AV.int .u64 ((X.getD k 0*X.getD k 0%p:Nat):Int)]}) u (m+N/2*log) nw dp tb:=by
    unfold Tune
    rw[H.rows_set_ne oM]
    exact ht3
   generalize h3.set ix {r2 with cells:=putAt r2.cells k [AV.int .u64 ((X.getD k 0*X.getD k 0%p:Nat):Int)]}=h4 at*
   simp only[go_sem,q0,q7,q17,q18,incI (i:=k) oM]
   refine⟨oM,hw4,hl4,ht4,tR,tR,tR,tR,_,pj,by simp[hZl],fun i hi=> ?_⟩
   by_cases c1:i=k
   ·subst c1
    rw[List.getElem?_set_self oM,if_pos oM]
   ·rw[List.getElem?_set_ne (Ne.symm c1),hZv i hi]
    by_cases c2:i<k
    ·rw[if_pos c2,if_pos oM]
    ·rw[if_neg c2,if_neg oM]
  ·obtain rfl:k=N:=by omega
   simp only[go_sem,q0,q7,q17,q18,ltF h1']
   exact⟨hw3,hl3,ht3,tR,tR,Z,hZ,hZl,fun i hi=>by rw[hZv i hi,if_pos hi]⟩
 ·rintro ρ h3 ⟨hw3,hl3,ht3,q0,q7,Z,hZ,hZl,hZv⟩
  have g1':h3.get T 1=some (.ptr (some (u,0))):=by rw[H.get_of (hl3.2 _ _ h15 hr)];rfl
  simp only[go_sem,q0,q7,g1']
  refine Spend_calls ht3 fun h4 hw4 hl4 hn4 ht4=> ?_
  have hl04:=H.lee.trans hl3 hl4
  simp only[go_sem,q0,q7]
  refine Inv2_calls (hP0.monoE ht hl04) ht4 (hZ.isN.monoE ht3 hl4) hZl fun r zs h5 part hw5 hl5 ht5 hG5 hzl hpart hzv=> ?_
  simp only[go_sem]
  have hN:=hl04.1
  refine fun hw'=>hk r zs h5 hw' (H.lee.trans hl04 hl5) ?_ (IsF.base hG5 hN) hzl fun i hi=> ?_
  ·have:m+2^log/2*log+2^log+2^log/2*log+2^log=m+autoCost log:=by unfold autoCost;omega
   rw[this] at ht5
   exact ht5
  ·obtain⟨z,z1,z2,z3⟩:=hzv i hi
   rw[conv_math (xs:=xs) (ys:=xs) h9 hwr oM hpart hx hx hxy (fun j hj=>by
    obtain⟨a,a1,a2,a3⟩:=hXv j hj
    rw[List.getD_eq_getElem?_getD,hZv j hj,Option.getD_some,zp_mod,zp_mul,List.getD_eq_getElem?_getD,a1,Option.getD_some,a3]) hi] at z3
   have z4:=zp_iff.1 z3
   rw[Nat.mod_eq_of_lt z2] at z4
   rw[z1,z4]
end
section
variable {u m nw dp L:Nat} {tb:Tb} {va:AV} {xs:List Nat} {h:H} {K:AV→H→Prop}
theorem cSqr_calls (ht:Tune h u m nw dp tb) (ha:IsN h va xs) (hxd:Dig xs) (hx:0<xs.length) (hxy:xs.length+xs.length≤1048576) (hL:lgOK (xs.length+xs.length) L)
  (hk:∀r h',h'.wf→H.lee u h h'→Tune h' u (m+3*autoCost L+6*2^L) nw dp tb→Nf h.next h' r (val 18446744073709551616 xs*val 18446744073709551616 xs)→K (.tup [r, .bool true]) h'):
  ACalls Tryz.prog 157 [.ptr (some (u,0)),va] h K:=by
 obtain⟨ia,oa,ca,rfl⟩:=ha.form
 refine in_conv_Sqr sM fun hw=> ?_
 unfold c_conv_Sqr
 have hul:=H.row_lt hw ht
 simp only[go_sem]
 refine⟨rfl, ?_⟩
 simp only[AV.cells,List.length_cons,List.length_nil,Nat.zero_add]
 have hl1:=H.le_new hw (H.le_refl h) ⟨some 25,1,[AV.sl ia oa xs.length ca]⟩
 have hw1:=H.wf_new hw ⟨some 25,1,[AV.sl ia oa xs.length ca]⟩
 have hr1:=H.rows_new h ⟨some 25,1,[AV.sl ia oa xs.length ca]⟩
 generalize h.new ⟨some 25,1,[AV.sl ia oa xs.length ca]⟩=h1 at*
 have g1:h1.get h.next 0=some (.sl ia oa xs.length ca):=by rw[H.get_of hr1];rfl
 simp only[go_sem,g1]
 refine cmay_calls ?_ oM oM
 rw[decide_eq_true ⟨hx,hx,hxy⟩]
 have a1:IntKind.i64.wrap (2*(xs.length:Int))=((xs.length+xs.length:Nat):Int):=by rw[wI]<;>omega
 have a2:IntKind.i64.wrap (((xs.length+xs.length:Nat):Int)-1)=((xs.length+xs.length-1:Nat):Int):=by rw[wI]<;>omega
 simp only[go_sem,Bool.not_true,g1,a1,a2]
 refine cjoined_calls (C:=autoCost L) (tgt:=fun i=>(cvL xs xs).getD i 0) (ht.mono hl1) oM oM hxy hL ?_ (fun i _=>cvL_bound hxd hxd oM i) fun r ws h3 hw3 hl3 ht3 hr hw3' hwd hwv=> ?_
 ·intro g1' p T w v m' nw' dp' K' hp hg1 hlg hPL ht' hk'
  have:NeZero p:=⟨oM⟩
  refine in_conv_Sqr_1 sM fun hw=> ?_
  unfold c_conv_Sqr_1
  have k1:g1'.get h.next 0=some (.sl ia oa xs.length ca):=by rw[H.get_of (hlg.2 _ _ oM hr1)];rfl
  simp only[go_sem,k1]
  have hpw:=hL.1
  refine auto_calls hPL ht' ((ha.mono hl1).monoE (ht.mono hl1) hlg) hx oM fun r zs h' hw' hl' ht'' hG hzl hzv=> ?_
  simp only[go_sem]
  exact fun hw''=>hk' r zs h' hw'' hl' ht'' hG oM fun i hi=>hzv i oM
 ·simp only[go_sem,Bool.not_true]
  rw[map_getD (cvL_len hx hx)] at hwv
  have hwl:ws.length=xs.length+xs.length-1:=by rw[←cvL_len hx hx,←hwv,List.length_map]
  refine Carry_calls hr hw3' hwd oM fun q h4 hw4 hl4 hq=> ?_
  rw[hwv,cvL_val] at hq
  simp only[go_sem]
  exact fun hw'=>hk q h4 hw' ((hl1.lee.trans hl3).trans hl4.lee) (ht3.mono hl4) (hq.base (hl1.lee.trans hl3).1)
end
end
def crossF (xs:List Nat):Nat→Nat
 |0=>0
 |i+1=>crossF xs i+18446744073709551616^i*(xs.getD i 0*(val 18446744073709551616 xs-val 18446744073709551616 (xs.take (i+1))))
def selfF (xs:List Nat):Nat→Nat
 |0=>0
 |i+1=>selfF xs i+18446744073709551616^(2*i)*(xs.getD i 0*xs.getD i 0)
theorem val_take_le {B:Nat} (xs:List Nat) (i:Nat) (hi:i≤xs.length):val B (xs.take i)≤val B xs:=by
 rw[val_cut B xs i hi];exact Nat.le_add_right _ _
theorem cross_step {T S V W z p w:Nat} (h:2*T+S+V*V=2*(V*W)) (hz:z=p*w) (hle:V+z≤W):2*(T+p*(w*(W-(V+z))))+(S+p*p*(w*w))+(V+z)*(V+z)=2*((V+z)*W):=by
 obtain⟨D,rfl⟩:∃D,W=V+z+D:=⟨W-(V+z),oM⟩
 rw[show V+z+D-(V+z)=D by omega]
 subst hz
 grind
theorem cross_self {xs:List Nat}:∀i,i≤xs.length→2*crossF xs i+selfF xs i+val 18446744073709551616 (xs.take i)*val 18446744073709551616 (xs.take i)=2*(val 18446744073709551616 (xs.take i)*val 18446744073709551616 xs):=by
 intro i
 induction i with
 |zero=>intro _;simp[crossF,selfF,val]
 |succ i ih=>
  intro hi
  have ih:=ih oM
  have h1:=val_take_succ 18446744073709551616 xs i oM
  have h2:=val_take_le (B:=18446744073709551616) xs (i+1) hi
  have e1:xs.getD i 0=xs[i]:=by rw[List.getD_eq_getElem?_getD,List.getElem?_eq_getElem oM];rfl
  have e2:18446744073709551616^(2*i)=18446744073709551616^i*18446744073709551616^i:=by rw[←Nat.pow_add];congr 1;omega
  rw[crossF,selfF,e1,e2,h1]
  rw[h1] at h2
  exact cross_step ih rfl h2
theorem cross_all {xs:List Nat}:2*crossF xs xs.length+selfF xs xs.length=val 18446744073709551616 xs*val 18446744073709551616 xs:=by
 have h:=cross_self (xs:=xs) xs.length (Nat.le_refl _)
 rw[List.take_length] at h
 omega
theorem dbl_words {x y w high c hi lo s1 d s2 c':Nat} (hx:x<18446744073709551616) (hy:y<18446744073709551616) (hw:hi*18446744073709551616+lo=w*w) (h1:s1+18446744073709551616*d=x*2%18446744073709551616+high+lo+c) (h2:s2+18446744073709551616*c'=y*2%18446744073709551616+x/2^63+hi+d):
  s1+18446744073709551616*s2+18446744073709551616*18446744073709551616*(c'+y/2^63)=2*(x+18446744073709551616*y)+high+c+w*w:=by
 have hb:18446744073709551616=18446744073709551616:=rfl
 have e1:x*2=x*2%18446744073709551616+18446744073709551616*(x/2^63):=by omega
 have e2:y*2=y*2%18446744073709551616+18446744073709551616*(y/2^63):=by omega
 generalize x*2%18446744073709551616=X at*
 generalize y*2%18446744073709551616=Y at*
 generalize x/2^63=xt at*
 generalize y/2^63=yt at*
 generalize w*w=q at*
 generalize 18446744073709551616=B at*
 grind
theorem take_mono_val {xs:List Nat} {i j:Nat} (h:i≤j) (hj:j≤xs.length):val 18446744073709551616 (xs.take i)≤val 18446744073709551616 (xs.take j):=by
 have:=val_take_le (B:=18446744073709551616) (xs.take j) i (by rw[List.length_take];omega)
 rwa[List.take_take,Nat.min_eq_left h] at this
theorem twoset {os:List Nat} {i a b:Nat} (h:2*i+1<os.length):((os.set (2*i) a).set (2*i+1) b).take (2*(i+1))=os.take (2*i)++[a,b]:=by
 apply List.ext_getElem?
 intro j
 rw[List.getElem?_take]
 rcases Nat.lt_or_ge j (2*i) with h1|h1
 ·rw[if_pos oM,List.getElem?_set_ne oM,List.getElem?_set_ne oM,List.getElem?_append_left (by rw[List.length_take];omega),List.getElem?_take,if_pos h1]
 ·rw[List.getElem?_append_right (by rw[List.length_take];omega),List.length_take,Nat.min_eq_left oM]
  rcases(show j=2*i∨j=2*i+1∨2*i+2≤j by omega) with h2|h2|h2
  ·subst h2
   rw[if_pos oM,List.getElem?_set_ne oM,List.getElem?_set_self oM,Nat.sub_self]
   rfl
  ·subst h2
   rw[if_pos oM,List.getElem?_set_self (by rw[List.length_set];omega),show 2*i+1-2*i=1 by omega]
   rfl
  ·rw[if_neg oM,List.getElem?_eq_none (by simp;omega)]
theorem twoset_drop {os:List Nat} {i a b:Nat}:((os.set (2*i) a).set (2*i+1) b).drop (2*(i+1))=os.drop (2*(i+1)):=by
 rw[dropset oM,dropset oM]
theorem dbl_step {V U S P s1 s2 c' yh x y high c w:Nat} (h:V+P*(high+c)=2*U+S) (hd:s1+18446744073709551616*s2+18446744073709551616*18446744073709551616*(c'+yh)=2*(x+18446744073709551616*y)+high+c+w*w):
  V+P*(s1+18446744073709551616*s2)+P*(18446744073709551616*18446744073709551616)*(yh+c')=2*(U+P*(x+18446744073709551616*y))+(S+P*(w*w)):=by
 generalize 18446744073709551616=B at*
 have e:=congrArg (fun z=>P*z) hd
 simp only[Nat.mul_add] at e h⊢
 have e1:P*(B*B*c')+P*(B*B*yh)=P*(B*B)*yh+P*(B*B)*c':=by grind
 grind
theorem val_two {B a b:Nat}:val B [a,b]=a+B*b:=by simp[val]
set_option maxHeartbeats 2000000 in
theorem sSqr_calls {e u m0 nw dp:Nat} {t:Tb} {va:AV} {xs:List Nat} {h:H} {K:AV→H→Prop} (he:Eng 1 h e u) (ht:Tune h u m0 nw dp t) (hv:IsN h va xs) (hxd:Dig xs) (hxl:xs.length≤1073741824)
  (hk:∀r h' m',h'.wf→H.lee u h h'→Tune h' u m' nw dp t→Nf h.next h' r (val 18446744073709551616 xs*val 18446744073709551616 xs)→K r h'):
  ACalls Tryz.prog 158 [.ptr (some (e,0)),va] h K:=by
 obtain⟨id,off,c,rfl⟩:=hv.form
 refine in_school_Engine_Sqr sM fun hw=> ?_
 unfold c_school_Engine_Sqr
 simp only[Eng] at he
 obtain⟨r1,e1,hr1,hc1,rfl⟩:=he
 have g1:h.get e 0=some (.ptr (some (e1,0))):=by rw[H.get_of hr1,hc1];rfl
 obtain⟨n,hn⟩:∃n,n=xs.length:=⟨_,rfl⟩
 have hmul:n*(n+1)≤1073741824*1073741825:=Nat.mul_le_mul oM oM
 have a0:=incI (i:=n) oM
 have a1:=mulI (a:=n) (b:=n+1) oM
 have a2:((n*(n+1):Nat):Int).tdiv 2=((n*(n+1)/2:Nat):Int):=tdivN (a:=n*(n+1)) (b:=2)
 have a3:=wNI (n:=n*(n+1)/2) oM
 have a4:IntKind.i64.wrap (2*(n:Int))=((2*n:Nat):Int):=mulI (a:=2) (b:=n) oM
 rw[←hn]
 simp only[go_sem,g1,a0,a1,a2,a3]
 refine⟨dM, ?_⟩
 refine Spend_calls ht fun h1 hw1 hl1 hn1 ht1=> ?_
 have hv1:=hv.monoE ht hl1
 rw[←hn] at hv1
 simp only[go_sem,a4]
 refine⟨oM,oM,oM, ?_⟩
 obtain⟨N,hN⟩:∃N,N=2*n:=⟨_,rfl⟩
 rw[←hN]
 have hl2:=H.le_new hw1 (H.le_refl h1) ⟨some 54,1,zs [AV.int .u64 0] N⟩
 refine loop_cut (fun ρ h'=>h'.wf∧h1.le h'∧ρ 1= .sl id off n c∧ρ 6= .sl (some h1.next) 0 N (some N)∧∃os,IsG h1.next h' (.sl (some h1.next) 0 N (some N)) os∧Dig os∧os.length=N∧val 18446744073709551616 os=crossF xs n) ?_ ?_
 ·refine for_rule (fun i ρ h'=>i≤n∧h'.wf∧h1.le h'∧ρ 1= .sl id off n c∧ρ 5= .int .i64 (n:Int)∧ρ 6= .sl (some h1.next) 0 N (some N)∧ρ 42= .sl id off n c∧ρ 43= .int .i64 (n:Int)∧ρ 44= .int .i64 (i:Int)∧∃os,IsG h1.next h' (.sl (some h1.next) 0 N (some N)) os∧Dig os∧os.length=N∧(∀x∈os.drop (i+n),x=0)∧val 18446744073709551616 os=crossF xs i) n
   ⟨oM,H.wf_new hw1 _,hl2,tR,tR,tR,tR,tR,tR,_,IsG.made (Nat.le_refl _) _,Dig.zeros _,sM,fun x hx=>by rw[List.drop_replicate] at hx;exact List.eq_of_mem_replicate hx,by rw[val_zero _ _ (fun x hx=>List.eq_of_mem_replicate hx)];rfl⟩ (fun i ρ h hI=>hI.1) ?_
  rintro i ρ h' ⟨hi,hw',hle,q1,q5,q6,q42,q43,q44,os,hs,hod,hol,hz,hov⟩
  rcases Nat.lt_or_ge i n with hxi|hxi
  ·have hxi':i<xs.length:=by omega
   obtain⟨ja,rfl,_,hga⟩:=(hv1.mono hle).at hxi'
   have hxb:=hxd _ (List.getElem_mem hxi')
   have hgd:xs.getD i 0=xs[i]:=by rw[List.getD_eq_getElem?_getD,List.getElem?_eq_getElem hxi'];rfl
   simp only[go_sem,q1,q5,q6,q42,q43,q44,ltT hxi]
   refine⟨oM,oM, ?_⟩
   simp only[go_sem,hga,q1,q5,q6,q42,q43,q44,incI (i:=i) oM]
   have hcr:crossF xs (i+1)=crossF xs i+18446744073709551616^i*(xs[i]*(val 18446744073709551616 xs-val 18446744073709551616 (xs.take (i+1)))):=by rw[crossF,hgd]
   generalize xs[i]=w at*
   refine loop_cut (fun ρ h'=>h'.wf∧h1.le h'∧ρ 1= .sl (some ja) off n c∧ρ 5= .int .i64 (n:Int)∧ρ 6= .sl (some h1.next) 0 N (some N)∧ρ 42= .sl (some ja) off n c∧ρ 43= .int .i64 (n:Int)∧ρ 44= .int .i64 (i:Int)∧ρ 7= .int .i64 (i:Int)∧∃os cc,ρ 9= .int .u64 (cc:Nat)∧cc<18446744073709551616∧IsG h1.next h' (.sl (some h1.next) 0 N (some N)) os∧Dig os∧os.length=N∧(∀x∈os.drop (i+n),x=0)∧val 18446744073709551616 os+18446744073709551616^(i+n)*cc=crossF xs (i+1)) ?_ ?_
   ·refine for_rule (fun k ρ h'=>k≤n-(i+1)∧h'.wf∧h1.le h'∧ρ 1= .sl (some ja) off n c∧ρ 5= .int .i64 (n:Int)∧ρ 6= .sl (some h1.next) 0 N (some N)∧ρ 42= .sl (some ja) off n c∧ρ 43= .int .i64 (n:Int)∧ρ 44= .int .i64 (i:Int)∧ρ 7= .int .i64 (i:Int)∧ρ 8= .int .u64 (w:Int)∧ρ 10= .int .i64 ((i+1+k:Nat):Int)∧∃os cc,ρ 9= .int .u64 (cc:Nat)∧cc<18446744073709551616∧IsG h1.next h' (.sl (some h1.next) 0 N (some N)) os∧Dig os∧os.length=N∧(∀x∈os.drop (i+n),x=0)∧val 18446744073709551616 os+18446744073709551616^(i+(i+1+k))*cc=crossF xs i+18446744073709551616^i*(w*(val 18446744073709551616 (xs.take (i+1+k))-val 18446744073709551616 (xs.take (i+1))))) (n-(i+1))
     ⟨Nat.zero_le _,hw',hle,q1,q5,q6,tR,q43,q44,tR,tR,tR,os,0,rfl,oM,hs,hod,hol,hz,by simp[hov]⟩ (fun i ρ h hI=>hI.1) ?_
    rintro k ρ h2 ⟨hj,hw2,hle2,q1,q5,q6,q42,q43,q44,q7,q8,q10,os,cc,q9,hcc,hs,hod,hol,hz,hov⟩
    obtain⟨j,hjj⟩:∃j,j=i+1+k:=⟨_,rfl⟩
    rw[←hjj] at q10 hov
    rcases Nat.lt_or_ge j n with hyj|hyj
    ·have hyj':j<xs.length:=by omega
     obtain⟨jb,ejb,_,hgb⟩:=(hv1.mono hle2).at hyj'
     injection ejb with ejb
     subst ejb
     have hyb:=hxd _ (List.getElem_mem hyj')
     have hvy:=val_take_succ 18446744073709551616 xs j hyj'
     have hmon:=take_mono_val (xs:=xs) (i:=i+1) (j:=j) oM oM
     generalize xs[j]=v at*
     have hkN:i+j<os.length:=by omega
     have hob:=hod _ (List.getElem_mem hkN)
     have hset:=fun d=>valset (B:=18446744073709551616) (d:=d) hkN
     obtain⟨jo,eo,_,hgo⟩:=hs.isN.at hkN
     injection eo with eo
     subst eo
     obtain⟨i2,r2,e2,hb2,hlt2,hr2,ho2,hf2,hp2⟩:=hs.put hw2 hkN
     injection e2 with e2
     subst e2
     have ast:=addmul_step (b:=w) (w:=v) (c:=cc) (a:=os[i+j]) hxb hyb hcc hob
     generalize os[i+j]=o at*
     rw[Nat.zero_add] at hgo
     simp only[go_sem,q1,q5,q6,q42,q43,q44,q7,q8,q9,q10,ltT hyj]
     refine⟨oM,oM, ?_⟩
     simp only[go_sem,hgb,q8]
     refine Mul64_calls hxb hyb ?_
     simp only[go_sem,q9]
     have b1:w*v/18446744073709551616<18446744073709551616:=by
      rw[Nat.div_lt_iff_lt_mul oM]
      exact Nat.mul_lt_mul_of_lt_of_le hxb (Nat.le_of_lt hyb) oM
     refine Add64_calls (c:=0) (Nat.mod_lt _ oM) hcc oM ?_
     have b3:w*v/18446744073709551616+(w*v%18446744073709551616+cc)/18446744073709551616<18446744073709551616:=Nat.lt_of_le_of_lt (Nat.le_add_right _ _) ast.2
     have a3:IntKind.u64.wrap (((w*v/18446744073709551616:Nat):Int)+(((w*v%18446744073709551616+cc+0)/18446744073709551616:Nat):Int))=((w*v/18446744073709551616+(w*v%18446744073709551616+cc)/18446744073709551616:Nat):Int):=by rw[Nat.add_zero];exact adU b3
     have a4:=addI (a:=i) (b:=j) oM
     simp only[go_sem,a3,a4,q6,q7,q10]
     refine⟨oM,oM, ?_⟩
     simp only[go_sem,hgo,Nat.add_zero]
     refine Add64_calls (c:=0) hob (Nat.mod_lt _ oM) oM ?_
     have a5:IntKind.u64.wrap (((w*v/18446744073709551616+(w*v%18446744073709551616+cc)/18446744073709551616:Nat):Int)+(((o+(w*v%18446744073709551616+cc)%18446744073709551616+0)/18446744073709551616:Nat):Int))=((w*v/18446744073709551616+(w*v%18446744073709551616+cc)/18446744073709551616+(o+(w*v%18446744073709551616+cc)%18446744073709551616)/18446744073709551616:Nat):Int):=by rw[Nat.add_zero];exact adU ast.2
     simp only[go_sem,a4,q6,q7,q10]
     refine⟨oM,oM, ?_⟩
     simp only[go_sem,hr2]
     refine⟨ho2,oM, ?_⟩
     simp only[go_sem,a5,q1,q5,q6,q42,q43,q44,q7,q8,q10,incI (i:=j) oM]
     refine⟨oM,H.wf_set hw2 hlt2 _,H.le_set hw1 hle2 hb2 _,tR,tR,tR,tR,tR,tR,tR,tR,by rw[show i+1+(k+1)=j+1 by omega],_,_,tR,ast.2,hp2 ((o+(w*v%18446744073709551616+cc)%18446744073709551616+0)%18446744073709551616),hod.set _ (Nat.mod_lt _ oM),by rw[List.length_set];exact hol,by rw[dropset oM];exact hz, ?_⟩
     rw[show i+1+(k+1)=j+1 by omega,hvy,show val 18446744073709551616 (xs.take j)+18446744073709551616^j*v-val 18446744073709551616 (xs.take (i+1))=(val 18446744073709551616 (xs.take j)-val 18446744073709551616 (xs.take (i+1)))+18446744073709551616^j*v by omega,←Nat.add_assoc i j 1]
     refine schoolstep hov (hset _) ?_ rfl
     rw[Nat.add_zero,ast.1,Nat.mul_comm v w]
    ·obtain rfl:j=n:=by omega
     rw[show xs.take j=xs by rw[hn];exact List.take_length,←hcr] at hov
     simp only[go_sem,q1,q5,q6,q42,q43,q44,q7,q10,ltF (Nat.le_refl j)]
     exact⟨hw2,hle2,tR,tR,tR,tR,tR,tR,tR,os,cc,q9,hcc,hs,hod,hol,hz,hov⟩
   ·rintro ρ h2 ⟨hw2,hle2,q1,q5,q6,q42,q43,q44,q7,os,cc,q9,hcc,hs,hod,hol,hz,hov⟩
    have hkN:i+n<os.length:=by omega
    have a4:=addI (a:=i) (b:=n) oM
    obtain⟨i2,r2,e2,hb2,hlt2,hr2,ho2,hf2,hp2⟩:=hs.put hw2 hkN
    injection e2 with e2
    subst e2
    have hset:=valset (B:=18446744073709551616) (d:=cc) hkN
    have h0:os[i+n]=0:=hz _ (by have:=List.getElem_mem (l:=os.drop (i+n)) (n:=0) (by simp;omega);simpa using this)
    rw[h0,Nat.mul_zero,Nat.add_zero] at hset
    simp only[go_sem,q1,q5,q6,q7,q9,a4]
    refine⟨oM,oM, ?_⟩
    simp only[go_sem,hr2]
    refine⟨ho2,oM, ?_⟩
    simp only[go_sem,q1,q5,q6,q42,q43,q44,incI (i:=i) oM]
    refine⟨oM,H.wf_set hw2 hlt2 _,H.le_set hw1 hle2 hb2 _,tR,tR,tR,tR,tR,tR,_,hp2 cc,hod.set _ hcc,by rw[List.length_set];exact hol,fun x hx=> ?_, ?_⟩
    ·rw[show i+1+n=i+n+1 by omega,dropset oM] at hx
     exact hz x (by rw[List.drop_eq_getElem_cons hkN];exact List.mem_cons_of_mem _ hx)
    ·rw[hset,hov]
  ·obtain rfl:i=n:=by omega
   simp only[go_sem,q1,q5,q6,q42,q43,q44,ltF (Nat.le_refl i)]
   exact⟨hw',hle,tR,tR,os,hs,hod,hol,hov⟩
 ·rintro ρ h2 ⟨hw2,hle2,q1,q6,os0,hs0,hod0,hol0,hov0⟩
  simp only[go_sem,q1,q6]
  refine loop_cut (fun ρ h'=>h'.wf∧h1.le h'∧ρ 6= .sl (some h1.next) 0 N (some N)∧∃os,IsG h1.next h' (.sl (some h1.next) 0 N (some N)) os∧Dig os∧os.length=N∧val 18446744073709551616 os=val 18446744073709551616 xs*val 18446744073709551616 xs) ?_ ?_
  ·refine for_rule (fun i ρ h'=>i≤n∧h'.wf∧h1.le h'∧ρ 6= .sl (some h1.next) 0 N (some N)∧ρ 100= .sl id off n c∧ρ 101= .int .i64 (n:Int)∧ρ 102= .int .i64 (i:Int)∧∃os cc hh,ρ 15= .int .u64 (cc:Nat)∧ρ 16= .int .u64 (hh:Nat)∧cc≤1∧hh≤1∧IsG h1.next h' (.sl (some h1.next) 0 N (some N)) os∧Dig os∧os.length=N∧os.drop (2*i)=os0.drop (2*i)∧val 18446744073709551616 (os.take (2*i))+18446744073709551616^(2*i)*(hh+cc)=2*val 18446744073709551616 (os0.take (2*i))+selfF xs i) n
    ⟨oM,hw2,hle2,tR,tR,tR,tR,os0,0,0,tR,tR,oM,oM,hs0,hod0,hol0,rfl,by simp[val,selfF]⟩ (fun i ρ h hI=>hI.1) ?_
   rintro i ρ h3 ⟨hi,hw3,hle3,q6,q100,q101,q102,os,cc,hh,q15,q16,hcc,hhh,hs,hod,hol,hdr,hov⟩
   rcases Nat.lt_or_ge i n with hxi|hxi
   ·have hxi':i<xs.length:=by omega
    obtain⟨ja,rfl,_,hga⟩:=(hv1.mono hle3).at hxi'
    have hxb:=hxd _ (List.getElem_mem hxi')
    have hgd:xs.getD i 0=xs[i]:=by rw[List.getD_eq_getElem?_getD,List.getElem?_eq_getElem hxi'];rfl
    have hsf:selfF xs (i+1)=selfF xs i+18446744073709551616^(2*i)*(xs[i]*xs[i]):=by rw[selfF,hgd]
    have k1:2*i<os.length:=by omega
    have k2:2*i+1<os.length:=by omega
    have k3:2*i<os0.length:=by omega
    have k4:2*i+1<os0.length:=by omega
    have x1:os0[2*i]=os[2*i]:=by
     have h5:=congrArg (fun l=>l[0]?) hdr
     simp only[List.getElem?_drop,Nat.add_zero,List.getElem?_eq_getElem k1,List.getElem?_eq_getElem k3] at h5
     injection h5 with h5
     exact h5.symm
    have x2:os0[2*i+1]=os[2*i+1]:=by
     have h5:=congrArg (fun l=>l[1]?) hdr
     simp only[List.getElem?_drop,List.getElem?_eq_getElem k2,List.getElem?_eq_getElem k4] at h5
     injection h5 with h5
     exact h5.symm
    have v1:=val_take_succ 18446744073709551616 os0 (2*i) k3
    have v2:=val_take_succ 18446744073709551616 os0 (2*i+1) k4
    rw[x1] at v1
    rw[x2,v1] at v2
    have hxx:=hod _ (List.getElem_mem k1)
    have hyy:=hod _ (List.getElem_mem k2)
    obtain⟨jo,eo,_,hg1⟩:=hs.isN.at k1
    injection eo with eo
    subst eo
    obtain⟨jo,eo,_,hg2⟩:=hs.isN.at k2
    injection eo with eo
    subst eo
    obtain⟨i2,r2,e2,hb2,hlt2,hr2,ho2,hf2,hp2⟩:=hs.put hw3 k1
    injection e2 with e2
    subst e2
    rw[Nat.zero_add] at hg1 hg2
    generalize xs[i]=w at*
    generalize os[2*i]=x at*
    generalize os[2*i+1]=y at*
    have m1:IntKind.i64.wrap (2*(i:Int))=((2*i:Nat):Int):=mulI (a:=2) (b:=i) oM
    have m2:=incI (i:=2*i) oM
    have s1:=shl64 (w:=x) (s:=1) (t:=hh) hxx oM oM
    have s2:=shl64 (w:=y) (s:=1) (t:=x/2^63) hyy oM oM
    rw[bOr_comm,Nat.pow_one] at s1 s2
    have s3:bShr .u64 (x:Int) 63=((x/2^63:Nat):Int):=shrU oM
    have s4:bShr .u64 (y:Int) 63=((y/2^63:Nat):Int):=shrU oM
    simp only[go_sem,q6,q100,q101,q102,ltT hxi]
    refine⟨oM,oM, ?_⟩
    simp only[go_sem,hga,q6,q100,q101,q102]
    refine Mul64_calls hxb hxb ?_
    simp only[go_sem,q6,m1,m2]
    refine⟨oM,oM, ?_⟩
    simp only[go_sem,q6,hg1,m1,m2]
    refine⟨oM,oM, ?_⟩
    simp only[go_sem,q6,hg2,m1,m2,q16,q15,show(1:Int).toNat=1 from rfl,s1.1]
    have b1:w*w/18446744073709551616<18446744073709551616:=by
     rw[Nat.div_lt_iff_lt_mul oM]
     exact Nat.mul_lt_mul_of_lt_of_le hxb (Nat.le_of_lt hxb) oM
    refine⟨oM, ?_⟩
    refine Add64_calls s1.2.1 (Nat.mod_lt _ oM) hcc ?_
    have hd1:(x*2%18446744073709551616+hh+w*w%18446744073709551616+cc)/18446744073709551616≤1:=by
     have:=s1.2.1
     omega
    simp only[go_sem,q6,m1,m2]
    refine⟨oM,oM, ?_⟩
    simp only[go_sem,hr2]
    refine⟨ho2,oM, ?_⟩
    obtain⟨z1,hz1⟩:∃z,z=(x*2%18446744073709551616+hh+w*w%18446744073709551616+cc)%18446744073709551616:=⟨_,rfl⟩
    obtain⟨d1,hd1'⟩:∃z,z=(x*2%18446744073709551616+hh+w*w%18446744073709551616+cc)/18446744073709551616:=⟨_,rfl⟩
    have hsum1:z1+18446744073709551616*d1=x*2%18446744073709551616+hh+w*w%18446744073709551616+cc:=by rw[hz1,hd1'];exact Nat.mod_add_div _ _
    have hz1b:z1<18446744073709551616:=by rw[hz1];exact Nat.mod_lt _ oM
    have hG4:=hp2 z1
    rw[←hz1,←hd1']
    rw[←hd1'] at hd1
    have hw4:=H.wf_set hw3 hlt2 {r2 with cells:=putAt r2.cells (2*i) [AV.int .u64 (z1:Int)]}
    have hl4:=H.le_set hw1 hle3 hb2 {r2 with cells:=putAt r2.cells (2*i) [AV.int .u64 (z1:Int)]}
    generalize h3.set h1.next {r2 with cells:=putAt r2.cells (2*i) [AV.int .u64 (z1:Int)]}=h4 at*
    refine⟨dM,dM, ?_⟩
    rw[s3,s2.1]
    refine Add64_calls s2.2.1 b1 hd1 ?_
    obtain⟨z2,hz2⟩:∃z,z=(y*2%18446744073709551616+x/2^63+w*w/18446744073709551616+d1)%18446744073709551616:=⟨_,rfl⟩
    obtain⟨c2,hc2⟩:∃z,z=(y*2%18446744073709551616+x/2^63+w*w/18446744073709551616+d1)/18446744073709551616:=⟨_,rfl⟩
    have hsum2:z2+18446744073709551616*c2=y*2%18446744073709551616+x/2^63+w*w/18446744073709551616+d1:=by rw[hz2,hc2];exact Nat.mod_add_div _ _
    have hz2b:z2<18446744073709551616:=by rw[hz2];exact Nat.mod_lt _ oM
    have hc2b:c2≤1:=by
     have:=s2.2.1
     omega
    have hyb:y/2^63≤1:=by omega
    rw[←hz2,←hc2]
    obtain⟨i3,r3,e3,hb3,hlt3,hr3,ho3,hf3,hp3⟩:=hG4.put hw4 (j:=2*i+1) (by rw[List.length_set];omega)
    injection e3 with e3
    subst e3
    simp only[go_sem,q6,m1,m2]
    refine⟨oM,oM, ?_⟩
    simp only[go_sem,hr3]
    refine⟨ho3,oM, ?_⟩
    simp only[go_sem,s4,q6,q100,q101,q102,incI (i:=i) oM]
    have hdw:=dbl_words hxx hyy (Nat.div_add_mod' (w*w) 18446744073709551616) hsum1 hsum2
    have e2i:18446744073709551616^(2*i+1)=18446744073709551616^(2*i)*18446744073709551616:=Nat.pow_succ ..
    have e2j:18446744073709551616^(2*(i+1))=18446744073709551616^(2*i)*(18446744073709551616*18446744073709551616):=by rw[show 2*(i+1)=2*i+1+1 by omega,Nat.pow_succ,e2i,Nat.mul_assoc]
    refine⟨dM,oM,H.wf_set hw4 hlt3 _,H.le_set hw1 hl4 hb3 _,tR,tR,tR,tR,_,c2,y/2^63,tR,tR,hc2b,hyb,hp3 z2,(hod.set _ hz1b).set _ hz2b,by rw[List.length_set,List.length_set];exact hol, ?_, ?_⟩
    ·rw[twoset_drop,show 2*(i+1)=2*i+2 by omega,←List.drop_drop,hdr,List.drop_drop]
    ·rw[twoset k2,val_append,List.length_take,Nat.min_eq_left oM,val_two,e2j,hsf,show 2*(i+1)=2*i+1+1 by omega,v2,e2i,Nat.add_assoc (val 18446744073709551616 (os0.take (2*i))),Nat.mul_assoc (18446744073709551616^(2*i)) 18446744073709551616 y,←Nat.mul_add]
     exact dbl_step hov hdw
   ·obtain rfl:i=n:=by omega
    rw[List.take_of_length_le oM,List.take_of_length_le oM,hov0] at hov
    have hca:=cross_all (xs:=xs)
    rw[←hn] at hca
    rw[hca] at hov
    have hvl:=val_lt 18446744073709551616 oM xs hxd
    rw[←hn] at hvl
    have hv2:val 18446744073709551616 xs*val 18446744073709551616 xs<18446744073709551616^i*18446744073709551616^i:=Nat.mul_lt_mul_of_lt_of_le hvl (Nat.le_of_lt hvl) (Nat.pow_pos oM)
    rw[←Nat.pow_add,show i+i=2*i by omega] at hv2
    have hz:hh+cc=0:=by
     rcases Nat.eq_zero_or_pos (hh+cc) with h5|h5
     ·exact h5
     ·have:=Nat.le_mul_of_pos_right (18446744073709551616^(2*i)) h5
      omega
    rw[hz,Nat.mul_zero,Nat.add_zero] at hov
    simp only[go_sem,q6,q100,q101,q102,ltF (Nat.le_refl i)]
    exact⟨hw3,hle3,tR,os,hs,hod,hol,hov⟩
  ·rintro ρ h3 ⟨hw3,hle3,q6,os,hs,hod,hol,hov⟩
   simp only[go_sem,q6]
   refine Norm_calls ⟨os,hs.isN,hod,oM,hov⟩ fun r h4 hw4 hl4 hr=> ?_
   simp only[go_sem]
   exact fun _=>hk r h4 _ hw4 (hl1.trans (H.le_trans hle3 hl4).lee) ((ht1.mono hle3).mono hl4) (hr.base (by have:=hle3.1;omega))
section
section
variable {e u m nw dp a x:Nat} {t:Tb} {va:AV} {h:H} {K:AV→H→Prop}
set_option maxHeartbeats 1000000 in
theorem square_ok:∀(M:Nat),M≤16384→∀(h:H) (m nw dp:Nat),Eng 4 h e u→Tune h u m nw dp t→SqOK 133 [.ptr (some (e,0))] [] h u t M 1000000000:=by
 intro M
 induction M using Nat.strongRecOn with
 |_ M ih=>
  intro hM h m nw dp he ht h1 m1 nw1 dp1 n x va K hl1 ht1 nv hn htop hk
  have he1:=he.monoE ht hl1
  refine in_mul_Engine_square sM fun hw=> ?_
  unfold c_mul_Engine_square
  obtain⟨ida,offa,ca,rfl⟩:=nv.form
  obtain⟨e1,he1',G1⟩:=he1.open ht1
  obtain⟨e2,he2,G2⟩:=he1'.open ht1
  obtain⟨e3,he3,G3⟩:=he2.open ht1
  obtain⟨e4,he4,G4⟩:=he3.open ht1
  obtain rfl:e4=u:=he4
  have g1:=G1 h1 (H.lee_refl _ _)
  have g2:=G2 h1 (H.lee_refl _ _)
  have g3:=G3 h1 (H.lee_refl _ _)
  have g4:=G4 h1 (H.lee_refl _ _)
  simp only[List.cons_append,List.nil_append]
  simp only[go_sem,g1,g2,g3,g4]
  refine tRoute2_calls ht1 fun h2 hw2 hl2=> ?_
  have nv2:=nv.mono hl2
  have ht2:=ht1.mono hl2
  have he22:=he2.mono hl2
  have he12:=he1'.mono hl2
  have he32:=he3.mono hl2
  have l12:=hl2.lee (u:=e4)
  have hn2:h1.next≤h2.next:=hl2.1
  have g12:=G1 h2 l12
  have g22:=G2 h2 l12
  have g32:=G3 h2 l12
  have g42:=G4 h2 l12
  have hra:=routeT_at (t:=t) (Nat.le_refl n) (show n≤16384 by omega)
  have hok:=(clamp_isT t).ok
  have hB:=hok.b1
  have lb:4≤n→lev n=lev ((n+1)/2+1)+1:=fun h4=>lev_big h4
  have school:∀K0:AV→H→Prop,(∀r h' m',h'.wf→H.lee e4 h2 h'→Tune h' e4 m' nw1 dp1 t→Nf h2.next h' r (x*x)→K0 r h')→ACalls Tryz.prog 158 [.ptr (some (e3,0)), .sl ida offa n ca] h2 K0:=by
   intro K0 hK
   obtain⟨xs,hv,hxd,hxl,hxv⟩:=nv2
   refine sSqr_calls he32 ht2 hv hxd oM fun r h' m' a1 a2 a3 a4=> ?_
   rw[hxv] at a4
   exact hK r h' m' a1 a2 a3 a4
  rcases route_cases (B:=(clampT t).base.toNat) (T:=(clampT t).toom.toNat) (N:=(clampT t).ntt.toNat) n n with⟨r0,c0⟩|⟨r0,c0,c1⟩|⟨r0,c0,c1,c2⟩|⟨r0,c0,c1,c2,c3⟩|⟨r0,c0,c1,c2,c3,c4,c5⟩|⟨r0,c0,c1,c2,c3,c4⟩
  ·rw[r0] at hra
   rw[hra]
   have hx0:x=0:=by
    have:=nv.lt
    obtain rfl:n=0:=by omega
    omega
   simp only[go_sem,show(((0:Nat):Int)==0)=true from rfl]
   refine times_ok 16384 (Nat.le_refl _) h2 _ _ _ (he1.mono hl2) ht2 h2 _ _ _ _ _ _ _ _ _ _ (H.lee_refl _ _) ht2 nv2 nv2 oM oM ?_ fun r h3 m3 dp3 hw3 hl3 ht3 _ hr=> ?_
   ·obtain rfl:n=0:=by omega
    have:lev2 0 0=0:=lev_small dM
    omega
   ·simp only[go_sem]
    exact fun hw'=>hk r h3 _ _ hw' (l12.trans hl3) ht3 (hr.base hn2)
  ·rw[r0] at hra
   rw[hra]
   simp only[go_sem,show(((1:Nat):Int)==0)=false from rfl,show(((1:Nat):Int)==3)=false from rfl,show(((1:Nat):Int)==4)=false from rfl,show(((1:Nat):Int)==5)=false from rfl,g12,g22,g32,Bool.not_false]
   refine school _ fun r h3 m3 hw3 hl3 ht3 hr=> ?_
   simp only[go_sem]
   exact fun hw'=>hk r h3 _ _ hw' (l12.trans hl3) ht3 (hr.base hn2)
  ·omega
  ·rw[r0] at hra
   rw[hra]
   have h4:4≤n:=by omega
   have lb:=lb h4
   simp only[go_sem,show(((3:Nat):Int)==0)=false from rfl,show(((3:Nat):Int)==3)=true from rfl,g12,g22]
   refine KaraSqr_calls he22 ht2 nv2 oM oM (ih ((n+1)/2+1) oM oM h2 _ _ _ (he1.mono hl2) ht2) (Nat.le_refl _) oM oM fun r h3 m3 dp3 hw3 hl3 ht3 hr=> ?_
   simp only[go_sem,Bool.not_true]
   exact fun hw'=>hk r h3 _ _ hw' (l12.trans hl3) ht3 (hr.base hn2)
  ·rw[r0] at hra
   rw[hra]
   have h4:4≤n:=by omega
   have lb:=lb h4
   have lm:lev ((n+2)/3+1)≤lev ((n+1)/2+1):=lev_mono _ _ oM
   simp only[go_sem,show(((4:Nat):Int)==0)=false from rfl,show(((4:Nat):Int)==3)=false from rfl,show(((4:Nat):Int)==4)=true from rfl,g12]
   refine ToomSqr_calls he12 ht2 nv2 oM oM (ih ((n+1)/2+1) oM oM h2 _ _ _ (he1.mono hl2) ht2) oM oM oM fun r h3 m3 dp3 hw3 hl3 ht3 hr=> ?_
   simp only[go_sem,Bool.not_true]
   exact fun hw'=>hk r h3 _ _ hw' (l12.trans hl3) ht3 (hr.base hn2)
  ·rw[r0] at hra
   rw[hra]
   obtain⟨xs,hv,hxd,hxl,hxv⟩:=nv2
   have hL:=lg_blen (n:=xs.length+xs.length) oM oM
   simp only[go_sem,show(((5:Nat):Int)==0)=false from rfl,show(((5:Nat):Int)==3)=false from rfl,show(((5:Nat):Int)==4)=false from rfl,show(((5:Nat):Int)==5)=true from rfl,g12,g22,g32,g42]
   refine cSqr_calls ht2 hv hxd oM oM hL fun r h3 hw3 hl3 ht3 hr=> ?_
   rw[hxv] at hr
   simp only[go_sem,Bool.not_true]
   exact fun hw'=>hk r h3 _ _ hw' (l12.trans hl3) ht3 (hr.base hn2)
theorem Sqr_calls (he:Eng 4 h e u) (ht:Tune h u m nw dp t) (nv:Nn h va x) (hx:wlen x≤16384) (hnw:nw≤900000000)
  (hk:∀r h' m' dp',h'.wf→H.lee u h h'→Tune h' u m' nw dp' t→Nf h.next h' r (x*x)→K r h'):
  ACalls Tryz.prog 115 [.ptr (some (e,0)),va] h K:=by
 refine in_mul_Engine_Sqr sM fun hw=> ?_
 unfold c_mul_Engine_Sqr
 simp only[go_sem]
 refine mwords_calls nv fun r1 n1=> ?_
 simp only[go_sem]
 have hlv:lev (wlen x)≤wlen x:=lev_le _
 refine square_ok 16384 (Nat.le_refl _) h m nw dp he ht h m nw dp _ x r1 _ (H.lee_refl _ _) ht n1 hx oM fun r h' m' dp' hw' hl' ht' hr=> ?_
 simp only[go_sem]
 exact fun hw''=>hk r h' m' dp' hw'' hl' ht' hr
end
end
end Ab
end Go.Proofs.YtnlkbdmmoplkoaaGreatDoor
