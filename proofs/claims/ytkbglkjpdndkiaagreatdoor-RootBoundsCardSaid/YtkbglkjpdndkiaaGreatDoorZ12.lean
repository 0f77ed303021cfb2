/- Joined texts: U5 U6 U7 U8 U9 C8. No condition. -/
import Derived.Test.YtkbglkjpdndkiaaGreatDoorZ11
import Derived.Test.YtkbglkjpdndkiaaGreatDoorProg
import Derived.KernelRfl
namespace Go.Proofs.YtkbglkjpdndkiaaGreatDoor
namespace Ab
open Go Go.RowKit
set_option linter.unusedSimpArgs false
set_option linter.unusedVariables false
attribute [local go_sem ↓] x_mv x_pick x_bin x_beq x_peq x_seq x_cat x_aeq x_idxS x_idxV x_un x_cvI x_bts x_idx x_idxA x_fld x_ld x_st x_nn x_prt x_slc x_mk x_bsl x_bld x_box x_alloc x_len x_capo x_mnx x_app x_cpy x_mkf x_ext x_call x_callV x_bad s_none s_some s_nil s_cons s_chks w_skip w_reg tP_fin tP_no tP_alt w_seq w_cond w_block w_exit w_ret t_normal t_exit t_ret b_normal b_ret b_exit n_normal n_exit n_ret p_normal p_ret f_nil f_t f_c k_ops k_chk k_fin
attribute [local go_sem] e_t e_c e_f u_some u_none u_at env_at k_v k_pick k_add k_sub k_mul k_quo k_rem k_and k_or k_xor k_shl k_shr k_eql k_neq k_lss k_leq k_gtr k_geq k_beq k_peqn k_peqs k_neg k_not k_com k_cvI k_idxS k_idxV1 k_idxVn k_idx k_idxA k_idxG k_ldG k_gld k_seq k_cat k_aeq k_eqs k_fld k_ld1 k_ldn k_get k_gets k_sti k_stb k_stp k_sts k_stf k_sta k_put k_nn k_prt1 k_prtn k_slc_a k_slc_b k_slc_c k_mk k_agg k_bsl k_box k_len k_lenS k_cap k_max k_min k_ext k_callV k_true k_false k_gtt k_gtf k_gft k_gsk k_gff k_lit1i k_lit2i k_lit3i k_c0 k_c1 k_ck List.getElem?_cons_zero List.getElem?_cons_succ List.getElem?_nil Option.getD_some Option.getD_none tupOf List.map_cons List.map_nil Option.map_some Option.map_none List.nil_append List.cons_append List.append_nil Nat.mul_one Int.toNat_natCast Nat.zero_add
attribute [local go_sem] e_t e_c e_f u_some u_none u_at env_at k_v k_pick k_add k_sub k_mul k_quo k_rem k_and k_or k_xor k_shl k_shr k_eql k_neq k_lss k_leq k_gtr k_geq k_beq k_peqn k_peqs k_neg k_not k_com k_cvI k_idxS k_idxV1 k_idxVn k_idx k_idxA k_idxG k_ldG k_gld k_seq k_cat k_aeq k_eqs k_fld k_ld1 k_ldn k_get k_gets k_sti k_stb k_stp k_sts k_stf k_sta k_put k_nn k_prt1 k_prtn k_slc_a k_slc_b k_slc_c k_mk k_agg k_bsl k_box k_len k_lenS k_cap k_max k_min k_ext k_callV k_true k_false k_gtt k_gtf k_gft k_gsk k_gff k_lit1i k_lit2i k_lit3i k_c0 k_c1 k_ck List.getElem?_cons_zero List.getElem?_cons_succ List.getElem?_nil Option.getD_some Option.getD_none tupOf List.map_cons List.map_nil Option.map_some Option.map_none List.nil_append List.cons_append List.append_nil Nat.mul_one Int.toNat_natCast Nat.zero_add
--what a store into a cell of two leaves
attribute [local go_sem_proc] Nat.reduceEqDiff Nat.reduceAdd Int.reduceToNat
attribute [local go_sem_proc ↓] reduceIte
attribute [local go_sem] Bool.false_eq_true
section
def TwoOK (e u:Nat) (t:Tb) (N:Nat) (h0:H):Prop:=
 ∀(h1:H) (m nw dp a b:Nat) (va vb:AV) (K:AV→H→Prop),H.lee u h0 h1→Tune h1 u m nw dp t→Nn h1 va a→Nn h1 vb b→a<b*18446744073709551616^N→18446744073709551616^N≤2*b→b<18446744073709551616^N→nw+N+2≤700000000→
  (∀q r h' m' dp',h'.wf→H.lee u h1 h'→Tune h' u m' nw dp' t→Sp m dp m' dp' nw (8*(N*N)) (lev N+1)→Nf h1.next h' q (a/b)→Nf h1.next h' r (a%b)→K (.tup [q,r]) h')→
  ACalls Tryz.prog 107 [.ptr (some (e,0)),va,vb, .int .i64 (N:Int)] h1 K
theorem quot_math {a b q r p:Nat} (h:a+p=q*b+r) (h1:p≤r) (h2:r<p+b):a/b=q∧a%b=r-p:=by
 have e:a=(r-p)+b*q:=by rw[Nat.mul_comm b q];omega
 have hb:0<b:=by omega
 have h3:r-p<b:=by omega
 constructor
 ·rw[e,Nat.add_mul_div_left _ _ hb,Nat.div_eq_of_lt h3,Nat.zero_add]
 ·rw[e,Nat.add_mul_mod_self_left,Nat.mod_eq_of_lt h3]
theorem three_pieces {a b X b0 b1 low rest:Nat} (hb0:b0=b%X) (hb1:b1=b/X) (hl:low=a%X) (hr:rest=a/X) {Q R:Nat} (h:Q*b1+R=rest):a+Q*b0=Q*b+(low+X*R):=by
 have e1:=Nat.div_add_mod b X
 have e2:=Nat.div_add_mod a X
 rw[←hb0,←hb1] at e1
 rw[←hl,←hr,←h] at e2
 rw[←e2,←e1,Nat.mul_add,Nat.mul_add]
 have:X*(Q*b1)=Q*(X*b1):=by ac_rfl
 omega
theorem big_pow {x n:Nat} (h:x<18446744073709551616^n) (hn:n≤400000):Big x:=lt_bigW h hn
theorem mul_lt_pow {x y n k:Nat} (hx:x<18446744073709551616^n) (hy:y≤18446744073709551616^k):x*y<18446744073709551616^(n+k):=by
 rw[Nat.pow_add]
 exact Nat.mul_lt_mul_of_lt_of_le hx hy (Nat.pow_pos (by omega))
section
variable {e u m nw dp a b N:Nat} {t:Tb} {va vb:AV} {h:H} {K:AV→H→Prop}
theorem three_pre {η a b b0 b1 low rest:Nat} (hlo:18446744073709551616^(2*η)≤2*b) (hhi:b<18446744073709551616^(2*η)) (hab:a<b*18446744073709551616^η) (hb0:b0=b%18446744073709551616^η) (hb1:b1=b/18446744073709551616^η) (hl:low=a%18446744073709551616^η) (hr:rest=a/18446744073709551616^η):
  b0<18446744073709551616^η∧b1<18446744073709551616^η∧18446744073709551616^η≤2*b1+1∧low<18446744073709551616^η∧rest<b∧b1*18446744073709551616^η≤b∧1≤18446744073709551616^η∧rest/18446744073709551616^η≤b1:=by
 have hX:0<18446744073709551616^η:=Nat.pow_pos (by omega)
 have e2:18446744073709551616^(2*η)=18446744073709551616^η*18446744073709551616^η:=by rw[←Nat.pow_add];congr 1;omega
 rw[e2] at hlo hhi
 have hdm:=Nat.div_add_mod b (18446744073709551616^η)
 have m1:=Nat.mod_lt b hX
 have m2:=Nat.mod_lt a hX
 have hrest:a/18446744073709551616^η<b:=(Nat.div_lt_iff_lt_mul hX).2 hab
 have hb1':b/18446744073709551616^η<18446744073709551616^η:=(Nat.div_lt_iff_lt_mul hX).2 hhi
 have hle:b/18446744073709551616^η*18446744073709551616^η≤b:=Nat.div_mul_le_self b _
 generalize 18446744073709551616^η=X at*
 subst hb0 hb1 hl hr
 refine⟨m1,hb1', ?_,m2,hrest,hle,hX,Nat.div_le_div_right (Nat.le_of_lt hrest)⟩
 rcases Nat.lt_or_ge (2*(b/X)+1) X with h|h
 ·exfalso
  have h1:2*b<X*(2*(b/X)+2):=by
   have:X*(2*(b/X)+2)=2*(X*(b/X))+2*X:=by rw[Nat.mul_add,←Nat.mul_assoc,Nat.mul_comm X 2,Nat.mul_assoc]
   omega
  have h2:X*(2*(b/X)+2)≤X*X:=Nat.mul_le_mul_left _ (by omega)
  omega
 ·exact h
theorem three_even {η b1:Nat} (hη:1≤η) (h:18446744073709551616^η≤2*b1+1):18446744073709551616^η≤2*b1:=by
 obtain⟨k,rfl⟩:∃k,η=k+1:=⟨η-1,by omega⟩
 have:18446744073709551616^(k+1)=2*(18446744073709551616^k*9223372036854775808):=by rw[Nat.pow_succ];omega
 omega
set_option maxHeartbeats 1000000 in
theorem three_calls2 {η:Nat} (he:Eng 7 h e u) (ht:Tune h u m nw dp t) (na:Nn h va a) (nb:Nn h vb b) (hη:1≤η) (hη2:η≤16000) (hab:a<b*18446744073709551616^η) (hlo:18446744073709551616^(2*η)≤2*b) (hhi:b<18446744073709551616^(2*η)) (hnw:nw+η+2≤700000000) (htwo:TwoOK e u t η h)
  (hk:∀q r h' m' dp',h'.wf→H.lee u h h'→Tune h' u m' nw dp' t→Sp m dp m' dp' nw (16*(η*η)) (lev η+1)→Nf h.next h' q (a/b)→Nf h.next h' r (a%b)→K (.tup [q,r]) h'):
  ACalls Tryz.prog 123 [.ptr (some (e,0)),va,vb, .int .i64 (η:Int)] h K:=by
 refine in_div_Engine_three (by simp) fun hw=> ?_
 unfold c_div_Engine_three
 obtain⟨f,rfl,rfl,G,E⟩:=Eng.path ht he
 have hu:=H.row_lt hw ht
 have wb:wlen b≤2*η:=wlen_le.2 hhi
 have wa:wlen a≤3*η:=wlen_le.2 (by
  have:=mul_lt_pow hhi (Nat.le_refl (18446744073709551616^η))
  rw[show 2*η+η=3*η by omega] at this
  exact Nat.lt_trans hab this)
 simp only[go_sem]
 refine Split_calls nb (by omega) (by omega) fun v0 v1 h1 hw1 hl1 hb0 hb1=> ?_
 simp only[go_sem]
 refine Split_calls (na.mono hl1) (by omega) (by omega) fun vl vr h2 hw2 hl2 hlow hrest=> ?_
 obtain⟨p1,p2,p3,p4,p5,p6,p7,p8⟩:=three_pre hlo hhi hab rfl rfl rfl rfl
 have p3:=three_even hη p3
 have tp:= @three_pieces a b (18446744073709551616^η) _ _ _ _ rfl rfl rfl rfl
 have wr:wlen (a/18446744073709551616^η)≤2*η:=Nat.le_trans (wlen_mono (Nat.le_of_lt p5)) wb
 have hr1:a/18446744073709551616^η/18446744073709551616^η*18446744073709551616^η≤a/18446744073709551616^η:=Nat.div_mul_le_self _ _
 have hdv:=Nat.div_add_mod (a/18446744073709551616^η) (18446744073709551616^η)
 have hm4:=Nat.mod_lt (a/18446744073709551616^η) (show 0<18446744073709551616^η by omega)
 generalize b%18446744073709551616^η=b0 at*
 generalize b/18446744073709551616^η=b1 at*
 generalize a%18446744073709551616^η=low at*
 generalize a/18446744073709551616^η=rest at*
 simp only[go_sem]
 refine Split_calls (hrest.nn (wbig wr (by omega))) (by omega) (by omega) fun vr0 vh h3 hw3 hl3 hr0 hhigh=> ?_
 have l23:=hl3
 have hb0:=hb0.mono (H.le_trans hl2 hl3)
 have hb1:=hb1.mono (H.le_trans hl2 hl3)
 have hlow:=hlow.mono hl3
 have hrest:=hrest.mono hl3
 have l03:=(H.le_trans hl1 (H.le_trans hl2 hl3))
 have ht3:=ht.mono l03
 have bb0:Big b0:=big_pow p1 (by omega)
 have bb1:Big b1:=big_pow p2 (by omega)
 have blow:Big low:=big_pow p4 (by omega)
 have brest:Big rest:=wbig wr (by omega)
 have hub0:=Nat.lt_of_lt_of_le hu hl1.1
 have hub1:=Nat.lt_of_lt_of_le hub0 hl2.1
 simp only[go_sem]
 refine lCmp_calls (hhigh.nn (brest.le (Nat.div_le_self _ _))) (hb1.nn bb1) ?_
 simp only[go_sem]
 refine cond_cut (fun ρ' h'=>h'.wf∧H.lee (f 7) h3 h'∧ρ' 0= .ptr (some (f 0,0))∧ρ' 2=vb∧ρ' 3= .int .i64 (η:Int)∧ρ' 10=v0∧ρ' 12=vl∧∃Q R m' dp',Nf h3.next h' (ρ' 8) Q∧Nf h3.next h' (ρ' 9) R∧Q*b1+R=rest∧Q<18446744073709551616^η∧R<2*18446744073709551616^η∧low+18446744073709551616^η*R<Q*b0+b∧Tune h' (f 7) m' nw dp' t∧Sp m dp m' dp' nw (8*(η*η)) (lev η+1)) ?_ ?_
 ·rcases Nat.lt_or_ge (rest/18446744073709551616^η) b1 with hc|hc
  ·have hlt:rest<b1*18446744073709551616^η:=(Nat.div_lt_iff_lt_mul (by omega)).1 hc
   rw[show decide (cmpI (rest/18446744073709551616^η) b1<0)=true by unfold cmpI;rw[if_pos hc];rfl]
   simp only[go_sem]
   refine htwo h3 _ _ _ rest b1 _ _ _ l03.lee ht3 (hrest.nn brest) (hb1.nn bb1) hlt p3 p2 hnw fun q r h4 m4 dp4 hw4 hl4 ht4 hsp hq hr=> ?_
   have hb1p:0<b1:=by omega
   have hm:=Nat.mod_lt rest hb1p
   have hq2:rest/b1<18446744073709551616^η:=(Nat.div_lt_iff_lt_mul hb1p).2 (by rw[Nat.mul_comm];exact hlt)
   simp only[go_sem]
   refine⟨hw4,hl4,by first|rfl|trivial|assumption,by first|rfl|trivial|assumption,by first|rfl|trivial|assumption,by first|rfl|trivial|assumption,by first|rfl|trivial|assumption,rest/b1,rest%b1,m4,dp4,hq,hr, ?_,hq2,by omega, ?_,ht4,hsp⟩
   ·rw[Nat.mul_comm];exact Nat.div_add_mod _ _
   ·have h5:low+18446744073709551616^η*(rest%b1)<18446744073709551616^η*(rest%b1+1):=by rw[Nat.mul_add,Nat.mul_one];omega
    have h6:18446744073709551616^η*(rest%b1+1)≤18446744073709551616^η*b1:=Nat.mul_le_mul_left _ hm
    rw[Nat.mul_comm (18446744073709551616^η) b1] at h6
    omega
  ·have hcd:decide (cmpI (rest/18446744073709551616^η) b1<0)=false:=by
    unfold cmpI
    rw[if_neg (by omega)]
    split<;>rfl
   have hge:b1*18446744073709551616^η≤rest:=Nat.le_trans (Nat.mul_le_mul_right _ hc) hr1
   rw[hcd]
   simp only[go_sem]
   refine One_calls (x:=1) (by decide) fun o1 h4 hw4 hl4 ho1=> ?_
   simp only[go_sem,lit2a (show(AV.sl none 0 0 none).one=true from rfl) ho1.one]
   refine Join2_calls hw4 (Nn.nil _) (ho1.nn (word_big (by decide))) (word_big (x:=0) (by decide)) (word_big (by decide)) (by omega) fun vt h5 hw5 hl5 hvt=> ?_
   rw[Nat.zero_add,Nat.mul_one] at hvt
   simp only[go_sem]
   refine One_calls (x:=1) (by decide) fun o2 h6 hw6 hl6 ho2=> ?_
   have bX:Big (18446744073709551616^η):=big_pow (n:=η+1) (Nat.pow_lt_pow_right (by omega) (by omega)) (by omega)
   simp only[go_sem]
   refine lSub_calls ((hvt.nn bX).mono hl6) (ho2.nn (word_big (by decide))) (fun h=>absurd h (by omega)) fun _ q h7 hw7 hl7 hq=> ?_
   have l37:=(H.le_trans hl4 (H.le_trans hl5 (H.le_trans hl6 hl7)))
   simp only[go_sem]
   refine lAdd_calls ((hrest.nn brest).mono l37) ((hb1.nn bb1).mono l37) fun vs h8 hw8 hl8 hvs=> ?_
   have hb18:=hb1.mono (H.le_trans l37 hl8)
   simp only[go_sem,lit2a (show(AV.sl none 0 0 none).one=true from rfl) hb18.one]
   refine Join2_calls hw8 (Nn.nil _) (hb18.nn bb1) (word_big (x:=0) (by decide)) bb1 (by omega) fun vm h9 hw9 hl9 hvm=> ?_
   rw[Nat.zero_add,Nat.mul_comm] at hvm
   have bm:Big (b1*18446744073709551616^η):=brest.le hge
   have bs:Big (rest+b1):=big_pow (n:=2*η+1) (by
    have h8:18446744073709551616^(2*η+1)=18446744073709551616^(2*η)*18446744073709551616:=Nat.pow_succ ..
    have h9:b1≤b:=Nat.le_trans (Nat.le_mul_of_pos_right b1 (by omega)) p6
    omega) (by omega)
   simp only[go_sem]
   refine lSub_calls ((hvs.nn bs).mono hl9) (hvm.nn bm) (fun h=>absurd h (by omega)) fun _ r h10 hw10 hl10 hr=> ?_
   have l310:=(H.le_trans l37 (H.le_trans hl8 (H.le_trans hl9 hl10)))
   have hn37:=l37.1
   simp only[go_sem]
   have hR:rest+b1-b1*18446744073709551616^η<2*18446744073709551616^η:=by
    have h1:rest<b1*18446744073709551616^η+18446744073709551616^η:=by
     have h3:18446744073709551616^η*(rest/18446744073709551616^η)≤18446744073709551616^η*b1:=Nat.mul_le_mul_left _ p8
     rw[Nat.mul_comm (18446744073709551616^η) b1] at h3
     omega
    omega
   have e1:(18446744073709551616^η-1)*b1+(rest+b1-b1*18446744073709551616^η)=rest:=by
    have h1:(18446744073709551616^η-1)*b1=b1*18446744073709551616^η-b1:=by rw[Nat.sub_mul,Nat.one_mul,Nat.mul_comm]
    have h2:b1≤b1*18446744073709551616^η:=Nat.le_mul_of_pos_right b1 (by omega)
    omega
   refine⟨hw10,l310.lee,by first|rfl|trivial|assumption,by first|rfl|trivial|assumption,by first|rfl|trivial|assumption,by first|rfl|trivial|assumption,by first|rfl|trivial|assumption,18446744073709551616^η-1,rest+b1-b1*18446744073709551616^η,m,dp,(hq.mono (H.le_trans hl8 (H.le_trans hl9 hl10))).base (by have:=hl4.1;have:=hl5.1;have:=hl6.1;omega),hr.base (by have:=hl8.1;have:=hl9.1;omega),e1,by omega,hR, ?_,ht3.mono l310,(Sp.refl m dp nw 0 0).le (Nat.zero_le _) (Nat.zero_le _)⟩
   have h5:=tp e1
   have h6:(18446744073709551616^η-1)*b=b*18446744073709551616^η-b:=by rw[Nat.sub_mul,Nat.one_mul,Nat.mul_comm]
   have h7:b≤b*18446744073709551616^η:=Nat.le_mul_of_pos_right b (by omega)
   omega
 rintro ρ h4 ⟨hw4,hl4,q0,q2,q3,q10,q12,Q,R,m4,dp4,hQ,hR,hQR,hQl,hRl,hfin,ht4,hsp4⟩
 have bQ:Big Q:=big_pow hQl (by omega)
 have bR:Big R:=big_pow (n:=η+1) (by
  have h8:18446744073709551616^(η+1)=18446744073709551616^η*18446744073709551616:=Nat.pow_succ ..
  omega) (by omega)
 have l04:H.lee (f 7) h h4:=l03.lee.trans hl4
 have hl4n:=hl4.1
 have hb04:=hb0.monoE hu hl4
 have hlow4:=hlow.monoE hub0 hl4
 have nb4:=nb.monoE' ht l04
 have hu4:f 7<h3.next:=Nat.lt_of_lt_of_le hu l03.1
 have hu5:f 7<h4.next:=Nat.lt_of_lt_of_le hu4 hl4n
 simp only[go_sem,q0,q2,q3,q10,q12,lit2a hlow4.one hR.one]
 refine Join2_calls hw4 (hlow4.nn blow) (hR.nn bR) blow bR (by omega) fun w9 h5 hw5 hl5 hw9=> ?_
 have l05:H.lee (f 7) h h5:=l04.trans hl5.lee
 have ht5:=ht4.mono hl5
 simp only[go_sem,q0,q2,q3,q10,q12,G 0 (by omega) _ l05,G 1 (by omega) _ l05,G 2 (by omega) _ l05]
 have wQ:wlen Q≤η:=wlen_le.2 hQl
 have wb0:wlen b0≤η:=wlen_le.2 p1
 refine Mul2_calls ((E 3 (by omega)).monoE ht l05) ht5 ((hQ.mono hl5).nn bQ) ((hb04.mono hl5).nn bb0) (by omega) (by omega) (by omega) fun vp h6 m6 dp6 hw6 hl6 ht6 hsp6 hp=> ?_
 have bp:Big (Q*b0):=mul_big wQ wb0 (by omega)
 have cb:costT t (wlen Q) (wlen b0)≤8*(η*η):=Nat.le_trans (costT_le (by omega) (by omega)) (Nat.mul_le_mul_left 8 (Nat.mul_le_mul wQ wb0))
 have lv:lev2 (wlen Q) (wlen b0)≤lev η:=lev_of (by omega)
 have l06:=l05.trans hl6
 have nb6:=nb4.mono hl5|>.monoE' ht5 hl6
 have hQ6:=((hQ.mono hl5).monoE hu4 hl6)
 have hw96:=hw9.monoE hu5 hl6
 have hmain:=tp hQR
 have bpb:Big (Q*b0+b):=big_pow (n:=2*η+1) (by
  have h8:18446744073709551616^(2*η+1)=18446744073709551616^(2*η)*18446744073709551616:=Nat.pow_succ ..
  have h9:Q*b0<18446744073709551616^(η+η):=mul_lt_pow hQl (Nat.le_of_lt p1)
  rw[show η+η=2*η by omega] at h9
  omega) (by omega)
 simp only[go_sem,q0,q2,q3,q10,q12]
 refine loop_cut (fun ρ' h'=>h'.wf∧h6.le h'∧ρ' 16=vp∧∃Q' R',Nf h3.next h' (ρ' 8) Q'∧Nf h3.next h' (ρ' 9) R'∧a/b=Q'∧a%b=R'-Q*b0∧Q*b0≤R'∧R'<Q*b0+b) ?_ ?_
 ·refine⟨fun s ρ' h'=>h'.wf∧h6.le h'∧ρ' 2=vb∧ρ' 16=vp∧∃R',s≤Q∧Nf h3.next h' (ρ' 8) s∧Nf h3.next h' (ρ' 9) R'∧a+Q*b0=s*b+R'∧R'<Q*b0+b,Q,⟨hw6,H.le_refl _,by first|rfl|trivial|assumption,by first|rfl|trivial|assumption,_,Nat.le_refl _,hQ6,hw96.base hl4n,hmain,hfin⟩, ?_⟩
  rintro s ρ' h7 ⟨hw7,hl7,q2,q16,R',hs0,hs,hR',hinv,hlt⟩
  have hpn:=hp.mono hl7
  simp only[go_sem,q2,q16]
  refine lCmp_calls (hR'.nn (bpb.le (by omega))) (hpn.nn bp) ?_
  rcases Nat.lt_or_ge R' (Q*b0) with hc|hc
  ·have hs1:1≤s:=by
    rcases Nat.eq_zero_or_pos s with h|h
    ·subst h
     rw[Nat.zero_mul] at hinv
     omega
    ·exact h
   rw[show cmpI R' (Q*b0)= -1 by unfold cmpI;rw[if_pos hc]]
   simp only[go_sem,q2,q16,show decide ((-1:Int)<0)=true from rfl]
   refine One_calls (x:=1) (by decide) fun o h8 hw8' hl8 ho=> ?_
   simp only[go_sem,q2,q16]
   refine lSub_calls ((hs.nn (bQ.le hs0)).mono hl8) (ho.nn (word_big (by decide))) (fun h=>absurd h (by omega)) fun _ s' h9 hw9 hl9 hs'=> ?_
   simp only[go_sem,q2,q16]
   refine lAdd_calls ((hR'.nn (bpb.le (by omega))).mono (H.le_trans hl8 hl9)) (nb6.mono (H.le_trans hl7 (H.le_trans hl8 hl9))) fun r' h10 hw10 hl10 hr'=> ?_
   simp only[go_sem,q2,q16]
   have hb7:=hl7.1
   have hb8:=hl8.1
   have hb9:=hl9.1
   have hb6:=hl6.1
   have hb5:=hl5.1
   refine⟨s-1,by omega,hw10,(H.le_trans hl7 (H.le_trans hl8 (H.le_trans hl9 hl10))),by first|rfl|trivial|assumption,by first|rfl|trivial|assumption,R'+b,by omega,(hs'.mono hl10).base (by omega),hr'.base (by omega), ?_,by omega⟩
   have:s*b=(s-1)*b+b:=by
    obtain⟨k,rfl⟩:∃k,s=k+1:=⟨s-1,by omega⟩
    rw[Nat.add_sub_cancel,Nat.add_mul,Nat.one_mul]
   omega
  ·have hcd:decide (cmpI R' (Q*b0)<0)=false:=by
    unfold cmpI
    rw[if_neg (by omega)]
    split<;>rfl
   simp only[go_sem,q2,q16,hcd]
   obtain⟨r1,r2⟩:=quot_math hinv hc hlt
   exact⟨hw7,hl7,by first|rfl|trivial|assumption,s,R',hs,hR',r1,r2,hc,hlt⟩
 ·rintro ρ' h7 ⟨hw7,hl7,q16,Q',R',hs,hR',r1,r2,hc,hlt⟩
  simp only[go_sem,q16]
  refine lSub_calls (hR'.nn (bpb.le (by omega))) ((hp.mono hl7).nn bp) (fun h=>absurd h (by omega)) fun _ r h8 hw8' hl8 hr=> ?_
  rw[r1,r2] at hk
  simp only[go_sem,q16]
  have hb7:=hl7.1
  have hb6:=hl6.1
  have hb5:=hl5.1
  have hb3:=l03.1
  refine fun hw'=>hk _ r h8 _ _ hw' (l06.trans (H.le_trans hl7 hl8).lee) ((ht6.mono hl7).mono hl8) ((hsp4.trans hsp6).le (by omega) (by omega)) ((hs.mono hl8).base hb3) (hr.base (by omega))
end
end
section
theorem two_math {a b X q1 r1 q0 r0 low:Nat} (hb:0<b) (h1:q1=a/X/b) (h2:r1=a/X%b) (h3:low=a%X) (h4:q0=(low+X*r1)/b) (h5:r0=(low+X*r1)%b):a/b=q0+X*q1∧a%b=r0:=by
 have e1:=Nat.div_add_mod (a/X) b
 have e2:=Nat.div_add_mod (low+X*r1) b
 have e3:=Nat.div_add_mod a X
 have m:=Nat.mod_lt (low+X*r1) hb
 rw[←h1,←h2] at e1
 rw[←h4,←h5] at e2
 rw[←h5] at m
 rw[←h3,←e1,Nat.mul_add] at e3
 have e:a=r0+b*(q0+X*q1):=by
  rw[Nat.mul_add]
  have:X*(b*q1)=b*(X*q1):=by ac_rfl
  omega
 constructor
 ·rw[e,Nat.add_mul_div_left _ _ hb,Nat.div_eq_of_lt m,Nat.zero_add]
 ·rw[e,Nat.add_mul_mod_self_left,Nat.mod_eq_of_lt m]
section
variable {u:Nat} {t:Tb}
theorem two_ok (hT:TbOK t):∀N:Nat,1≤N→N≤16000→∀(h:H) (m nw dp e:Nat),Eng 7 h e u→Tune h u m nw dp t→TwoOK e u t N h:=by
 intro N
 induction N using Nat.strongRecOn with
 |_ N ih=>
  intro hN1 hN h m nw dp e he ht h1 m1 nw1 dp1 a b va vb K hl1 ht1 na nb hab hlo hhi hnw hk
  have he1:=he.monoE ht hl1
  clear he
  have hb0:0<b:=by
   have:0<18446744073709551616^N:=Nat.pow_pos (by omega)
   omega
  have wb:wlen b≤N:=wlen_le.2 hhi
  have wa:wlen a≤2*N:=wlen_le.2 (by
   have:=mul_lt_pow hhi (Nat.le_refl (18446744073709551616^N))
   rw[show N+N=2*N by omega] at this
   exact Nat.lt_trans hab this)
  have ba:Big a:=wbig wa (by omega)
  have bb:Big b:=wbig wb (by omega)
  refine in_div_Engine_two (by simp) fun hw=> ?_
  unfold c_div_Engine_two
  obtain⟨f,rfl,rfl,G,E⟩:=Eng.path ht1 he1
  have hu:=H.row_lt hw ht1
  have l0:=H.lee_refl (f 7) h1
  have longc:longCost a b≤8*(N*N):=by
   have hbw:N≤wlen b:=by
    rcases Nat.lt_or_ge (wlen b) N with h|h
    ·exfalso
     have h2:=wlen_lt b
     have h3:18446744073709551616^wlen b≤18446744073709551616^(N-1):=Nat.pow_le_pow_right (by omega) (by omega)
     have h4:18446744073709551616^N=18446744073709551616^(N-1)*18446744073709551616:=by rw[←Nat.pow_succ];congr 1;omega
     omega
    ·exact h
   unfold longCost
   split
   ·omega
   ·have h2:(wlen a-wlen b+1)*(wlen b+1)≤(2*N)*(2*N):=Nat.mul_le_mul (by omega) (by omega)
    have h3:(2*N)*(2*N)=4*(N*N):=by rw[Nat.mul_mul_mul_comm]
    omega
  have c1:((N:Int)).tmod 2=((N%2:Nat):Int):=tmodN (b:=2)
  --by hand
  have hand:∀(K0:AV→H→Prop),(∀q r h',h'.wf→H.lee (f 7) h1 h'→Tune h' (f 7) (m1+longCost a b) nw1 dp1 t→Nf h1.next h' q (a/b)→Nf h1.next h' r (a%b)→K0 (.tup [q,r, .int .i64 0]) h')→ACalls Tryz.prog 86 [.ptr (some (f 2,0)),va,vb] h1 K0:=fun K0 hK=>Long_calls (E 2 (by omega)) ht1 na nb ba bb (fun h=>absurd h (by omega)) fun _ q r h' a1 a2 a3 a4 a5=>hK q r h' a1 a2 a3 a4 a5
  have spl:Sp m1 dp1 (m1+longCost a b) dp1 nw1 (8*(N*N)) (lev N+1):=⟨by omega,by omega,by omega,by omega⟩
  rcases Nat.mod_two_eq_zero_or_one N with hpar|hpar
  ·rw[hpar] at c1
   by_cases hD:(N:Int)<t.div
   ·simp only[go_sem,c1,show(((0:Nat):Int)==1)=false from rfl,G 0 (by omega) _ l0,G 1 (by omega) _ l0,G 2 (by omega) _ l0,G 3 (by omega) _ l0,G 4 (by omega) _ l0,G 5 (by omega) _ l0,G 6 (by omega) _ l0,tune_div ht1]
    refine⟨by decide, ?_⟩
    simp only[go_sem,decide_eq_true hD,G 0 (by omega) _ l0,G 1 (by omega) _ l0]
    refine hand _ fun q r h2 hw2 hl2 ht2 hq hr=> ?_
    simp only[go_sem]
    exact fun hw'=>hk q r h2 _ _ hw' hl2 ht2 spl hq hr
   ·have hN4:4≤N:=by have:=hT.1;omega
    obtain⟨η,rfl⟩:∃η,N=2*η:=⟨N/2,by omega⟩
    have c2:(((2*η:Nat):Int)).tdiv 2=(η:Int):=by
     have:=tdivN (a:=2*η) (b:=2)
     rw[Nat.mul_div_cancel_left _ (by omega)] at this
     exact this
    have c3:IntKind.i64.wrap (η:Int)=(η:Int):=wNI (by omega)
    simp only[go_sem,c1,show(((0:Nat):Int)==1)=false from rfl,G 0 (by omega) _ l0,G 1 (by omega) _ l0,G 2 (by omega) _ l0,G 3 (by omega) _ l0,G 4 (by omega) _ l0,G 5 (by omega) _ l0,G 6 (by omega) _ l0,tune_div ht1]
    refine⟨by decide, ?_⟩
    simp only[go_sem,decide_eq_false hD,G 0 (by omega) _ l0,G 1 (by omega) _ l0,G 2 (by omega) _ l0,G 3 (by omega) _ l0,G 4 (by omega) _ l0,G 5 (by omega) _ l0,G 6 (by omega) _ l0]
    refine Enter_calls ht1 (by omega) fun _ h2 hw2 hl2 hn2 ht2=> ?_
    have htwo:∀g,H.lee (f 7) h1 g→TwoOK (f 0) (f 7) t η g:=fun g hg g' m' nw' dp' a' b' va' vb' K' hl'=>ih η (by omega) (by omega) (by omega) h1 _ _ _ _ he1 ht1 g' m' nw' dp' a' b' va' vb' K' (hg.trans hl')
    have na2:=na.monoE' ht1 hl2
    simp only[go_sem,c2,c3]
    refine⟨by decide, ?_⟩
    refine Split_calls na2 (by omega) (by omega) fun vl vr h3 hw3 hl3 hlow hrest=> ?_
    have l13:=hl2.trans hl3.lee
    have hX:0<18446744073709551616^η:=Nat.pow_pos (by omega)
    have e2:18446744073709551616^(2*η)=18446744073709551616^η*18446744073709551616^η:=by rw[←Nat.pow_add];congr 1;omega
    have hab1:a/18446744073709551616^η<b*18446744073709551616^η:=by
     rw[Nat.div_lt_iff_lt_mul hX,Nat.mul_assoc,←e2]
     exact hab
    have hlt:=Nat.mod_lt a hX
    have tm:= @two_math a b (18446744073709551616^η) _ _ _ _ _ hb0 rfl rfl rfl rfl rfl
    have brest:Big (a/18446744073709551616^η):=ba.le (Nat.div_le_self _ _)
    have blow:Big (a%18446744073709551616^η):=ba.le (Nat.mod_le _ _)
    generalize a/18446744073709551616^η=rest at*
    generalize a%18446744073709551616^η=low at*
    have nb3:=nb.monoE' ht1 l13
    simp only[go_sem]
    refine three_calls2 (he1.monoE ht1 l13) (ht2.mono hl3) (hrest.nn brest) nb3 (by omega) (by omega) hab1 hlo hhi (by omega) (htwo h3 l13) fun q1 r1 h4 m4 dp4 hw4 hl4 ht4 hsp4 hq1 hr1=> ?_
    have l14:=l13.trans hl4
    have hmr:=Nat.mod_lt rest hb0
    have hq1b:Big (rest/b):=brest.le (Nat.div_le_self _ _)
    generalize rest/b=Q1 at*
    generalize rest%b=R1 at*
    have bR1:Big R1:=bb.le (Nat.le_of_lt hmr)
    have hu2:f 7<h2.next:=Nat.lt_of_lt_of_le hu hl2.1
    have hu3:f 7<h3.next:=Nat.lt_of_lt_of_le hu2 hl3.1
    have hlow4:=hlow.monoE hu2 hl4
    simp only[go_sem,lit2a hlow4.one hr1.one]
    refine Join2_calls hw4 (hlow4.nn blow) (hr1.nn bR1) blow bR1 (by omega) fun v5 h5 hw5 hl5 hv5=> ?_
    have l15:=l14.trans hl5.lee
    have hab2:low+18446744073709551616^η*R1<b*18446744073709551616^η:=by
     have:18446744073709551616^η*(R1+1)≤18446744073709551616^η*b:=Nat.mul_le_mul_left _ hmr
     rw[Nat.mul_add,Nat.mul_one,Nat.mul_comm (18446744073709551616^η) b] at this
     omega
    have bj:Big (low+18446744073709551616^η*R1):=big_pow (n:=3*η) (by
     have:=mul_lt_pow hhi (Nat.le_refl (18446744073709551616^η))
     rw[show 2*η+η=3*η by omega] at this
     exact Nat.lt_trans hab2 this) (by omega)
    simp only[go_sem]
    refine three_calls2 (he1.monoE ht1 l15) (ht4.mono hl5) (hv5.nn bj) (nb.monoE' ht1 l15) (by omega) (by omega) hab2 hlo hhi (by omega) (htwo h5 l15) fun q0 r0 h6 m6 dp6 hw6 hl6 ht6 hsp6 hq0 hr0=> ?_
    have l16:=l15.trans hl6
    simp only[go_sem,G 0 (by omega) _ l16,G 1 (by omega) _ l16,G 2 (by omega) _ l16,G 3 (by omega) _ l16,G 4 (by omega) _ l16,G 5 (by omega) _ l16,G 6 (by omega) _ l16]
    refine Leave_calls ht6 (by omega) fun _ h7 hw7 hl7 hn7 ht7=> ?_
    have l17:=l16.trans hl7
    have hu5:f 7<h5.next:=Nat.lt_of_lt_of_le (Nat.lt_of_lt_of_le hu3 hl4.1) hl5.1
    have hq07:=hq0.monoE hu5 hl7
    have hr07:=hr0.monoE hu5 hl7
    have hq17:=((hq1.monoE hu3 hl5.lee).monoE hu3 hl6).monoE hu3 hl7
    have bq0:Big ((low+18446744073709551616^η*R1)/b):=bj.le (Nat.div_le_self _ _)
    simp only[go_sem,lit2a hq07.one hq17.one]
    refine Join2_calls hw7 (hq07.nn bq0) (hq17.nn hq1b) bq0 hq1b (by omega) fun v8 h8 hw8 hl8 hv8=> ?_
    rw[tm.1,tm.2] at hk
    have hb5:=l15.1
    have hb7:=l17.1
    simp only[go_sem]
    refine fun hw'=>hk _ _ h8 _ _ hw' (l17.trans hl8.lee) (ht7.mono hl8) ?_ (hv8.base hb7) ((hr07.mono hl8).base hb5)
    refine((hsp4.trans hsp6).deep).le ?_ ?_
    ·have:2*η*(2*η)=4*(η*η):=by rw[Nat.mul_mul_mul_comm]
     omega
    ·have h1:=lev_big hN4
     have h2:lev η≤lev ((2*η+1)/2+1):=lev_of (by omega)
     omega
  ·rw[hpar] at c1
   simp only[go_sem,c1,show(((1:Nat):Int)==1)=true from rfl]
   refine⟨by decide, ?_⟩
   simp only[go_sem,G 0 (by omega) _ l0,G 1 (by omega) _ l0]
   refine hand _ fun q r h2 hw2 hl2 ht2 hq hr=> ?_
   simp only[go_sem]
   exact fun hw'=>hk q r h2 _ _ hw' hl2 ht2 spl hq hr
end
section
variable {va:AV} {xs:List Nat} {from_ n:Nat} {h:H} {K:AV→H→Prop}
theorem dpiece_calls (hv:IsN h va xs) (hd:Dig xs) (hl:xs.length≤400000) (hf:from_≤1000000) (hn:n≤1000000)
  (hk:∀r h',h'.wf→h.le h'→Nf h.next h' r (val 18446744073709551616 ((xs.drop from_).take n))→K r h'):ACalls Tryz.prog 109 [va, .int .i64 (from_:Int), .int .i64 (n:Int)] h K:=by
 obtain⟨id,off,c,rfl⟩:=hv.form
 refine in_div_piece (by simp) fun hw=> ?_
 unfold c_div_piece
 rcases Nat.lt_or_ge from_ xs.length with h1|h1
 ·have a1:=addI (a:=from_) (b:=n) (by omega)
  simp only[go_sem,show decide ((from_:Int)≥(xs.length:Int))=false from decide_eq_false (by omega),a1,minN]
  refine⟨by omega,by omega,by omega, .inl (by omega),hv.row, ?_⟩
  have hcut:=hv.cut (c':=c.map (· -from_)) (a:=from_) (b:=min xs.length (from_+n)) (by omega) (by omega)
  have e:(xs.take (min xs.length (from_+n))).drop from_=(xs.drop from_).take n:=by
   apply List.ext_getElem?
   intro j
   rw[List.getElem?_drop,List.getElem?_take,List.getElem?_take,List.getElem?_drop]
   by_cases hj:j<n
   ·rw[if_pos hj]
    split
    ·rfl
    ·rw[List.getElem?_eq_none (by omega)]
   ·rw[if_neg hj,if_neg (by omega)]
  rw[e] at hcut
  refine Norm_calls ⟨_,hcut,fun z hz=>hd z (List.mem_of_mem_drop (List.mem_of_mem_take hz)),by simp;omega,rfl⟩ fun r h2 hw2 hl2 hr=> ?_
  simp only[go_sem]
  exact fun hw'=>hk r h2 hw' hl2 hr
 ·rw[List.drop_of_length_le h1] at hk
  simp only[go_sem,show decide ((from_:Int)≥(xs.length:Int))=true from decide_eq_true (by omega)]
  exact fun hw'=>hk _ h hw' (H.le_refl _) (by simpa [val] using Nf.nil h.next h none)
end
end
theorem H.del_set {h:H} {i:Nat} {r:Row}:(h.set i r).del (some i)=h.del (some i):=by
 unfold H.del H.set
 congr 1
 funext j
 by_cases e:some j=some i
 ·rw[if_pos e,if_pos e]
 ·rw[if_neg e,if_neg e]
  show(if j=i then some r else h.rows j)=h.rows j
  rw[if_neg (fun h=>e (by rw[h]))]
theorem Live.app2 {α:Type} {t:TypeId} {z:Nat} {R:H→List AV→α→Prop} (hR:Grows R) {b:Nat} {h h2:H} {K:AV→H→Prop} {io:Option Nat} {co:Option Nat} {l:List AV} {ys:List α} {y:α} {bt n:Nat} (hz:0<z) (hw:h.wf) (hbh:b≤h.next)
  (hs:Live t z b R h (.sl io 0 n co) ys) (hn:n=ys.length) (hx:R (h.del io) l y) (hlz:l.length=z) (h1:l.all (·.one)=true) (hbt:bt≤64) (hl:n+1≤1099511627776)
  (hh:h2=h.new ⟨some t,z,l⟩) (hk:∀v h',h'.wf→(h.del io).le h'→Live t z b R h' v (ys++[y])→K v h'):appK t z bt (.sl io 0 n co) (.sl (some h.next) 0 1 (some 1)) h2 K:=by
 subst hh
 subst hn
 obtain⟨io',co',cs,e,hs,hc⟩:=hs
 injection e with e1 e2 e3 e4
 subst e1;subst e4
 have hbb:=Nat.mul_le_mul hl hbt
 have hw2:=H.wf_new hw ⟨some t,z,l⟩
 have hs2:=hs.mono (H.le_new hw (H.le_refl h) ⟨some t,z,l⟩)
 obtain⟨hcl,id',c',e,h3⟩:=hs2
 injection e with e1 e2 e3 e4
 subst e1;subst e4
 have hnx:(h.new ⟨some t,z,l⟩).next=h.next+1:=rfl
 simp only[appK]
 refine⟨fun h0=>by omega,fun _=>⟨h.next,_,rfl,H.rows_new _ _, ?_, ?_,by omega,by omega, ?_⟩⟩
 ·show 0+1*z≤l.length
  omega
 ·show((l.drop 0).take (1*z)).all (·.one)=true
  rw[List.drop_zero,Nat.one_mul,List.take_of_length_le (by omega)]
  exact h1
 have et:((⟨some t,z,l⟩:Row).cells.drop 0).take (1*z)=l:=by
  show(l.drop 0).take (1*z)=l
  rw[List.drop_zero,Nat.one_mul,List.take_of_length_le (by omega)]
 rw[et]
 have hlen1:(ys++[y]).length=ys.length+1:=by simp
 rcases h3 with⟨rfl,h0⟩|⟨i,q,rfl,hbi,hq,ho,he,hf2,ht2⟩
 ·have hy:ys=[]:=List.eq_nil_of_length_eq_zero h0
  subst hy
  have:cs=[]:=List.eq_nil_of_length_eq_zero (by simpa using hcl)
  subst this
  refine .inl ⟨rfl,rfl,hk _ _ (H.wf_new hw2 _) (H.le_trans (H.del_le none) (H.le_new hw2 (H.le_new hw (H.le_refl h) _) _)) ⟨some (h.next+1),none,[]++l,rfl, ?_, ?_⟩⟩
  ·exact⟨by simp[hlz],some (h.next+1),none,rfl, .inr ⟨h.next+1,_,rfl,by omega,H.rows_new _ _,rfl,rfl,by simp[hlz],List.take_of_length_le (by simp[hlz])⟩⟩
  ·refine(hc.snoc hlz hx).mono fun l' x' hx'=>hR hx' ⟨by show h.next≤h.next+1+1;omega,fun j r hj=> ?_⟩
   have hj':=(H.del_le none).2 j r hj
   have hlt:=H.row_lt hw hj'
   simp only[H.del]
   rw[if_neg (by intro e;injection e;omega),H.rows_new_ne (by rw[hnx];omega),H.rows_new_ne (by omega)]
   exact hj'
 ·have hil:=H.row_lt hw2 hq
  have hi2:i≠h.next:=by
   intro e
   obtain⟨_,id2,c2,e2,h4⟩:=hs
   injection e2 with e2
   rcases h4 with⟨h4,_⟩|⟨i2,q2,h4,_,h5,_⟩
   ·rw[←e2] at h4;cases h4
   ·rw[←e2] at h4
    injection h4 with h4
    have:=H.row_lt hw h5
    omega
  refine .inr ⟨i,q,rfl,hq,ho,he,by simp,hf2,hk _ _ (H.wf_new (H.wf_del hw2 _) _) (H.le_new (H.wf_del hw2 _) (H.del_mono (H.le_new hw (H.le_refl h) _) _) _) ⟨some (h.next+1),none,cs++l,by rw[hlen1];rfl, ?_, ?_⟩⟩
  ·refine⟨by simp[hcl,hlz,Nat.add_mul],some (h.next+1),none,by rw[hlen1];rfl, .inr ⟨h.next+1,_,rfl,by omega,H.rows_new _ _,rfl,rfl, ?_, ?_⟩⟩
   ·rw[hlen1]
    simp only[List.length_append,ht2,hcl,hlz,Nat.add_mul];omega
   ·rw[hlen1,ht2]
    exact List.take_of_length_le (by simp[hcl,hlz,Nat.add_mul])
  ·refine(hc.snoc hlz hx).mono fun l' x' hx'=>hR hx' ⟨by show h.next≤h.next+1+1;omega,fun j r hj=> ?_⟩
   have hj':=(H.del_le (some i)).2 j r hj
   have hlt:=H.row_lt hw hj'
   have hji:j≠i:=by
    rintro rfl
    simp[H.del] at hj
   simp only[H.del]
   rw[if_neg (by intro e;injection e;omega)]
   show((H.del _ (some i)).new _).rows j=some r
   rw[H.rows_new_ne (by rw[H.next_del,hnx];omega),H.rows_del_ne hji,H.rows_new_ne (by omega)]
   exact hj'
theorem Live.get1 {α:Type} {t:TypeId} {b:Nat} {R:H→List AV→α→Prop} {h:H} {io:Option Nat} {n:Nat} {c:Option Nat} {xs:List α} (hv:Live t 1 b R h (.sl io 0 n c) xs) {j:Nat} (hj:j<xs.length):∃i a,io=some i∧n=xs.length∧h.get i j=some a∧R (h.del (some i)) [a] xs[j]:=by
 obtain⟨io',c',cs,e,h1,h2⟩:=hv
 injection e with e1 e2 e3 e4
 subst e1;subst e4;subst e3
 obtain⟨i,e5,e6,e7⟩:=h1.isC.at (j:=j) (by omega)
 subst e5
 have hl:=h2.1
 have h3:=h2.2 j _ (List.getElem?_eq_getElem hj)
 rw[Nat.mul_one,take_one (by omega)] at h3
 rw[Nat.zero_add] at e7
 exact⟨i,cs[j],rfl,rfl,e7.trans (List.getElem?_eq_getElem (by omega)),h3⟩
theorem Live.io_ge {α:Type} {t:TypeId} {z b n:Nat} {R:H→List AV→α→Prop} {h:H} {io c:Option Nat} {xs:List α} (hv:Live t z b R h (.sl io 0 n c) xs) {i:Nat} (hi:io=some i):b≤i:=by
 obtain⟨io',c',cs,e,⟨_,id,c2,e2,h3⟩,_⟩:=hv
 injection e2 with e2
 subst e2
 subst hi
 rcases h3 with⟨h3,_⟩|⟨i',q,h3,hb,_⟩
 ·cases h3
 ·injection h3 with h3
  rw[h3];exact hb
theorem Live.put1 {α:Type} {t:TypeId} {b:Nat} {R:H→List AV→α→Prop} {h:H} {i:Nat} {n:Nat} {c:Option Nat} {xs:List α} (hw:h.wf) (hv:Live t 1 b R h (.sl (some i) 0 n c) xs) {j:Nat} (hj:j<xs.length):∃r,b≤i∧i<h.next∧h.rows i=some r∧r.own=some t∧j+1≤r.cells.length∧
  ∀(a:AV) (x:α),R (h.del (some i)) [a] x→Live t 1 b R (h.set i {r with cells:=putAt r.cells j [a]}) (.sl (some i) 0 n c) (xs.set j x):=by
 obtain⟨io',c',cs,e,h1,h2⟩:=hv
 injection e with e1 e2 e3 e4
 subst e1;subst e4;subst e3
 obtain⟨i',r,e5,hb,hlt,hr,ho,_,hf,hp⟩:=h1.put hw (k:=j) (w:=1) (by omega) (by omega)
 injection e5 with e5
 subst e5
 have ho2:r.own=some t:=by
  obtain⟨_,id2,c2,e6,h6⟩:=h1
  injection e6 with e6
  rcases h6 with⟨h6,_⟩|⟨i6,r6,h6,_,h7,h8,_⟩
  ·rw[←e6] at h6;cases h6
  ·rw[←e6] at h6
   injection h6 with h6
   rw[←h6,hr] at h7
   injection h7 with h7
   rw[h7];exact h8
 refine⟨r,hb,hlt,hr,ho2,hf,fun a x hx=>⟨some i,c,putAt cs j [a],by rw[List.length_set], ?_, ?_⟩⟩
 ·rw[List.length_set]
  exact hp [a] rfl
 ·rw[H.del_set]
  have:=h2.set (j:=j) (l:=[a]) (x:=x) hj rfl hx
  rwa[Nat.mul_one] at this
theorem Nf.put {b i x:Nat} {h:H} {v:AV} {r r':Row} {T:TypeId} (hv:Nf b h v x) (hr:h.rows i=some r) (ho:r.own=some T) (hT:T≠73):Nf b (h.set i r') v x:=by
 obtain⟨xs,⟨id,c,rfl,h1⟩,h2⟩:=hv
 refine⟨xs,⟨id,c,rfl, ?_⟩,h2⟩
 rcases h1 with h1|⟨j,q,rfl,hb,hq,hqo,h3⟩
 ·exact .inl h1
 ·refine .inr ⟨j,q,rfl,hb, ?_,hqo,h3⟩
  rw[H.rows_set_ne ?_]
  ·exact hq
  ·rintro rfl
   rw[hr] at hq
   injection hq with hq
   rw[←hq,ho] at hqo
   injection hqo with hqo
   exact hT hqo
def turnL (P:List Nat) (i:Nat):List Nat:=(List.range P.length).map fun k=>if k<i∨P.length-i≤k then P.getD (P.length-1-k) 0 else P.getD k 0
theorem turnL_zero (P:List Nat):turnL P 0=P:=by
 unfold turnL
 apply List.ext_getElem (by simp)
 intro k h1 h2
 simp only[List.getElem_map,List.getElem_range]
 rw[if_neg (by omega),List.getD_eq_getElem?_getD,List.getElem?_eq_getElem h2]
 rfl
theorem turnL_len (P:List Nat) (i:Nat):(turnL P i).length=P.length:=by simp[turnL]
theorem turnL_get {P:List Nat} {i k:Nat} (hk:k<P.length):(turnL P i)[k]'(by rw[turnL_len];exact hk)=if k<i∨P.length-i≤k then P.getD (P.length-1-k) 0 else P.getD k 0:=by simp[turnL]
theorem turnL_step {P:List Nat} {i:Nat} (h:i<P.length-1-i):((turnL P i).set i (P.getD (P.length-1-i) 0)).set (P.length-1-i) (P.getD i 0)=turnL P (i+1):=by
 apply List.ext_getElem (by simp[turnL])
 intro k h1 h2
 have hk:k<P.length:=by simpa [turnL] using h2
 rw[turnL_get hk,List.getElem_set,List.getElem_set]
 split
 ·rename_i e
  rw[if_pos (by omega),show P.length-1-k=i by omega]
 ·rename_i e
  split
  ·rename_i e2
   rw[if_pos (by omega),←e2]
  ·rename_i e2
   rw[turnL_get hk]
   by_cases h3:k<i∨P.length-i≤k
   ·rw[if_pos h3,if_pos (by omega)]
   ·rw[if_neg h3,if_neg (by omega)]
theorem turnL_end {P:List Nat} {i:Nat} (h:P.length-1-i≤i):turnL P i=P.reverse:=by
 apply List.ext_getElem (by simp[turnL])
 intro k h1 h2
 have hk:k<P.length:=by simpa using h2
 rw[turnL_get hk,List.getElem_reverse]
 have e1:∀j,(hj:j<P.length)→P.getD j 0=P[j]:=fun j hj=>by rw[List.getD_eq_getElem?_getD,List.getElem?_eq_getElem hj];rfl
 split
 ·rw[e1 _ (by omega)]
 ·rw[e1 _ hk]
  have:P.length-1-k=k:=by omega
  simp only[this]
theorem halved {M s half N:Nat} (h1:M≤s*2^half) (h2:(s-1)*2^half<M) (h3:2≤s∨half=0) (h4:1≤s) (hN:N=s*2^half):M≤N∧N+1≤2*M∧2^half≤N:=by
 have hp:1≤2^half:=Nat.pow_pos (by omega)
 have e:s*2^half=(s-1)*2^half+2^half:=by
  obtain⟨k,rfl⟩:∃k,s=k+1:=⟨s-1,by omega⟩
  rw[Nat.add_sub_cancel,Nat.add_mul,Nat.one_mul]
 rcases h3 with h3|h3
 ·have:1*2^half≤(s-1)*2^half:=Nat.mul_le_mul_right _ (by omega)
  omega
 ·subst h3
  simp at*
  omega
theorem halved_up {M s half:Nat} (h:M≤s*2^half):M≤(s+1)/2*2^(half+1):=by
 have e:(s+1)/2*2^(half+1)=((s+1)/2*2)*2^half:=by rw[Nat.pow_succ];ac_rfl
 rw[e]
 exact Nat.le_trans h (Nat.mul_le_mul_right _ (by omega))
theorem halved_lo {M s half:Nat} (h:(s-1)*2^half<M):((s+1)/2-1)*2^(half+1)<M:=by
 have e:((s+1)/2-1)*2^(half+1)=(((s+1)/2-1)*2)*2^half:=by rw[Nat.pow_succ];ac_rfl
 rw[e]
 exact Nat.lt_of_le_of_lt (Nat.mul_le_mul_right _ (by omega)) h
theorem halves_cost {M N na ul top:Nat} (h1:M≤N) (h2:N+1≤2*M) (h3:M≤na) (hu:ul≤na+N-M+1) (ht:top=(ul+N-1)/N):top*(8*(N*N))≤64*(na*na):=by
 have h4:top*N≤ul+N-1:=by rw[ht];exact Nat.div_mul_le_self _ _
 have h5:top*(8*(N*N))=8*((top*N)*N):=by
  rw[Nat.mul_left_comm,Nat.mul_assoc]
 have h6:(top*N)*N≤(4*na)*(2*na):=by
  refine Nat.mul_le_mul ?_ (by omega)
  omega
 have h7:(4*na)*(2*na)=8*(na*na):=by rw[Nat.mul_mul_mul_comm]
 omega
theorem halves_step {B N p r d U1:Nat} (_:0<d):(p+B^N*U1)/d=B^N*(U1/d)+(p+B^N*(U1%d))/d∧(p+B^N*U1)%d=(p+B^N*(U1%d))%d:=by
 have e:=Nat.div_add_mod U1 d
 have e1:p+B^N*U1=(p+B^N*(U1%d))+d*(B^N*(U1/d)):=by
  conv=>lhs;rw[←e]
  rw[Nat.mul_add]
  have:B^N*(d*(U1/d))=d*(B^N*(U1/d)):=by ac_rfl
  omega
 rw[e1,Nat.add_mul_div_left _ _ (by assumption),Nat.add_mul_mod_self_left]
 exact⟨by omega,rfl⟩
theorem val_take_drop (B:Nat) (xs:List Nat) (N:Nat):val B xs=val B (xs.take N)+B^N*val B (xs.drop N):=by
 rcases Nat.lt_or_ge xs.length N with h|h
 ·rw[List.take_of_length_le (by omega),List.drop_of_length_le (by omega)]
  simp[val]
 ·exact val_cut B xs N h
theorem shl_int {s half:Nat} (h:s*2^half<9223372036854775808) (hh:half≤64):bShl .i64 (s:Int) half=((s*2^half:Nat):Int):=by
 unfold bShl
 rw[show IntKind.i64.bits=64 from rfl,Nat.min_eq_left hh]
 have:((2:Int)^half)=((2^half:Nat):Int):=by simp
 rw[this]
 exact mulI h
section
section
variable {e u m nw dp a b:Nat} {t:Tb} {va vb:AV} {h:H} {K:AV→H→Prop}
theorem cmp_lt {x y:Nat} (h:x<y):decide (cmpI x y<0)=true:=by unfold cmpI;rw[if_pos h];rfl
theorem cmp_ge {x y:Nat} (h:y≤x):decide (cmpI x y<0)=false:=by
 unfold cmpI
 rw[if_neg (by omega)]
 split<;>rfl
set_option maxHeartbeats 2000000 in
theorem Halves_calls (hT:TbOK t) (he:Eng 7 h e u) (ht:Tune h u m nw dp t) (na:Nn h va a) (nb:Nn h vb b) (wa:wlen a≤4000) (wb:wlen b≤4000) (hnw:nw≤600000000)
  (hk0:b=0→h.wf→K (.tup [.sl none 0 0 none, .sl none 0 0 none, .int .i64 2]) h)
  (hk:0<b→∀q r h' m' dp',h'.wf→H.lee u h h'→Tune h' u m' nw dp' t→Sp m dp m' dp' nw (64*(wlen a*wlen a)) (lev (2*wlen b)+1)→Nf h.next h' q (a/b)→Nf h.next h' r (a%b)→K (.tup [q,r, .int .i64 0]) h'):
  ACalls Tryz.prog 88 [.ptr (some (e,0)),va,vb] h K:=by
 have ba:Big a:=wbig wa (by omega)
 have bb:Big b:=wbig wb (by omega)
 refine in_div_Engine_Halves (by simp) fun hw=> ?_
 unfold c_div_Engine_Halves
 simp only[go_sem]
 refine LenN_calls nb ?_
 rcases Nat.eq_zero_or_pos b with h0|h0
 ·have hz:wlen b=0:=by rw[h0];rfl
  simp only[go_sem,hz,eqT (show((0:Nat):Int)=0 from rfl)]
  exact hk0 h0
 have hM:wlen b≠0:=fun h=>by have:=wlen_eq_zero.1 h;omega
 have hbb:=blen_ge h0
 have hwb:=wlen_blen b
 obtain⟨M,hMe⟩:∃M,M=wlen b:=⟨_,rfl⟩
 rw[←hMe] at hM wb hk hwb⊢
 simp only[go_sem,eqF (show(M:Int)≠0 by omega)]
 refine lCmp_calls na nb ?_
 rcases Nat.lt_or_ge a b with hab|hab
 ·rw[Nat.div_eq_of_lt hab,Nat.mod_eq_of_lt hab] at hk
  simp only[go_sem,cmp_lt hab]
  refine Norm_calls na fun r h1 hw1 hl1 hr=> ?_
  simp only[go_sem]
  exact fun hw'=>hk h0 _ r h1 _ _ hw' hl1.lee (ht.mono hl1) ((Sp.refl m dp nw 0 0).le (Nat.zero_le _) (Nat.zero_le _)) (Nf.nil _ _ _) hr
 have hMa:M≤wlen a:=by rw[hMe];exact wlen_mono hab
 have hbla:blen b≤blen a:=blen_mono hab
 have hwa:=wlen_blen a
 obtain⟨f,rfl,rfl,G,E⟩:=Eng.path ht he
 have hu:=H.row_lt hw ht
 have l0:=H.lee_refl (f 7) h
 have htd:=tune_div ht
 simp only[go_sem,cmp_ge hab]
 refine loop_cut (fun ρ h'=>h'=h∧ρ 0= .ptr (some (f 0,0))∧ρ 1=va∧ρ 2=vb∧ρ 7= .sl none 0 0 none∧ρ 9= .int .i64 (M:Int)∧∃s half:Nat,ρ 10= .int .i64 (s:Int)∧ρ 11= .int .i64 (half:Int)∧M≤s*2^half∧(s-1)*2^half<M∧(2≤s∨half=0)∧1≤s) ?_ ?_
 ·refine⟨fun s ρ h'=>h'=h∧ρ 0= .ptr (some (f 0,0))∧ρ 1=va∧ρ 2=vb∧ρ 7= .sl none 0 0 none∧ρ 9= .int .i64 (M:Int)∧∃half:Nat,ρ 10= .int .i64 (s:Int)∧ρ 11= .int .i64 (half:Int)∧M≤s*2^half∧(s-1)*2^half<M∧(2≤s∨half=0)∧1≤s,M,⟨rfl,by first|rfl|trivial|assumption,by first|rfl|trivial|assumption,by first|rfl|trivial|assumption,by first|rfl|trivial|assumption,by first|rfl|trivial|assumption,0,by first|rfl|trivial|assumption,rfl,by simp,by simp;omega, .inr rfl,by omega⟩, ?_⟩
  rintro s ρ h' ⟨rfl,q0,q1,q2,q7,q9,half,q10,q11,i1,i2,i3,i4⟩
  have hhl:=(halved i1 i2 i3 i4 rfl)
  have hhalf:half<2^half:=Nat.lt_two_pow_self
  by_cases hD:t.div≤(s:Int)
  ·have hs4:4≤s:=by have:=hT.1;omega
   have c2:(((s+1:Nat):Int)).tdiv 2=(((s+1)/2:Nat):Int):=tdivN (b:=2)
   have hsM:s≤M:=by
    have h1:(s-1)*1≤(s-1)*2^half:=Nat.mul_le_mul_left _ (Nat.pow_pos (by omega))
    omega
   simp only[go_sem,q0,q1,q2,q9,q10,q11,G 0 (by omega) _ l0,G 1 (by omega) _ l0,G 2 (by omega) _ l0,G 3 (by omega) _ l0,G 4 (by omega) _ l0,G 5 (by omega) _ l0,G 6 (by omega) _ l0,htd,show decide ((s:Int)≥t.div)=true from decide_eq_true hD,incI (i:=s) (by omega),c2,wNI (n:=(s+1)/2) (by omega),incI (i:=half) (by omega)]
   refine⟨by decide, ?_⟩
   refine⟨(s+1)/2,by omega,trivial,by first|rfl|trivial|assumption,by first|rfl|trivial|assumption,by first|rfl|trivial|assumption,by first|rfl|trivial|assumption,by first|rfl|trivial|assumption,half+1,by first|rfl|trivial|assumption,by first|rfl|trivial|assumption,halved_up i1,halved_lo i2, .inl (by omega),by omega⟩
  ·simp only[go_sem,q0,q1,q2,q9,q10,q11,G 0 (by omega) _ l0,G 1 (by omega) _ l0,G 2 (by omega) _ l0,G 3 (by omega) _ l0,G 4 (by omega) _ l0,G 5 (by omega) _ l0,G 6 (by omega) _ l0,htd,show decide ((s:Int)≥t.div)=false from decide_eq_false hD]
   exact⟨trivial,by first|rfl|trivial|assumption,by first|rfl|trivial|assumption,by first|rfl|trivial|assumption,by first|rfl|trivial|assumption,by first|rfl|trivial|assumption,s,half,by first|rfl|trivial|assumption,by first|rfl|trivial|assumption,i1,i2,i3,i4⟩
 rintro ρ h' ⟨rfl,q0,q1,q2,q7,q9,s,half,q10,q11,i1,i2,i3,i4⟩
 obtain⟨N,hN⟩:∃N,N=s*2^half:=⟨_,rfl⟩
 obtain⟨n1,n2,n3⟩:=halved i1 i2 i3 i4 hN
 have hhalf:half<2^half:=Nat.lt_two_pow_self
 have e1:IntKind.u64.wrap (half:Int)=(half:Int):=wUn (by omega)
 have e2:=shl_int (s:=s) (half:=half) (by rw[←hN];omega) (by
  rcases Nat.lt_or_ge 64 half with h|h
  ·have:2^64≤2^half:=Nat.pow_le_pow_right (by omega) (by omega)
   omega
  ·exact h)
 rw[←hN] at e2
 clear i1 i2 i3 i4 n3
 have e3:=subI (a:=N) (b:=M) n1 (by omega)
 have e4:IntKind.i64.wrap (64*((N-M:Nat):Int))=((64*(N-M):Nat):Int):=mulI (a:=64) (b:=N-M) (by omega)
 have e5:IntKind.i64.wrap ((M:Int)-1)=((M-1:Nat):Int):=(wI (by omega) (by omega)).trans (by omega)
 obtain⟨ys,hv,hyd,hyl,hyv⟩:=nb
 obtain⟨idb,offb,cb,rfl⟩:=hv.form
 have hMl:M-1<ys.length:=by
  have:=wlen_len hyd
  rw[hyv,←hMe] at this
  omega
 obtain⟨jb,rfl,_,hg⟩:=hv.at hMl
 have hwd:=hyd _ (List.getElem_mem hMl)
 --the word on top
 have htop:b/2^(64*(M-1))=ys[M-1]:=by
  have hcut:=top_cut hyd
  rw[hyv,←hMe] at hcut
  have h1:=val_take_succ 18446744073709551616 ys (M-1) hMl
  rw[show M-1+1=M by omega,hcut.2] at h1
  have h2:=val_lt_take 18446744073709551616 (by omega) ys hyd (M-1)
  rw[h1,←two_B,Nat.add_mul_div_left _ _ (Nat.pow_pos (by omega)),Nat.div_eq_of_lt h2,Nat.zero_add]
 have htb:=blen_shr (d:=b) (c:=64*(M-1)) (by omega)
 rw[htop] at htb
 have hw0:0<ys[M-1]:=by
  rcases Nat.eq_zero_or_pos ys[M-1] with h|h
  ·rw[h,blen_zero] at htb
   omega
  ·exact h
 generalize ys[M-1]=w at*
 simp only[go_sem,q0,q1,q2,q7,q9,q10,q11,e1,e2,Int.toNat_natCast]
 refine⟨by omega, ?_⟩
 simp only[go_sem,q0,q1,q2,q7,q9,q10,q11,e1,e2,e3,e4,e5]
 refine⟨by omega,by omega, ?_⟩
 simp only[go_sem,q0,q1,q2,q7,q9,q10,q11,Int.toNat_natCast,Nat.mul_one,hg]
 refine LeadingZeros64_calls hwd hw0 fun lz hlz z1 z2=> ?_
 have hlzb:lz+blen w=64:=by
  have b1:=blen_ge hw0
  have b2:=blen_lt w
  have h1:2^(blen w-1+lz)<2^64:=by
   rw[Nat.pow_add]
   exact Nat.lt_of_le_of_lt (Nat.mul_le_mul_right _ b1.2) z2
  have h2:2^63<2^(blen w+lz):=by
   rw[Nat.pow_add]
   exact Nat.lt_of_le_of_lt z1 (Nat.mul_lt_mul_of_pos_right b2 (Nat.pow_pos (by omega)))
  have h3:=(Nat.pow_lt_pow_iff_right (show 1<2 by omega)).1 h1
  have h4:=(Nat.pow_lt_pow_iff_right (show 1<2 by omega)).1 h2
  omega
 obtain⟨S,hS⟩:∃S,S=64*(N-M)+lz:=⟨_,rfl⟩
 have e6:IntKind.i64.wrap (((64*(N-M):Nat):Int)+(lz:Int))=(S:Int):=by rw[hS];exact addI (by omega)
 have hSb:S+blen b=64*N:=by omega
 clear z1 z2 hlzb htb hw0 hwd hg
 have nb:Nn h' (.sl (some jb) offb ys.length cb) b:=⟨ys,hv,hyd,hyl,hyv⟩
 simp only[go_sem,q0,q1,q2,q7,q9,q10,q11,e6]
 refine lShl_calls nb (by omega) fun vd h1 hw1 hl1 hvd=> ?_
 simp only[go_sem,q0,q1,q2,q7,q9,q10,q11]
 refine lShl_calls (na.mono hl1) (by omega) fun vu h2 hw2 hl2 hvu=> ?_
 --the numbers that are divided
 have dhi:b*2^S<18446744073709551616^N:=by
  rw[two_B,←hSb,Nat.add_comm S,Nat.pow_add]
  exact Nat.mul_lt_mul_of_pos_right (blen_lt b) (Nat.pow_pos (by omega))
 have dlo:18446744073709551616^N≤2*(b*2^S):=by
  have h3:2^(blen b-1+S)≤b*2^S:=by rw[Nat.pow_add];exact Nat.mul_le_mul_right _ hbb.2
  have h4:18446744073709551616^N=2*2^(blen b-1+S):=by rw[two_B,←Nat.pow_succ'];congr 1;omega
  omega
 have udiv:a*2^S/(b*2^S)=a/b:=Nat.mul_div_mul_right _ _ (Nat.pow_pos (by omega))
 have umod:a*2^S%(b*2^S)=a%b*2^S:=Nat.mul_mod_mul_right _ _ _
 have hd0:0<b*2^S:=Nat.mul_pos h0 (Nat.pow_pos (by omega))
 have ub:a*2^S<2^(blen a+S):=by
  rw[Nat.pow_add]
  exact Nat.mul_lt_mul_of_pos_right (blen_lt a) (Nat.pow_pos (by omega))
 have uw:=wlen_bits ub
 have bD:Big (b*2^S):=big_pow dhi (by omega)
 generalize b*2^S=D at*
 obtain⟨us,hus,hud,hut,huv⟩:=hvu
 have hul:us.length=wlen (a*2^S):=by rw[←huv];exact top_len hud hut
 rw[←hul] at uw
 obtain⟨idu,cu,rfl⟩:=hus.form
 have hu0:0<us.length:=by
  rcases Nat.eq_zero_or_pos us.length with h|h
  ·exfalso
   have:us=[]:=List.eq_nil_of_length_eq_zero h
   rw[this] at huv
   simp only[val] at huv
   have:0<a*2^S:=Nat.mul_pos (by omega) (Nat.pow_pos (by omega))
   omega
  ·exact h
 obtain⟨top,htop⟩:∃top,top=(us.length+N-1)/N:=⟨_,rfl⟩
 have hcost:=halves_cost (N:=N) (ul:=us.length) n1 n2 hMa (by omega) htop
 have htopN:us.length≤top*N:=by
  rw[htop]
  have h3:=Nat.div_add_mod (us.length+N-1) N
  have h4:=Nat.mod_lt (us.length+N-1) (show 0<N by omega)
  rw[Nat.mul_comm] at h3
  omega
 have htopN2:top*N≤us.length+N:=by
  rw[htop]
  have:=Nat.div_mul_le_self (us.length+N-1) N
  omega
 have htop1:1≤top:=by
  rcases Nat.eq_zero_or_pos top with h|h
  ·rw[h] at htopN;omega
  ·exact h
 have htoplt:top≤us.length:=by
  rw[htop]
  refine Nat.div_le_of_le_mul ?_
  have:us.length+N≤N*us.length+1:=by
   obtain⟨p,rfl⟩:∃p,N=p+1:=⟨N-1,by omega⟩
   obtain⟨q,hq⟩:∃q,us.length=q+1:=⟨us.length-1,by omega⟩
   rw[hq,Nat.add_mul,Nat.mul_add]
   omega
  omega
 have e7:IntKind.i64.wrap ((us.length:Int)+(N:Int))=((us.length+N:Nat):Int):=addI (by omega)
 have e8:IntKind.i64.wrap (((us.length+N:Nat):Int)-1)=((us.length+N-1:Nat):Int):=(wI (by omega) (by omega)).trans (by omega)
 have e9:IntKind.i64.wrap ((((us.length+N-1:Nat):Int)).tdiv (N:Int))=(top:Int):=by rw[tdivN,←htop];exact wNI (by omega)
 have e10:IntKind.i64.wrap ((top:Int)-1)=(top:Int)-1:=wI (by omega) (by omega)
 clear htop
 simp only[go_sem,q0,q1,q2,q7,q9,q10,q11,e7,e8]
 refine⟨by omega, ?_⟩
 simp only[go_sem,q0,q1,q2,q7,q9,q10,q11,e9,e10]
 have l02:=H.le_trans hl1 hl2
 have ht2:=ht.mono l02
 have hn2:=l02.1
 have nd2:=hvd.mono hl2
 have hu1:f 7<h1.next:=Nat.lt_of_lt_of_le hu hl1.1
 have hu2:f 7<h2.next:=Nat.lt_of_lt_of_le hu1 hl2.1
 have tk:=fun j=>val_take_drop 18446744073709551616 (us.drop j) N
 refine loop_cut (fun ρ h4=>h4.wf∧H.lee (f 7) h2 h4∧(∃m' dp',Tune h4 (f 7) m' nw dp' t∧Sp m dp m' dp' nw (top*(8*(N*N))) (lev N+1))∧ρ 10= .int .i64 (N:Int)∧ρ 12= .int .i64 (S:Int)∧(∃vr,ρ 7=vr∧Nf h2.next h4 vr (val 18446744073709551616 us%D))∧∃vp P,ρ 15=vp∧Live 37 1 h2.next (NfB h2.next) h4 vp P∧P.length=top∧val (18446744073709551616^N) P.reverse=val 18446744073709551616 us/D) ?_ ?_
 ·refine⟨fun s ρ h4=>s≤top∧h4.wf∧H.lee (f 7) h2 h4∧(∃m' dp',Tune h4 (f 7) m' nw dp' t∧Sp m dp m' dp' nw ((top-s)*(8*(N*N))) (lev N+1))∧ρ 0= .ptr (some (f 0,0))∧ρ 10= .int .i64 (N:Int)∧ρ 12= .int .i64 (S:Int)∧ρ 13=vd∧ρ 14= .sl idu 0 us.length cu∧ρ 17= .int .i64 ((s:Int)-1)∧(∃vr,ρ 7=vr∧Nf h2.next h4 vr (val 18446744073709551616 (us.drop (s*N))%D))∧∃vp P,ρ 15=vp∧Live 37 1 h2.next (NfB h2.next) h4 vp P∧P.length=top-s∧val (18446744073709551616^N) P.reverse=val 18446744073709551616 (us.drop (s*N))/D,top,
   ⟨Nat.le_refl _,hw2,H.lee_refl _ _,⟨m,dp,ht2,(Sp.refl m dp nw 0 0).le (Nat.zero_le _) (Nat.zero_le _)⟩,by first|rfl|trivial|assumption,by first|rfl|trivial|assumption,by first|rfl|trivial|assumption,by first|rfl|trivial|assumption,by first|rfl|trivial|assumption,by first|rfl|trivial|assumption,⟨_,q7,by rw[List.drop_of_length_le htopN];simpa [val] using Nf.nil _ _ _⟩,_,[],rfl,Live.nil _ _ _ _ _ _,by simp,by rw[List.drop_of_length_le htopN];simp[val]⟩, ?_⟩
  rintro s ρ h4 ⟨hs,hw4,hl4,⟨m4,dp4,ht4,hsp4⟩,q0,q10,q12,q13,q14,q17,⟨vr,q7,hr⟩,vp,P,q15,hP,hPl,hPv⟩
  have l04:H.lee (f 7) h' h4:=l02.lee.trans hl4
  rcases Nat.eq_zero_or_pos s with h5|h5
  ·subst h5
   simp only[go_sem,q0,q10,q12,q13,q14,q17,show decide (((0:Nat):Int)-1≥0)=false from rfl]
   rw[Nat.zero_mul,List.drop_zero] at hr hPv
   exact⟨hw4,hl4,⟨m4,dp4,ht4,by simpa using hsp4⟩,by first|rfl|trivial|assumption,by first|rfl|trivial|assumption,⟨vr,q7,hr⟩,vp,P,q15,hP,hPl,hPv⟩
  ·obtain⟨j,rfl⟩:∃j,s=j+1:=⟨s-1,by omega⟩
   have ej:(((j+1:Nat):Int)-1)=(j:Int):=by omega
   rw[ej] at q17
   have hjN:(j+1)*N≤top*N:=Nat.mul_le_mul_right _ hs
   rw[Nat.add_mul,Nat.one_mul] at hjN
   have f1:IntKind.i64.wrap ((j:Int)*(N:Int))=((j*N:Nat):Int):=mulI (by omega)
   have f2:IntKind.i64.wrap ((j:Int)-1)=(j:Int)-1:=wI (by omega) (by omega)
   simp only[go_sem,q0,q10,q12,q13,q14,q17,show decide ((j:Int)≥0)=true from decide_eq_true (by omega),f1]
   refine dpiece_calls ((hus.monoE hu1 hl4).isN) hud (by omega) (by omega) (by omega) fun vp1 h5 hw5 hl5 hp1=> ?_
   have hpd:Dig ((us.drop (j*N)).take N):=fun z hz=>hud z (List.mem_of_mem_drop (List.mem_of_mem_take hz))
   have hpb:val 18446744073709551616 ((us.drop (j*N)).take N)<18446744073709551616^N:=Nat.lt_of_lt_of_le (val_lt 18446744073709551616 (by omega) _ hpd) (Nat.pow_le_pow_right (by omega) (by simp;omega))
   have tk:=tk (j*N)
   rw[List.drop_drop,show j*N+N=(j+1)*N by rw[Nat.add_mul,Nat.one_mul]] at tk
   have hst:=halves_step (B:=18446744073709551616) (N:=N) (p:=val 18446744073709551616 ((us.drop (j*N)).take N)) (d:=D) (U1:=val 18446744073709551616 (us.drop ((j+1)*N))) (r:=0) hd0
   rw[←tk] at hst
   generalize val 18446744073709551616 ((us.drop (j*N)).take N)=p at*
   have hmr:=Nat.mod_lt (val 18446744073709551616 (us.drop ((j+1)*N))) hd0
   generalize val 18446744073709551616 (us.drop ((j+1)*N))=U1 at*
   obtain⟨U0,hU0⟩:∃U0,U0=val 18446744073709551616 (us.drop (j*N)):=⟨_,rfl⟩
   rw[←hU0] at tk hst
   have hr5:=hr.mono hl5
   have bp:Big p:=big_pow hpb (by omega)
   have bR:Big (U1%D):=bD.le (Nat.le_of_lt hmr)
   simp only[go_sem,q0,q7,q10,q12,q13,q14,q15,q17,lit2a hp1.one hr5.one]
   refine Join2_calls hw5 (hp1.nn bp) (hr5.nn bR) bp bR (by omega) fun vj h6 hw6 hl6 hvj=> ?_
   have l46:=H.le_trans hl5 hl6
   have l06:=l04.trans l46.lee
   have hjlt:p+18446744073709551616^N*(U1%D)<D*18446744073709551616^N:=by
    have:18446744073709551616^N*(U1%D+1)≤18446744073709551616^N*D:=Nat.mul_le_mul_left _ hmr
    rw[Nat.mul_add,Nat.mul_one,Nat.mul_comm (18446744073709551616^N) D] at this
    omega
   have bj:Big (p+18446744073709551616^N*(U1%D)):=big_pow (n:=N+N) (Nat.lt_trans hjlt (mul_lt_pow dhi (Nat.le_refl _))) (by omega)
   simp only[go_sem,q0,q7,q10,q12,q13,q14,q15,q17]
   refine two_ok hT N (by omega) (by omega) h6 m4 nw dp4 (f 0) (he.monoE ht l06) (ht4.mono l46) h6 _ _ _ _ _ _ _ _ (H.lee_refl _ _) (ht4.mono l46) (hvj.nn bj) (((nd2.nn bD).monoE' ht2 hl4).mono l46) hjlt dlo dhi (by omega) fun x r7 h7 m7 dp7 hw7 hl7 ht7 hsp7 hx hr7=> ?_
   obtain⟨io,co,evp⟩:=hP.form
   subst evp
   have hiol:=hP.io_lt hw4
   have hP7:=(hP.mono NfB.grows l46).monoE (fun⟨v,e,hx,hb⟩ hl=>⟨v,e,hx.monoE hu2 hl,hb⟩) hu2 hl7
   have l27:H.lee (f 7) h2 h7:=(hl4.trans l46.lee).trans hl7
   have hqb:(p+18446744073709551616^N*(U1%D))/D<18446744073709551616^N:=(Nat.div_lt_iff_lt_mul hd0).2 (by rw[Nat.mul_comm (18446744073709551616^N) D];exact hjlt)
   have bq:Big ((p+18446744073709551616^N*(U1%D))/D):=big_pow hqb (by omega)
   have hb6:h2.next≤h6.next:=(hl4.trans l46.lee).1
   simp only[go_sem,q0,q7,q10,q12,q13,q14,q15,q17,k_lit1 hx.one]
   have hio6:∀j,io=some j→j<h6.next:=fun j hj=>by have:=hiol j hj;have:=l46.1;omega
   have hr8:=hr7.del hio6
   have hx8:=hx.del hio6
   have hle78:∀h8,(h7.del io).le h8→H.lee (f 7) h2 h8:=fun h8 hl8=>⟨Nat.le_trans l27.1 hl8.1,fun i r hi hr=>hl8.2 i r (by
    show(if some i=io then none else h7.rows i)=some r
    rw[if_neg ?_]
    ·exact l27.2 i r hi hr
    ·intro e
     exact absurd (H.row_lt hw2 hr) (Nat.not_lt.2 (hP.io_ge e.symm)))⟩
   refine Live.app2 NfB.grows (by omega) hw7 (Nat.le_trans hb6 hl7.1) hP7 rfl (y:=(p+18446744073709551616^N*(U1%D))/D) ⟨x,rfl,hx8.base hb6,bq⟩ rfl (by simp[hx.one]) (by omega) (by omega) rfl fun v8 h8 hw8 hle8 hs8=> ?_
   have hr8:=(hr8.mono hle8).base hb6
   have ht8:Tune h8 (f 7) m7 nw dp7 t:=hle8.2 _ _ (by
    show(if some (f 7)=io then none else h7.rows (f 7))=_
    rw[if_neg ?_]
    ·exact ht7
    ·intro e
     exact absurd hu2 (Nat.not_lt.2 (hP.io_ge e.symm)))
   simp only[go_sem,q0,q7,q10,q12,q13,q14,q15,q17,f2]
   rw[←hst.2] at hr8
   refine⟨j,by omega,by omega,hw8,hle78 _ hle8,⟨m7,dp7,ht8, ?_⟩,by first|rfl|trivial|assumption,by first|rfl|trivial|assumption,by first|rfl|trivial|assumption,by first|rfl|trivial|assumption,by first|rfl|trivial|assumption,by first|rfl|trivial|assumption,⟨r7,by first|rfl|trivial|assumption,by rw[←hU0];exact hr8⟩,v8,_,by first|rfl|trivial|assumption,hs8,by simp;omega, ?_⟩
   ·refine(hsp4.trans hsp7).le ?_ (by omega)
    have e1:top-j=(top-(j+1))+1:=by omega
    rw[e1,Nat.add_mul,Nat.one_mul]
    exact Nat.le_refl _
   ·rw[List.reverse_append,List.reverse_cons,List.reverse_nil,List.nil_append,List.singleton_append]
    simp only[val]
    rw[hPv,←hU0,hst.1,Nat.add_comm]
 rintro ρ h4 ⟨hw4,hl4,⟨m4,dp4,ht4,hsp4⟩,q10,q12,⟨vr,q7,hr⟩,vp,P,q15,hP,hPl,hPv⟩
 obtain⟨io,co,rfl⟩:=hP.form
 obtain⟨io,_,rfl,_,_,_⟩:=hP.get1 (j:=0) (by omega)
 have f3:IntKind.i64.wrap ((P.length:Int)-1)=((P.length-1:Nat):Int):=(wI (by omega) (by omega)).trans (by omega)
 simp only[go_sem,q7,q10,q12,q15,f3]
 refine loop_cut (fun ρ h5=>h5.wf∧H.lee (f 7) h2 h5∧Tune h5 (f 7) m4 nw dp4 t∧ρ 7=vr∧ρ 10= .int .i64 (N:Int)∧ρ 12= .int .i64 (S:Int)∧ρ 15= .sl (some io) 0 P.length co∧Nf h2.next h5 vr (val 18446744073709551616 us%D)∧∃n,Live 37 1 h2.next (NfB h2.next) h5 (.sl (some io) 0 n co) P.reverse∧n=P.length) ?_ ?_
 ·refine for_rule (fun i ρ h5=>2*i≤P.length∧h5.wf∧H.lee (f 7) h2 h5∧Tune h5 (f 7) m4 nw dp4 t∧ρ 7=vr∧ρ 10= .int .i64 (N:Int)∧ρ 12= .int .i64 (S:Int)∧ρ 15= .sl (some io) 0 P.length co∧ρ 19= .int .i64 (i:Int)∧ρ 20= .int .i64 ((P.length-1-i:Nat):Int)∧Nf h2.next h5 vr (val 18446744073709551616 us%D)∧Live 37 1 h2.next (NfB h2.next) h5 (.sl (some io) 0 P.length co) (turnL P i)) P.length
   ⟨by omega,hw4,hl4,ht4,q7,q10,q12,q15,by first|rfl|trivial|assumption,by first|rfl|trivial|assumption,hr,by rw[turnL_zero];exact hP⟩ (fun i ρ h hI=>by have:=hI.1;omega) ?_
  rintro i ρ h5 ⟨hi,hw5,hl5,ht5,q7,q10,q12,q15,q19,q20,hr,hP5⟩
  rcases Nat.lt_or_ge i (P.length-1-i) with h6|h6
  ·obtain⟨j,hj⟩:∃j,j=P.length-1-i:=⟨_,rfl⟩
   rw[←hj] at q20 h6
   have hjl:j<P.length:=by omega
   obtain⟨_,aj,ej,_,gj,rj⟩:=hP5.get1 (j:=j) (by rw[turnL_len];omega)
   injection ej with ej
   subst ej
   obtain⟨_,ai,ei,_,gi,ri⟩:=hP5.get1 (j:=i) (by rw[turnL_len];omega)
   injection ei with ei
   subst ei
   rw[turnL_get hjl,if_neg (by omega)] at rj
   rw[turnL_get (by omega),if_neg (by omega)] at ri
   have hstep:=turnL_step (P:=P) (i:=i) (by omega)
   rw[←hj] at hstep
   obtain⟨r1,hb1,hlt1,hr1,ho1,hf1,hp1⟩:=hP5.put1 hw5 (j:=i) (by rw[turnL_len];omega)
   have hP6:=hp1 aj _ rj
   have o1:∀{a:AV} {x:Nat},NfB h2.next (h5.del (some io)) [a] x→a.one=true:=by
    rintro a x ⟨v,e,hx,_⟩
    injection e with e
    subst e
    exact hx.one
   have hw6:=H.wf_set hw5 hlt1 {r1 with cells:=putAt r1.cells i [aj]}
   have hl6:=H.lee_put hw2 hl5 hb1 {r1 with cells:=putAt r1.cells i [aj]}
   have ht6:=ht5.put (show f 7≠io by omega) {r1 with cells:=putAt r1.cells i [aj]}
   have hr6:=Nf.put (r':={r1 with cells:=putAt r1.cells i [aj]}) hr hr1 ho1 (by decide)
   have hd6:(h5.set io {r1 with cells:=putAt r1.cells i [aj]}).del (some io)=h5.del (some io):=H.del_set
   simp only[go_sem,q7,q10,q12,q15,q19,q20,ltT h6]
   refine⟨by omega,by omega, ?_⟩
   simp only[go_sem,q7,q10,q12,q15,q19,q20,Int.toNat_natCast,Nat.mul_one,Nat.zero_add,gj]
   refine⟨by omega,by omega, ?_⟩
   simp only[go_sem,q7,q10,q12,q15,q19,q20,Int.toNat_natCast,Nat.mul_one,Nat.zero_add,gi]
   refine⟨by omega,by omega,(one_held (o1 rj)).1,by rw[(one_held (o1 rj)).2];rfl,by rw[(one_held (o1 rj)).2];simp[o1 rj], ?_⟩
   rw[(one_held (o1 rj)).2]
   simp only[go_sem,hr1]
   refine⟨by rw[ho1];simp,by omega, ?_⟩
   generalize h5.set io {r1 with cells:=putAt r1.cells i [aj]}=g6 at*
   obtain⟨r2,hb2,hlt2,hr2,ho2,hf2,hp2⟩:=hP6.put1 hw6 (j:=j) (by rw[List.length_set,turnL_len];omega)
   have hP7:=hp2 ai _ (by rw[hd6];exact ri)
   rw[hstep] at hP7
   have hw7:=H.wf_set hw6 hlt2 {r2 with cells:=putAt r2.cells j [ai]}
   have hl7:=H.lee_put hw2 hl6 hb2 {r2 with cells:=putAt r2.cells j [ai]}
   have ht7:=ht6.put (show f 7≠io by omega) {r2 with cells:=putAt r2.cells j [ai]}
   have hr7:=Nf.put (r':={r2 with cells:=putAt r2.cells j [ai]}) hr6 hr2 ho2 (by decide)
   refine⟨by omega,by omega,(one_held (o1 ri)).1,by rw[(one_held (o1 ri)).2];rfl,by rw[(one_held (o1 ri)).2];simp[o1 ri], ?_⟩
   rw[(one_held (o1 ri)).2]
   simp only[go_sem,hr2]
   refine⟨by rw[ho2];simp,by omega, ?_⟩
   generalize g6.set io {r2 with cells:=putAt r2.cells j [ai]}=g7 at*
   have f4:IntKind.i64.wrap ((j:Int)-1)=((P.length-1-(i+1):Nat):Int):=(wI (by omega) (by omega)).trans (by omega)
   simp only[go_sem,q7,q10,q12,q15,q19,q20,incI (i:=i) (by omega),f4]
   exact⟨by omega,hw7,hl7,ht7,by first|rfl|trivial|assumption,by first|rfl|trivial|assumption,by first|rfl|trivial|assumption,by first|rfl|trivial|assumption,by first|rfl|trivial|assumption,by first|rfl|trivial|assumption,hr7,hP7⟩
  ·rw[turnL_end h6] at hP5
   simp only[go_sem,q7,q10,q12,q15,q19,q20,ltF h6]
   exact⟨hw5,hl5,ht5,by first|rfl|trivial|assumption,by first|rfl|trivial|assumption,by first|rfl|trivial|assumption,by first|rfl|trivial|assumption,hr,_,hP5,rfl⟩
 ·rintro ρ h5 ⟨hw5,hl5,ht5,q7,q10,q12,q15,hr,n,hP5,rfl⟩
  have hPA:=hP5.isA NfB.grows
  simp only[go_sem,q7,q10,q12,q15]
  refine Join_calls (xs:=P.reverse) (by omega) (hPA.imp fun c x hx=>hx.nn) (NfB.big hPA) (by simp;omega) fun q h6 hw6 hl6 hq=> ?_
  rw[hPv,huv,udiv] at hq
  rw[huv,umod] at hr
  have bmD:Big (a%b*2^S):=by
   rw[←umod]
   exact bD.le (Nat.le_of_lt (Nat.mod_lt _ hd0))
  simp only[go_sem,q7,q10,q12,q15]
  refine lShr_calls ((hr.nn bmD).mono hl6) (by omega) fun r h7 hw7 hl7 hr7=> ?_
  rw[Nat.mul_div_cancel _ (Nat.pow_pos (by omega))] at hr7
  have hb5:h2.next≤h5.next:=hl5.1
  have hb6:=hl6.1
  simp only[go_sem]
  refine fun hw'=>hk h0 q r h7 m4 dp4 hw' (l02.lee.trans (hl5.trans (H.le_trans hl6 hl7).lee)) ((ht5.mono hl6).mono hl7) (hsp4.le hcost ?_) ((hq.mono hl7).base (by omega)) (hr7.base (by omega))
  have:lev N≤lev (2*M):=lev_of (by omega)
  omega
end
end
section
def dvW (n b:Nat):Nat:=(64*n+1-b)/64+1
def dvC (n b:Nat):Nat:=max (64*(n*n)) (rcC (64*n+2) b (64*n)+8*(n*dvW n b)+8*(dvW n b*((b+63)/64)))
def dvD (n b:Nat):Nat:=max (lev (2*((b+63)/64))+1) (max (rcD (64*n+2) b (64*n)) (lev (n+1)))
theorem newton_le {a b v k:Nat} (hv:v=2^k/b):a*v/2^k*b≤a:=by
 have h1:v*b≤2^k:=by rw[hv];exact Nat.div_mul_le_self _ _
 have h2:a*v/2^k*b*2^k≤a*2^k:=by
  have h3:a*v/2^k*2^k≤a*v:=Nat.div_mul_le_self _ _
  calc a*v/2^k*b*2^k=a*v/2^k*2^k*b:=by ac_rfl
   _≤a*v*b:=Nat.mul_le_mul_right _ h3
   _=a*(v*b):=Nat.mul_assoc _ _ _
   _≤a*2^k:=Nat.mul_le_mul_left _ h1
 exact Nat.le_of_mul_le_mul_right h2 (Nat.pow_pos (by omega))
section
variable {e u m nw dp a b:Nat} {t:Tb} {va vb:AV} {h:H} {K:AV→H→Prop}
theorem dnewton_calls (he:Eng 7 h e u) (ht:Tune h u m nw dp t) (na:Nn h va a) (nb:Nn h vb b) (wa:wlen a≤4000) (wb:wlen b≤4000) (hba:wlen b≤wlen a) (hb0:0<b) (hnw:nw≤600000000)
  (hk:∀q r h' m' dp',h'.wf→H.lee u h h'→Tune h' u m' nw dp' t→Sp m dp m' dp' nw (dvC (wlen a) (blen b)) (dvD (wlen a) (blen b))→Nf h.next h' q (a/b)→Nf h.next h' r (a%b)→K (.tup [q,r]) h'):
  ACalls Tryz.prog 87 [.ptr (some (e,0)),va,vb] h K:=by
 have ba:Big a:=wbig wa (by omega)
 have bb:Big b:=wbig wb (by omega)
 refine in_div_Engine_newton (by simp) fun hw=> ?_
 unfold c_div_Engine_newton
 obtain⟨f,rfl,rfl,G,E⟩:=Eng.path ht he
 have hu:=H.row_lt hw ht
 have l0:=H.lee_refl (f 7) h
 have hbb:=blen_ge hb0
 have hwb:=wlen_blen b
 obtain⟨n,hn⟩:∃n,n=wlen a:=⟨_,rfl⟩
 have hwa:=wlen_blen a
 have han:a<2^(64*n):=by rw[hn,←two_B];exact wlen_lt a
 rw[←hn] at hk hba wa
 have e1:IntKind.i64.wrap (64*(n:Int))=((64*n:Nat):Int):=mulI (a:=64) (b:=n) (by omega)
 simp only[go_sem]
 refine LenN_calls na ?_
 rw[←hn]
 simp only[go_sem,e1,G 0 (by omega) _ l0]
 refine Recip_calls (E 1 (by omega)) ht nb hb0 (by omega) (by omega) (by omega) fun v h1 m1 dp1 hw1 hl1 ht1 hsp1 hv=> ?_
 have wv:wlen (2^(64*n)/b)≤dvW n (blen b):=by
  have:=wlen_two (pow_div_le (m:=64*n) (b:=blen b-1) hb0 hbb.2 (by omega))
  have e:64*n-(blen b-1)=64*n+1-blen b:=by omega
  rw[e] at this
  exact this
 have hdvw:dvW n (blen b)≤n+1:=by unfold dvW;omega
 have hle:=newton_le (a:=a) (b:=b) (k:=64*n) rfl
 have bv:Big (2^(64*n)/b):=wbig wv (by omega)
 generalize 2^(64*n)/b=V at*
 simp only[go_sem,G 0 (by omega) _ hl1,G 1 (by omega) _ hl1,G 2 (by omega) _ hl1]
 refine Mul2_calls ((E 3 (by omega)).monoE ht hl1) ht1 (na.monoE' ht hl1) (hv.nn bv) (by omega) (by omega) (by omega) fun p h2 m2 dp2 hw2 hl2 ht2 hsp2 hp=> ?_
 have bp:Big (a*V):=mul_big (show wlen a≤n by omega) wv (by omega)
 have c2:costT t (wlen a) (wlen V)≤8*(n*dvW n (blen b)):=Nat.le_trans (costT_le (by omega) (by omega)) (Nat.mul_le_mul_left 8 (Nat.mul_le_mul (by omega) wv))
 have d2:lev2 (wlen a) (wlen V)≤lev (n+1):=lev_of (by omega)
 simp only[go_sem]
 refine lShr_calls (hp.nn bp) (by omega) fun q h3 hw3 hl3 hq=> ?_
 have hqv:a*V/2^(64*n)≤V:=by
  refine Nat.div_le_of_le_mul ?_
  exact Nat.mul_le_mul_right _ (Nat.le_of_lt han)
 have wq:wlen (a*V/2^(64*n))≤dvW n (blen b):=Nat.le_trans (wlen_mono hqv) wv
 generalize a*V/2^(64*n)=Q at*
 have bQ:Big Q:=wbig wq (by omega)
 have l03:H.lee (f 7) h h3:=(hl1.trans hl2).trans hl3.lee
 simp only[go_sem,G 0 (by omega) _ l03,G 1 (by omega) _ l03,G 2 (by omega) _ l03]
 refine Mul2_calls ((E 3 (by omega)).monoE ht l03) (ht2.mono hl3) (hq.nn bQ) (nb.monoE' ht l03) (by omega) (by omega) (by omega) fun p2 h4 m4 dp4 hw4 hl4 ht4 hsp4 hp2=> ?_
 have bp2:Big (Q*b):=ba.le hle
 have c4:costT t (wlen Q) (wlen b)≤8*(dvW n (blen b)*((blen b+63)/64)):=Nat.le_trans (costT_le (by omega) (by omega)) (Nat.mul_le_mul_left 8 (Nat.mul_le_mul wq (by omega)))
 have d4:lev2 (wlen Q) (wlen b)≤lev (n+1):=lev_of (by omega)
 have l04:=l03.trans hl4
 simp only[go_sem]
 refine lSub_calls (na.monoE' ht l04) (hp2.nn bp2) (fun h=>absurd h (by omega)) fun _ r h5 hw5 hl5 hr=> ?_
 have l05:H.lee (f 7) h h5:=l04.trans hl5.lee
 have nb5:=nb.monoE' ht l05
 have hb0':h.next≤h5.next:=l05.1
 have ht5:=ht4.mono hl5
 have hq5:=(hq.monoE (Nat.lt_of_lt_of_le hu (hl1.trans hl2).1) hl4).mono hl5
 have hspF:Sp m dp m4 dp4 nw (dvC n (blen b)) (dvD n (blen b)):=by
  refine((hsp1.trans hsp2).trans hsp4).le ?_ ?_
  ·unfold dvC;omega
  ·unfold dvD;omega
 clear hsp1 hsp2 hsp4 c2 c4 d2 d4
 simp only[go_sem]
 refine loop_cut (fun ρ h'=>h'.wf∧h5.le h'∧Nf h.next h' (ρ 6) (a/b)∧Nf h.next h' (ρ 7) (a%b)) ?_ ?_
 ·refine⟨fun s ρ h'=>h'.wf∧h5.le h'∧ρ 2=vb∧∃Q',Nf h.next h' (ρ 6) Q'∧Nf h.next h' (ρ 7) s∧a=Q'*b+s,a-Q*b,⟨hw5,H.le_refl _,by first|rfl|trivial|assumption,Q,hq5.base (hl1.trans hl2).1,hr.base l04.1,by omega⟩, ?_⟩
  rintro s ρ h6 ⟨hw6,hl6,q2,Q',hQ,hs,hinv⟩
  have hQa:Q'≤a:=by
   have:=Nat.le_mul_of_pos_right Q' hb0
   omega
  simp only[go_sem,q2]
  refine lCmp_calls (hs.nn (ba.le (by omega))) (nb5.mono hl6) ?_
  rcases Nat.lt_or_ge s b with hc|hc
  ·have hd:decide (cmpI s b≥0)=false:=by unfold cmpI;rw[if_pos hc];rfl
   have e1:a/b=Q':=by
    rw[hinv,Nat.mul_comm,Nat.mul_add_div hb0,Nat.div_eq_of_lt hc,Nat.add_zero]
   have e2:a%b=s:=by
    rw[hinv,Nat.mul_comm,Nat.mul_add_mod,Nat.mod_eq_of_lt hc]
   simp only[go_sem,q2,hd]
   exact⟨hw6,hl6,by rw[e1];exact hQ,by rw[e2];exact hs⟩
  ·have hd:decide (cmpI s b≥0)=true:=by
    unfold cmpI
    rw[if_neg (by omega)]
    split<;>rfl
   simp only[go_sem,q2,hd]
   refine lSub_calls (hs.nn (ba.le (by omega))) (nb5.mono hl6) (fun h=>absurd h (by omega)) fun _ s' h7 hw7 hl7 hs'=> ?_
   simp only[go_sem,q2]
   refine One_calls (x:=1) (by decide) fun o h8 hw8 hl8 ho=> ?_
   simp only[go_sem,q2]
   refine lAdd_calls ((hQ.nn (ba.le hQa)).mono (H.le_trans hl7 hl8)) (ho.nn (word_big (by decide))) fun q' h9 hw9 hl9 hq'=> ?_
   have hb6:=hl6.1
   have hb7:=hl7.1
   have hb8:=hl8.1
   simp only[go_sem,q2]
   refine⟨s-b,by omega,hw9,(H.le_trans hl6 (H.le_trans hl7 (H.le_trans hl8 hl9))),by first|rfl|trivial|assumption,Q'+1,hq'.base (by omega),(hs'.mono (H.le_trans hl8 hl9)).base (by omega), ?_⟩
   rw[Nat.add_mul,Nat.one_mul]
   omega
 ·rintro ρ h6 ⟨hw6,hl6,hQ,hR⟩
  simp only[go_sem]
  exact fun hw'=>hk _ _ h6 _ _ hw' (l05.trans hl6.lee) (ht5.mono hl6) hspF hQ hR
set_option maxRecDepth 100000 in
theorem DivMod2_calls (hT:TbOK t) (he:Eng 7 h e u) (ht:Tune h u m nw dp t) (na:Nn h va a) (nb:Nn h vb b) (wa:wlen a≤4000) (wb:wlen b≤4000) (hnw:nw≤600000000)
  (hk0:b=0→h.wf→K (.tup [.sl none 0 0 none, .sl none 0 0 none, .int .i64 2]) h)
  (hk:0<b→∀q r h' m' dp',h'.wf→H.lee u h h'→Tune h' u m' nw dp' t→Sp m dp m' dp' nw (dvC (wlen a) (blen b)) (dvD (wlen a) (blen b))→Nf h.next h' q (a/b)→Nf h.next h' r (a%b)→K (.tup [q,r, .int .i64 0]) h'):
  ACalls Tryz.prog 67 [.ptr (some (e,0)),va,vb] h K:=by
 have ba:Big a:=wbig wa (by omega)
 have bb:Big b:=wbig wb (by omega)
 refine in_div_Engine_DivMod (by simp) fun hw=> ?_
 unfold c_div_Engine_DivMod
 obtain⟨f,rfl,rfl,G,E⟩:=Eng.path ht he
 have l0:=H.lee_refl (f 7) h
 have htd:=tune_div ht
 have htr:=tune_recip ht
 have hT1:=hT.1
 have hwb:=wlen_blen b
 have hC1:0<b→longCost a b≤dvC (wlen a) (blen b):=fun h0=>by
  have hb1:wlen b≠0:=fun h=>by have:=wlen_eq_zero.1 h;omega
  have h1:longCost a b≤64*(wlen a*wlen a):=by
   unfold longCost
   split
   ·exact Nat.zero_le _
   ·have h2:(wlen a-wlen b+1)*(wlen b+1)≤(2*wlen a)*(2*wlen a):=Nat.mul_le_mul (by omega) (by omega)
    have h3:(2*wlen a)*(2*wlen a)=4*(wlen a*wlen a):=by rw[Nat.mul_mul_mul_comm]
    omega
  unfold dvC
  omega
 have hspL:0<b→Sp m dp (m+longCost a b) dp nw (dvC (wlen a) (blen b)) (dvD (wlen a) (blen b)):=fun h0=>by
  have:=hC1 h0
  exact⟨by omega,by omega,by omega,by omega⟩
 have long:0<b→∀K0:AV→H→Prop,(∀q r h',h'.wf→H.lee (f 7) h h'→Tune h' (f 7) (m+longCost a b) nw dp t→Nf h.next h' q (a/b)→Nf h.next h' r (a%b)→K0 (.tup [q,r, .int .i64 0]) h')→ACalls Tryz.prog 86 [.ptr (some (f 2,0)),va,vb] h K0:=fun h0 K0 hK=>Long_calls (E 2 (by omega)) ht na nb ba bb (fun h=>absurd h (by omega)) fun _ q r h' a1 a2 a3 a4 a5=>hK q r h' a1 a2 a3 a4 a5
 simp only[go_sem]
 refine LenN_calls na ?_
 simp only[go_sem]
 refine LenN_calls nb ?_
 rcases Nat.eq_zero_or_pos b with h0|h0
 ·have hz:wlen b=0:=by rw[h0];rfl
  simp only[go_sem,hz,eqT (show((0:Nat):Int)=0 from rfl)]
  exact hk0 h0
 have hM:wlen b≠0:=fun h=>by have:=wlen_eq_zero.1 h;omega
 have hwa0:=hwb
 rcases Nat.lt_or_ge (wlen a) (wlen b) with c1|c1
 ·simp only[go_sem,eqF (show((wlen b:Nat):Int)≠0 by omega),ltT c1,G 0 (by omega) _ l0,G 1 (by omega) _ l0]
  refine long h0 _ fun q r h1 hw1 hl1 ht1 hq hr=> ?_
  simp only[go_sem]
  exact fun hw'=>hk h0 q r h1 _ _ hw' hl1 ht1 (hspL h0) hq hr
 by_cases c2:((wlen b:Nat):Int)<t.div
 ·simp only[go_sem,eqF (show((wlen b:Nat):Int)≠0 by omega),ltF c1,G 0 (by omega) _ l0,G 1 (by omega) _ l0,G 2 (by omega) _ l0,G 3 (by omega) _ l0,G 4 (by omega) _ l0,G 5 (by omega) _ l0,G 6 (by omega) _ l0,htd,decide_eq_true c2]
  refine long h0 _ fun q r h1 hw1 hl1 ht1 hq hr=> ?_
  simp only[go_sem]
  exact fun hw'=>hk h0 q r h1 _ _ hw' hl1 ht1 (hspL h0) hq hr
 have e1:=subI (a:=wlen a) (b:=wlen b) c1 (by omega)
 have e2:=incI (i:=wlen a-wlen b) (by omega)
 by_cases c3:((wlen a-wlen b+1:Nat):Int)<t.div
 ·simp only[go_sem,eqF (show((wlen b:Nat):Int)≠0 by omega),ltF c1,G 0 (by omega) _ l0,G 1 (by omega) _ l0,G 2 (by omega) _ l0,G 3 (by omega) _ l0,G 4 (by omega) _ l0,G 5 (by omega) _ l0,G 6 (by omega) _ l0,htd,decide_eq_false c2,e1,e2,decide_eq_true c3]
  refine long h0 _ fun q r h1 hw1 hl1 ht1 hq hr=> ?_
  simp only[go_sem]
  exact fun hw'=>hk h0 q r h1 _ _ hw' hl1 ht1 (hspL h0) hq hr
 by_cases c4:t.recip≤((wlen b:Nat):Int)
 ·simp only[go_sem,eqF (show((wlen b:Nat):Int)≠0 by omega),ltF c1,G 0 (by omega) _ l0,G 1 (by omega) _ l0,G 2 (by omega) _ l0,G 3 (by omega) _ l0,G 4 (by omega) _ l0,G 5 (by omega) _ l0,G 6 (by omega) _ l0,htd,htr,decide_eq_false c2,e1,e2,decide_eq_false c3,show decide (((wlen b:Nat):Int)≥t.recip)=true from decide_eq_true c4,show decide (((wlen a:Nat):Int)≤16384)=true from decide_eq_true (by omega)]
  refine dnewton_calls he ht na nb wa wb c1 h0 hnw fun q r h1 m1 dp1 hw1 hl1 ht1 hsp hq hr=> ?_
  simp only[go_sem]
  exact fun hw'=>hk h0 q r h1 _ _ hw' hl1 ht1 hsp hq hr
 ·simp only[go_sem,eqF (show((wlen b:Nat):Int)≠0 by omega),ltF c1,G 0 (by omega) _ l0,G 1 (by omega) _ l0,G 2 (by omega) _ l0,G 3 (by omega) _ l0,G 4 (by omega) _ l0,G 5 (by omega) _ l0,G 6 (by omega) _ l0,htd,htr,decide_eq_false c2,e1,e2,decide_eq_false c3,show decide (((wlen b:Nat):Int)≥t.recip)=false from decide_eq_false c4]
  refine Halves_calls hT he ht na nb wa wb hnw (fun h=>absurd h (by omega)) fun _ q r h1 m1 dp1 hw1 hl1 ht1 hsp hq hr=> ?_
  simp only[go_sem]
  refine fun hw'=>hk h0 q r h1 _ _ hw' hl1 ht1 (hsp.le ?_ ?_) hq hr
  ·unfold dvC;omega
  ·unfold dvD;rw[←hwb];omega
end
end
section
open Go
def c_law16_RootBounds:AC:= .seq (.reg [o 2 (.box 23 (.t 0)),o 4 (.mv (.c (.bool false)))]) (.seq (.reg [mv 13 1,o 14 (.call 26 [.t 13,i64 60]),mv 1 14]) (.seq (.reg [o 15 (.ld (some 11) (.t 2)),o 16 (.call 27 [.t 15]),mv 5 16]) (.seq (.seq (.reg [mv 17 5,o 18 (.peq false (.t 17) (.c (.ptr none)))]) (.cond (.t 18) (.seq (.reg [o 4 (.mv (.c (.bool false)))]) .ret) .skip)) (.seq (.reg [mv 20 5,mv 21 1,o 22 (.call 28 [.t 20, .t 21]),mv 19 22,o 23 (.ext (.t 19) 0),o 24 (.ext (.t 19) 1),mv 6 23,mv 7 24]) (.seq (.reg [mv 25 6,o 26 (.call 30 [.t 25]),mv 27 6,o 28 (.call 30 [.t 27]),o 29 (.call 29 [.t 26, .t 28]),mv 8 29]) (.seq (.seq (.reg [mv 30 8,mv 31 7,o 32 (.call 30 [.t 31]),o 33 (.call 32 [.t 30, .t 32]),mv 34 1,o 35 (.call 30 [.t 34]),o 36 (.call 31 [.t 33, .t 35]),o 37 (.bin .neq (.t 36) (i64 0)),mv 38 37,og 39 38 false (.mv (.t 7)),og 40 38 false (.call 30 [.t 39]),og 41 38 false (.mv (.t 6)),og 42 38 false (.call 30 [.t 41]),og 43 38 false (.mv (.t 6)),og 44 38 false (.call 30 [.t 43]),og 45 38 false (.call 32 [.t 42, .t 44]),og 46 38 false (.call 31 [.t 40, .t 45]),og 47 38 false (.bin .gtr (.t 46) (i64 0)),o 48 (.pick (.t 38) (.c (.bool true)) (.t 47))]) (.cond (.t 48) (.seq (.reg [o 4 (.mv (.c (.bool false)))]) .ret) .skip)) (.seq (.reg [mv 50 5,mv 51 1,o 52 (.call 33 [.t 50, .t 51,i64 3]),mv 49 52,o 53 (.ext (.t 49) 0),o 54 (.ext (.t 49) 1),mv 9 53,mv 10 54]) (.seq (.reg [mv 55 9,o 56 (.call 30 [.t 55]),o 57 (.call 34 [.t 56,i64 3]),mv 11 57]) (.seq (.reg [mv 58 9,o 59 (.call 30 [.t 58]),o 60 (.call 35 [u64 1]),o 61 (.call 32 [.t 59, .t 60]),o 62 (.call 34 [.t 61,i64 3]),mv 12 62]) (.seq (.reg [mv 63 10,o 64 (.bin .eql (.t 63) (i64 0)),mv 65 64,og 66 65 true (.mv (.t 11)),og 67 65 true (.mv (.t 1)),og 68 65 true (.call 30 [.t 67]),og 69 65 true (.call 31 [.t 66, .t 68]),og 70 65 true (.bin .leq (.t 69) (i64 0)),o 71 (.pick (.t 65) (.t 70) (.c (.bool false))),mv 72 71,og 73 72 true (.mv (.t 12)),og 74 72 true (.mv (.t 1)),og 75 72 true (.call 30 [.t 74]),og 76 72 true (.call 31 [.t 73, .t 75]),og 77 72 true (.bin .gtr (.t 76) (i64 0)),o 78 (.pick (.t 72) (.t 77) (.c (.bool false))),mv 79 78,og 80 79 true (.call 36 []),o 81 (.pick (.t 79) (.t 80) (.c (.bool false))),mv 4 81]) .ret))))))))))
theorem in_law16_RootBounds:Ent 6 82 c_law16_RootBounds [.t 4]:=ent Tryz.func6 rfl rfl rfl (show compile _ 82 _=_ by kernel_rfl) (show compRes _ 82 _=_ by kernel_rfl)
def c_law16_from:AC:= .seq (.reg [o 2 (.mv (.c (.sl none 0 0 none)))]) (.seq (.reg [mv 3 0,o 4 (.call 53 [.t 3]),mv 2 4]) .ret)
theorem in_law16_from:Ent 30 5 c_law16_from [.t 2]:=ent Tryz.func30 rfl rfl rfl (show compile _ 5 _=_ by kernel_rfl) (show compRes _ 5 _=_ by kernel_rfl)
def c_law16_wakes:AC:= .seq (.reg [o 0 (.mv (.c (.bool false)))]) (.seq (.reg [o 4 (.bld [.int .i64 0, .int .i64 0, .int .i64 0, .int .i64 0, .int .i64 0, .int .i64 0, .int .i64 0, .int .i64 0, .int .i64 0, .int .i64 0, .int .i64 0] []),o 5 (.call 27 [.t 4]),mv 1 5]) (.seq (.seq (.reg [mv 6 1,o 7 (.peq false (.t 6) (.c (.ptr none)))]) (.cond (.t 7) (.seq (.reg [o 0 (.mv (.c (.bool false)))]) .ret) .skip)) (.seq (.reg [mv 9 1,o 10 (.bsl 73 1 1 [.int .u64 0] [(0,u64 10)]),o 11 (.call 28 [.t 9, .t 10]),mv 8 11,o 12 (.ext (.t 8) 0),o 13 (.ext (.t 8) 1),mv 2 12,mv 3 13]) (.seq (.reg [mv 14 2,o 15 (.bsl 73 1 1 [.int .u64 0] [(0,u64 3)]),o 16 (.call 50 [.t 14, .t 15]),mv 17 16,og 18 17 true (.mv (.t 3)),og 19 17 true (.bsl 73 1 1 [.int .u64 0] [(0,u64 1)]),og 20 17 true (.call 50 [.t 18, .t 19]),o 21 (.pick (.t 17) (.t 20) (.c (.bool false))),mv 0 21]) .ret))))
theorem in_law16_wakes:Ent 36 22 c_law16_wakes [.t 0]:=ent Tryz.func36 rfl rfl rfl (show compile _ 22 _=_ by kernel_rfl) (show compRes _ 22 _=_ by kernel_rfl)
end
end Ab
end Go.Proofs.YtkbglkjpdndkiaaGreatDoor
