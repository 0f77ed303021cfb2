/- Joined texts: U3 U4 U5 U6 U7 U8 U9 I1. No condition. -/
import Derived.Test.YtkbglkjpdndkiaaGreatDoorZ12
namespace Go.Proofs.YtkbglkjpdndkiaaGreatDoor
namespace Ab
open Go Go.RowKit
set_option linter.unusedSimpArgs false
set_option linter.unusedVariables false
attribute [local go_sem ↓] x_mv x_pick x_bin x_beq x_peq x_seq x_cat x_aeq x_idxS x_idxV x_un x_cvI x_bts x_idx x_idxA x_fld x_ld x_st x_nn x_prt x_slc x_mk x_bsl x_bld x_box x_alloc x_len x_capo x_mnx x_app x_cpy x_mkf x_ext x_call x_callV x_bad s_none s_some s_nil s_cons s_chks w_skip w_reg tP_fin tP_no tP_alt w_seq w_cond w_block w_exit w_ret t_normal t_exit t_ret b_normal b_ret b_exit n_normal n_exit n_ret p_normal p_ret f_nil f_t f_c k_ops k_chk k_fin
attribute [local go_sem] e_t e_c e_f u_some u_none u_at env_at k_v k_pick k_add k_sub k_mul k_quo k_rem k_and k_or k_xor k_shl k_shr k_eql k_neq k_lss k_leq k_gtr k_geq k_beq k_peqn k_peqs k_neg k_not k_com k_cvI k_idxS k_idxV1 k_idxVn k_idx k_idxA k_idxG k_ldG k_gld k_seq k_cat k_aeq k_eqs k_fld k_ld1 k_ldn k_get k_gets k_sti k_stb k_stp k_sts k_stf k_sta k_put k_nn k_prt1 k_prtn k_slc_a k_slc_b k_slc_c k_mk k_agg k_bsl k_box k_len k_lenS k_cap k_max k_min k_ext k_callV k_true k_false k_gtt k_gtf k_gft k_gsk k_gff k_lit1i k_lit2i k_lit3i k_c0 k_c1 k_ck List.getElem?_cons_zero List.getElem?_cons_succ List.getElem?_nil Option.getD_some Option.getD_none tupOf List.map_cons List.map_nil Option.map_some Option.map_none List.nil_append List.cons_append List.append_nil Nat.mul_one Int.toNat_natCast Nat.zero_add
attribute [local go_sem] e_t e_c e_f u_some u_none u_at env_at k_v k_pick k_add k_sub k_mul k_quo k_rem k_and k_or k_xor k_shl k_shr k_eql k_neq k_lss k_leq k_gtr k_geq k_beq k_peqn k_peqs k_neg k_not k_com k_cvI k_idxS k_idxV1 k_idxVn k_idx k_idxA k_idxG k_ldG k_gld k_seq k_cat k_aeq k_eqs k_fld k_ld1 k_ldn k_get k_gets k_sti k_stb k_stp k_sts k_stf k_sta k_put k_nn k_prt1 k_prtn k_slc_a k_slc_b k_slc_c k_mk k_agg k_bsl k_box k_len k_lenS k_cap k_max k_min k_ext k_callV k_true k_false k_gtt k_gtf k_gft k_gsk k_gff k_lit1i k_lit2i k_lit3i k_c0 k_c1 k_ck List.getElem?_cons_zero List.getElem?_cons_succ List.getElem?_nil Option.getD_some Option.getD_none tupOf List.map_cons List.map_nil Option.map_some Option.map_none List.nil_append List.cons_append List.append_nil Nat.mul_one Int.toNat_natCast Nat.zero_add
--what a store into a cell of two leaves
attribute [local go_sem_proc] Nat.reduceEqDiff Nat.reduceAdd Int.reduceToNat
attribute [local go_sem_proc ↓] reduceIte
attribute [local go_sem] Bool.false_eq_true
section
def rcC:Nat→Nat→Nat→Nat
 |0,_,_=>0
 |f+1,b,n=>(n/64+2)*(b/64+2)+if n+1-b≤64 then 0 else
   rcC f (b-(b-((n+1-b)/2+4)-4)) (b-(b-((n+1-b)/2+4)-4)-1+((n+1-b)/2+4))+(8*((b/64+1)*((n+2-b)/64+1))+8*(((n+2-b)/64+1)*(n/64+1)))+8*((b/64+1)*((n+2-b)/64+1))
def rcD:Nat→Nat→Nat→Nat
 |0,_,_=>0
 |f+1,b,n=>if n+1-b≤64 then 0 else
   max (max (rcD f (b-(b-((n+1-b)/2+4)-4)) (b-(b-((n+1-b)/2+4)-4)-1+((n+1-b)/2+4))) (lev (max (b/64+1) (max ((n+2-b)/64+1) (n/64+1))))+1) (lev (max (b/64+1) ((n+2-b)/64+1)))
theorem blen_shr {d c:Nat} (h:c<blen d):blen (d/2^c)=blen d-c:=by
 have hd:0<d:=by
  rcases Nat.eq_zero_or_pos d with h0|h0
  ·subst h0;simp[blen_zero] at h
  ·exact h0
 have h1:=blen_ge hd
 have h2:=blen_lt d
 have e:2^blen d=2^(blen d-c)*2^c:=by rw[←Nat.pow_add];congr 1;omega
 have e2:2^(blen d-1)=2^(blen d-c-1)*2^c:=by rw[←Nat.pow_add];congr 1;omega
 refine BL.uniq (blen_spec _) ⟨?_, .inr ?_⟩
 ·rw[Nat.div_lt_iff_lt_mul (Nat.pow_pos (by omega)),←e]
  exact h2
 ·rw[Nat.le_div_iff_mul_le (Nat.pow_pos (by omega)),←e2]
  exact h1.2
theorem pow_div_le {m s b:Nat} (hs:0<s) (h:2^b≤s) (hb:b≤m):2^m/s≤2^(m-b):=by
 refine Nat.div_le_of_le_mul ?_
 calc 2^m=2^b*2^(m-b):=by rw[←Nat.pow_add];congr 1;omega
  _≤s*2^(m-b):=Nat.mul_le_mul_right _ h
theorem shift_le {x h c n k:Nat} (hx:x≤2^h) (hk:h+n=c+k):x*2^(n-c)/2^(c-n)≤2^k:=by
 rcases Nat.le_total c n with h1|h1
 ·rw[show c-n=0 by omega,Nat.pow_zero,Nat.div_one]
  refine Nat.le_trans (Nat.mul_le_mul_right _ hx) ?_
  rw[←Nat.pow_add]
  exact le_two (by omega)
 ·rw[show n-c=0 by omega,Nat.pow_zero,Nat.mul_one]
  refine Nat.div_le_of_le_mul ?_
  rw[←Nat.pow_add]
  exact Nat.le_trans hx (le_two (by omega))
theorem Nt.len {h:H} {v:AV} {x:Nat} (hv:Nt h v x):∃id off c,v= .sl id off (wlen x) c:=by
 obtain⟨xs,h1,h2,h3,h4⟩:=hv
 obtain⟨id,off,c,rfl⟩:=h1.form
 exact⟨id,off,c,by rw[top_len h2 h3,h4]⟩
theorem rcC_big {f b n:Nat} (h:64<n+1-b):rcC (f+1) b n=(n/64+2)*(b/64+2)+(rcC f (b-(b-((n+1-b)/2+4)-4)) (b-(b-((n+1-b)/2+4)-4)-1+((n+1-b)/2+4))+(8*((b/64+1)*((n+2-b)/64+1))+8*(((n+2-b)/64+1)*(n/64+1)))+8*((b/64+1)*((n+2-b)/64+1))):=by
 simp only[rcC]
 rw[if_neg (by omega)]
theorem rcD_big {f b n:Nat} (h:64<n+1-b):rcD (f+1) b n=max (max (rcD f (b-(b-((n+1-b)/2+4)-4)) (b-(b-((n+1-b)/2+4)-4)-1+((n+1-b)/2+4))) (lev (max (b/64+1) (max ((n+2-b)/64+1) (n/64+1))))+1) (lev (max (b/64+1) ((n+2-b)/64+1))):=by
 simp only[rcD]
 rw[if_neg (by omega)]
theorem rn_sum (z1 p q r:Nat):z1+(p+q)+(p+r)≤r+(z1+(p+q)+p):=by omega
theorem rn_max {z1 l1 l2:Nat}:max (max z1 l1+1) l2≤max (max z1 l1+1) l2:=Nat.le_refl _
theorem rn_nums {n b:Nat} (h1:0<b) (h2:b≤n+1) (hn:n≤500000) (cD:64<n+1-b):∃g c s,g=(n+1-b)/2+4∧c=b-g-4∧s=b-c∧c<b∧s≤s-1+g+1∧s-1+g≤500000∧s-1+g+1-s<n+1-b∧g+n=s-1+g+c+(n+1-b)∧
  IntKind.i64.wrap (((n+1-b)/2:Nat):Int)=(((n+1-b)/2:Nat):Int)∧
  IntKind.i64.wrap ((((n+1-b)/2:Nat):Int)+4)=(g:Int)∧
  IntKind.i64.wrap ((b:Int)-(g:Int))=(b:Int)-(g:Int)∧
  IntKind.i64.wrap ((b:Int)-(g:Int)-4)=(b:Int)-(g:Int)-4∧
  max (0:Int) ((b:Int)-(g:Int)-4)=(c:Int)∧
  IntKind.i64.wrap ((s:Int)-1)=((s-1:Nat):Int)∧
  IntKind.i64.wrap (((s-1:Nat):Int)+(g:Int))=((s-1+g:Nat):Int)∧
  IntKind.i64.wrap ((n:Int)-((s-1+g:Nat):Int))=(n:Int)-((s-1+g:Nat):Int)∧
  IntKind.i64.wrap ((n:Int)-((s-1+g:Nat):Int)-(c:Int))=(n:Int)-((s-1+g:Nat):Int)-(c:Int)∧
  max (0:Int) ((n:Int)-((s-1+g:Nat):Int)-(c:Int))=((n-(s-1+g+c):Nat):Int)∧
  IntKind.i64.wrap (((s-1+g:Nat):Int)+(c:Int))=((s-1+g+c:Nat):Int)∧
  IntKind.i64.wrap (((s-1+g+c:Nat):Int)-(n:Int))=((s-1+g+c:Nat):Int)-(n:Int)∧
  max (0:Int) (((s-1+g+c:Nat):Int)-(n:Int))=((s-1+g+c-n:Nat):Int):=by
 obtain⟨g,hg⟩:∃g,g=(n+1-b)/2+4:=⟨_,rfl⟩
 obtain⟨c,hc⟩:∃c,c=b-g-4:=⟨_,rfl⟩
 obtain⟨s,hs⟩:∃s,s=b-c:=⟨_,rfl⟩
 refine⟨g,c,s,hg,hc,hs,by omega,by omega,by omega,by omega,by omega,wNI (by omega),(wI (by omega) (by omega)).trans (by omega),wI (by omega) (by omega),wI (by omega) (by omega),by omega,(wI (by omega) (by omega)).trans (by omega),addI (by omega),wI (by omega) (by omega),wI (by omega) (by omega),by omega,addI (by omega),wI (by omega) (by omega),by omega⟩
theorem Nn.monoE' {u m nw dp:Nat} {t:Tb} {h h':H} {v:AV} {x:Nat} (hv:Nn h v x) (ht:Tune h u m nw dp t) (hl:H.lee u h h'):Nn h' v x:=Nn.monoE ht hv hl
section
variable {u:Nat} {t:Tb}
set_option maxHeartbeats 2000000 in
theorem rnewton_calls:∀(f:Nat) {e m nw dp n d:Nat} {vd:AV} {h:H} {K:AV→H→Prop},Eng 6 h e u→Tune h u m nw dp t→Nt h vd d→0<d→blen d≤n+1→n≤500000→n+1-blen d<f→nw+f≤800000000→
  (∀r h' m' dp',h'.wf→H.lee u h h'→Tune h' u m' nw dp' t→Sp m dp m' dp' nw (rcC f (blen d) n) (rcD f (blen d) n)→Nf h.next h' r (2^n/d)→K r h')→
  ACalls Tryz.prog 120 [.ptr (some (e,0)),vd, .int .i64 (n:Int)] h K:=by
 intro f
 induction f with
 |zero=>intro e m nw dp n d vd h K _ _ _ _ _ _ hf;omega
 |succ f ih=>
  intro e m nw dp n d vd h K he ht nd hd hdn hn hf hnw hk
  have hb0:=blen_ge hd
  have hbl:=blen_lt d
  have bd:Big d:=bits_big hbl (by omega)
  have wd:wlen d≤blen d/64+1:=by rw[wlen_blen];omega
  obtain⟨idd,offd,cd,rfl⟩:=nd.len
  refine in_recip_Engine_newton (by simp) fun hw=> ?_
  unfold c_recip_Engine_newton
  obtain⟨F,rfl,rfl,G,E⟩:=Eng.path ht he
  have hu:=H.row_lt hw ht
  have l0:=H.lee_refl (F 6) h
  simp only[go_sem]
  refine nBits_calls (nd.nn bd) ?_
  have a1:IntKind.i64.wrap ((n:Int)-(blen d:Int))=(n:Int)-(blen d:Int):=wI (by omega) (by omega)
  have a2:IntKind.i64.wrap ((n:Int)-(blen d:Int)+1)=((n+1-blen d:Nat):Int):=(wI (by omega) (by omega)).trans (by omega)
  have q2:(((n+1-blen d:Nat):Int)).tdiv 2=(((n+1-blen d)/2:Nat):Int):=tdivN (b:=2)
  simp only[go_sem,a1,a2,G 0 (by omega) _ l0,G 1 (by omega) _ l0,G 2 (by omega) _ l0,G 3 (by omega) _ l0,G 4 (by omega) _ l0,G 5 (by omega) _ l0,tune_recip ht]
  have base:Sp m dp (m+longCost (2^n) d) dp nw (rcC (f+1) (blen d) n) (rcD (f+1) (blen d) n):=by
   have hlc:longCost (2^n) d≤(n/64+2)*(blen d/64+2):=by
    have h8:=wlen_two (Nat.le_refl (2^n))
    unfold longCost
    split
    ·omega
    ·exact Nat.mul_le_mul (by omega) (by omega)
   have s2:Sp m dp (m+longCost (2^n) d) dp nw (longCost (2^n) d) 0:=⟨by omega,by omega,by omega,by omega⟩
   refine s2.le ?_ (Nat.zero_le _)
   simp only[rcC]
   omega
  by_cases cR:((wlen d:Nat):Int)<t.recip
  ·simp only[go_sem,decide_eq_true cR,G 0 (by omega) _ l0]
   refine power_calls (by omega) fun top h1 hw1 hl1 htop=> ?_
   simp only[go_sem,G 0 (by omega) _ hl1.lee]
   refine⟨by simp, ?_⟩
   have btop:Big (2^n):=bits_big (Nat.pow_lt_pow_right (by omega) (Nat.lt_succ_self n)) (by omega)
   refine Long_calls ((E 1 (by omega)).mono hl1) (ht.mono hl1) (htop.nn btop) ((nd.nn bd).mono hl1) btop bd (fun h=>absurd h (by omega)) fun _ q r h2 hw2 hl2 ht2 hq _=> ?_
   simp only[go_sem]
   exact fun hw'=>hk _ h2 _ _ hw' (hl1.lee.trans hl2) ht2 base (hq.base hl1.1)
  ·rcases Nat.lt_or_ge 64 (n+1-blen d) with cD|cD
   ·simp only[go_sem,decide_eq_false cR,show decide (((n+1-blen d:Nat):Int)≤64)=false from decide_eq_false (by omega),G 0 (by omega) _ l0,G 1 (by omega) _ l0,G 2 (by omega) _ l0,G 3 (by omega) _ l0,G 4 (by omega) _ l0,G 5 (by omega) _ l0]
    clear base
    have hnums:=rn_nums hb0.1 hdn hn cD
    obtain⟨g,c,s,hg,hc,hs,hcb,N1,N2,N3,N4,N5⟩:=hnums
    have a34:True→_:=fun _=>N5
    clear N5
    clear a1 a2
    have hsd:=blen_shr hcb
    rw[←hs] at hsd
    have hs0:0<d/2^c:=by
     rcases Nat.eq_zero_or_pos (d/2^c) with h0|h0
     ·rw[h0,blen_zero] at hsd
      omega
     ·exact h0
    refine Enter_calls ht (by omega) fun _ h1 hw1 hl1 hn1 ht1=> ?_
    have nd1:=nd.monoE ht hl1
    obtain⟨a3,a4,-⟩:=a34 trivial
    simp only[go_sem,q2,a3,a4]
    clear a3 a4 q2
    refine⟨by decide, ?_⟩
    refine nBits_calls (nd1.nn bd) ?_
    obtain⟨-,-,b1,b2,b3,-⟩:=a34 trivial
    simp only[go_sem,b1,b2,b3]
    clear b1 b2 b3
    refine lShr_calls (nd1.nn bd) (by omega) fun vs h2 hw2 hl2 hvs=> ?_
    have bs:Big (d/2^c):=bd.le (Nat.div_le_self _ _)
    simp only[go_sem]
    refine nBits_calls (hvs.nn bs) ?_
    rw[hsd]
    obtain⟨-,-,-,-,-,b4,b5,-⟩:=a34 trivial
    simp only[go_sem,b4,b5]
    clear b4 b5
    have hih:=fun K=>ih (K:=K) (n:=s-1+g) (nw:=nw+1) (d:=d/2^c) ((he.monoE ht hl1).mono hl2) (ht1.mono hl2) hvs.nt hs0 (by rw[hsd];exact N1) N2 (by rw[hsd];omega) (by omega) (m:=m) (dp:=max dp (nw+1)) (e:=F 0)
    rw[hsd] at hih
    refine hih _ fun x h3 m3 dp3 hw3 hl3 ht3 hsp3 hx=> ?_
    have l02:H.lee (F 6) h h2:=hl1.trans hl2.lee
    have l03:=l02.trans hl3
    have nd3:=(nd1.mono hl2).monoE (ht1.mono hl2) hl3
    have hx0:2^(s-1+g)/(d/2^c)≤2^g:=by
     have:=pow_div_le (m:=s-1+g) (b:=s-1) hs0 (by rw[←hsd];exact(blen_ge hs0).2) (by omega)
     rwa[Nat.add_sub_cancel_left] at this
    generalize 2^(s-1+g)/(d/2^c)=X0 at*
    have bX0:Big X0:=bits_big (Nat.lt_of_le_of_lt hx0 (Nat.pow_lt_pow_right (by omega) (Nat.lt_succ_self g))) (by omega)
    obtain⟨-,-,-,-,-,-,-,b6,b7,b8,-⟩:=a34 trivial
    simp only[go_sem,b6,b7,b8]
    clear b6 b7 b8
    refine lShl_calls (hx.nn bX0) (by omega) fun x1 h4 hw4 hl4 hx1=> ?_
    have bX1:Big (X0*2^(n-(s-1+g+c))):=by
     refine bits_big (b:=g+(n-(s-1+g+c))+1) (Nat.lt_of_le_of_lt ?_ (Nat.pow_lt_pow_right (by omega) (Nat.lt_succ_self _))) (by omega)
     rw[Nat.pow_add]
     exact Nat.mul_le_mul_right _ hx0
    obtain⟨-,-,-,-,-,-,-,-,-,-,b9,b10,b11⟩:=a34 trivial
    simp only[go_sem,b9,b10,b11]
    clear b9 b10 b11 a34
    refine lShr_calls (hx1.nn bX1) (by omega) fun x2 h5 hw5 hl5 hx2=> ?_
    have hX2:=shift_le (n:=n) (c:=s-1+g+c) (k:=n+1-blen d) hx0 N4
    generalize X0*2^(n-(s-1+g+c))/2^(s-1+g+c-n)=X2 at*
    have bX2:Big X2:=bits_big (Nat.lt_of_le_of_lt hX2 (Nat.pow_lt_pow_right (by omega) (Nat.lt_succ_self _))) (by omega)
    have wX2:wlen X2≤(n+2-blen d)/64+1:=by
     have:=wlen_two (Nat.le_trans hX2 (le_two (show n+1-blen d≤n+2-blen d by omega)))
     exact this
    have hp:d*X2≤2^(n+1):=by
     refine Nat.le_trans (Nat.mul_le_mul (Nat.le_of_lt hbl) hX2) ?_
     rw[←Nat.pow_add]
     exact le_two (by omega)
    have l35:h3.le h5:=H.le_trans hl4 hl5
    have l05:H.lee (F 6) h h5:=l03.trans l35.lee
    simp only[go_sem]
    refine step_calls (dw:=blen d/64+1) (xw:=(n+2-blen d)/64+1) (rw:=n/64+1) (he.monoE ht l05) (ht3.mono l35) ((nd3.nn bd).mono l35) (hx2.nn bX2) (by omega) wd wX2 (Nat.le_refl _) (by omega) (by omega) (by omega) hp (by omega) fun y h6 m6 dp6 Y hw6 hl6 ht6 hsp6 hY hy=> ?_
    have l06:=l05.trans hl6
    simp only[go_sem,G 0 (by omega) _ l06,G 1 (by omega) _ l06,G 2 (by omega) _ l06,G 3 (by omega) _ l06,G 4 (by omega) _ l06,G 5 (by omega) _ l06]
    refine Leave_calls ht6 (by omega) fun _ h7 hw7 hl7 hn7 ht7=> ?_
    have l07:=l06.trans hl7
    have wY:wlen Y≤(n+2-blen d)/64+1:=by
     refine wlen_two (Nat.le_trans hY ?_)
     have e:2^(n+2-blen d)=2*2^(n+1-blen d):=by rw[show n+2-blen d=n+1-blen d+1 by omega,Nat.pow_succ,Nat.mul_comm]
     omega
    have hnx:=H.row_lt hw ht
    have hb7:h.next≤h7.next:=l07.1
    simp only[go_sem]
    refine right_calls (b:=h.next) (dw:=blen d/64+1) (xw:=(n+2-blen d)/64+1) (rw:=n/64+1) (he.monoE ht l07) ht7 ((nd.nn bd).monoE' ht l07) ((hy.base l05.1).monoE hnx hl7) hb7 hnx hd (by omega) wd wY (Nat.le_refl _) (by omega) (by omega) (by omega) (by omega) fun r h8 m8 dp8 hw8 hl8 ht8 hsp8 hr=> ?_
    simp only[go_sem]
    refine fun hw'=>hk _ h8 _ _ hw' (l07.trans hl8) ht8 ?_ hr
    refine(((hsp3.trans hsp6).deep).trans hsp8).le ?_ ?_
    ·rw[rcC_big cD,←hg,←hc,←hs]
     generalize rcC f s (s-1+g)=z1
     exact rn_sum _ _ _ _
    ·rw[rcD_big cD,←hg,←hc,←hs]
     generalize rcD f s (s-1+g)=z1
     exact rn_max
   ·simp only[go_sem,decide_eq_false cR,show decide (((n+1-blen d:Nat):Int)≤64)=true from decide_eq_true (by omega),G 0 (by omega) _ l0]
    refine power_calls (by omega) fun top h1 hw1 hl1 htop=> ?_
    simp only[go_sem,G 0 (by omega) _ hl1.lee]
    refine⟨by simp, ?_⟩
    have btop:Big (2^n):=bits_big (Nat.pow_lt_pow_right (by omega) (Nat.lt_succ_self n)) (by omega)
    refine Long_calls ((E 1 (by omega)).mono hl1) (ht.mono hl1) (htop.nn btop) ((nd.nn bd).mono hl1) btop bd (fun h=>absurd h (by omega)) fun _ q r h2 hw2 hl2 ht2 hq _=> ?_
    simp only[go_sem]
    exact fun hw'=>hk _ h2 _ _ hw' (hl1.lee.trans hl2) ht2 base (hq.base hl1.1)
end
end
section
theorem one_held {v:AV} (hv:v.one=true):v.held=true∧v.cells=[v]:=by
 cases v<;>first|exact⟨rfl,rfl⟩|simp[AV.one] at hv
section
variable {va vb:AV} {x y k:Nat} {h:H} {K:AV→H→Prop}
theorem Join2_calls {T:TypeId} (hw:h.wf) (na:Nn h va x) (nb:Nn h vb y) (bx:Big x) (by_:Big y) (hk16:k≤16384)
  (hk:∀r h',h'.wf→h.le h'→Nf h.next h' r (x+18446744073709551616^k*y)→K r h'):ACalls Tryz.prog 108 [.int .i64 (k:Int), .sl (some h.next) 0 2 (some 2)] (h.new ⟨some T,1,[va,vb]⟩) K:=by
 have hl:=H.le_new hw (H.le_refl h) ⟨some T,1,[va,vb]⟩
 refine Join_calls (xs:=[x,y]) hk16 (nnl_lit rfl rfl ?_) (fun z hz=> ?_) (by simp) fun r h' hw' hl' hr=> ?_
 ·intro j a z q1 q2
  match j with
  |0=>simp only[List.getElem?_cons_zero,Option.some.injEq] at q1 q2;subst q1;subst q2;exact na.mono hl
  |1=>simp only[List.getElem?_cons_succ,List.getElem?_cons_zero,Option.some.injEq] at q1 q2;subst q1;subst q2;exact nb.mono hl
  |j+2=>simp at q1
 ·simp at hz
  rcases hz with rfl|rfl<;>assumption
 ·simp only[val,Nat.mul_zero,Nat.add_zero] at hr
  exact hk r h' hw' (H.le_trans hl hl') (hr.base hl.1)
theorem lwithin_calls {n m:Nat} (hk:K (.int .i64 (min n m:Nat)) h):ACalls Tryz.prog 85 [.int .i64 (n:Int), .int .i64 (m:Int)] h K:=by
 refine in_limb_within (by simp) fun hw=> ?_
 unfold c_limb_within
 have e:max (0:Int) ((min n m:Nat):Int)=((min n m:Nat):Int):=by omega
 simp only[go_sem,minN,e]
 exact fun _=>hk
theorem Split_calls (nv:Nn h va x) (hx:wlen x≤400000) (hk16:k≤16384) (hk:∀r s h',h'.wf→h.le h'→Nf h.next h' r (x%18446744073709551616^k)→Nf h.next h' s (x/18446744073709551616^k)→K (.tup [r,s]) h'):ACalls Tryz.prog 122 [va, .int .i64 (k:Int)] h K:=by
 refine in_limb_Split (by simp) fun hw=> ?_
 unfold c_limb_Split
 simp only[go_sem]
 refine lwithin_calls (m:=16384) ?_
 rw[Nat.min_eq_left hk16]
 simp only[go_sem]
 refine trimT_calls nv fun r xs hr hxd hxt hxv hxl hxl2=> ?_
 obtain⟨id,off,c,rfl⟩:=hr.form
 have hb:=wbig hx (by omega)
 rcases Nat.lt_or_ge k xs.length with h1|h1
 ·simp only[go_sem,show decide ((k:Int)≥(xs.length:Int))=false from decide_eq_false (by omega)]
  refine⟨by omega, .inl (by omega),hr.row, ?_⟩
  have hlo:=hr.take (c':=c) (b:=k) (by omega)
  have hhi:=hr.cut (c':=c.map (· -k)) (a:=k) (b:=xs.length) (by omega) (by omega)
  rw[List.take_length] at hhi
  have hdl:Dig (xs.drop k):=fun z hz=>hxd z (List.mem_of_mem_drop hz)
  have hcutv:=val_cut 18446744073709551616 xs k (by omega)
  have hlt:=val_lt_take 18446744073709551616 (by omega) xs hxd k
  have e1:x%18446744073709551616^k=val 18446744073709551616 (xs.take k):=by
   rw[←hxv,hcutv,Nat.add_mul_mod_self_left,Nat.mod_eq_of_lt hlt]
  have e2:x/18446744073709551616^k=val 18446744073709551616 (xs.drop k):=by
   rw[←hxv,hcutv,Nat.add_mul_div_left _ _ (Nat.pow_pos (by omega)),Nat.div_eq_of_lt hlt,Nat.zero_add]
  rw[e1,e2] at hk
  refine⟨by omega,by omega,hr.row, ?_⟩
  refine Norm_calls ⟨xs.take k,hlo,hxd.take k,by simp;omega,rfl⟩ fun lo h2 hw2 hl2 hlo2=> ?_
  simp only[go_sem,Int.toNat_natCast,Nat.mul_one]
  refine⟨⟨⟨by omega,by omega,(hr.mono hl2).row,trivial⟩,trivial⟩, ?_⟩
  have hhl:(xs.drop k).length=xs.length-k:=by simp
  refine app_num (a:=h2) (xs:=[]) hw2 hw2 (H.le_refl _) (IsF.nil _ _ _ _ _) (hhi.mono hl2) (by simp;omega) fun v3 h3 hw3 hl3 hs3=> ?_
  simp only[go_sem]
  refine fun hw'=>hk lo v3 h3 hw' (H.le_trans hl2 hl3) (hlo2.mono hl3) ⟨_,IsF.base hs3 hl2.1,hdl,fun z hz=> ?_,rfl⟩
  rw[List.nil_append] at hz
  refine hxt z ?_
  rw[List.getLast?_drop,if_neg (by omega)] at hz
  exact hz
 ·simp only[go_sem,show decide ((k:Int)≥(xs.length:Int))=true from decide_eq_true (by omega)]
  refine app_num (a:=h) (xs:=[]) hw hw (H.le_refl _) (IsF.nil _ _ _ _ _) hr (by simp;omega) fun v3 h3 hw3 hl3 hs3=> ?_
  have hlt:x<18446744073709551616^k:=by
   rw[←hxv]
   exact Nat.lt_of_lt_of_le (val_lt 18446744073709551616 (by omega) xs hxd) (Nat.pow_le_pow_right (by omega) h1)
  rw[Nat.mod_eq_of_lt hlt,Nat.div_eq_of_lt hlt] at hk
  simp only[go_sem]
  exact fun hw'=>hk v3 _ h3 hw' hl3 ⟨xs,hs3,hxd,hxt,hxv⟩ (Nf.nil _ _ _)
end
section
variable {e u m nw dp n d:Nat} {t:Tb} {vd:AV} {h:H} {K:AV→H→Prop}
theorem Recip_calls (he:Eng 6 h e u) (ht:Tune h u m nw dp t) (nd:Nn h vd d) (hd:0<d) (hdw:wlen d≤8000) (hn:n≤500000) (hnw:nw≤700000000)
  (hk:∀r h' m' dp',h'.wf→H.lee u h h'→Tune h' u m' nw dp' t→Sp m dp m' dp' nw (rcC (n+2) (blen d) n) (rcD (n+2) (blen d) n)→Nf h.next h' r (2^n/d)→K (.tup [r, .int .i64 0]) h'):ACalls Tryz.prog 106 [.ptr (some (e,0)),vd, .int .i64 (n:Int)] h K:=by
 refine in_recip_Engine_Recip (by simp) fun hw=> ?_
 unfold c_recip_Engine_Recip
 simp only[go_sem]
 refine Zero_calls nd ?_
 simp only[go_sem,decide_eq_false (show¬d=0 by omega),show decide ((n:Int)<0)=false from decide_eq_false (by omega),show decide ((n:Int)>1048576)=false from decide_eq_false (by omega)]
 refine nBits_calls nd ?_
 have hb0:=blen_ge hd
 have hwb:=wlen_blen d
 have a1:IntKind.i64.wrap ((blen d:Int)-1)=((blen d-1:Nat):Int):=(wI (by omega) (by omega)).trans (by omega)
 rcases Nat.lt_or_ge n (blen d-1) with h1|h1
 ·have e0:2^n/d=0:=Nat.div_eq_of_lt (Nat.lt_of_lt_of_le (Nat.pow_lt_pow_right (by omega) h1) hb0.2)
  rw[e0] at hk
  simp only[go_sem,a1,ltT h1]
  exact fun hw'=>hk _ h m dp hw' (H.lee_refl _ _) ht ((Sp.refl m dp nw 0 0).le (Nat.zero_le _) (Nat.zero_le _)) (Nf.nil _ _ _)
 ·simp only[go_sem,a1,ltF h1]
  refine Norm_calls nd fun v h2 hw2 hl2 hv=> ?_
  simp only[go_sem]
  refine rnewton_calls (n+2) (he.mono hl2) (ht.mono hl2) hv.nt hd (by omega) hn (by omega) (by omega) fun r h3 m3 dp3 hw3 hl3 ht3 hsp hr=> ?_
  simp only[go_sem]
  exact fun hw'=>hk r h3 m3 dp3 hw' (hl2.lee.trans hl3) ht3 hsp (hr.base hl2.1)
theorem rNew_calls {t:Tb} {h:H} {K:AV→H→Prop} (hk:∀e u h',h'.wf→h.le h'→h.next≤u→u<e→Eng 6 h' e u→Tune h' u 0 0 0 (clampT t)→K (.ptr (some (e,0))) h'):ACalls Tryz.prog 79 [t.av] h K:=by
 refine in_recip_New (by simp) fun hw=> ?_
 unfold c_recip_New
 have hl1:=H.le_new hw (H.le_refl h) ⟨some 23,11,t.cells⟩
 have hn1:h.next<(h.new ⟨some 23,11,t.cells⟩).next:=Nat.lt_succ_self _
 simp only[go_sem,av_held,av_cells,cells_len,true_and,gsT (H.rows_new h _)]
 refine dNew_calls fun e u h1 hw1 hl2 hn2 _ he ht=> ?_
 simp only[go_sem,bldp]
 simp only[AV.held,AV.cells,true_and,go_sem]
 have hl3:=H.le_new hw1 (H.le_refl h1) ⟨some 121,1,[AV.ptr (some (e,0))]⟩
 exact fun hw'=>hk _ u _ hw' (H.le_trans hl1 (H.le_trans hl2 hl3)) (by omega) (H.row_lt hw1 ht) ⟨_,e,H.rows_new _ _,rfl,he.mono hl3⟩ (ht.mono hl3)
theorem diNew_calls {t:Tb} {h:H} {K:AV→H→Prop} (hk:∀e u h',h'.wf→h.le h'→h.next≤u→u<e→Eng 7 h' e u→Tune h' u 0 0 0 (clampT t)→K (.ptr (some (e,0))) h'):ACalls Tryz.prog 58 [t.av] h K:=by
 refine in_div_New (by simp) fun hw=> ?_
 unfold c_div_New
 have hl1:=H.le_new hw (H.le_refl h) ⟨some 23,11,t.cells⟩
 have hn1:h.next<(h.new ⟨some 23,11,t.cells⟩).next:=Nat.lt_succ_self _
 simp only[go_sem,av_held,av_cells,cells_len,true_and,gsT (H.rows_new h _)]
 refine rNew_calls fun e u h1 hw1 hl2 hn2 _ he ht=> ?_
 simp only[go_sem,bldp]
 simp only[AV.held,AV.cells,true_and,go_sem]
 have hl3:=H.le_new hw1 (H.le_refl h1) ⟨some 118,1,[AV.ptr (some (e,0))]⟩
 exact fun hw'=>hk _ u _ hw' (H.le_trans hl1 (H.le_trans hl2 hl3)) (by omega) (H.row_lt hw1 ht) ⟨_,e,H.rows_new _ _,rfl,he.mono hl3⟩ (ht.mono hl3)
end
end
section
def TwoOK (e u:Nat) (t:Tb) (N:Nat) (h0:H):Prop:=
 ∀(h1:H) (m nw dp a b:Nat) (va vb:AV) (K:AV→H→Prop),H.lee u h0 h1→Tune h1 u m nw dp t→Nn h1 va a→Nn h1 vb b→a<b*18446744073709551616^N→18446744073709551616^N≤2*b→b<18446744073709551616^N→nw+N+2≤700000000→
  (∀q r h' m' dp',h'.wf→H.lee u h1 h'→Tune h' u m' nw dp' t→Sp m dp m' dp' nw (8*(N*N)) (lev N+1)→Nf h1.next h' q (a/b)→Nf h1.next h' r (a%b)→K (.tup [q,r]) h')→
  ACalls Tryz.prog 107 [.ptr (some (e,0)),va,vb, .int .i64 (N:Int)] h1 K
theorem quot_math {a b q r p:Nat} (h:a+p=q*b+r) (h1:p≤r) (h2:r<p+b):a/b=q∧a%b=r-p:=by
 have e:a=(r-p)+b*q:=by rw[Nat.mul_comm b q];omega
 have hb:0<b:=by omega
 have h3:r-p<b:=by omega
 constructor
 ·rw[e,Nat.add_mul_div_left _ _ hb,Nat.div_eq_of_lt h3,Nat.zero_add]
 ·rw[e,Nat.add_mul_mod_self_left,Nat.mod_eq_of_lt h3]
theorem three_pieces {a b X b0 b1 low rest:Nat} (hb0:b0=b%X) (hb1:b1=b/X) (hl:low=a%X) (hr:rest=a/X) {Q R:Nat} (h:Q*b1+R=rest):a+Q*b0=Q*b+(low+X*R):=by
 have e1:=Nat.div_add_mod b X
 have e2:=Nat.div_add_mod a X
 rw[←hb0,←hb1] at e1
 rw[←hl,←hr,←h] at e2
 rw[←e2,←e1,Nat.mul_add,Nat.mul_add]
 have:X*(Q*b1)=Q*(X*b1):=by ac_rfl
 omega
theorem big_pow {x n:Nat} (h:x<18446744073709551616^n) (hn:n≤400000):Big x:=lt_bigW h hn
theorem mul_lt_pow {x y n k:Nat} (hx:x<18446744073709551616^n) (hy:y≤18446744073709551616^k):x*y<18446744073709551616^(n+k):=by
 rw[Nat.pow_add]
 exact Nat.mul_lt_mul_of_lt_of_le hx hy (Nat.pow_pos (by omega))
section
variable {e u m nw dp a b N:Nat} {t:Tb} {va vb:AV} {h:H} {K:AV→H→Prop}
theorem three_pre {η a b b0 b1 low rest:Nat} (hlo:18446744073709551616^(2*η)≤2*b) (hhi:b<18446744073709551616^(2*η)) (hab:a<b*18446744073709551616^η) (hb0:b0=b%18446744073709551616^η) (hb1:b1=b/18446744073709551616^η) (hl:low=a%18446744073709551616^η) (hr:rest=a/18446744073709551616^η):
  b0<18446744073709551616^η∧b1<18446744073709551616^η∧18446744073709551616^η≤2*b1+1∧low<18446744073709551616^η∧rest<b∧b1*18446744073709551616^η≤b∧1≤18446744073709551616^η∧rest/18446744073709551616^η≤b1:=by
 have hX:0<18446744073709551616^η:=Nat.pow_pos (by omega)
 have e2:18446744073709551616^(2*η)=18446744073709551616^η*18446744073709551616^η:=by rw[←Nat.pow_add];congr 1;omega
 rw[e2] at hlo hhi
 have hdm:=Nat.div_add_mod b (18446744073709551616^η)
 have m1:=Nat.mod_lt b hX
 have m2:=Nat.mod_lt a hX
 have hrest:a/18446744073709551616^η<b:=(Nat.div_lt_iff_lt_mul hX).2 hab
 have hb1':b/18446744073709551616^η<18446744073709551616^η:=(Nat.div_lt_iff_lt_mul hX).2 hhi
 have hle:b/18446744073709551616^η*18446744073709551616^η≤b:=Nat.div_mul_le_self b _
 generalize 18446744073709551616^η=X at*
 subst hb0 hb1 hl hr
 refine⟨m1,hb1', ?_,m2,hrest,hle,hX,Nat.div_le_div_right (Nat.le_of_lt hrest)⟩
 rcases Nat.lt_or_ge (2*(b/X)+1) X with h|h
 ·exfalso
  have h1:2*b<X*(2*(b/X)+2):=by
   have:X*(2*(b/X)+2)=2*(X*(b/X))+2*X:=by rw[Nat.mul_add,←Nat.mul_assoc,Nat.mul_comm X 2,Nat.mul_assoc]
   omega
  have h2:X*(2*(b/X)+2)≤X*X:=Nat.mul_le_mul_left _ (by omega)
  omega
 ·exact h
theorem three_even {η b1:Nat} (hη:1≤η) (h:18446744073709551616^η≤2*b1+1):18446744073709551616^η≤2*b1:=by
 obtain⟨k,rfl⟩:∃k,η=k+1:=⟨η-1,by omega⟩
 have:18446744073709551616^(k+1)=2*(18446744073709551616^k*9223372036854775808):=by rw[Nat.pow_succ];omega
 omega
set_option maxHeartbeats 1000000 in
theorem three_calls2 {η:Nat} (he:Eng 7 h e u) (ht:Tune h u m nw dp t) (na:Nn h va a) (nb:Nn h vb b) (hη:1≤η) (hη2:η≤16000) (hab:a<b*18446744073709551616^η) (hlo:18446744073709551616^(2*η)≤2*b) (hhi:b<18446744073709551616^(2*η)) (hnw:nw+η+2≤700000000) (htwo:TwoOK e u t η h)
  (hk:∀q r h' m' dp',h'.wf→H.lee u h h'→Tune h' u m' nw dp' t→Sp m dp m' dp' nw (16*(η*η)) (lev η+1)→Nf h.next h' q (a/b)→Nf h.next h' r (a%b)→K (.tup [q,r]) h'):
  ACalls Tryz.prog 123 [.ptr (some (e,0)),va,vb, .int .i64 (η:Int)] h K:=by
 refine in_div_Engine_three (by simp) fun hw=> ?_
 unfold c_div_Engine_three
 obtain⟨f,rfl,rfl,G,E⟩:=Eng.path ht he
 have hu:=H.row_lt hw ht
 have wb:wlen b≤2*η:=wlen_le.2 hhi
 have wa:wlen a≤3*η:=wlen_le.2 (by
  have:=mul_lt_pow hhi (Nat.le_refl (18446744073709551616^η))
  rw[show 2*η+η=3*η by omega] at this
  exact Nat.lt_trans hab this)
 simp only[go_sem]
 refine Split_calls nb (by omega) (by omega) fun v0 v1 h1 hw1 hl1 hb0 hb1=> ?_
 simp only[go_sem]
 refine Split_calls (na.mono hl1) (by omega) (by omega) fun vl vr h2 hw2 hl2 hlow hrest=> ?_
 obtain⟨p1,p2,p3,p4,p5,p6,p7,p8⟩:=three_pre hlo hhi hab rfl rfl rfl rfl
 have p3:=three_even hη p3
 have tp:= @three_pieces a b (18446744073709551616^η) _ _ _ _ rfl rfl rfl rfl
 have wr:wlen (a/18446744073709551616^η)≤2*η:=Nat.le_trans (wlen_mono (Nat.le_of_lt p5)) wb
 have hr1:a/18446744073709551616^η/18446744073709551616^η*18446744073709551616^η≤a/18446744073709551616^η:=Nat.div_mul_le_self _ _
 have hdv:=Nat.div_add_mod (a/18446744073709551616^η) (18446744073709551616^η)
 have hm4:=Nat.mod_lt (a/18446744073709551616^η) (show 0<18446744073709551616^η by omega)
 generalize b%18446744073709551616^η=b0 at*
 generalize b/18446744073709551616^η=b1 at*
 generalize a%18446744073709551616^η=low at*
 generalize a/18446744073709551616^η=rest at*
 simp only[go_sem]
 refine Split_calls (hrest.nn (wbig wr (by omega))) (by omega) (by omega) fun vr0 vh h3 hw3 hl3 hr0 hhigh=> ?_
 have l23:=hl3
 have hb0:=hb0.mono (H.le_trans hl2 hl3)
 have hb1:=hb1.mono (H.le_trans hl2 hl3)
 have hlow:=hlow.mono hl3
 have hrest:=hrest.mono hl3
 have l03:=(H.le_trans hl1 (H.le_trans hl2 hl3))
 have ht3:=ht.mono l03
 have bb0:Big b0:=big_pow p1 (by omega)
 have bb1:Big b1:=big_pow p2 (by omega)
 have blow:Big low:=big_pow p4 (by omega)
 have brest:Big rest:=wbig wr (by omega)
 have hub0:=Nat.lt_of_lt_of_le hu hl1.1
 have hub1:=Nat.lt_of_lt_of_le hub0 hl2.1
 simp only[go_sem]
 refine lCmp_calls (hhigh.nn (brest.le (Nat.div_le_self _ _))) (hb1.nn bb1) ?_
 simp only[go_sem]
 refine cond_cut (fun ρ' h'=>h'.wf∧H.lee (f 7) h3 h'∧ρ' 0= .ptr (some (f 0,0))∧ρ' 2=vb∧ρ' 3= .int .i64 (η:Int)∧ρ' 10=v0∧ρ' 12=vl∧∃Q R m' dp',Nf h3.next h' (ρ' 8) Q∧Nf h3.next h' (ρ' 9) R∧Q*b1+R=rest∧Q<18446744073709551616^η∧R<2*18446744073709551616^η∧low+18446744073709551616^η*R<Q*b0+b∧Tune h' (f 7) m' nw dp' t∧Sp m dp m' dp' nw (8*(η*η)) (lev η+1)) ?_ ?_
 ·rcases Nat.lt_or_ge (rest/18446744073709551616^η) b1 with hc|hc
  ·have hlt:rest<b1*18446744073709551616^η:=(Nat.div_lt_iff_lt_mul (by omega)).1 hc
   rw[show decide (cmpI (rest/18446744073709551616^η) b1<0)=true by unfold cmpI;rw[if_pos hc];rfl]
   simp only[go_sem]
   refine htwo h3 _ _ _ rest b1 _ _ _ l03.lee ht3 (hrest.nn brest) (hb1.nn bb1) hlt p3 p2 hnw fun q r h4 m4 dp4 hw4 hl4 ht4 hsp hq hr=> ?_
   have hb1p:0<b1:=by omega
   have hm:=Nat.mod_lt rest hb1p
   have hq2:rest/b1<18446744073709551616^η:=(Nat.div_lt_iff_lt_mul hb1p).2 (by rw[Nat.mul_comm];exact hlt)
   simp only[go_sem]
   refine⟨hw4,hl4,by first|rfl|trivial|assumption,by first|rfl|trivial|assumption,by first|rfl|trivial|assumption,by first|rfl|trivial|assumption,by first|rfl|trivial|assumption,rest/b1,rest%b1,m4,dp4,hq,hr, ?_,hq2,by omega, ?_,ht4,hsp⟩
   ·rw[Nat.mul_comm];exact Nat.div_add_mod _ _
   ·have h5:low+18446744073709551616^η*(rest%b1)<18446744073709551616^η*(rest%b1+1):=by rw[Nat.mul_add,Nat.mul_one];omega
    have h6:18446744073709551616^η*(rest%b1+1)≤18446744073709551616^η*b1:=Nat.mul_le_mul_left _ hm
    rw[Nat.mul_comm (18446744073709551616^η) b1] at h6
    omega
  ·have hcd:decide (cmpI (rest/18446744073709551616^η) b1<0)=false:=by
    unfold cmpI
    rw[if_neg (by omega)]
    split<;>rfl
   have hge:b1*18446744073709551616^η≤rest:=Nat.le_trans (Nat.mul_le_mul_right _ hc) hr1
   rw[hcd]
   simp only[go_sem]
   refine One_calls (x:=1) (by decide) fun o1 h4 hw4 hl4 ho1=> ?_
   simp only[go_sem,lit2a (show(AV.sl none 0 0 none).one=true from rfl) ho1.one]
   refine Join2_calls hw4 (Nn.nil _) (ho1.nn (word_big (by decide))) (word_big (x:=0) (by decide)) (word_big (by decide)) (by omega) fun vt h5 hw5 hl5 hvt=> ?_
   rw[Nat.zero_add,Nat.mul_one] at hvt
   simp only[go_sem]
   refine One_calls (x:=1) (by decide) fun o2 h6 hw6 hl6 ho2=> ?_
   have bX:Big (18446744073709551616^η):=big_pow (n:=η+1) (Nat.pow_lt_pow_right (by omega) (by omega)) (by omega)
   simp only[go_sem]
   refine lSub_calls ((hvt.nn bX).mono hl6) (ho2.nn (word_big (by decide))) (fun h=>absurd h (by omega)) fun _ q h7 hw7 hl7 hq=> ?_
   have l37:=(H.le_trans hl4 (H.le_trans hl5 (H.le_trans hl6 hl7)))
   simp only[go_sem]
   refine lAdd_calls ((hrest.nn brest).mono l37) ((hb1.nn bb1).mono l37) fun vs h8 hw8 hl8 hvs=> ?_
   have hb18:=hb1.mono (H.le_trans l37 hl8)
   simp only[go_sem,lit2a (show(AV.sl none 0 0 none).one=true from rfl) hb18.one]
   refine Join2_calls hw8 (Nn.nil _) (hb18.nn bb1) (word_big (x:=0) (by decide)) bb1 (by omega) fun vm h9 hw9 hl9 hvm=> ?_
   rw[Nat.zero_add,Nat.mul_comm] at hvm
   have bm:Big (b1*18446744073709551616^η):=brest.le hge
   have bs:Big (rest+b1):=big_pow (n:=2*η+1) (by
    have h8:18446744073709551616^(2*η+1)=18446744073709551616^(2*η)*18446744073709551616:=Nat.pow_succ ..
    have h9:b1≤b:=Nat.le_trans (Nat.le_mul_of_pos_right b1 (by omega)) p6
    omega) (by omega)
   simp only[go_sem]
   refine lSub_calls ((hvs.nn bs).mono hl9) (hvm.nn bm) (fun h=>absurd h (by omega)) fun _ r h10 hw10 hl10 hr=> ?_
   have l310:=(H.le_trans l37 (H.le_trans hl8 (H.le_trans hl9 hl10)))
   have hn37:=l37.1
   simp only[go_sem]
   have hR:rest+b1-b1*18446744073709551616^η<2*18446744073709551616^η:=by
    have h1:rest<b1*18446744073709551616^η+18446744073709551616^η:=by
     have h3:18446744073709551616^η*(rest/18446744073709551616^η)≤18446744073709551616^η*b1:=Nat.mul_le_mul_left _ p8
     rw[Nat.mul_comm (18446744073709551616^η) b1] at h3
     omega
    omega
   have e1:(18446744073709551616^η-1)*b1+(rest+b1-b1*18446744073709551616^η)=rest:=by
    have h1:(18446744073709551616^η-1)*b1=b1*18446744073709551616^η-b1:=by rw[Nat.sub_mul,Nat.one_mul,Nat.mul_comm]
    have h2:b1≤b1*18446744073709551616^η:=Nat.le_mul_of_pos_right b1 (by omega)
    omega
   refine⟨hw10,l310.lee,by first|rfl|trivial|assumption,by first|rfl|trivial|assumption,by first|rfl|trivial|assumption,by first|rfl|trivial|assumption,by first|rfl|trivial|assumption,18446744073709551616^η-1,rest+b1-b1*18446744073709551616^η,m,dp,(hq.mono (H.le_trans hl8 (H.le_trans hl9 hl10))).base (by have:=hl4.1;have:=hl5.1;have:=hl6.1;omega),hr.base (by have:=hl8.1;have:=hl9.1;omega),e1,by omega,hR, ?_,ht3.mono l310,(Sp.refl m dp nw 0 0).le (Nat.zero_le _) (Nat.zero_le _)⟩
   have h5:=tp e1
   have h6:(18446744073709551616^η-1)*b=b*18446744073709551616^η-b:=by rw[Nat.sub_mul,Nat.one_mul,Nat.mul_comm]
   have h7:b≤b*18446744073709551616^η:=Nat.le_mul_of_pos_right b (by omega)
   omega
 rintro ρ h4 ⟨hw4,hl4,q0,q2,q3,q10,q12,Q,R,m4,dp4,hQ,hR,hQR,hQl,hRl,hfin,ht4,hsp4⟩
 have bQ:Big Q:=big_pow hQl (by omega)
 have bR:Big R:=big_pow (n:=η+1) (by
  have h8:18446744073709551616^(η+1)=18446744073709551616^η*18446744073709551616:=Nat.pow_succ ..
  omega) (by omega)
 have l04:H.lee (f 7) h h4:=l03.lee.trans hl4
 have hl4n:=hl4.1
 have hb04:=hb0.monoE hu hl4
 have hlow4:=hlow.monoE hub0 hl4
 have nb4:=nb.monoE' ht l04
 have hu4:f 7<h3.next:=Nat.lt_of_lt_of_le hu l03.1
 have hu5:f 7<h4.next:=Nat.lt_of_lt_of_le hu4 hl4n
 simp only[go_sem,q0,q2,q3,q10,q12,lit2a hlow4.one hR.one]
 refine Join2_calls hw4 (hlow4.nn blow) (hR.nn bR) blow bR (by omega) fun w9 h5 hw5 hl5 hw9=> ?_
 have l05:H.lee (f 7) h h5:=l04.trans hl5.lee
 have ht5:=ht4.mono hl5
 simp only[go_sem,q0,q2,q3,q10,q12,G 0 (by omega) _ l05,G 1 (by omega) _ l05,G 2 (by omega) _ l05]
 have wQ:wlen Q≤η:=wlen_le.2 hQl
 have wb0:wlen b0≤η:=wlen_le.2 p1
 refine Mul2_calls ((E 3 (by omega)).monoE ht l05) ht5 ((hQ.mono hl5).nn bQ) ((hb04.mono hl5).nn bb0) (by omega) (by omega) (by omega) fun vp h6 m6 dp6 hw6 hl6 ht6 hsp6 hp=> ?_
 have bp:Big (Q*b0):=mul_big wQ wb0 (by omega)
 have cb:costT t (wlen Q) (wlen b0)≤8*(η*η):=Nat.le_trans (costT_le (by omega) (by omega)) (Nat.mul_le_mul_left 8 (Nat.mul_le_mul wQ wb0))
 have lv:lev2 (wlen Q) (wlen b0)≤lev η:=lev_of (by omega)
 have l06:=l05.trans hl6
 have nb6:=nb4.mono hl5|>.monoE' ht5 hl6
 have hQ6:=((hQ.mono hl5).monoE hu4 hl6)
 have hw96:=hw9.monoE hu5 hl6
 have hmain:=tp hQR
 have bpb:Big (Q*b0+b):=big_pow (n:=2*η+1) (by
  have h8:18446744073709551616^(2*η+1)=18446744073709551616^(2*η)*18446744073709551616:=Nat.pow_succ ..
  have h9:Q*b0<18446744073709551616^(η+η):=mul_lt_pow hQl (Nat.le_of_lt p1)
  rw[show η+η=2*η by omega] at h9
  omega) (by omega)
 simp only[go_sem,q0,q2,q3,q10,q12]
 refine loop_cut (fun ρ' h'=>h'.wf∧h6.le h'∧ρ' 16=vp∧∃Q' R',Nf h3.next h' (ρ' 8) Q'∧Nf h3.next h' (ρ' 9) R'∧a/b=Q'∧a%b=R'-Q*b0∧Q*b0≤R'∧R'<Q*b0+b) ?_ ?_
 ·refine⟨fun s ρ' h'=>h'.wf∧h6.le h'∧ρ' 2=vb∧ρ' 16=vp∧∃R',s≤Q∧Nf h3.next h' (ρ' 8) s∧Nf h3.next h' (ρ' 9) R'∧a+Q*b0=s*b+R'∧R'<Q*b0+b,Q,⟨hw6,H.le_refl _,by first|rfl|trivial|assumption,by first|rfl|trivial|assumption,_,Nat.le_refl _,hQ6,hw96.base hl4n,hmain,hfin⟩, ?_⟩
  rintro s ρ' h7 ⟨hw7,hl7,q2,q16,R',hs0,hs,hR',hinv,hlt⟩
  have hpn:=hp.mono hl7
  simp only[go_sem,q2,q16]
  refine lCmp_calls (hR'.nn (bpb.le (by omega))) (hpn.nn bp) ?_
  rcases Nat.lt_or_ge R' (Q*b0) with hc|hc
  ·have hs1:1≤s:=by
    rcases Nat.eq_zero_or_pos s with h|h
    ·subst h
     rw[Nat.zero_mul] at hinv
     omega
    ·exact h
   rw[show cmpI R' (Q*b0)= -1 by unfold cmpI;rw[if_pos hc]]
   simp only[go_sem,q2,q16,show decide ((-1:Int)<0)=true from rfl]
   refine One_calls (x:=1) (by decide) fun o h8 hw8' hl8 ho=> ?_
   simp only[go_sem,q2,q16]
   refine lSub_calls ((hs.nn (bQ.le hs0)).mono hl8) (ho.nn (word_big (by decide))) (fun h=>absurd h (by omega)) fun _ s' h9 hw9 hl9 hs'=> ?_
   simp only[go_sem,q2,q16]
   refine lAdd_calls ((hR'.nn (bpb.le (by omega))).mono (H.le_trans hl8 hl9)) (nb6.mono (H.le_trans hl7 (H.le_trans hl8 hl9))) fun r' h10 hw10 hl10 hr'=> ?_
   simp only[go_sem,q2,q16]
   have hb7:=hl7.1
   have hb8:=hl8.1
   have hb9:=hl9.1
   have hb6:=hl6.1
   have hb5:=hl5.1
   refine⟨s-1,by omega,hw10,(H.le_trans hl7 (H.le_trans hl8 (H.le_trans hl9 hl10))),by first|rfl|trivial|assumption,by first|rfl|trivial|assumption,R'+b,by omega,(hs'.mono hl10).base (by omega),hr'.base (by omega), ?_,by omega⟩
   have:s*b=(s-1)*b+b:=by
    obtain⟨k,rfl⟩:∃k,s=k+1:=⟨s-1,by omega⟩
    rw[Nat.add_sub_cancel,Nat.add_mul,Nat.one_mul]
   omega
  ·have hcd:decide (cmpI R' (Q*b0)<0)=false:=by
    unfold cmpI
    rw[if_neg (by omega)]
    split<;>rfl
   simp only[go_sem,q2,q16,hcd]
   obtain⟨r1,r2⟩:=quot_math hinv hc hlt
   exact⟨hw7,hl7,by first|rfl|trivial|assumption,s,R',hs,hR',r1,r2,hc,hlt⟩
 ·rintro ρ' h7 ⟨hw7,hl7,q16,Q',R',hs,hR',r1,r2,hc,hlt⟩
  simp only[go_sem,q16]
  refine lSub_calls (hR'.nn (bpb.le (by omega))) ((hp.mono hl7).nn bp) (fun h=>absurd h (by omega)) fun _ r h8 hw8' hl8 hr=> ?_
  rw[r1,r2] at hk
  simp only[go_sem,q16]
  have hb7:=hl7.1
  have hb6:=hl6.1
  have hb5:=hl5.1
  have hb3:=l03.1
  refine fun hw'=>hk _ r h8 _ _ hw' (l06.trans (H.le_trans hl7 hl8).lee) ((ht6.mono hl7).mono hl8) ((hsp4.trans hsp6).le (by omega) (by omega)) ((hs.mono hl8).base hb3) (hr.base (by omega))
end
end
section
theorem two_math {a b X q1 r1 q0 r0 low:Nat} (hb:0<b) (h1:q1=a/X/b) (h2:r1=a/X%b) (h3:low=a%X) (h4:q0=(low+X*r1)/b) (h5:r0=(low+X*r1)%b):a/b=q0+X*q1∧a%b=r0:=by
 have e1:=Nat.div_add_mod (a/X) b
 have e2:=Nat.div_add_mod (low+X*r1) b
 have e3:=Nat.div_add_mod a X
 have m:=Nat.mod_lt (low+X*r1) hb
 rw[←h1,←h2] at e1
 rw[←h4,←h5] at e2
 rw[←h5] at m
 rw[←h3,←e1,Nat.mul_add] at e3
 have e:a=r0+b*(q0+X*q1):=by
  rw[Nat.mul_add]
  have:X*(b*q1)=b*(X*q1):=by ac_rfl
  omega
 constructor
 ·rw[e,Nat.add_mul_div_left _ _ hb,Nat.div_eq_of_lt m,Nat.zero_add]
 ·rw[e,Nat.add_mul_mod_self_left,Nat.mod_eq_of_lt m]
section
variable {u:Nat} {t:Tb}
theorem two_ok (hT:TbOK t):∀N:Nat,1≤N→N≤16000→∀(h:H) (m nw dp e:Nat),Eng 7 h e u→Tune h u m nw dp t→TwoOK e u t N h:=by
 intro N
 induction N using Nat.strongRecOn with
 |_ N ih=>
  intro hN1 hN h m nw dp e he ht h1 m1 nw1 dp1 a b va vb K hl1 ht1 na nb hab hlo hhi hnw hk
  have he1:=he.monoE ht hl1
  clear he
  have hb0:0<b:=by
   have:0<18446744073709551616^N:=Nat.pow_pos (by omega)
   omega
  have wb:wlen b≤N:=wlen_le.2 hhi
  have wa:wlen a≤2*N:=wlen_le.2 (by
   have:=mul_lt_pow hhi (Nat.le_refl (18446744073709551616^N))
   rw[show N+N=2*N by omega] at this
   exact Nat.lt_trans hab this)
  have ba:Big a:=wbig wa (by omega)
  have bb:Big b:=wbig wb (by omega)
  refine in_div_Engine_two (by simp) fun hw=> ?_
  unfold c_div_Engine_two
  obtain⟨f,rfl,rfl,G,E⟩:=Eng.path ht1 he1
  have hu:=H.row_lt hw ht1
  have l0:=H.lee_refl (f 7) h1
  have longc:longCost a b≤8*(N*N):=by
   have hbw:N≤wlen b:=by
    rcases Nat.lt_or_ge (wlen b) N with h|h
    ·exfalso
     have h2:=wlen_lt b
     have h3:18446744073709551616^wlen b≤18446744073709551616^(N-1):=Nat.pow_le_pow_right (by omega) (by omega)
     have h4:18446744073709551616^N=18446744073709551616^(N-1)*18446744073709551616:=by rw[←Nat.pow_succ];congr 1;omega
     omega
    ·exact h
   unfold longCost
   split
   ·omega
   ·have h2:(wlen a-wlen b+1)*(wlen b+1)≤(2*N)*(2*N):=Nat.mul_le_mul (by omega) (by omega)
    have h3:(2*N)*(2*N)=4*(N*N):=by rw[Nat.mul_mul_mul_comm]
    omega
  have c1:((N:Int)).tmod 2=((N%2:Nat):Int):=tmodN (b:=2)
  --by hand
  have hand:∀(K0:AV→H→Prop),(∀q r h',h'.wf→H.lee (f 7) h1 h'→Tune h' (f 7) (m1+longCost a b) nw1 dp1 t→Nf h1.next h' q (a/b)→Nf h1.next h' r (a%b)→K0 (.tup [q,r, .int .i64 0]) h')→ACalls Tryz.prog 86 [.ptr (some (f 2,0)),va,vb] h1 K0:=fun K0 hK=>Long_calls (E 2 (by omega)) ht1 na nb ba bb (fun h=>absurd h (by omega)) fun _ q r h' a1 a2 a3 a4 a5=>hK q r h' a1 a2 a3 a4 a5
  have spl:Sp m1 dp1 (m1+longCost a b) dp1 nw1 (8*(N*N)) (lev N+1):=⟨by omega,by omega,by omega,by omega⟩
  rcases Nat.mod_two_eq_zero_or_one N with hpar|hpar
  ·rw[hpar] at c1
   by_cases hD:(N:Int)<t.div
   ·simp only[go_sem,c1,show(((0:Nat):Int)==1)=false from rfl,G 0 (by omega) _ l0,G 1 (by omega) _ l0,G 2 (by omega) _ l0,G 3 (by omega) _ l0,G 4 (by omega) _ l0,G 5 (by omega) _ l0,G 6 (by omega) _ l0,tune_div ht1]
    refine⟨by decide, ?_⟩
    simp only[go_sem,decide_eq_true hD,G 0 (by omega) _ l0,G 1 (by omega) _ l0]
    refine hand _ fun q r h2 hw2 hl2 ht2 hq hr=> ?_
    simp only[go_sem]
    exact fun hw'=>hk q r h2 _ _ hw' hl2 ht2 spl hq hr
   ·have hN4:4≤N:=by have:=hT.1;omega
    obtain⟨η,rfl⟩:∃η,N=2*η:=⟨N/2,by omega⟩
    have c2:(((2*η:Nat):Int)).tdiv 2=(η:Int):=by
     have:=tdivN (a:=2*η) (b:=2)
     rw[Nat.mul_div_cancel_left _ (by omega)] at this
     exact this
    have c3:IntKind.i64.wrap (η:Int)=(η:Int):=wNI (by omega)
    simp only[go_sem,c1,show(((0:Nat):Int)==1)=false from rfl,G 0 (by omega) _ l0,G 1 (by omega) _ l0,G 2 (by omega) _ l0,G 3 (by omega) _ l0,G 4 (by omega) _ l0,G 5 (by omega) _ l0,G 6 (by omega) _ l0,tune_div ht1]
    refine⟨by decide, ?_⟩
    simp only[go_sem,decide_eq_false hD,G 0 (by omega) _ l0,G 1 (by omega) _ l0,G 2 (by omega) _ l0,G 3 (by omega) _ l0,G 4 (by omega) _ l0,G 5 (by omega) _ l0,G 6 (by omega) _ l0]
    refine Enter_calls ht1 (by omega) fun _ h2 hw2 hl2 hn2 ht2=> ?_
    have htwo:∀g,H.lee (f 7) h1 g→TwoOK (f 0) (f 7) t η g:=fun g hg g' m' nw' dp' a' b' va' vb' K' hl'=>ih η (by omega) (by omega) (by omega) h1 _ _ _ _ he1 ht1 g' m' nw' dp' a' b' va' vb' K' (hg.trans hl')
    have na2:=na.monoE' ht1 hl2
    simp only[go_sem,c2,c3]
    refine⟨by decide, ?_⟩
    refine Split_calls na2 (by omega) (by omega) fun vl vr h3 hw3 hl3 hlow hrest=> ?_
    have l13:=hl2.trans hl3.lee
    have hX:0<18446744073709551616^η:=Nat.pow_pos (by omega)
    have e2:18446744073709551616^(2*η)=18446744073709551616^η*18446744073709551616^η:=by rw[←Nat.pow_add];congr 1;omega
    have hab1:a/18446744073709551616^η<b*18446744073709551616^η:=by
     rw[Nat.div_lt_iff_lt_mul hX,Nat.mul_assoc,←e2]
     exact hab
    have hlt:=Nat.mod_lt a hX
    have tm:= @two_math a b (18446744073709551616^η) _ _ _ _ _ hb0 rfl rfl rfl rfl rfl
    have brest:Big (a/18446744073709551616^η):=ba.le (Nat.div_le_self _ _)
    have blow:Big (a%18446744073709551616^η):=ba.le (Nat.mod_le _ _)
    generalize a/18446744073709551616^η=rest at*
    generalize a%18446744073709551616^η=low at*
    have nb3:=nb.monoE' ht1 l13
    simp only[go_sem]
    refine three_calls2 (he1.monoE ht1 l13) (ht2.mono hl3) (hrest.nn brest) nb3 (by omega) (by omega) hab1 hlo hhi (by omega) (htwo h3 l13) fun q1 r1 h4 m4 dp4 hw4 hl4 ht4 hsp4 hq1 hr1=> ?_
    have l14:=l13.trans hl4
    have hmr:=Nat.mod_lt rest hb0
    have hq1b:Big (rest/b):=brest.le (Nat.div_le_self _ _)
    generalize rest/b=Q1 at*
    generalize rest%b=R1 at*
    have bR1:Big R1:=bb.le (Nat.le_of_lt hmr)
    have hu2:f 7<h2.next:=Nat.lt_of_lt_of_le hu hl2.1
    have hu3:f 7<h3.next:=Nat.lt_of_lt_of_le hu2 hl3.1
    have hlow4:=hlow.monoE hu2 hl4
    simp only[go_sem,lit2a hlow4.one hr1.one]
    refine Join2_calls hw4 (hlow4.nn blow) (hr1.nn bR1) blow bR1 (by omega) fun v5 h5 hw5 hl5 hv5=> ?_
    have l15:=l14.trans hl5.lee
    have hab2:low+18446744073709551616^η*R1<b*18446744073709551616^η:=by
     have:18446744073709551616^η*(R1+1)≤18446744073709551616^η*b:=Nat.mul_le_mul_left _ hmr
     rw[Nat.mul_add,Nat.mul_one,Nat.mul_comm (18446744073709551616^η) b] at this
     omega
    have bj:Big (low+18446744073709551616^η*R1):=big_pow (n:=3*η) (by
     have:=mul_lt_pow hhi (Nat.le_refl (18446744073709551616^η))
     rw[show 2*η+η=3*η by omega] at this
     exact Nat.lt_trans hab2 this) (by omega)
    simp only[go_sem]
    refine three_calls2 (he1.monoE ht1 l15) (ht4.mono hl5) (hv5.nn bj) (nb.monoE' ht1 l15) (by omega) (by omega) hab2 hlo hhi (by omega) (htwo h5 l15) fun q0 r0 h6 m6 dp6 hw6 hl6 ht6 hsp6 hq0 hr0=> ?_
    have l16:=l15.trans hl6
    simp only[go_sem,G 0 (by omega) _ l16,G 1 (by omega) _ l16,G 2 (by omega) _ l16,G 3 (by omega) _ l16,G 4 (by omega) _ l16,G 5 (by omega) _ l16,G 6 (by omega) _ l16]
    refine Leave_calls ht6 (by omega) fun _ h7 hw7 hl7 hn7 ht7=> ?_
    have l17:=l16.trans hl7
    have hu5:f 7<h5.next:=Nat.lt_of_lt_of_le (Nat.lt_of_lt_of_le hu3 hl4.1) hl5.1
    have hq07:=hq0.monoE hu5 hl7
    have hr07:=hr0.monoE hu5 hl7
    have hq17:=((hq1.monoE hu3 hl5.lee).monoE hu3 hl6).monoE hu3 hl7
    have bq0:Big ((low+18446744073709551616^η*R1)/b):=bj.le (Nat.div_le_self _ _)
    simp only[go_sem,lit2a hq07.one hq17.one]
    refine Join2_calls hw7 (hq07.nn bq0) (hq17.nn hq1b) bq0 hq1b (by omega) fun v8 h8 hw8 hl8 hv8=> ?_
    rw[tm.1,tm.2] at hk
    have hb5:=l15.1
    have hb7:=l17.1
    simp only[go_sem]
    refine fun hw'=>hk _ _ h8 _ _ hw' (l17.trans hl8.lee) (ht7.mono hl8) ?_ (hv8.base hb7) ((hr07.mono hl8).base hb5)
    refine((hsp4.trans hsp6).deep).le ?_ ?_
    ·have:2*η*(2*η)=4*(η*η):=by rw[Nat.mul_mul_mul_comm]
     omega
    ·have h1:=lev_big hN4
     have h2:lev η≤lev ((2*η+1)/2+1):=lev_of (by omega)
     omega
  ·rw[hpar] at c1
   simp only[go_sem,c1,show(((1:Nat):Int)==1)=true from rfl]
   refine⟨by decide, ?_⟩
   simp only[go_sem,G 0 (by omega) _ l0,G 1 (by omega) _ l0]
   refine hand _ fun q r h2 hw2 hl2 ht2 hq hr=> ?_
   simp only[go_sem]
   exact fun hw'=>hk q r h2 _ _ hw' hl2 ht2 spl hq hr
end
section
variable {va:AV} {xs:List Nat} {from_ n:Nat} {h:H} {K:AV→H→Prop}
theorem dpiece_calls (hv:IsN h va xs) (hd:Dig xs) (hl:xs.length≤400000) (hf:from_≤1000000) (hn:n≤1000000)
  (hk:∀r h',h'.wf→h.le h'→Nf h.next h' r (val 18446744073709551616 ((xs.drop from_).take n))→K r h'):ACalls Tryz.prog 109 [va, .int .i64 (from_:Int), .int .i64 (n:Int)] h K:=by
 obtain⟨id,off,c,rfl⟩:=hv.form
 refine in_div_piece (by simp) fun hw=> ?_
 unfold c_div_piece
 rcases Nat.lt_or_ge from_ xs.length with h1|h1
 ·have a1:=addI (a:=from_) (b:=n) (by omega)
  simp only[go_sem,show decide ((from_:Int)≥(xs.length:Int))=false from decide_eq_false (by omega),a1,minN]
  refine⟨by omega,by omega,by omega, .inl (by omega),hv.row, ?_⟩
  have hcut:=hv.cut (c':=c.map (· -from_)) (a:=from_) (b:=min xs.length (from_+n)) (by omega) (by omega)
  have e:(xs.take (min xs.length (from_+n))).drop from_=(xs.drop from_).take n:=by
   apply List.ext_getElem?
   intro j
   rw[List.getElem?_drop,List.getElem?_take,List.getElem?_take,List.getElem?_drop]
   by_cases hj:j<n
   ·rw[if_pos hj]
    split
    ·rfl
    ·rw[List.getElem?_eq_none (by omega)]
   ·rw[if_neg hj,if_neg (by omega)]
  rw[e] at hcut
  refine Norm_calls ⟨_,hcut,fun z hz=>hd z (List.mem_of_mem_drop (List.mem_of_mem_take hz)),by simp;omega,rfl⟩ fun r h2 hw2 hl2 hr=> ?_
  simp only[go_sem]
  exact fun hw'=>hk r h2 hw' hl2 hr
 ·rw[List.drop_of_length_le h1] at hk
  simp only[go_sem,show decide ((from_:Int)≥(xs.length:Int))=true from decide_eq_true (by omega)]
  exact fun hw'=>hk _ h hw' (H.le_refl _) (by simpa [val] using Nf.nil h.next h none)
end
end
theorem H.del_set {h:H} {i:Nat} {r:Row}:(h.set i r).del (some i)=h.del (some i):=by
 unfold H.del H.set
 congr 1
 funext j
 by_cases e:some j=some i
 ·rw[if_pos e,if_pos e]
 ·rw[if_neg e,if_neg e]
  show(if j=i then some r else h.rows j)=h.rows j
  rw[if_neg (fun h=>e (by rw[h]))]
theorem Live.app2 {α:Type} {t:TypeId} {z:Nat} {R:H→List AV→α→Prop} (hR:Grows R) {b:Nat} {h h2:H} {K:AV→H→Prop} {io:Option Nat} {co:Option Nat} {l:List AV} {ys:List α} {y:α} {bt n:Nat} (hz:0<z) (hw:h.wf) (hbh:b≤h.next)
  (hs:Live t z b R h (.sl io 0 n co) ys) (hn:n=ys.length) (hx:R (h.del io) l y) (hlz:l.length=z) (h1:l.all (·.one)=true) (hbt:bt≤64) (hl:n+1≤1099511627776)
  (hh:h2=h.new ⟨some t,z,l⟩) (hk:∀v h',h'.wf→(h.del io).le h'→Live t z b R h' v (ys++[y])→K v h'):appK t z bt (.sl io 0 n co) (.sl (some h.next) 0 1 (some 1)) h2 K:=by
 subst hh
 subst hn
 obtain⟨io',co',cs,e,hs,hc⟩:=hs
 injection e with e1 e2 e3 e4
 subst e1;subst e4
 have hbb:=Nat.mul_le_mul hl hbt
 have hw2:=H.wf_new hw ⟨some t,z,l⟩
 have hs2:=hs.mono (H.le_new hw (H.le_refl h) ⟨some t,z,l⟩)
 obtain⟨hcl,id',c',e,h3⟩:=hs2
 injection e with e1 e2 e3 e4
 subst e1;subst e4
 have hnx:(h.new ⟨some t,z,l⟩).next=h.next+1:=rfl
 simp only[appK]
 refine⟨fun h0=>by omega,fun _=>⟨h.next,_,rfl,H.rows_new _ _, ?_, ?_,by omega,by omega, ?_⟩⟩
 ·show 0+1*z≤l.length
  omega
 ·show((l.drop 0).take (1*z)).all (·.one)=true
  rw[List.drop_zero,Nat.one_mul,List.take_of_length_le (by omega)]
  exact h1
 have et:((⟨some t,z,l⟩:Row).cells.drop 0).take (1*z)=l:=by
  show(l.drop 0).take (1*z)=l
  rw[List.drop_zero,Nat.one_mul,List.take_of_length_le (by omega)]
 rw[et]
 have hlen1:(ys++[y]).length=ys.length+1:=by simp
 rcases h3 with⟨rfl,h0⟩|⟨i,q,rfl,hbi,hq,ho,he,hf2,ht2⟩
 ·have hy:ys=[]:=List.eq_nil_of_length_eq_zero h0
  subst hy
  have:cs=[]:=List.eq_nil_of_length_eq_zero (by simpa using hcl)
  subst this
  refine .inl ⟨rfl,rfl,hk _ _ (H.wf_new hw2 _) (H.le_trans (H.del_le none) (H.le_new hw2 (H.le_new hw (H.le_refl h) _) _)) ⟨some (h.next+1),none,[]++l,rfl, ?_, ?_⟩⟩
  ·exact⟨by simp[hlz],some (h.next+1),none,rfl, .inr ⟨h.next+1,_,rfl,by omega,H.rows_new _ _,rfl,rfl,by simp[hlz],List.take_of_length_le (by simp[hlz])⟩⟩
  ·refine(hc.snoc hlz hx).mono fun l' x' hx'=>hR hx' ⟨by show h.next≤h.next+1+1;omega,fun j r hj=> ?_⟩
   have hj':=(H.del_le none).2 j r hj
   have hlt:=H.row_lt hw hj'
   simp only[H.del]
   rw[if_neg (by intro e;injection e;omega),H.rows_new_ne (by rw[hnx];omega),H.rows_new_ne (by omega)]
   exact hj'
 ·have hil:=H.row_lt hw2 hq
  have hi2:i≠h.next:=by
   intro e
   obtain⟨_,id2,c2,e2,h4⟩:=hs
   injection e2 with e2
   rcases h4 with⟨h4,_⟩|⟨i2,q2,h4,_,h5,_⟩
   ·rw[←e2] at h4;cases h4
   ·rw[←e2] at h4
    injection h4 with h4
    have:=H.row_lt hw h5
    omega
  refine .inr ⟨i,q,rfl,hq,ho,he,by simp,hf2,hk _ _ (H.wf_new (H.wf_del hw2 _) _) (H.le_new (H.wf_del hw2 _) (H.del_mono (H.le_new hw (H.le_refl h) _) _) _) ⟨some (h.next+1),none,cs++l,by rw[hlen1];rfl, ?_, ?_⟩⟩
  ·refine⟨by simp[hcl,hlz,Nat.add_mul],some (h.next+1),none,by rw[hlen1];rfl, .inr ⟨h.next+1,_,rfl,by omega,H.rows_new _ _,rfl,rfl, ?_, ?_⟩⟩
   ·rw[hlen1]
    simp only[List.length_append,ht2,hcl,hlz,Nat.add_mul];omega
   ·rw[hlen1,ht2]
    exact List.take_of_length_le (by simp[hcl,hlz,Nat.add_mul])
  ·refine(hc.snoc hlz hx).mono fun l' x' hx'=>hR hx' ⟨by show h.next≤h.next+1+1;omega,fun j r hj=> ?_⟩
   have hj':=(H.del_le (some i)).2 j r hj
   have hlt:=H.row_lt hw hj'
   have hji:j≠i:=by
    rintro rfl
    simp[H.del] at hj
   simp only[H.del]
   rw[if_neg (by intro e;injection e;omega)]
   show((H.del _ (some i)).new _).rows j=some r
   rw[H.rows_new_ne (by rw[H.next_del,hnx];omega),H.rows_del_ne hji,H.rows_new_ne (by omega)]
   exact hj'
theorem Live.get1 {α:Type} {t:TypeId} {b:Nat} {R:H→List AV→α→Prop} {h:H} {io:Option Nat} {n:Nat} {c:Option Nat} {xs:List α} (hv:Live t 1 b R h (.sl io 0 n c) xs) {j:Nat} (hj:j<xs.length):∃i a,io=some i∧n=xs.length∧h.get i j=some a∧R (h.del (some i)) [a] xs[j]:=by
 obtain⟨io',c',cs,e,h1,h2⟩:=hv
 injection e with e1 e2 e3 e4
 subst e1;subst e4;subst e3
 obtain⟨i,e5,e6,e7⟩:=h1.isC.at (j:=j) (by omega)
 subst e5
 have hl:=h2.1
 have h3:=h2.2 j _ (List.getElem?_eq_getElem hj)
 rw[Nat.mul_one,take_one (by omega)] at h3
 rw[Nat.zero_add] at e7
 exact⟨i,cs[j],rfl,rfl,e7.trans (List.getElem?_eq_getElem (by omega)),h3⟩
theorem Live.io_ge {α:Type} {t:TypeId} {z b n:Nat} {R:H→List AV→α→Prop} {h:H} {io c:Option Nat} {xs:List α} (hv:Live t z b R h (.sl io 0 n c) xs) {i:Nat} (hi:io=some i):b≤i:=by
 obtain⟨io',c',cs,e,⟨_,id,c2,e2,h3⟩,_⟩:=hv
 injection e2 with e2
 subst e2
 subst hi
 rcases h3 with⟨h3,_⟩|⟨i',q,h3,hb,_⟩
 ·cases h3
 ·injection h3 with h3
  rw[h3];exact hb
theorem Live.put1 {α:Type} {t:TypeId} {b:Nat} {R:H→List AV→α→Prop} {h:H} {i:Nat} {n:Nat} {c:Option Nat} {xs:List α} (hw:h.wf) (hv:Live t 1 b R h (.sl (some i) 0 n c) xs) {j:Nat} (hj:j<xs.length):∃r,b≤i∧i<h.next∧h.rows i=some r∧r.own=some t∧j+1≤r.cells.length∧
  ∀(a:AV) (x:α),R (h.del (some i)) [a] x→Live t 1 b R (h.set i {r with cells:=putAt r.cells j [a]}) (.sl (some i) 0 n c) (xs.set j x):=by
 obtain⟨io',c',cs,e,h1,h2⟩:=hv
 injection e with e1 e2 e3 e4
 subst e1;subst e4;subst e3
 obtain⟨i',r,e5,hb,hlt,hr,ho,_,hf,hp⟩:=h1.put hw (k:=j) (w:=1) (by omega) (by omega)
 injection e5 with e5
 subst e5
 have ho2:r.own=some t:=by
  obtain⟨_,id2,c2,e6,h6⟩:=h1
  injection e6 with e6
  rcases h6 with⟨h6,_⟩|⟨i6,r6,h6,_,h7,h8,_⟩
  ·rw[←e6] at h6;cases h6
  ·rw[←e6] at h6
   injection h6 with h6
   rw[←h6,hr] at h7
   injection h7 with h7
   rw[h7];exact h8
 refine⟨r,hb,hlt,hr,ho2,hf,fun a x hx=>⟨some i,c,putAt cs j [a],by rw[List.length_set], ?_, ?_⟩⟩
 ·rw[List.length_set]
  exact hp [a] rfl
 ·rw[H.del_set]
  have:=h2.set (j:=j) (l:=[a]) (x:=x) hj rfl hx
  rwa[Nat.mul_one] at this
theorem Nf.put {b i x:Nat} {h:H} {v:AV} {r r':Row} {T:TypeId} (hv:Nf b h v x) (hr:h.rows i=some r) (ho:r.own=some T) (hT:T≠73):Nf b (h.set i r') v x:=by
 obtain⟨xs,⟨id,c,rfl,h1⟩,h2⟩:=hv
 refine⟨xs,⟨id,c,rfl, ?_⟩,h2⟩
 rcases h1 with h1|⟨j,q,rfl,hb,hq,hqo,h3⟩
 ·exact .inl h1
 ·refine .inr ⟨j,q,rfl,hb, ?_,hqo,h3⟩
  rw[H.rows_set_ne ?_]
  ·exact hq
  ·rintro rfl
   rw[hr] at hq
   injection hq with hq
   rw[←hq,ho] at hqo
   injection hqo with hqo
   exact hT hqo
def turnL (P:List Nat) (i:Nat):List Nat:=(List.range P.length).map fun k=>if k<i∨P.length-i≤k then P.getD (P.length-1-k) 0 else P.getD k 0
theorem turnL_zero (P:List Nat):turnL P 0=P:=by
 unfold turnL
 apply List.ext_getElem (by simp)
 intro k h1 h2
 simp only[List.getElem_map,List.getElem_range]
 rw[if_neg (by omega),List.getD_eq_getElem?_getD,List.getElem?_eq_getElem h2]
 rfl
theorem turnL_len (P:List Nat) (i:Nat):(turnL P i).length=P.length:=by simp[turnL]
theorem turnL_get {P:List Nat} {i k:Nat} (hk:k<P.length):(turnL P i)[k]'(by rw[turnL_len];exact hk)=if k<i∨P.length-i≤k then P.getD (P.length-1-k) 0 else P.getD k 0:=by simp[turnL]
theorem turnL_step {P:List Nat} {i:Nat} (h:i<P.length-1-i):((turnL P i).set i (P.getD (P.length-1-i) 0)).set (P.length-1-i) (P.getD i 0)=turnL P (i+1):=by
 apply List.ext_getElem (by simp[turnL])
 intro k h1 h2
 have hk:k<P.length:=by simpa [turnL] using h2
 rw[turnL_get hk,List.getElem_set,List.getElem_set]
 split
 ·rename_i e
  rw[if_pos (by omega),show P.length-1-k=i by omega]
 ·rename_i e
  split
  ·rename_i e2
   rw[if_pos (by omega),←e2]
  ·rename_i e2
   rw[turnL_get hk]
   by_cases h3:k<i∨P.length-i≤k
   ·rw[if_pos h3,if_pos (by omega)]
   ·rw[if_neg h3,if_neg (by omega)]
theorem turnL_end {P:List Nat} {i:Nat} (h:P.length-1-i≤i):turnL P i=P.reverse:=by
 apply List.ext_getElem (by simp[turnL])
 intro k h1 h2
 have hk:k<P.length:=by simpa using h2
 rw[turnL_get hk,List.getElem_reverse]
 have e1:∀j,(hj:j<P.length)→P.getD j 0=P[j]:=fun j hj=>by rw[List.getD_eq_getElem?_getD,List.getElem?_eq_getElem hj];rfl
 split
 ·rw[e1 _ (by omega)]
 ·rw[e1 _ hk]
  have:P.length-1-k=k:=by omega
  simp only[this]
theorem halved {M s half N:Nat} (h1:M≤s*2^half) (h2:(s-1)*2^half<M) (h3:2≤s∨half=0) (h4:1≤s) (hN:N=s*2^half):M≤N∧N+1≤2*M∧2^half≤N:=by
 have hp:1≤2^half:=Nat.pow_pos (by omega)
 have e:s*2^half=(s-1)*2^half+2^half:=by
  obtain⟨k,rfl⟩:∃k,s=k+1:=⟨s-1,by omega⟩
  rw[Nat.add_sub_cancel,Nat.add_mul,Nat.one_mul]
 rcases h3 with h3|h3
 ·have:1*2^half≤(s-1)*2^half:=Nat.mul_le_mul_right _ (by omega)
  omega
 ·subst h3
  simp at*
  omega
theorem halved_up {M s half:Nat} (h:M≤s*2^half):M≤(s+1)/2*2^(half+1):=by
 have e:(s+1)/2*2^(half+1)=((s+1)/2*2)*2^half:=by rw[Nat.pow_succ];ac_rfl
 rw[e]
 exact Nat.le_trans h (Nat.mul_le_mul_right _ (by omega))
theorem halved_lo {M s half:Nat} (h:(s-1)*2^half<M):((s+1)/2-1)*2^(half+1)<M:=by
 have e:((s+1)/2-1)*2^(half+1)=(((s+1)/2-1)*2)*2^half:=by rw[Nat.pow_succ];ac_rfl
 rw[e]
 exact Nat.lt_of_le_of_lt (Nat.mul_le_mul_right _ (by omega)) h
theorem halves_cost {M N na ul top:Nat} (h1:M≤N) (h2:N+1≤2*M) (h3:M≤na) (hu:ul≤na+N-M+1) (ht:top=(ul+N-1)/N):top*(8*(N*N))≤64*(na*na):=by
 have h4:top*N≤ul+N-1:=by rw[ht];exact Nat.div_mul_le_self _ _
 have h5:top*(8*(N*N))=8*((top*N)*N):=by
  rw[Nat.mul_left_comm,Nat.mul_assoc]
 have h6:(top*N)*N≤(4*na)*(2*na):=by
  refine Nat.mul_le_mul ?_ (by omega)
  omega
 have h7:(4*na)*(2*na)=8*(na*na):=by rw[Nat.mul_mul_mul_comm]
 omega
theorem halves_step {B N p r d U1:Nat} (_:0<d):(p+B^N*U1)/d=B^N*(U1/d)+(p+B^N*(U1%d))/d∧(p+B^N*U1)%d=(p+B^N*(U1%d))%d:=by
 have e:=Nat.div_add_mod U1 d
 have e1:p+B^N*U1=(p+B^N*(U1%d))+d*(B^N*(U1/d)):=by
  conv=>lhs;rw[←e]
  rw[Nat.mul_add]
  have:B^N*(d*(U1/d))=d*(B^N*(U1/d)):=by ac_rfl
  omega
 rw[e1,Nat.add_mul_div_left _ _ (by assumption),Nat.add_mul_mod_self_left]
 exact⟨by omega,rfl⟩
theorem val_take_drop (B:Nat) (xs:List Nat) (N:Nat):val B xs=val B (xs.take N)+B^N*val B (xs.drop N):=by
 rcases Nat.lt_or_ge xs.length N with h|h
 ·rw[List.take_of_length_le (by omega),List.drop_of_length_le (by omega)]
  simp[val]
 ·exact val_cut B xs N h
theorem shl_int {s half:Nat} (h:s*2^half<9223372036854775808) (hh:half≤64):bShl .i64 (s:Int) half=((s*2^half:Nat):Int):=by
 unfold bShl
 rw[show IntKind.i64.bits=64 from rfl,Nat.min_eq_left hh]
 have:((2:Int)^half)=((2^half:Nat):Int):=by simp
 rw[this]
 exact mulI h
section
section
variable {e u m nw dp a b:Nat} {t:Tb} {va vb:AV} {h:H} {K:AV→H→Prop}
theorem cmp_lt {x y:Nat} (h:x<y):decide (cmpI x y<0)=true:=by unfold cmpI;rw[if_pos h];rfl
theorem cmp_ge {x y:Nat} (h:y≤x):decide (cmpI x y<0)=false:=by
 unfold cmpI
 rw[if_neg (by omega)]
 split<;>rfl
set_option maxHeartbeats 2000000 in
theorem Halves_calls (hT:TbOK t) (he:Eng 7 h e u) (ht:Tune h u m nw dp t) (na:Nn h va a) (nb:Nn h vb b) (wa:wlen a≤4000) (wb:wlen b≤4000) (hnw:nw≤600000000)
  (hk0:b=0→h.wf→K (.tup [.sl none 0 0 none, .sl none 0 0 none, .int .i64 2]) h)
  (hk:0<b→∀q r h' m' dp',h'.wf→H.lee u h h'→Tune h' u m' nw dp' t→Sp m dp m' dp' nw (64*(wlen a*wlen a)) (lev (2*wlen b)+1)→Nf h.next h' q (a/b)→Nf h.next h' r (a%b)→K (.tup [q,r, .int .i64 0]) h'):
  ACalls Tryz.prog 88 [.ptr (some (e,0)),va,vb] h K:=by
 have ba:Big a:=wbig wa (by omega)
 have bb:Big b:=wbig wb (by omega)
 refine in_div_Engine_Halves (by simp) fun hw=> ?_
 unfold c_div_Engine_Halves
 simp only[go_sem]
 refine LenN_calls nb ?_
 rcases Nat.eq_zero_or_pos b with h0|h0
 ·have hz:wlen b=0:=by rw[h0];rfl
  simp only[go_sem,hz,eqT (show((0:Nat):Int)=0 from rfl)]
  exact hk0 h0
 have hM:wlen b≠0:=fun h=>by have:=wlen_eq_zero.1 h;omega
 have hbb:=blen_ge h0
 have hwb:=wlen_blen b
 obtain⟨M,hMe⟩:∃M,M=wlen b:=⟨_,rfl⟩
 rw[←hMe] at hM wb hk hwb⊢
 simp only[go_sem,eqF (show(M:Int)≠0 by omega)]
 refine lCmp_calls na nb ?_
 rcases Nat.lt_or_ge a b with hab|hab
 ·rw[Nat.div_eq_of_lt hab,Nat.mod_eq_of_lt hab] at hk
  simp only[go_sem,cmp_lt hab]
  refine Norm_calls na fun r h1 hw1 hl1 hr=> ?_
  simp only[go_sem]
  exact fun hw'=>hk h0 _ r h1 _ _ hw' hl1.lee (ht.mono hl1) ((Sp.refl m dp nw 0 0).le (Nat.zero_le _) (Nat.zero_le _)) (Nf.nil _ _ _) hr
 have hMa:M≤wlen a:=by rw[hMe];exact wlen_mono hab
 have hbla:blen b≤blen a:=blen_mono hab
 have hwa:=wlen_blen a
 obtain⟨f,rfl,rfl,G,E⟩:=Eng.path ht he
 have hu:=H.row_lt hw ht
 have l0:=H.lee_refl (f 7) h
 have htd:=tune_div ht
 simp only[go_sem,cmp_ge hab]
 refine loop_cut (fun ρ h'=>h'=h∧ρ 0= .ptr (some (f 0,0))∧ρ 1=va∧ρ 2=vb∧ρ 7= .sl none 0 0 none∧ρ 9= .int .i64 (M:Int)∧∃s half:Nat,ρ 10= .int .i64 (s:Int)∧ρ 11= .int .i64 (half:Int)∧M≤s*2^half∧(s-1)*2^half<M∧(2≤s∨half=0)∧1≤s) ?_ ?_
 ·refine⟨fun s ρ h'=>h'=h∧ρ 0= .ptr (some (f 0,0))∧ρ 1=va∧ρ 2=vb∧ρ 7= .sl none 0 0 none∧ρ 9= .int .i64 (M:Int)∧∃half:Nat,ρ 10= .int .i64 (s:Int)∧ρ 11= .int .i64 (half:Int)∧M≤s*2^half∧(s-1)*2^half<M∧(2≤s∨half=0)∧1≤s,M,⟨rfl,by first|rfl|trivial|assumption,by first|rfl|trivial|assumption,by first|rfl|trivial|assumption,by first|rfl|trivial|assumption,by first|rfl|trivial|assumption,0,by first|rfl|trivial|assumption,rfl,by simp,by simp;omega, .inr rfl,by omega⟩, ?_⟩
  rintro s ρ h' ⟨rfl,q0,q1,q2,q7,q9,half,q10,q11,i1,i2,i3,i4⟩
  have hhl:=(halved i1 i2 i3 i4 rfl)
  have hhalf:half<2^half:=Nat.lt_two_pow_self
  by_cases hD:t.div≤(s:Int)
  ·have hs4:4≤s:=by have:=hT.1;omega
   have c2:(((s+1:Nat):Int)).tdiv 2=(((s+1)/2:Nat):Int):=tdivN (b:=2)
   have hsM:s≤M:=by
    have h1:(s-1)*1≤(s-1)*2^half:=Nat.mul_le_mul_left _ (Nat.pow_pos (by omega))
    omega
   simp only[go_sem,q0,q1,q2,q9,q10,q11,G 0 (by omega) _ l0,G 1 (by omega) _ l0,G 2 (by omega) _ l0,G 3 (by omega) _ l0,G 4 (by omega) _ l0,G 5 (by omega) _ l0,G 6 (by omega) _ l0,htd,show decide ((s:Int)≥t.div)=true from decide_eq_true hD,incI (i:=s) (by omega),c2,wNI (n:=(s+1)/2) (by omega),incI (i:=half) (by omega)]
   refine⟨by decide, ?_⟩
   refine⟨(s+1)/2,by omega,trivial,by first|rfl|trivial|assumption,by first|rfl|trivial|assumption,by first|rfl|trivial|assumption,by first|rfl|trivial|assumption,by first|rfl|trivial|assumption,half+1,by first|rfl|trivial|assumption,by first|rfl|trivial|assumption,halved_up i1,halved_lo i2, .inl (by omega),by omega⟩
  ·simp only[go_sem,q0,q1,q2,q9,q10,q11,G 0 (by omega) _ l0,G 1 (by omega) _ l0,G 2 (by omega) _ l0,G 3 (by omega) _ l0,G 4 (by omega) _ l0,G 5 (by omega) _ l0,G 6 (by omega) _ l0,htd,show decide ((s:Int)≥t.div)=false from decide_eq_false hD]
   exact⟨trivial,by first|rfl|trivial|assumption,by first|rfl|trivial|assumption,by first|rfl|trivial|assumption,by first|rfl|trivial|assumption,by first|rfl|trivial|assumption,s,half,by first|rfl|trivial|assumption,by first|rfl|trivial|assumption,i1,i2,i3,i4⟩
 rintro ρ h' ⟨rfl,q0,q1,q2,q7,q9,s,half,q10,q11,i1,i2,i3,i4⟩
 obtain⟨N,hN⟩:∃N,N=s*2^half:=⟨_,rfl⟩
 obtain⟨n1,n2,n3⟩:=halved i1 i2 i3 i4 hN
 have hhalf:half<2^half:=Nat.lt_two_pow_self
 have e1:IntKind.u64.wrap (half:Int)=(half:Int):=wUn (by omega)
 have e2:=shl_int (s:=s) (half:=half) (by rw[←hN];omega) (by
  rcases Nat.lt_or_ge 64 half with h|h
  ·have:2^64≤2^half:=Nat.pow_le_pow_right (by omega) (by omega)
   omega
  ·exact h)
 rw[←hN] at e2
 clear i1 i2 i3 i4 n3
 have e3:=subI (a:=N) (b:=M) n1 (by omega)
 have e4:IntKind.i64.wrap (64*((N-M:Nat):Int))=((64*(N-M):Nat):Int):=mulI (a:=64) (b:=N-M) (by omega)
 have e5:IntKind.i64.wrap ((M:Int)-1)=((M-1:Nat):Int):=(wI (by omega) (by omega)).trans (by omega)
 obtain⟨ys,hv,hyd,hyl,hyv⟩:=nb
 obtain⟨idb,offb,cb,rfl⟩:=hv.form
 have hMl:M-1<ys.length:=by
  have:=wlen_len hyd
  rw[hyv,←hMe] at this
  omega
 obtain⟨jb,rfl,_,hg⟩:=hv.at hMl
 have hwd:=hyd _ (List.getElem_mem hMl)
 --the word on top
 have htop:b/2^(64*(M-1))=ys[M-1]:=by
  have hcut:=top_cut hyd
  rw[hyv,←hMe] at hcut
  have h1:=val_take_succ 18446744073709551616 ys (M-1) hMl
  rw[show M-1+1=M by omega,hcut.2] at h1
  have h2:=val_lt_take 18446744073709551616 (by omega) ys hyd (M-1)
  rw[h1,←two_B,Nat.add_mul_div_left _ _ (Nat.pow_pos (by omega)),Nat.div_eq_of_lt h2,Nat.zero_add]
 have htb:=blen_shr (d:=b) (c:=64*(M-1)) (by omega)
 rw[htop] at htb
 have hw0:0<ys[M-1]:=by
  rcases Nat.eq_zero_or_pos ys[M-1] with h|h
  ·rw[h,blen_zero] at htb
   omega
  ·exact h
 generalize ys[M-1]=w at*
 simp only[go_sem,q0,q1,q2,q7,q9,q10,q11,e1,e2,Int.toNat_natCast]
 refine⟨by omega, ?_⟩
 simp only[go_sem,q0,q1,q2,q7,q9,q10,q11,e1,e2,e3,e4,e5]
 refine⟨by omega,by omega, ?_⟩
 simp only[go_sem,q0,q1,q2,q7,q9,q10,q11,Int.toNat_natCast,Nat.mul_one,hg]
 refine LeadingZeros64_calls hwd hw0 fun lz hlz z1 z2=> ?_
 have hlzb:lz+blen w=64:=by
  have b1:=blen_ge hw0
  have b2:=blen_lt w
  have h1:2^(blen w-1+lz)<2^64:=by
   rw[Nat.pow_add]
   exact Nat.lt_of_le_of_lt (Nat.mul_le_mul_right _ b1.2) z2
  have h2:2^63<2^(blen w+lz):=by
   rw[Nat.pow_add]
   exact Nat.lt_of_le_of_lt z1 (Nat.mul_lt_mul_of_pos_right b2 (Nat.pow_pos (by omega)))
  have h3:=(Nat.pow_lt_pow_iff_right (show 1<2 by omega)).1 h1
  have h4:=(Nat.pow_lt_pow_iff_right (show 1<2 by omega)).1 h2
  omega
 obtain⟨S,hS⟩:∃S,S=64*(N-M)+lz:=⟨_,rfl⟩
 have e6:IntKind.i64.wrap (((64*(N-M):Nat):Int)+(lz:Int))=(S:Int):=by rw[hS];exact addI (by omega)
 have hSb:S+blen b=64*N:=by omega
 clear z1 z2 hlzb htb hw0 hwd hg
 have nb:Nn h' (.sl (some jb) offb ys.length cb) b:=⟨ys,hv,hyd,hyl,hyv⟩
 simp only[go_sem,q0,q1,q2,q7,q9,q10,q11,e6]
 refine lShl_calls nb (by omega) fun vd h1 hw1 hl1 hvd=> ?_
 simp only[go_sem,q0,q1,q2,q7,q9,q10,q11]
 refine lShl_calls (na.mono hl1) (by omega) fun vu h2 hw2 hl2 hvu=> ?_
 --the numbers that are divided
 have dhi:b*2^S<18446744073709551616^N:=by
  rw[two_B,←hSb,Nat.add_comm S,Nat.pow_add]
  exact Nat.mul_lt_mul_of_pos_right (blen_lt b) (Nat.pow_pos (by omega))
 have dlo:18446744073709551616^N≤2*(b*2^S):=by
  have h3:2^(blen b-1+S)≤b*2^S:=by rw[Nat.pow_add];exact Nat.mul_le_mul_right _ hbb.2
  have h4:18446744073709551616^N=2*2^(blen b-1+S):=by rw[two_B,←Nat.pow_succ'];congr 1;omega
  omega
 have udiv:a*2^S/(b*2^S)=a/b:=Nat.mul_div_mul_right _ _ (Nat.pow_pos (by omega))
 have umod:a*2^S%(b*2^S)=a%b*2^S:=Nat.mul_mod_mul_right _ _ _
 have hd0:0<b*2^S:=Nat.mul_pos h0 (Nat.pow_pos (by omega))
 have ub:a*2^S<2^(blen a+S):=by
  rw[Nat.pow_add]
  exact Nat.mul_lt_mul_of_pos_right (blen_lt a) (Nat.pow_pos (by omega))
 have uw:=wlen_bits ub
 have bD:Big (b*2^S):=big_pow dhi (by omega)
 generalize b*2^S=D at*
 obtain⟨us,hus,hud,hut,huv⟩:=hvu
 have hul:us.length=wlen (a*2^S):=by rw[←huv];exact top_len hud hut
 rw[←hul] at uw
 obtain⟨idu,cu,rfl⟩:=hus.form
 have hu0:0<us.length:=by
  rcases Nat.eq_zero_or_pos us.length with h|h
  ·exfalso
   have:us=[]:=List.eq_nil_of_length_eq_zero h
   rw[this] at huv
   simp only[val] at huv
   have:0<a*2^S:=Nat.mul_pos (by omega) (Nat.pow_pos (by omega))
   omega
  ·exact h
 obtain⟨top,htop⟩:∃top,top=(us.length+N-1)/N:=⟨_,rfl⟩
 have hcost:=halves_cost (N:=N) (ul:=us.length) n1 n2 hMa (by omega) htop
 have htopN:us.length≤top*N:=by
  rw[htop]
  have h3:=Nat.div_add_mod (us.length+N-1) N
  have h4:=Nat.mod_lt (us.length+N-1) (show 0<N by omega)
  rw[Nat.mul_comm] at h3
  omega
 have htopN2:top*N≤us.length+N:=by
  rw[htop]
  have:=Nat.div_mul_le_self (us.length+N-1) N
  omega
 have htop1:1≤top:=by
  rcases Nat.eq_zero_or_pos top with h|h
  ·rw[h] at htopN;omega
  ·exact h
 have htoplt:top≤us.length:=by
  rw[htop]
  refine Nat.div_le_of_le_mul ?_
  have:us.length+N≤N*us.length+1:=by
   obtain⟨p,rfl⟩:∃p,N=p+1:=⟨N-1,by omega⟩
   obtain⟨q,hq⟩:∃q,us.length=q+1:=⟨us.length-1,by omega⟩
   rw[hq,Nat.add_mul,Nat.mul_add]
   omega
  omega
 have e7:IntKind.i64.wrap ((us.length:Int)+(N:Int))=((us.length+N:Nat):Int):=addI (by omega)
 have e8:IntKind.i64.wrap (((us.length+N:Nat):Int)-1)=((us.length+N-1:Nat):Int):=(wI (by omega) (by omega)).trans (by omega)
 have e9:IntKind.i64.wrap ((((us.length+N-1:Nat):Int)).tdiv (N:Int))=(top:Int):=by rw[tdivN,←htop];exact wNI (by omega)
 have e10:IntKind.i64.wrap ((top:Int)-1)=(top:Int)-1:=wI (by omega) (by omega)
 clear htop
 simp only[go_sem,q0,q1,q2,q7,q9,q10,q11,e7,e8]
 refine⟨by omega, ?_⟩
 simp only[go_sem,q0,q1,q2,q7,q9,q10,q11,e9,e10]
 have l02:=H.le_trans hl1 hl2
 have ht2:=ht.mono l02
 have hn2:=l02.1
 have nd2:=hvd.mono hl2
 have hu1:f 7<h1.next:=Nat.lt_of_lt_of_le hu hl1.1
 have hu2:f 7<h2.next:=Nat.lt_of_lt_of_le hu1 hl2.1
 have tk:=fun j=>val_take_drop 18446744073709551616 (us.drop j) N
 refine loop_cut (fun ρ h4=>h4.wf∧H.lee (f 7) h2 h4∧(∃m' dp',Tune h4 (f 7) m' nw dp' t∧Sp m dp m' dp' nw (top*(8*(N*N))) (lev N+1))∧ρ 10= .int .i64 (N:Int)∧ρ 12= .int .i64 (S:Int)∧(∃vr,ρ 7=vr∧Nf h2.next h4 vr (val 18446744073709551616 us%D))∧∃vp P,ρ 15=vp∧Live 37 1 h2.next (NfB h2.next) h4 vp P∧P.length=top∧val (18446744073709551616^N) P.reverse=val 18446744073709551616 us/D) ?_ ?_
 ·refine⟨fun s ρ h4=>s≤top∧h4.wf∧H.lee (f 7) h2 h4∧(∃m' dp',Tune h4 (f 7) m' nw dp' t∧Sp m dp m' dp' nw ((top-s)*(8*(N*N))) (lev N+1))∧ρ 0= .ptr (some (f 0,0))∧ρ 10= .int .i64 (N:Int)∧ρ 12= .int .i64 (S:Int)∧ρ 13=vd∧ρ 14= .sl idu 0 us.length cu∧ρ 17= .int .i64 ((s:Int)-1)∧(∃vr,ρ 7=vr∧Nf h2.next h4 vr (val 18446744073709551616 (us.drop (s*N))%D))∧∃vp P,ρ 15=vp∧Live 37 1 h2.next (NfB h2.next) h4 vp P∧P.length=top-s∧val (18446744073709551616^N) P.reverse=val 18446744073709551616 (us.drop (s*N))/D,top,
   ⟨Nat.le_refl _,hw2,H.lee_refl _ _,⟨m,dp,ht2,(Sp.refl m dp nw 0 0).le (Nat.zero_le _) (Nat.zero_le _)⟩,by first|rfl|trivial|assumption,by first|rfl|trivial|assumption,by first|rfl|trivial|assumption,by first|rfl|trivial|assumption,by first|rfl|trivial|assumption,by first|rfl|trivial|assumption,⟨_,q7,by rw[List.drop_of_length_le htopN];simpa [val] using Nf.nil _ _ _⟩,_,[],rfl,Live.nil _ _ _ _ _ _,by simp,by rw[List.drop_of_length_le htopN];simp[val]⟩, ?_⟩
  rintro s ρ h4 ⟨hs,hw4,hl4,⟨m4,dp4,ht4,hsp4⟩,q0,q10,q12,q13,q14,q17,⟨vr,q7,hr⟩,vp,P,q15,hP,hPl,hPv⟩
  have l04:H.lee (f 7) h' h4:=l02.lee.trans hl4
  rcases Nat.eq_zero_or_pos s with h5|h5
  ·subst h5
   simp only[go_sem,q0,q10,q12,q13,q14,q17,show decide (((0:Nat):Int)-1≥0)=false from rfl]
   rw[Nat.zero_mul,List.drop_zero] at hr hPv
   exact⟨hw4,hl4,⟨m4,dp4,ht4,by simpa using hsp4⟩,by first|rfl|trivial|assumption,by first|rfl|trivial|assumption,⟨vr,q7,hr⟩,vp,P,q15,hP,hPl,hPv⟩
  ·obtain⟨j,rfl⟩:∃j,s=j+1:=⟨s-1,by omega⟩
   have ej:(((j+1:Nat):Int)-1)=(j:Int):=by omega
   rw[ej] at q17
   have hjN:(j+1)*N≤top*N:=Nat.mul_le_mul_right _ hs
   rw[Nat.add_mul,Nat.one_mul] at hjN
   have f1:IntKind.i64.wrap ((j:Int)*(N:Int))=((j*N:Nat):Int):=mulI (by omega)
   have f2:IntKind.i64.wrap ((j:Int)-1)=(j:Int)-1:=wI (by omega) (by omega)
   simp only[go_sem,q0,q10,q12,q13,q14,q17,show decide ((j:Int)≥0)=true from decide_eq_true (by omega),f1]
   refine dpiece_calls ((hus.monoE hu1 hl4).isN) hud (by omega) (by omega) (by omega) fun vp1 h5 hw5 hl5 hp1=> ?_
   have hpd:Dig ((us.drop (j*N)).take N):=fun z hz=>hud z (List.mem_of_mem_drop (List.mem_of_mem_take hz))
   have hpb:val 18446744073709551616 ((us.drop (j*N)).take N)<18446744073709551616^N:=Nat.lt_of_lt_of_le (val_lt 18446744073709551616 (by omega) _ hpd) (Nat.pow_le_pow_right (by omega) (by simp;omega))
   have tk:=tk (j*N)
   rw[List.drop_drop,show j*N+N=(j+1)*N by rw[Nat.add_mul,Nat.one_mul]] at tk
   have hst:=halves_step (B:=18446744073709551616) (N:=N) (p:=val 18446744073709551616 ((us.drop (j*N)).take N)) (d:=D) (U1:=val 18446744073709551616 (us.drop ((j+1)*N))) (r:=0) hd0
   rw[←tk] at hst
   generalize val 18446744073709551616 ((us.drop (j*N)).take N)=p at*
   have hmr:=Nat.mod_lt (val 18446744073709551616 (us.drop ((j+1)*N))) hd0
   generalize val 18446744073709551616 (us.drop ((j+1)*N))=U1 at*
   obtain⟨U0,hU0⟩:∃U0,U0=val 18446744073709551616 (us.drop (j*N)):=⟨_,rfl⟩
   rw[←hU0] at tk hst
   have hr5:=hr.mono hl5
   have bp:Big p:=big_pow hpb (by omega)
   have bR:Big (U1%D):=bD.le (Nat.le_of_lt hmr)
   simp only[go_sem,q0,q7,q10,q12,q13,q14,q15,q17,lit2a hp1.one hr5.one]
   refine Join2_calls hw5 (hp1.nn bp) (hr5.nn bR) bp bR (by omega) fun vj h6 hw6 hl6 hvj=> ?_
   have l46:=H.le_trans hl5 hl6
   have l06:=l04.trans l46.lee
   have hjlt:p+18446744073709551616^N*(U1%D)<D*18446744073709551616^N:=by
    have:18446744073709551616^N*(U1%D+1)≤18446744073709551616^N*D:=Nat.mul_le_mul_left _ hmr
    rw[Nat.mul_add,Nat.mul_one,Nat.mul_comm (18446744073709551616^N) D] at this
    omega
   have bj:Big (p+18446744073709551616^N*(U1%D)):=big_pow (n:=N+N) (Nat.lt_trans hjlt (mul_lt_pow dhi (Nat.le_refl _))) (by omega)
   simp only[go_sem,q0,q7,q10,q12,q13,q14,q15,q17]
   refine two_ok hT N (by omega) (by omega) h6 m4 nw dp4 (f 0) (he.monoE ht l06) (ht4.mono l46) h6 _ _ _ _ _ _ _ _ (H.lee_refl _ _) (ht4.mono l46) (hvj.nn bj) (((nd2.nn bD).monoE' ht2 hl4).mono l46) hjlt dlo dhi (by omega) fun x r7 h7 m7 dp7 hw7 hl7 ht7 hsp7 hx hr7=> ?_
   obtain⟨io,co,evp⟩:=hP.form
   subst evp
   have hiol:=hP.io_lt hw4
   have hP7:=(hP.mono NfB.grows l46).monoE (fun⟨v,e,hx,hb⟩ hl=>⟨v,e,hx.monoE hu2 hl,hb⟩) hu2 hl7
   have l27:H.lee (f 7) h2 h7:=(hl4.trans l46.lee).trans hl7
   have hqb:(p+18446744073709551616^N*(U1%D))/D<18446744073709551616^N:=(Nat.div_lt_iff_lt_mul hd0).2 (by rw[Nat.mul_comm (18446744073709551616^N) D];exact hjlt)
   have bq:Big ((p+18446744073709551616^N*(U1%D))/D):=big_pow hqb (by omega)
   have hb6:h2.next≤h6.next:=(hl4.trans l46.lee).1
   simp only[go_sem,q0,q7,q10,q12,q13,q14,q15,q17,k_lit1 hx.one]
   have hio6:∀j,io=some j→j<h6.next:=fun j hj=>by have:=hiol j hj;have:=l46.1;omega
   have hr8:=hr7.del hio6
   have hx8:=hx.del hio6
   have hle78:∀h8,(h7.del io).le h8→H.lee (f 7) h2 h8:=fun h8 hl8=>⟨Nat.le_trans l27.1 hl8.1,fun i r hi hr=>hl8.2 i r (by
    show(if some i=io then none else h7.rows i)=some r
    rw[if_neg ?_]
    ·exact l27.2 i r hi hr
    ·intro e
     exact absurd (H.row_lt hw2 hr) (Nat.not_lt.2 (hP.io_ge e.symm)))⟩
   refine Live.app2 NfB.grows (by omega) hw7 (Nat.le_trans hb6 hl7.1) hP7 rfl (y:=(p+18446744073709551616^N*(U1%D))/D) ⟨x,rfl,hx8.base hb6,bq⟩ rfl (by simp[hx.one]) (by omega) (by omega) rfl fun v8 h8 hw8 hle8 hs8=> ?_
   have hr8:=(hr8.mono hle8).base hb6
   have ht8:Tune h8 (f 7) m7 nw dp7 t:=hle8.2 _ _ (by
    show(if some (f 7)=io then none else h7.rows (f 7))=_
    rw[if_neg ?_]
    ·exact ht7
    ·intro e
     exact absurd hu2 (Nat.not_lt.2 (hP.io_ge e.symm)))
   simp only[go_sem,q0,q7,q10,q12,q13,q14,q15,q17,f2]
   rw[←hst.2] at hr8
   refine⟨j,by omega,by omega,hw8,hle78 _ hle8,⟨m7,dp7,ht8, ?_⟩,by first|rfl|trivial|assumption,by first|rfl|trivial|assumption,by first|rfl|trivial|assumption,by first|rfl|trivial|assumption,by first|rfl|trivial|assumption,by first|rfl|trivial|assumption,⟨r7,by first|rfl|trivial|assumption,by rw[←hU0];exact hr8⟩,v8,_,by first|rfl|trivial|assumption,hs8,by simp;omega, ?_⟩
   ·refine(hsp4.trans hsp7).le ?_ (by omega)
    have e1:top-j=(top-(j+1))+1:=by omega
    rw[e1,Nat.add_mul,Nat.one_mul]
    exact Nat.le_refl _
   ·rw[List.reverse_append,List.reverse_cons,List.reverse_nil,List.nil_append,List.singleton_append]
    simp only[val]
    rw[hPv,←hU0,hst.1,Nat.add_comm]
 rintro ρ h4 ⟨hw4,hl4,⟨m4,dp4,ht4,hsp4⟩,q10,q12,⟨vr,q7,hr⟩,vp,P,q15,hP,hPl,hPv⟩
 obtain⟨io,co,rfl⟩:=hP.form
 obtain⟨io,_,rfl,_,_,_⟩:=hP.get1 (j:=0) (by omega)
 have f3:IntKind.i64.wrap ((P.length:Int)-1)=((P.length-1:Nat):Int):=(wI (by omega) (by omega)).trans (by omega)
 simp only[go_sem,q7,q10,q12,q15,f3]
 refine loop_cut (fun ρ h5=>h5.wf∧H.lee (f 7) h2 h5∧Tune h5 (f 7) m4 nw dp4 t∧ρ 7=vr∧ρ 10= .int .i64 (N:Int)∧ρ 12= .int .i64 (S:Int)∧ρ 15= .sl (some io) 0 P.length co∧Nf h2.next h5 vr (val 18446744073709551616 us%D)∧∃n,Live 37 1 h2.next (NfB h2.next) h5 (.sl (some io) 0 n co) P.reverse∧n=P.length) ?_ ?_
 ·refine for_rule (fun i ρ h5=>2*i≤P.length∧h5.wf∧H.lee (f 7) h2 h5∧Tune h5 (f 7) m4 nw dp4 t∧ρ 7=vr∧ρ 10= .int .i64 (N:Int)∧ρ 12= .int .i64 (S:Int)∧ρ 15= .sl (some io) 0 P.length co∧ρ 19= .int .i64 (i:Int)∧ρ 20= .int .i64 ((P.length-1-i:Nat):Int)∧Nf h2.next h5 vr (val 18446744073709551616 us%D)∧Live 37 1 h2.next (NfB h2.next) h5 (.sl (some io) 0 P.length co) (turnL P i)) P.length
   ⟨by omega,hw4,hl4,ht4,q7,q10,q12,q15,by first|rfl|trivial|assumption,by first|rfl|trivial|assumption,hr,by rw[turnL_zero];exact hP⟩ (fun i ρ h hI=>by have:=hI.1;omega) ?_
  rintro i ρ h5 ⟨hi,hw5,hl5,ht5,q7,q10,q12,q15,q19,q20,hr,hP5⟩
  rcases Nat.lt_or_ge i (P.length-1-i) with h6|h6
  ·obtain⟨j,hj⟩:∃j,j=P.length-1-i:=⟨_,rfl⟩
   rw[←hj] at q20 h6
   have hjl:j<P.length:=by omega
   obtain⟨_,aj,ej,_,gj,rj⟩:=hP5.get1 (j:=j) (by rw[turnL_len];omega)
   injection ej with ej
   subst ej
   obtain⟨_,ai,ei,_,gi,ri⟩:=hP5.get1 (j:=i) (by rw[turnL_len];omega)
   injection ei with ei
   subst ei
   rw[turnL_get hjl,if_neg (by omega)] at rj
   rw[turnL_get (by omega),if_neg (by omega)] at ri
   have hstep:=turnL_step (P:=P) (i:=i) (by omega)
   rw[←hj] at hstep
   obtain⟨r1,hb1,hlt1,hr1,ho1,hf1,hp1⟩:=hP5.put1 hw5 (j:=i) (by rw[turnL_len];omega)
   have hP6:=hp1 aj _ rj
   have o1:∀{a:AV} {x:Nat},NfB h2.next (h5.del (some io)) [a] x→a.one=true:=by
    rintro a x ⟨v,e,hx,_⟩
    injection e with e
    subst e
    exact hx.one
   have hw6:=H.wf_set hw5 hlt1 {r1 with cells:=putAt r1.cells i [aj]}
   have hl6:=H.lee_put hw2 hl5 hb1 {r1 with cells:=putAt r1.cells i [aj]}
   have ht6:=ht5.put (show f 7≠io by omega) {r1 with cells:=putAt r1.cells i [aj]}
   have hr6:=Nf.put (r':={r1 with cells:=putAt r1.cells i [aj]}) hr hr1 ho1 (by decide)
   have hd6:(h5.set io {r1 with cells:=putAt r1.cells i [aj]}).del (some io)=h5.del (some io):=H.del_set
   simp only[go_sem,q7,q10,q12,q15,q19,q20,ltT h6]
   refine⟨by omega,by omega, ?_⟩
   simp only[go_sem,q7,q10,q12,q15,q19,q20,Int.toNat_natCast,Nat.mul_one,Nat.zero_add,gj]
   refine⟨by omega,by omega, ?_⟩
   simp only[go_sem,q7,q10,q12,q15,q19,q20,Int.toNat_natCast,Nat.mul_one,Nat.zero_add,gi]
   refine⟨by omega,by omega,(one_held (o1 rj)).1,by rw[(one_held (o1 rj)).2];rfl,by rw[(one_held (o1 rj)).2];simp[o1 rj], ?_⟩
   rw[(one_held (o1 rj)).2]
   simp only[go_sem,hr1]
   refine⟨by rw[ho1];simp,by omega, ?_⟩
   generalize h5.set io {r1 with cells:=putAt r1.cells i [aj]}=g6 at*
   obtain⟨r2,hb2,hlt2,hr2,ho2,hf2,hp2⟩:=hP6.put1 hw6 (j:=j) (by rw[List.length_set,turnL_len];omega)
   have hP7:=hp2 ai _ (by rw[hd6];exact ri)
   rw[hstep] at hP7
   have hw7:=H.wf_set hw6 hlt2 {r2 with cells:=putAt r2.cells j [ai]}
   have hl7:=H.lee_put hw2 hl6 hb2 {r2 with cells:=putAt r2.cells j [ai]}
   have ht7:=ht6.put (show f 7≠io by omega) {r2 with cells:=putAt r2.cells j [ai]}
   have hr7:=Nf.put (r':={r2 with cells:=putAt r2.cells j [ai]}) hr6 hr2 ho2 (by decide)
   refine⟨by omega,by omega,(one_held (o1 ri)).1,by rw[(one_held (o1 ri)).2];rfl,by rw[(one_held (o1 ri)).2];simp[o1 ri], ?_⟩
   rw[(one_held (o1 ri)).2]
   simp only[go_sem,hr2]
   refine⟨by rw[ho2];simp,by omega, ?_⟩
   generalize g6.set io {r2 with cells:=putAt r2.cells j [ai]}=g7 at*
   have f4:IntKind.i64.wrap ((j:Int)-1)=((P.length-1-(i+1):Nat):Int):=(wI (by omega) (by omega)).trans (by omega)
   simp only[go_sem,q7,q10,q12,q15,q19,q20,incI (i:=i) (by omega),f4]
   exact⟨by omega,hw7,hl7,ht7,by first|rfl|trivial|assumption,by first|rfl|trivial|assumption,by first|rfl|trivial|assumption,by first|rfl|trivial|assumption,by first|rfl|trivial|assumption,by first|rfl|trivial|assumption,hr7,hP7⟩
  ·rw[turnL_end h6] at hP5
   simp only[go_sem,q7,q10,q12,q15,q19,q20,ltF h6]
   exact⟨hw5,hl5,ht5,by first|rfl|trivial|assumption,by first|rfl|trivial|assumption,by first|rfl|trivial|assumption,by first|rfl|trivial|assumption,hr,_,hP5,rfl⟩
 ·rintro ρ h5 ⟨hw5,hl5,ht5,q7,q10,q12,q15,hr,n,hP5,rfl⟩
  have hPA:=hP5.isA NfB.grows
  simp only[go_sem,q7,q10,q12,q15]
  refine Join_calls (xs:=P.reverse) (by omega) (hPA.imp fun c x hx=>hx.nn) (NfB.big hPA) (by simp;omega) fun q h6 hw6 hl6 hq=> ?_
  rw[hPv,huv,udiv] at hq
  rw[huv,umod] at hr
  have bmD:Big (a%b*2^S):=by
   rw[←umod]
   exact bD.le (Nat.le_of_lt (Nat.mod_lt _ hd0))
  simp only[go_sem,q7,q10,q12,q15]
  refine lShr_calls ((hr.nn bmD).mono hl6) (by omega) fun r h7 hw7 hl7 hr7=> ?_
  rw[Nat.mul_div_cancel _ (Nat.pow_pos (by omega))] at hr7
  have hb5:h2.next≤h5.next:=hl5.1
  have hb6:=hl6.1
  simp only[go_sem]
  refine fun hw'=>hk h0 q r h7 m4 dp4 hw' (l02.lee.trans (hl5.trans (H.le_trans hl6 hl7).lee)) ((ht5.mono hl6).mono hl7) (hsp4.le hcost ?_) ((hq.mono hl7).base (by omega)) (hr7.base (by omega))
  have:lev N≤lev (2*M):=lev_of (by omega)
  omega
end
end
section
def dvW (n b:Nat):Nat:=(64*n+1-b)/64+1
def dvC (n b:Nat):Nat:=max (64*(n*n)) (rcC (64*n+2) b (64*n)+8*(n*dvW n b)+8*(dvW n b*((b+63)/64)))
def dvD (n b:Nat):Nat:=max (lev (2*((b+63)/64))+1) (max (rcD (64*n+2) b (64*n)) (lev (n+1)))
theorem newton_le {a b v k:Nat} (hv:v=2^k/b):a*v/2^k*b≤a:=by
 have h1:v*b≤2^k:=by rw[hv];exact Nat.div_mul_le_self _ _
 have h2:a*v/2^k*b*2^k≤a*2^k:=by
  have h3:a*v/2^k*2^k≤a*v:=Nat.div_mul_le_self _ _
  calc a*v/2^k*b*2^k=a*v/2^k*2^k*b:=by ac_rfl
   _≤a*v*b:=Nat.mul_le_mul_right _ h3
   _=a*(v*b):=Nat.mul_assoc _ _ _
   _≤a*2^k:=Nat.mul_le_mul_left _ h1
 exact Nat.le_of_mul_le_mul_right h2 (Nat.pow_pos (by omega))
section
variable {e u m nw dp a b:Nat} {t:Tb} {va vb:AV} {h:H} {K:AV→H→Prop}
theorem dnewton_calls (he:Eng 7 h e u) (ht:Tune h u m nw dp t) (na:Nn h va a) (nb:Nn h vb b) (wa:wlen a≤4000) (wb:wlen b≤4000) (hba:wlen b≤wlen a) (hb0:0<b) (hnw:nw≤600000000)
  (hk:∀q r h' m' dp',h'.wf→H.lee u h h'→Tune h' u m' nw dp' t→Sp m dp m' dp' nw (dvC (wlen a) (blen b)) (dvD (wlen a) (blen b))→Nf h.next h' q (a/b)→Nf h.next h' r (a%b)→K (.tup [q,r]) h'):
  ACalls Tryz.prog 87 [.ptr (some (e,0)),va,vb] h K:=by
 have ba:Big a:=wbig wa (by omega)
 have bb:Big b:=wbig wb (by omega)
 refine in_div_Engine_newton (by simp) fun hw=> ?_
 unfold c_div_Engine_newton
 obtain⟨f,rfl,rfl,G,E⟩:=Eng.path ht he
 have hu:=H.row_lt hw ht
 have l0:=H.lee_refl (f 7) h
 have hbb:=blen_ge hb0
 have hwb:=wlen_blen b
 obtain⟨n,hn⟩:∃n,n=wlen a:=⟨_,rfl⟩
 have hwa:=wlen_blen a
 have han:a<2^(64*n):=by rw[hn,←two_B];exact wlen_lt a
 rw[←hn] at hk hba wa
 have e1:IntKind.i64.wrap (64*(n:Int))=((64*n:Nat):Int):=mulI (a:=64) (b:=n) (by omega)
 simp only[go_sem]
 refine LenN_calls na ?_
 rw[←hn]
 simp only[go_sem,e1,G 0 (by omega) _ l0]
 refine Recip_calls (E 1 (by omega)) ht nb hb0 (by omega) (by omega) (by omega) fun v h1 m1 dp1 hw1 hl1 ht1 hsp1 hv=> ?_
 have wv:wlen (2^(64*n)/b)≤dvW n (blen b):=by
  have:=wlen_two (pow_div_le (m:=64*n) (b:=blen b-1) hb0 hbb.2 (by omega))
  have e:64*n-(blen b-1)=64*n+1-blen b:=by omega
  rw[e] at this
  exact this
 have hdvw:dvW n (blen b)≤n+1:=by unfold dvW;omega
 have hle:=newton_le (a:=a) (b:=b) (k:=64*n) rfl
 have bv:Big (2^(64*n)/b):=wbig wv (by omega)
 generalize 2^(64*n)/b=V at*
 simp only[go_sem,G 0 (by omega) _ hl1,G 1 (by omega) _ hl1,G 2 (by omega) _ hl1]
 refine Mul2_calls ((E 3 (by omega)).monoE ht hl1) ht1 (na.monoE' ht hl1) (hv.nn bv) (by omega) (by omega) (by omega) fun p h2 m2 dp2 hw2 hl2 ht2 hsp2 hp=> ?_
 have bp:Big (a*V):=mul_big (show wlen a≤n by omega) wv (by omega)
 have c2:costT t (wlen a) (wlen V)≤8*(n*dvW n (blen b)):=Nat.le_trans (costT_le (by omega) (by omega)) (Nat.mul_le_mul_left 8 (Nat.mul_le_mul (by omega) wv))
 have d2:lev2 (wlen a) (wlen V)≤lev (n+1):=lev_of (by omega)
 simp only[go_sem]
 refine lShr_calls (hp.nn bp) (by omega) fun q h3 hw3 hl3 hq=> ?_
 have hqv:a*V/2^(64*n)≤V:=by
  refine Nat.div_le_of_le_mul ?_
  exact Nat.mul_le_mul_right _ (Nat.le_of_lt han)
 have wq:wlen (a*V/2^(64*n))≤dvW n (blen b):=Nat.le_trans (wlen_mono hqv) wv
 generalize a*V/2^(64*n)=Q at*
 have bQ:Big Q:=wbig wq (by omega)
 have l03:H.lee (f 7) h h3:=(hl1.trans hl2).trans hl3.lee
 simp only[go_sem,G 0 (by omega) _ l03,G 1 (by omega) _ l03,G 2 (by omega) _ l03]
 refine Mul2_calls ((E 3 (by omega)).monoE ht l03) (ht2.mono hl3) (hq.nn bQ) (nb.monoE' ht l03) (by omega) (by omega) (by omega) fun p2 h4 m4 dp4 hw4 hl4 ht4 hsp4 hp2=> ?_
 have bp2:Big (Q*b):=ba.le hle
 have c4:costT t (wlen Q) (wlen b)≤8*(dvW n (blen b)*((blen b+63)/64)):=Nat.le_trans (costT_le (by omega) (by omega)) (Nat.mul_le_mul_left 8 (Nat.mul_le_mul wq (by omega)))
 have d4:lev2 (wlen Q) (wlen b)≤lev (n+1):=lev_of (by omega)
 have l04:=l03.trans hl4
 simp only[go_sem]
 refine lSub_calls (na.monoE' ht l04) (hp2.nn bp2) (fun h=>absurd h (by omega)) fun _ r h5 hw5 hl5 hr=> ?_
 have l05:H.lee (f 7) h h5:=l04.trans hl5.lee
 have nb5:=nb.monoE' ht l05
 have hb0':h.next≤h5.next:=l05.1
 have ht5:=ht4.mono hl5
 have hq5:=(hq.monoE (Nat.lt_of_lt_of_le hu (hl1.trans hl2).1) hl4).mono hl5
 have hspF:Sp m dp m4 dp4 nw (dvC n (blen b)) (dvD n (blen b)):=by
  refine((hsp1.trans hsp2).trans hsp4).le ?_ ?_
  ·unfold dvC;omega
  ·unfold dvD;omega
 clear hsp1 hsp2 hsp4 c2 c4 d2 d4
 simp only[go_sem]
 refine loop_cut (fun ρ h'=>h'.wf∧h5.le h'∧Nf h.next h' (ρ 6) (a/b)∧Nf h.next h' (ρ 7) (a%b)) ?_ ?_
 ·refine⟨fun s ρ h'=>h'.wf∧h5.le h'∧ρ 2=vb∧∃Q',Nf h.next h' (ρ 6) Q'∧Nf h.next h' (ρ 7) s∧a=Q'*b+s,a-Q*b,⟨hw5,H.le_refl _,by first|rfl|trivial|assumption,Q,hq5.base (hl1.trans hl2).1,hr.base l04.1,by omega⟩, ?_⟩
  rintro s ρ h6 ⟨hw6,hl6,q2,Q',hQ,hs,hinv⟩
  have hQa:Q'≤a:=by
   have:=Nat.le_mul_of_pos_right Q' hb0
   omega
  simp only[go_sem,q2]
  refine lCmp_calls (hs.nn (ba.le (by omega))) (nb5.mono hl6) ?_
  rcases Nat.lt_or_ge s b with hc|hc
  ·have hd:decide (cmpI s b≥0)=false:=by unfold cmpI;rw[if_pos hc];rfl
   have e1:a/b=Q':=by
    rw[hinv,Nat.mul_comm,Nat.mul_add_div hb0,Nat.div_eq_of_lt hc,Nat.add_zero]
   have e2:a%b=s:=by
    rw[hinv,Nat.mul_comm,Nat.mul_add_mod,Nat.mod_eq_of_lt hc]
   simp only[go_sem,q2,hd]
   exact⟨hw6,hl6,by rw[e1];exact hQ,by rw[e2];exact hs⟩
  ·have hd:decide (cmpI s b≥0)=true:=by
    unfold cmpI
    rw[if_neg (by omega)]
    split<;>rfl
   simp only[go_sem,q2,hd]
   refine lSub_calls (hs.nn (ba.le (by omega))) (nb5.mono hl6) (fun h=>absurd h (by omega)) fun _ s' h7 hw7 hl7 hs'=> ?_
   simp only[go_sem,q2]
   refine One_calls (x:=1) (by decide) fun o h8 hw8 hl8 ho=> ?_
   simp only[go_sem,q2]
   refine lAdd_calls ((hQ.nn (ba.le hQa)).mono (H.le_trans hl7 hl8)) (ho.nn (word_big (by decide))) fun q' h9 hw9 hl9 hq'=> ?_
   have hb6:=hl6.1
   have hb7:=hl7.1
   have hb8:=hl8.1
   simp only[go_sem,q2]
   refine⟨s-b,by omega,hw9,(H.le_trans hl6 (H.le_trans hl7 (H.le_trans hl8 hl9))),by first|rfl|trivial|assumption,Q'+1,hq'.base (by omega),(hs'.mono (H.le_trans hl8 hl9)).base (by omega), ?_⟩
   rw[Nat.add_mul,Nat.one_mul]
   omega
 ·rintro ρ h6 ⟨hw6,hl6,hQ,hR⟩
  simp only[go_sem]
  exact fun hw'=>hk _ _ h6 _ _ hw' (l05.trans hl6.lee) (ht5.mono hl6) hspF hQ hR
set_option maxRecDepth 100000 in
theorem DivMod2_calls (hT:TbOK t) (he:Eng 7 h e u) (ht:Tune h u m nw dp t) (na:Nn h va a) (nb:Nn h vb b) (wa:wlen a≤4000) (wb:wlen b≤4000) (hnw:nw≤600000000)
  (hk0:b=0→h.wf→K (.tup [.sl none 0 0 none, .sl none 0 0 none, .int .i64 2]) h)
  (hk:0<b→∀q r h' m' dp',h'.wf→H.lee u h h'→Tune h' u m' nw dp' t→Sp m dp m' dp' nw (dvC (wlen a) (blen b)) (dvD (wlen a) (blen b))→Nf h.next h' q (a/b)→Nf h.next h' r (a%b)→K (.tup [q,r, .int .i64 0]) h'):
  ACalls Tryz.prog 67 [.ptr (some (e,0)),va,vb] h K:=by
 have ba:Big a:=wbig wa (by omega)
 have bb:Big b:=wbig wb (by omega)
 refine in_div_Engine_DivMod (by simp) fun hw=> ?_
 unfold c_div_Engine_DivMod
 obtain⟨f,rfl,rfl,G,E⟩:=Eng.path ht he
 have l0:=H.lee_refl (f 7) h
 have htd:=tune_div ht
 have htr:=tune_recip ht
 have hT1:=hT.1
 have hwb:=wlen_blen b
 have hC1:0<b→longCost a b≤dvC (wlen a) (blen b):=fun h0=>by
  have hb1:wlen b≠0:=fun h=>by have:=wlen_eq_zero.1 h;omega
  have h1:longCost a b≤64*(wlen a*wlen a):=by
   unfold longCost
   split
   ·exact Nat.zero_le _
   ·have h2:(wlen a-wlen b+1)*(wlen b+1)≤(2*wlen a)*(2*wlen a):=Nat.mul_le_mul (by omega) (by omega)
    have h3:(2*wlen a)*(2*wlen a)=4*(wlen a*wlen a):=by rw[Nat.mul_mul_mul_comm]
    omega
  unfold dvC
  omega
 have hspL:0<b→Sp m dp (m+longCost a b) dp nw (dvC (wlen a) (blen b)) (dvD (wlen a) (blen b)):=fun h0=>by
  have:=hC1 h0
  exact⟨by omega,by omega,by omega,by omega⟩
 have long:0<b→∀K0:AV→H→Prop,(∀q r h',h'.wf→H.lee (f 7) h h'→Tune h' (f 7) (m+longCost a b) nw dp t→Nf h.next h' q (a/b)→Nf h.next h' r (a%b)→K0 (.tup [q,r, .int .i64 0]) h')→ACalls Tryz.prog 86 [.ptr (some (f 2,0)),va,vb] h K0:=fun h0 K0 hK=>Long_calls (E 2 (by omega)) ht na nb ba bb (fun h=>absurd h (by omega)) fun _ q r h' a1 a2 a3 a4 a5=>hK q r h' a1 a2 a3 a4 a5
 simp only[go_sem]
 refine LenN_calls na ?_
 simp only[go_sem]
 refine LenN_calls nb ?_
 rcases Nat.eq_zero_or_pos b with h0|h0
 ·have hz:wlen b=0:=by rw[h0];rfl
  simp only[go_sem,hz,eqT (show((0:Nat):Int)=0 from rfl)]
  exact hk0 h0
 have hM:wlen b≠0:=fun h=>by have:=wlen_eq_zero.1 h;omega
 have hwa0:=hwb
 rcases Nat.lt_or_ge (wlen a) (wlen b) with c1|c1
 ·simp only[go_sem,eqF (show((wlen b:Nat):Int)≠0 by omega),ltT c1,G 0 (by omega) _ l0,G 1 (by omega) _ l0]
  refine long h0 _ fun q r h1 hw1 hl1 ht1 hq hr=> ?_
  simp only[go_sem]
  exact fun hw'=>hk h0 q r h1 _ _ hw' hl1 ht1 (hspL h0) hq hr
 by_cases c2:((wlen b:Nat):Int)<t.div
 ·simp only[go_sem,eqF (show((wlen b:Nat):Int)≠0 by omega),ltF c1,G 0 (by omega) _ l0,G 1 (by omega) _ l0,G 2 (by omega) _ l0,G 3 (by omega) _ l0,G 4 (by omega) _ l0,G 5 (by omega) _ l0,G 6 (by omega) _ l0,htd,decide_eq_true c2]
  refine long h0 _ fun q r h1 hw1 hl1 ht1 hq hr=> ?_
  simp only[go_sem]
  exact fun hw'=>hk h0 q r h1 _ _ hw' hl1 ht1 (hspL h0) hq hr
 have e1:=subI (a:=wlen a) (b:=wlen b) c1 (by omega)
 have e2:=incI (i:=wlen a-wlen b) (by omega)
 by_cases c3:((wlen a-wlen b+1:Nat):Int)<t.div
 ·simp only[go_sem,eqF (show((wlen b:Nat):Int)≠0 by omega),ltF c1,G 0 (by omega) _ l0,G 1 (by omega) _ l0,G 2 (by omega) _ l0,G 3 (by omega) _ l0,G 4 (by omega) _ l0,G 5 (by omega) _ l0,G 6 (by omega) _ l0,htd,decide_eq_false c2,e1,e2,decide_eq_true c3]
  refine long h0 _ fun q r h1 hw1 hl1 ht1 hq hr=> ?_
  simp only[go_sem]
  exact fun hw'=>hk h0 q r h1 _ _ hw' hl1 ht1 (hspL h0) hq hr
 by_cases c4:t.recip≤((wlen b:Nat):Int)
 ·simp only[go_sem,eqF (show((wlen b:Nat):Int)≠0 by omega),ltF c1,G 0 (by omega) _ l0,G 1 (by omega) _ l0,G 2 (by omega) _ l0,G 3 (by omega) _ l0,G 4 (by omega) _ l0,G 5 (by omega) _ l0,G 6 (by omega) _ l0,htd,htr,decide_eq_false c2,e1,e2,decide_eq_false c3,show decide (((wlen b:Nat):Int)≥t.recip)=true from decide_eq_true c4,show decide (((wlen a:Nat):Int)≤16384)=true from decide_eq_true (by omega)]
  refine dnewton_calls he ht na nb wa wb c1 h0 hnw fun q r h1 m1 dp1 hw1 hl1 ht1 hsp hq hr=> ?_
  simp only[go_sem]
  exact fun hw'=>hk h0 q r h1 _ _ hw' hl1 ht1 hsp hq hr
 ·simp only[go_sem,eqF (show((wlen b:Nat):Int)≠0 by omega),ltF c1,G 0 (by omega) _ l0,G 1 (by omega) _ l0,G 2 (by omega) _ l0,G 3 (by omega) _ l0,G 4 (by omega) _ l0,G 5 (by omega) _ l0,G 6 (by omega) _ l0,htd,htr,decide_eq_false c2,e1,e2,decide_eq_false c3,show decide (((wlen b:Nat):Int)≥t.recip)=false from decide_eq_false c4]
  refine Halves_calls hT he ht na nb wa wb hnw (fun h=>absurd h (by omega)) fun _ q r h1 m1 dp1 hw1 hl1 ht1 hsp hq hr=> ?_
  simp only[go_sem]
  refine fun hw'=>hk h0 q r h1 _ _ hw' hl1 ht1 (hsp.le ?_ ?_) hq hr
  ·unfold dvC;omega
  ·unfold dvD;rw[←hwb];omega
theorem Exact_calls (hT:TbOK t) (he:Eng 7 h e u) (ht:Tune h u m nw dp t) (na:Nn h va a) (nb:Nn h vb b) (wa:wlen a≤4000) (wb:wlen b≤4000) (hnw:nw≤600000000)
  (hk0:b=0→h.wf→K (.tup [.sl none 0 0 none, .int .i64 2]) h)
  (hk1:0<b→a%b≠0→∀h' m' dp',h'.wf→H.lee u h h'→Tune h' u m' nw dp' t→K (.tup [.sl none 0 0 none, .int .i64 5]) h')
  (hk:0<b→a%b=0→∀q h' m' dp',h'.wf→H.lee u h h'→Tune h' u m' nw dp' t→Nf h.next h' q (a/b)→K (.tup [q, .int .i64 0]) h'):
  ACalls Tryz.prog 77 [.ptr (some (e,0)),va,vb] h K:=by
 refine in_div_Engine_Exact (by simp) fun hw=> ?_
 unfold c_div_Engine_Exact
 simp only[go_sem]
 refine DivMod2_calls hT he ht na nb wa wb hnw (fun h0 _=> ?_) fun h0 q r h1 m1 dp1 hw1 hl1 ht1 _ hq hr=> ?_
 ·simp only[go_sem,show((2:Int) !=0)=true from rfl]
  exact hk0 h0
 ·have bb:Big b:=wbig wb (by omega)
  have hm:=Nat.mod_lt a h0
  simp only[go_sem,show((0:Int) !=0)=false from rfl]
  refine Zero_calls (hr.nn (bb.le (Nat.le_of_lt hm))) ?_
  by_cases hz:a%b=0
  ·simp only[go_sem,decide_eq_true hz,Bool.not_true]
   exact fun hw'=>hk h0 hz q h1 _ _ hw' hl1 ht1 hq
  ·simp only[go_sem,decide_eq_false hz,Bool.not_false]
   exact fun hw'=>hk1 h0 hz h1 _ _ hw' hl1 ht1
end
end
section
def sg (b:Bool) (x:Nat):Int:=if b=true then-(x:Int) else(x:Int)
theorem sg_abs (b:Bool) (x:Nat):(sg b x).natAbs=x:=by cases b<;>simp[sg]
theorem sg_zero (b:Bool):sg b 0=0:=by cases b<;>rfl
theorem sg_made {b:Bool} {x:Nat}:sg (b&&decide (x≠0)) x=sg b x:=by
 by_cases h:x=0
 ·subst h;rw[sg_zero,sg_zero]
 ·rw[decide_eq_true h,Bool.and_true]
theorem sg_mul {a b:Bool} {x y:Nat}:sg a x*sg b y=sg (a !=b) (x*y):=by
 cases a<;>cases b<;>simp[sg,Int.neg_mul,Int.mul_neg]
theorem sg_tdiv {a b:Bool} {x y:Nat}:(sg a x).tdiv (sg b y)=sg (a !=b) (x/y):=by
 cases a<;>cases b<;>simp[sg,Int.neg_tdiv,Int.tdiv_neg,tdivN]
theorem sg_tmod {a b:Bool} {x y:Nat}:(sg a x).tmod (sg b y)=sg a (x%y):=by
 cases a<;>cases b<;>simp[sg,Int.neg_tmod,Int.tmod_neg,tmodN]
def Zn (h:H) (v:AV) (z:Int):Prop:=∃w b x,v= .agg [w, .bool b]∧Nn h w x∧z=sg b x
def Zf (c:Nat) (h:H) (v:AV) (z:Int):Prop:=∃w b x,v= .agg [w, .bool b]∧Nf c h w x∧(x=0→b=false)∧z=sg b x
def Zr (h:H) (v:AV) (z:Int):Prop:=∃w b x,v= .agg [w, .bool b]∧Num 4294967296 h w x∧(x=0→b=false)∧z=sg b x
theorem Zn.mono {h h':H} {v:AV} {z:Int} (hv:Zn h v z) (hl:h.le h'):Zn h' v z:=by
 obtain⟨w,b,x,e,h1,h2⟩:=hv
 exact⟨w,b,x,e,h1.mono hl,h2⟩
theorem Zf.mono {c:Nat} {h h':H} {v:AV} {z:Int} (hv:Zf c h v z) (hl:h.le h'):Zf c h' v z:=by
 obtain⟨w,b,x,e,h1,h2⟩:=hv
 exact⟨w,b,x,e,h1.mono hl,h2⟩
theorem Zr.mono {h h':H} {v:AV} {z:Int} (hv:Zr h v z) (hl:h.le h'):Zr h' v z:=by
 obtain⟨w,b,x,e,h1,h2⟩:=hv
 exact⟨w,b,x,e,h1.mono hl,h2⟩
theorem Zn.monoE {u m nw dp:Nat} {t:Tb} {h h':H} {v:AV} {z:Int} (ht:Tune h u m nw dp t) (hv:Zn h v z) (hl:H.lee u h h'):Zn h' v z:=by
 obtain⟨w,b,x,e,h1,h2⟩:=hv
 exact⟨w,b,x,e,h1.monoE ht hl,h2⟩
theorem Zf.monoE {c u:Nat} {h h':H} {v:AV} {z:Int} (hub:u<c) (hv:Zf c h v z) (hl:H.lee u h h'):Zf c h' v z:=by
 obtain⟨w,b,x,e,h1,h2⟩:=hv
 exact⟨w,b,x,e,h1.monoE hub hl,h2⟩
theorem Num.monoE {B u m nw dp:Nat} {t:Tb} {h h':H} {v:AV} {n:Nat} (ht:Tune h u m nw dp t) (hv:Num B h v n) (hl:H.lee u h h'):Num B h' v n:=by
 obtain⟨xs,h1,h2⟩:=hv
 exact⟨xs,h1.monoE ht hl,h2⟩
theorem Zr.monoE {u m nw dp:Nat} {t:Tb} {h h':H} {v:AV} {z:Int} (ht:Tune h u m nw dp t) (hv:Zr h v z) (hl:H.lee u h h'):Zr h' v z:=by
 obtain⟨w,b,x,e,h1,h2⟩:=hv
 exact⟨w,b,x,e,h1.monoE ht hl,h2⟩
theorem Zf.base {c d:Nat} {h:H} {v:AV} {z:Int} (hv:Zf c h v z) (hd:d≤c):Zf d h v z:=by
 obtain⟨w,b,x,e,h1,h2⟩:=hv
 exact⟨w,b,x,e,h1.base hd,h2⟩
theorem Zf.zn {c:Nat} {h:H} {v:AV} {z:Int} (hv:Zf c h v z) (hb:Big z.natAbs):Zn h v z:=by
 obtain⟨w,b,x,e,h1,h2,rfl⟩:=hv
 rw[sg_abs] at hb
 exact⟨w,b,x,e,h1.nn hb,rfl⟩
theorem Nf.leeT {b i x:Nat} {h g:H} {v:AV} {r:Row} {T:TypeId} (hv:Nf b h v x) (hr:h.rows i=some r) (ho:r.own=some T) (hT:T≠73) (hl:H.lee i h g):Nf b g v x:=by
 obtain⟨xs,⟨id,c,rfl,h1⟩,h2⟩:=hv
 refine⟨xs,⟨id,c,rfl, ?_⟩,h2⟩
 rcases h1 with h1|⟨j,q,rfl,hb,hq,hqo,h3⟩
 ·exact .inl h1
 ·refine .inr ⟨j,q,rfl,hb,hl.2 j q ?_ hq,hqo,h3⟩
  rintro rfl
  rw[hr] at hq
  injection hq with hq
  rw[←hq,ho] at hqo
  injection hqo with hqo
  exact hT hqo
theorem Num.leeT {B i n:Nat} {h g:H} {v:AV} {r:Row} (hv:Num B h v n) (hr:h.rows i=some r) (ho:r.own≠none∧r.esz≠1) (hl:H.lee i h g):Num B g v n:=by
 obtain⟨xs,h1,h2⟩:=hv
 exact⟨xs,IsW.monoE hr ho.1 ho.2 h1 hl,h2⟩
--rows made
theorem new2 {h h':H} {r1 r2:Row} (hw:h.wf) (hh:(h.new r1).new r2=h'):h.le h'∧h'.wf∧h'.next=h.next+2∧h'.rows h.next=some r1∧h'.rows (h.next+1)=some r2:=by
 subst hh
 have hw1:=H.wf_new hw r1
 refine⟨H.le_new hw1 (H.le_new hw (H.le_refl h) r1) r2,H.wf_new hw1 r2,rfl, ?_,H.rows_new _ _⟩
 rw[H.rows_new_ne (by simp[H.new]),H.rows_new]
theorem new3 {h h':H} {r1 r2 r3:Row} (hw:h.wf) (hh:((h.new r1).new r2).new r3=h'):h.le h'∧h'.wf∧h'.next=h.next+3∧h'.rows h.next=some r1∧h'.rows (h.next+1)=some r2∧h'.rows (h.next+2)=some r3:=by
 subst hh
 obtain⟨a1,a2,a3,a4,a5⟩:=new2 (r1:=r1) (r2:=r2) hw rfl
 have l:=H.le_new a2 (H.le_refl _) r3
 exact⟨H.le_trans a1 l,H.wf_new a2 r3,rfl,l.2 _ _ a4,l.2 _ _ a5,H.rows_new _ _⟩
theorem g2 {h:H} {i:Nat} {T:Option TypeId} {a b:AV} (hr:h.rows i=some ⟨T,2,[a,b]⟩):h.get i 0=some a∧h.get i 1=some b∧h.gets i 0 2=some [a,b]:=by
 rw[H.get_of hr,H.get_of hr,H.gets_of hr (by simp)]
 exact⟨rfl,rfl,rfl⟩
theorem bldI {s:AV} {b:Bool} (hs:s.one=true):abuild [.sl none 0 0 none, .bool false] [(0,1,s),(1,1, .bool b)]=some [s, .bool b]:=by
 cases s<;>first|rfl|simp[AV.one] at hs
theorem all2 {s:AV} {b:Bool} (hs:s.one=true):([s, .bool b].all fun x=>x.one)=true:=by
 simp only[List.all_cons,List.all_nil,hs,Bool.true_and,Bool.and_true]
 rfl
theorem put2 {h h':H} {R:Nat} {T:TypeId} {a b:AV} {l:List AV} {K:AV→H→Prop} (hw:h.wf) (hw':h'.wf) (hl:h.le h') (hge:h.next≤R) (hr:h'.rows R=some ⟨some T,2,l⟩) (hll:l.length=2)
  (hk:∀g:H,g.wf→h.le g→g.gets R 0 2=some [a,b]→g.rows R=some ⟨some T,2,[a,b]⟩→H.lee R h' g→K .junk g):putK (h'.rows R) R 0 2 [a,b] h' K:=by
 have e:putAt l 0 [a,b]=[a,b]:=by simp[putAt,hll]
 rw[hr]
 refine⟨by simp,by simp[hll], ?_⟩
 show K .junk (h'.set R ⟨some T,2,putAt l 0 [a,b]⟩)
 rw[e]
 exact hk _ (H.wf_set hw' (H.row_lt hw' hr) _) (H.le_set hw hl hge _) (g2 (H.rows_set _ _ _)).2.2 (H.rows_set _ _ _) (H.lee_set _)
section
variable {v u wa wb:AV} {ba bb:Bool} {x y:Nat} {h:H} {K:AV→H→Prop}
theorem made_calls (nv:Nn h v x) (hk:∀h',h'.wf→h.le h'→K (.agg [v, .bool (ba&&decide (x≠0))]) h'):ACalls Tryz.prog 74 [v, .bool ba] h K:=by
 refine in_num_made (by simp) fun hw=> ?_
 unfold c_num_made
 have hl1:=H.le_new hw (H.le_refl h) ⟨some 39,2,[.sl none 0 0 none, .bool false]⟩
 have hw1:=H.wf_new hw ⟨some 39,2,[.sl none 0 0 none, .bool false]⟩
 have hr1:=H.rows_new h ⟨some 39,2,[.sl none 0 0 none, .bool false]⟩
 have e1:(!decide (x=0))=decide (x≠0):=by simp
 cases ba
 ·simp only[go_sem,bldI nv.one]
  simp only[List.length_cons,List.length_nil,Nat.zero_add,Nat.reduceAdd]
  refine⟨trivial,all2 nv.one,put2 hw hw1 hl1 (Nat.le_refl _) hr1 rfl fun g hwg hlg hg _ _=> ?_⟩
  simp only[go_sem,hg]
  exact fun _=>hk g hwg hlg
 ·simp only[go_sem]
  simp only[List.length_cons,List.length_nil,Nat.zero_add,Nat.reduceAdd]
  refine Zero_calls (nv.mono hl1) ?_
  simp only[go_sem,bldI nv.one]
  simp only[List.length_cons,List.length_nil,Nat.zero_add,Nat.reduceAdd]
  refine⟨trivial,all2 nv.one,put2 hw hw1 hl1 (Nat.le_refl _) hr1 rfl fun g hwg hlg hg _ _=> ?_⟩
  simp only[go_sem,hg,e1]
  exact fun _=>hk g hwg hlg
theorem Num.one {B n:Nat} {h:H} {v:AV} (hv:Num B h v n):v.one=true:=by
 obtain⟨xs,h1,_⟩:=hv
 obtain⟨i,o,c,rfl⟩:=h1.form
 rfl
theorem rZero_calls (nv:Num 4294967296 h v x) (hk:K (.bool (decide (x=0))) h):ACalls Tryz.prog 56 [v] h K:=by
 obtain⟨xs,h1,h2,h3,rfl⟩:=nv
 obtain⟨id,off,c,rfl⟩:=h1.form
 refine in_ref02_Zero (by simp) fun hw=> ?_
 unfold c_ref02_Zero
 have e:((xs.length:Int)==0)=decide (val 4294967296 xs=0):=by
  rw[Bool.eq_iff_iff]
  simp only[beq_iff_eq,decide_eq_true_eq]
  constructor
  ·intro h0
   have:xs=[]:=List.eq_nil_of_length_eq_zero (by omega)
   subst this
   rfl
  ·intro h0
   rcases Nat.eq_zero_or_pos xs.length with h|h
   ·omega
   ·exfalso
    have h4:xs≠ []:=by intro e;subst e;simp at h
    have h5:=val_ge 4294967296 xs h3 h4
    have h6:0<4294967296^(xs.length-1):=Nat.pow_pos (by omega)
    omega
 simp only[go_sem,e]
 exact fun _=>hk
theorem rmade_calls (nv:Num 4294967296 h v x) (hk:∀h',h'.wf→h.le h'→K (.agg [v, .bool (ba&&decide (x≠0))]) h'):ACalls Tryz.prog 52 [v, .bool ba] h K:=by
 refine in_ref17_made (by simp) fun hw=> ?_
 unfold c_ref17_made
 have hl1:=H.le_new hw (H.le_refl h) ⟨some 47,2,[.sl none 0 0 none, .bool false]⟩
 have hw1:=H.wf_new hw ⟨some 47,2,[.sl none 0 0 none, .bool false]⟩
 have hr1:=H.rows_new h ⟨some 47,2,[.sl none 0 0 none, .bool false]⟩
 have e1:(!decide (x=0))=decide (x≠0):=by simp
 have nv1:=nv.one
 cases ba
 ·simp only[go_sem,bldI nv1]
  simp only[List.length_cons,List.length_nil,Nat.zero_add,Nat.reduceAdd]
  refine⟨trivial,all2 nv1,put2 hw hw1 hl1 (Nat.le_refl _) hr1 rfl fun g hwg hlg hg _ _=> ?_⟩
  simp only[go_sem,hg]
  exact fun _=>hk g hwg hlg
 ·simp only[go_sem]
  simp only[List.length_cons,List.length_nil,Nat.zero_add,Nat.reduceAdd]
  refine rZero_calls (nv.mono hl1) ?_
  simp only[go_sem,bldI nv1]
  simp only[List.length_cons,List.length_nil,Nat.zero_add,Nat.reduceAdd]
  refine⟨trivial,all2 nv1,put2 hw hw1 hl1 (Nat.le_refl _) hr1 rfl fun g hwg hlg hg _ _=> ?_⟩
  simp only[go_sem,hg,e1]
  exact fun _=>hk g hwg hlg
theorem sg_zf {c:Nat} {w:AV} {b:Bool} (hw:Nf c h w x):Zf c h (.agg [w, .bool (b&&decide (x≠0))]) (sg b x):=
 ⟨w,_,x,rfl,hw,fun h0=>by simp[h0],sg_made.symm⟩
theorem sg_zr {w:AV} {b:Bool} (hw:Num 4294967296 h w x):Zr h (.agg [w, .bool (b&&decide (x≠0))]) (sg b x):=
 ⟨w,_,x,rfl,hw,fun h0=>by simp[h0],sg_made.symm⟩
theorem sg_add_same {a:Bool} {x y:Nat}:sg a x+sg a y=sg a (x+y):=by
 cases a<;>simp[sg]<;>omega
theorem sg_add_ge {a b:Bool} {x y:Nat} (h:a≠b) (hy:y≤x):sg a x+sg b y=sg a (x-y):=by
 cases a<;>cases b<;>simp[sg] at h⊢<;>omega
theorem sg_add_lt {a b:Bool} {x y:Nat} (h:a≠b) (hy:x≤y):sg a x+sg b y=sg b (y-x):=by
 cases a<;>cases b<;>simp[sg] at h⊢<;>omega
theorem zNorm_calls (nv:Nn h wa x) (hx:Big x) (hk:∀r h',h'.wf→h.le h'→Zf h.next h' r (sg ba x)→K r h'):ACalls Tryz.prog 76 [.agg [wa, .bool ba]] h K:=by
 refine in_num_Norm (by simp) fun hw=> ?_
 unfold c_num_Norm
 simp only[go_sem]
 simp only[AV.cells,List.length_cons,List.length_nil,Nat.zero_add,Nat.reduceAdd]
 refine⟨rfl, ?_⟩
 generalize hh:(h.new ⟨some 39,2,_⟩).new ⟨some 39,2,_⟩=h1
 obtain⟨hl1,hw1,hn1,r1,r2⟩:=new2 hw hh
 obtain⟨a1,a2,a3⟩:=g2 r1
 simp only[go_sem,a1,a2,Nat.zero_add]
 refine Norm_calls (nv.mono hl1) fun r h2 hw2 hl2 hr=> ?_
 obtain⟨b1,b2,b3⟩:=g2 (hl2.2 _ _ r1)
 simp only[go_sem,b1,b2,Nat.zero_add]
 refine⟨by simp, ?_⟩
 refine made_calls (hr.nn hx) fun h3 hw3 hl3=> ?_
 have l13:=H.le_trans hl2 hl3
 simp only[go_sem]
 refine⟨rfl,all2 hr.one,put2 hw hw3 (H.le_trans hl1 l13) (Nat.le_succ _) (l13.2 _ _ r2) rfl fun g hwg hlg hg _ hle=> ?_⟩
 simp only[go_sem,hg]
 refine fun _=>hk _ g hwg hlg (sg_zf ?_)
 have h5:=(hr.mono hl3).base hl1.1
 exact h5.leeT (l13.2 _ _ r2) rfl (by decide) hle
end
end
end Ab
end Go.Proofs.YtkbglkjpdndkiaaGreatDoor
