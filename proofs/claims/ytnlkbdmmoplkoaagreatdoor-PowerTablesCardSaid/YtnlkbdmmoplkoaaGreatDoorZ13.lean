/- Joined texts: U9 M15 C8. No condition. -/
import Derived.Test.YtnlkbdmmoplkoaaGreatDoorZ12
import Derived.Test.YtnlkbdmmoplkoaaGreatDoorProg
import Derived.KernelRfl
namespace Go.Proofs.YtnlkbdmmoplkoaaGreatDoor
namespace Ab
open Go Go.RowKit
set_option linter.unusedSimpArgs false
set_option linter.unusedVariables false
attribute [local go_sem ↓] x_mv x_pick x_bin x_beq x_peq x_seq x_cat x_aeq x_idxS x_idxV x_un x_cvI x_bts x_idx x_idxA x_fld x_ld x_st x_nn x_prt x_slc x_mk x_bsl x_bld x_box x_alloc x_len x_capo x_mnx x_app x_cpy x_mkf x_ext x_call x_callV x_bad s_none s_some s_nil s_cons s_chks w_skip w_reg tP_fin tP_no tP_alt w_seq w_cond w_block w_exit w_ret t_normal t_exit t_ret b_normal b_ret b_exit n_normal n_exit n_ret p_normal p_ret f_nil f_t f_c k_ops k_chk k_fin
attribute [local go_sem] e_t e_c e_f u_some u_none u_at env_at k_v k_pick k_add k_sub k_mul k_quo k_rem k_and k_or k_xor k_shl k_shr k_eql k_neq k_lss k_leq k_gtr k_geq k_beq k_peqn k_peqs k_neg k_not k_com k_cvI k_idxS k_idxV1 k_idxVn k_idx k_idxA k_idxG k_ldG k_gld k_seq k_cat k_aeq k_eqs k_fld k_ld1 k_ldn k_get k_gets k_sti k_stb k_stp k_sts k_stf k_sta k_put k_nn k_prt1 k_prtn k_slc_a k_slc_b k_slc_c k_mk k_agg k_bsl k_box k_len k_lenS k_cap k_max k_min k_ext k_callV k_true k_false k_gtt k_gtf k_gft k_gsk k_gff k_lit1i k_lit2i k_lit3i k_c0 k_c1 k_ck List.getElem?_cons_zero List.getElem?_cons_succ List.getElem?_nil Option.getD_some Option.getD_none tupOf List.map_cons List.map_nil Option.map_some Option.map_none List.nil_append List.cons_append List.append_nil Nat.mul_one Int.toNat_natCast Nat.zero_add
attribute [local go_sem] e_t e_c e_f u_some u_none u_at env_at k_v k_pick k_add k_sub k_mul k_quo k_rem k_and k_or k_xor k_shl k_shr k_eql k_neq k_lss k_leq k_gtr k_geq k_beq k_peqn k_peqs k_neg k_not k_com k_cvI k_idxS k_idxV1 k_idxVn k_idx k_idxA k_idxG k_ldG k_gld k_seq k_cat k_aeq k_eqs k_fld k_ld1 k_ldn k_get k_gets k_sti k_stb k_stp k_sts k_stf k_sta k_put k_nn k_prt1 k_prtn k_slc_a k_slc_b k_slc_c k_mk k_agg k_bsl k_box k_len k_lenS k_cap k_max k_min k_ext k_callV k_true k_false k_gtt k_gtf k_gft k_gsk k_gff k_lit1i k_lit2i k_lit3i k_c0 k_c1 k_ck List.getElem?_cons_zero List.getElem?_cons_succ List.getElem?_nil Option.getD_some Option.getD_none tupOf List.map_cons List.map_nil Option.map_some Option.map_none List.nil_append List.cons_append List.append_nil Nat.mul_one Int.toNat_natCast Nat.zero_add
--what a store into a cell of two leaves
attribute [local go_sem_proc] Nat.reduceEqDiff Nat.reduceAdd Int.reduceToNat
attribute [local go_sem_proc ↓] reduceIte
attribute [local go_sem] Bool.false_eq_true
section
def dvW (n b:Nat):Nat:=(64*n+1-b)/64+1
def dvC (n b:Nat):Nat:=max (64*(n*n)) (rcC (64*n+2) b (64*n)+8*(n*dvW n b)+8*(dvW n b*((b+63)/64)))
def dvD (n b:Nat):Nat:=max (lev (2*((b+63)/64))+1) (max (rcD (64*n+2) b (64*n)) (lev (n+1)))
theorem newton_le {a b v k:Nat} (hv:v=2^k/b):a*v/2^k*b≤a:=by
 have h1:v*b≤2^k:=by rw[hv];exact Nat.div_mul_le_self _ _
 have h2:a*v/2^k*b*2^k≤a*2^k:=by
  have h3:a*v/2^k*2^k≤a*v:=Nat.div_mul_le_self _ _
  calc a*v/2^k*b*2^k=a*v/2^k*2^k*b:=by ac_rfl
   _≤a*v*b:=Nat.mul_le_mul_right _ h3
   _=a*(v*b):=Nat.mul_assoc _ _ _
   _≤a*2^k:=Nat.mul_le_mul_left _ h1
 exact Nat.le_of_mul_le_mul_right h2 (Nat.pow_pos (by omega))
section
variable {e u m nw dp a b:Nat} {t:Tb} {va vb:AV} {h:H} {K:AV→H→Prop}
theorem dnewton_calls (he:Eng 7 h e u) (ht:Tune h u m nw dp t) (na:Nn h va a) (nb:Nn h vb b) (wa:wlen a≤4000) (wb:wlen b≤4000) (hba:wlen b≤wlen a) (hb0:0<b) (hnw:nw≤600000000)
  (hk:∀q r h' m' dp',h'.wf→H.lee u h h'→Tune h' u m' nw dp' t→Sp m dp m' dp' nw (dvC (wlen a) (blen b)) (dvD (wlen a) (blen b))→Nf h.next h' q (a/b)→Nf h.next h' r (a%b)→K (.tup [q,r]) h'):
  ACalls Tryz.prog 127 [.ptr (some (e,0)),va,vb] h K:=by
 have ba:Big a:=wbig wa (by omega)
 have bb:Big b:=wbig wb (by omega)
 refine in_div_Engine_newton (by simp) fun hw=> ?_
 unfold c_div_Engine_newton
 obtain⟨f,rfl,rfl,G,E⟩:=Eng.path ht he
 have hu:=H.row_lt hw ht
 have l0:=H.lee_refl (f 7) h
 have hbb:=blen_ge hb0
 have hwb:=wlen_blen b
 obtain⟨n,hn⟩:∃n,n=wlen a:=⟨_,rfl⟩
 have hwa:=wlen_blen a
 have han:a<2^(64*n):=by rw[hn,←two_B];exact wlen_lt a
 rw[←hn] at hk hba wa
 have e1:IntKind.i64.wrap (64*(n:Int))=((64*n:Nat):Int):=mulI (a:=64) (b:=n) (by omega)
 simp only[go_sem]
 refine LenN_calls na ?_
 rw[←hn]
 simp only[go_sem,e1,G 0 (by omega) _ l0]
 refine Recip_calls (E 1 (by omega)) ht nb hb0 (by omega) (by omega) (by omega) fun v h1 m1 dp1 hw1 hl1 ht1 hsp1 hv=> ?_
 have wv:wlen (2^(64*n)/b)≤dvW n (blen b):=by
  have:=wlen_two (pow_div_le (m:=64*n) (b:=blen b-1) hb0 hbb.2 (by omega))
  have e:64*n-(blen b-1)=64*n+1-blen b:=by omega
  rw[e] at this
  exact this
 have hdvw:dvW n (blen b)≤n+1:=by unfold dvW;omega
 have hle:=newton_le (a:=a) (b:=b) (k:=64*n) rfl
 have bv:Big (2^(64*n)/b):=wbig wv (by omega)
 generalize 2^(64*n)/b=V at*
 simp only[go_sem,G 0 (by omega) _ hl1,G 1 (by omega) _ hl1,G 2 (by omega) _ hl1]
 refine Mul2_calls ((E 3 (by omega)).monoE ht hl1) ht1 (na.monoE' ht hl1) (hv.nn bv) (by omega) (by omega) (by omega) fun p h2 m2 dp2 hw2 hl2 ht2 hsp2 hp=> ?_
 have bp:Big (a*V):=mul_big (show wlen a≤n by omega) wv (by omega)
 have c2:costT t (wlen a) (wlen V)≤8*(n*dvW n (blen b)):=Nat.le_trans (costT_le (by omega) (by omega)) (Nat.mul_le_mul_left 8 (Nat.mul_le_mul (by omega) wv))
 have d2:lev2 (wlen a) (wlen V)≤lev (n+1):=lev_of (by omega)
 simp only[go_sem]
 refine lShr_calls (hp.nn bp) (by omega) fun q h3 hw3 hl3 hq=> ?_
 have hqv:a*V/2^(64*n)≤V:=by
  refine Nat.div_le_of_le_mul ?_
  exact Nat.mul_le_mul_right _ (Nat.le_of_lt han)
 have wq:wlen (a*V/2^(64*n))≤dvW n (blen b):=Nat.le_trans (wlen_mono hqv) wv
 generalize a*V/2^(64*n)=Q at*
 have bQ:Big Q:=wbig wq (by omega)
 have l03:H.lee (f 7) h h3:=(hl1.trans hl2).trans hl3.lee
 simp only[go_sem,G 0 (by omega) _ l03,G 1 (by omega) _ l03,G 2 (by omega) _ l03]
 refine Mul2_calls ((E 3 (by omega)).monoE ht l03) (ht2.mono hl3) (hq.nn bQ) (nb.monoE' ht l03) (by omega) (by omega) (by omega) fun p2 h4 m4 dp4 hw4 hl4 ht4 hsp4 hp2=> ?_
 have bp2:Big (Q*b):=ba.le hle
 have c4:costT t (wlen Q) (wlen b)≤8*(dvW n (blen b)*((blen b+63)/64)):=Nat.le_trans (costT_le (by omega) (by omega)) (Nat.mul_le_mul_left 8 (Nat.mul_le_mul wq (by omega)))
 have d4:lev2 (wlen Q) (wlen b)≤lev (n+1):=lev_of (by omega)
 have l04:=l03.trans hl4
 simp only[go_sem]
 refine lSub_calls (na.monoE' ht l04) (hp2.nn bp2) (fun h=>absurd h (by omega)) fun _ r h5 hw5 hl5 hr=> ?_
 have l05:H.lee (f 7) h h5:=l04.trans hl5.lee
 have nb5:=nb.monoE' ht l05
 have hb0':h.next≤h5.next:=l05.1
 have ht5:=ht4.mono hl5
 have hq5:=(hq.monoE (Nat.lt_of_lt_of_le hu (hl1.trans hl2).1) hl4).mono hl5
 have hspF:Sp m dp m4 dp4 nw (dvC n (blen b)) (dvD n (blen b)):=by
  refine((hsp1.trans hsp2).trans hsp4).le ?_ ?_
  ·unfold dvC;omega
  ·unfold dvD;omega
 clear hsp1 hsp2 hsp4 c2 c4 d2 d4
 simp only[go_sem]
 refine loop_cut (fun ρ h'=>h'.wf∧h5.le h'∧Nf h.next h' (ρ 6) (a/b)∧Nf h.next h' (ρ 7) (a%b)) ?_ ?_
 ·refine⟨fun s ρ h'=>h'.wf∧h5.le h'∧ρ 2=vb∧∃Q',Nf h.next h' (ρ 6) Q'∧Nf h.next h' (ρ 7) s∧a=Q'*b+s,a-Q*b,⟨hw5,H.le_refl _,by first|rfl|trivial|assumption,Q,hq5.base (hl1.trans hl2).1,hr.base l04.1,by omega⟩, ?_⟩
  rintro s ρ h6 ⟨hw6,hl6,q2,Q',hQ,hs,hinv⟩
  have hQa:Q'≤a:=by
   have:=Nat.le_mul_of_pos_right Q' hb0
   omega
  simp only[go_sem,q2]
  refine lCmp_calls (hs.nn (ba.le (by omega))) (nb5.mono hl6) ?_
  rcases Nat.lt_or_ge s b with hc|hc
  ·have hd:decide (cmpI s b≥0)=false:=by unfold cmpI;rw[if_pos hc];rfl
   have e1:a/b=Q':=by
    rw[hinv,Nat.mul_comm,Nat.mul_add_div hb0,Nat.div_eq_of_lt hc,Nat.add_zero]
   have e2:a%b=s:=by
    rw[hinv,Nat.mul_comm,Nat.mul_add_mod,Nat.mod_eq_of_lt hc]
   simp only[go_sem,q2,hd]
   exact⟨hw6,hl6,by rw[e1];exact hQ,by rw[e2];exact hs⟩
  ·have hd:decide (cmpI s b≥0)=true:=by
    unfold cmpI
    rw[if_neg (by omega)]
    split<;>rfl
   simp only[go_sem,q2,hd]
   refine lSub_calls (hs.nn (ba.le (by omega))) (nb5.mono hl6) (fun h=>absurd h (by omega)) fun _ s' h7 hw7 hl7 hs'=> ?_
   simp only[go_sem,q2]
   refine One_calls (x:=1) (by decide) fun o h8 hw8 hl8 ho=> ?_
   simp only[go_sem,q2]
   refine lAdd_calls ((hQ.nn (ba.le hQa)).mono (H.le_trans hl7 hl8)) (ho.nn (word_big (by decide))) fun q' h9 hw9 hl9 hq'=> ?_
   have hb6:=hl6.1
   have hb7:=hl7.1
   have hb8:=hl8.1
   simp only[go_sem,q2]
   refine⟨s-b,by omega,hw9,(H.le_trans hl6 (H.le_trans hl7 (H.le_trans hl8 hl9))),by first|rfl|trivial|assumption,Q'+1,hq'.base (by omega),(hs'.mono (H.le_trans hl8 hl9)).base (by omega), ?_⟩
   rw[Nat.add_mul,Nat.one_mul]
   omega
 ·rintro ρ h6 ⟨hw6,hl6,hQ,hR⟩
  simp only[go_sem]
  exact fun hw'=>hk _ _ h6 _ _ hw' (l05.trans hl6.lee) (ht5.mono hl6) hspF hQ hR
set_option maxRecDepth 100000 in
theorem DivMod2_calls (hT:TbOK t) (he:Eng 7 h e u) (ht:Tune h u m nw dp t) (na:Nn h va a) (nb:Nn h vb b) (wa:wlen a≤4000) (wb:wlen b≤4000) (hnw:nw≤600000000)
  (hk0:b=0→h.wf→K (.tup [.sl none 0 0 none, .sl none 0 0 none, .int .i64 2]) h)
  (hk:0<b→∀q r h' m' dp',h'.wf→H.lee u h h'→Tune h' u m' nw dp' t→Sp m dp m' dp' nw (dvC (wlen a) (blen b)) (dvD (wlen a) (blen b))→Nf h.next h' q (a/b)→Nf h.next h' r (a%b)→K (.tup [q,r, .int .i64 0]) h'):
  ACalls Tryz.prog 109 [.ptr (some (e,0)),va,vb] h K:=by
 have ba:Big a:=wbig wa (by omega)
 have bb:Big b:=wbig wb (by omega)
 refine in_div_Engine_DivMod (by simp) fun hw=> ?_
 unfold c_div_Engine_DivMod
 obtain⟨f,rfl,rfl,G,E⟩:=Eng.path ht he
 have l0:=H.lee_refl (f 7) h
 have htd:=tune_div ht
 have htr:=tune_recip ht
 have hT1:=hT.1
 have hwb:=wlen_blen b
 have hC1:0<b→longCost a b≤dvC (wlen a) (blen b):=fun h0=>by
  have hb1:wlen b≠0:=fun h=>by have:=wlen_eq_zero.1 h;omega
  have h1:longCost a b≤64*(wlen a*wlen a):=by
   unfold longCost
   split
   ·exact Nat.zero_le _
   ·have h2:(wlen a-wlen b+1)*(wlen b+1)≤(2*wlen a)*(2*wlen a):=Nat.mul_le_mul (by omega) (by omega)
    have h3:(2*wlen a)*(2*wlen a)=4*(wlen a*wlen a):=by rw[Nat.mul_mul_mul_comm]
    omega
  unfold dvC
  omega
 have hspL:0<b→Sp m dp (m+longCost a b) dp nw (dvC (wlen a) (blen b)) (dvD (wlen a) (blen b)):=fun h0=>by
  have:=hC1 h0
  exact⟨by omega,by omega,by omega,by omega⟩
 have long:0<b→∀K0:AV→H→Prop,(∀q r h',h'.wf→H.lee (f 7) h h'→Tune h' (f 7) (m+longCost a b) nw dp t→Nf h.next h' q (a/b)→Nf h.next h' r (a%b)→K0 (.tup [q,r, .int .i64 0]) h')→ACalls Tryz.prog 126 [.ptr (some (f 2,0)),va,vb] h K0:=fun h0 K0 hK=>Long_calls (E 2 (by omega)) ht na nb ba bb (fun h=>absurd h (by omega)) fun _ q r h' a1 a2 a3 a4 a5=>hK q r h' a1 a2 a3 a4 a5
 simp only[go_sem]
 refine LenN_calls na ?_
 simp only[go_sem]
 refine LenN_calls nb ?_
 rcases Nat.eq_zero_or_pos b with h0|h0
 ·have hz:wlen b=0:=by rw[h0];rfl
  simp only[go_sem,hz,eqT (show((0:Nat):Int)=0 from rfl)]
  exact hk0 h0
 have hM:wlen b≠0:=fun h=>by have:=wlen_eq_zero.1 h;omega
 have hwa0:=hwb
 rcases Nat.lt_or_ge (wlen a) (wlen b) with c1|c1
 ·simp only[go_sem,eqF (show((wlen b:Nat):Int)≠0 by omega),ltT c1,G 0 (by omega) _ l0,G 1 (by omega) _ l0]
  refine long h0 _ fun q r h1 hw1 hl1 ht1 hq hr=> ?_
  simp only[go_sem]
  exact fun hw'=>hk h0 q r h1 _ _ hw' hl1 ht1 (hspL h0) hq hr
 by_cases c2:((wlen b:Nat):Int)<t.div
 ·simp only[go_sem,eqF (show((wlen b:Nat):Int)≠0 by omega),ltF c1,G 0 (by omega) _ l0,G 1 (by omega) _ l0,G 2 (by omega) _ l0,G 3 (by omega) _ l0,G 4 (by omega) _ l0,G 5 (by omega) _ l0,G 6 (by omega) _ l0,htd,decide_eq_true c2]
  refine long h0 _ fun q r h1 hw1 hl1 ht1 hq hr=> ?_
  simp only[go_sem]
  exact fun hw'=>hk h0 q r h1 _ _ hw' hl1 ht1 (hspL h0) hq hr
 have e1:=subI (a:=wlen a) (b:=wlen b) c1 (by omega)
 have e2:=incI (i:=wlen a-wlen b) (by omega)
 by_cases c3:((wlen a-wlen b+1:Nat):Int)<t.div
 ·simp only[go_sem,eqF (show((wlen b:Nat):Int)≠0 by omega),ltF c1,G 0 (by omega) _ l0,G 1 (by omega) _ l0,G 2 (by omega) _ l0,G 3 (by omega) _ l0,G 4 (by omega) _ l0,G 5 (by omega) _ l0,G 6 (by omega) _ l0,htd,decide_eq_false c2,e1,e2,decide_eq_true c3]
  refine long h0 _ fun q r h1 hw1 hl1 ht1 hq hr=> ?_
  simp only[go_sem]
  exact fun hw'=>hk h0 q r h1 _ _ hw' hl1 ht1 (hspL h0) hq hr
 by_cases c4:t.recip≤((wlen b:Nat):Int)
 ·simp only[go_sem,eqF (show((wlen b:Nat):Int)≠0 by omega),ltF c1,G 0 (by omega) _ l0,G 1 (by omega) _ l0,G 2 (by omega) _ l0,G 3 (by omega) _ l0,G 4 (by omega) _ l0,G 5 (by omega) _ l0,G 6 (by omega) _ l0,htd,htr,decide_eq_false c2,e1,e2,decide_eq_false c3,show decide (((wlen b:Nat):Int)≥t.recip)=true from decide_eq_true c4,show decide (((wlen a:Nat):Int)≤16384)=true from decide_eq_true (by omega)]
  refine dnewton_calls he ht na nb wa wb c1 h0 hnw fun q r h1 m1 dp1 hw1 hl1 ht1 hsp hq hr=> ?_
  simp only[go_sem]
  exact fun hw'=>hk h0 q r h1 _ _ hw' hl1 ht1 hsp hq hr
 ·simp only[go_sem,eqF (show((wlen b:Nat):Int)≠0 by omega),ltF c1,G 0 (by omega) _ l0,G 1 (by omega) _ l0,G 2 (by omega) _ l0,G 3 (by omega) _ l0,G 4 (by omega) _ l0,G 5 (by omega) _ l0,G 6 (by omega) _ l0,htd,htr,decide_eq_false c2,e1,e2,decide_eq_false c3,show decide (((wlen b:Nat):Int)≥t.recip)=false from decide_eq_false c4]
  refine Halves_calls hT he ht na nb wa wb hnw (fun h=>absurd h (by omega)) fun _ q r h1 m1 dp1 hw1 hl1 ht1 hsp hq hr=> ?_
  simp only[go_sem]
  refine fun hw'=>hk h0 q r h1 _ _ hw' hl1 ht1 (hsp.le ?_ ?_) hq hr
  ·unfold dvC;omega
  ·unfold dvD;rw[←hwb];omega
end
end
section
set_option maxRecDepth 100000
theorem rMod_calls {v u:AV} {x y:Nat} {h:H} {K:AV→H→Prop} (nv:Num 4294967296 h v x) (nu:Num 4294967296 h u y) (hx:Big x) (hy:Big y) (hy0:0<y)
  (hk:∀r h',h'.wf→h.le h'→Num 4294967296 h' r (x%y)→K r h'):ACalls Tryz.prog 82 [v,u] h K:=by
 refine in_ref02_Mod (by simp) fun hw=> ?_
 unfold c_ref02_Mod
 simp only[go_sem]
 refine DivMod_calls nv nu hx hy hy0 fun q r h' hw' hl' _ hr=> ?_
 simp only[go_sem]
 exact fun _=>hk r h' hw' hl' hr
end
section
open Go
def c_law19_PowerMods:AC:= .seq (.reg [o 4 (.box 23 (.t 0)),o 8 (.mv (.c (.bool false)))]) (.seq (.reg [mv 15 1,o 16 (.call 76 [.t 15,i64 6]),mv 17 2,o 18 (.call 76 [.t 17,i64 2]),mv 19 3,o 20 (.call 76 [.t 19,i64 4]),mv 1 16,mv 2 18,mv 3 20]) (.seq (.reg [o 21 (.ld (some 11) (.t 4)),o 22 (.call 23 [.t 21]),mv 9 22]) (.seq (.seq (.reg [mv 23 9,o 24 (.peq false (.t 23) (.c (.ptr none)))]) (.cond (.t 24) (.seq (.reg [o 8 (.mv (.c (.bool false)))]) .ret) .skip)) (.seq (.reg [mv 25 1,o 26 (.call 62 [.t 25]),mv 27 2,o 28 (.call 62 [.t 27]),mv 29 3,o 30 (.call 62 [.t 29]),mv 10 26,mv 11 28,mv 12 30]) (.seq (.reg [mv 32 9,mv 33 10,mv 34 11,mv 35 12,o 36 (.call 77 [.t 32, .t 33, .t 34, .t 35]),mv 31 36,o 37 (.ext (.t 31) 0),o 38 (.ext (.t 31) 1),mv 13 37,mv 14 38]) (.seq (.seq (.reg [mv 39 10,mv 40 1,o 41 (.call 73 [.t 39, .t 40]),o 42 (.un .not (.t 41)),mv 43 42,og 44 43 false (.mv (.t 11)),og 45 43 false (.mv (.t 2)),og 46 43 false (.call 73 [.t 44, .t 45]),og 47 43 false (.un .not (.t 46)),o 48 (.pick (.t 43) (.c (.bool true)) (.t 47)),mv 49 48,og 50 49 false (.mv (.t 12)),og 51 49 false (.mv (.t 3)),og 52 49 false (.call 73 [.t 50, .t 51]),og 53 49 false (.un .not (.t 52)),o 54 (.pick (.t 49) (.c (.bool true)) (.t 53))]) (.cond (.t 54) (.seq (.reg [o 8 (.mv (.c (.bool false)))]) .ret) .skip)) (.seq (.seq (.reg [mv 55 3,o 56 (.call 53 [.t 55])]) (.cond (.t 56) (.seq (.reg [mv 57 14,o 58 (.bin .eql (.t 57) (i64 2)),mv 59 58,og 60 59 true (.mv (.t 13)),og 61 59 true (.len false (.t 60)),og 62 59 true (.bin .eql (.t 61) (i64 0)),o 63 (.pick (.t 59) (.t 62) (.c (.bool false))),mv 64 63,og 65 64 true (.call 26 []),o 66 (.pick (.t 64) (.t 65) (.c (.bool false))),mv 8 66]) .ret) .skip)) (.seq (.reg [mv 67 14,o 68 (.bin .eql (.t 67) (i64 0)),mv 69 68,og 70 69 true (.mv (.t 1)),og 71 69 true (.call 79 [.t 70]),og 72 69 true (.mv (.t 2)),og 73 69 true (.call 79 [.t 72]),og 74 69 true (.mv (.t 3)),og 75 69 true (.call 79 [.t 74]),og 76 69 true (.call 78 [.t 71, .t 73, .t 75]),og 77 69 true (.mv (.t 13)),og 78 69 true (.call 38 [.t 76, .t 77]),o 79 (.pick (.t 69) (.t 78) (.c (.bool false))),mv 80 79,og 81 80 true (.call 26 []),o 82 (.pick (.t 80) (.t 81) (.c (.bool false))),mv 8 82]) .ret))))))))
theorem in_law19_PowerMods:Ent 13 83 c_law19_PowerMods [.t 8]:=ent Tryz.func13 rfl rfl rfl (show compile _ 83 _=_ by kernel_rfl) (show compRes _ 83 _=_ by kernel_rfl)
def c_law19_PowerLaws:AC:= .seq (.reg [o 5 (.box 23 (.t 0)),o 10 (.mv (.c (.bool false)))]) (.seq (.reg [mv 20 1,o 21 (.call 76 [.t 20,i64 12]),mv 22 2,o 23 (.call 76 [.t 22,i64 2]),mv 24 3,o 25 (.call 76 [.t 24,i64 2]),mv 26 4,o 27 (.call 76 [.t 26,i64 12]),mv 1 21,mv 2 23,mv 3 25,mv 4 27]) (.seq (.reg [o 28 (.ld (some 11) (.t 5)),o 29 (.call 23 [.t 28]),mv 11 29]) (.seq (.seq (.reg [mv 30 11,o 31 (.peq false (.t 30) (.c (.ptr none)))]) (.cond (.t 31) (.seq (.reg [o 10 (.mv (.c (.bool false)))]) .ret) .skip)) (.seq (.seq (.reg [mv 32 4,o 33 (.call 53 [.t 32])]) (.cond (.t 33) (.seq (.reg [o 34 (.call 26 []),mv 10 34]) .ret) .skip)) (.seq (.reg [mv 35 2,o 36 (.call 79 [.t 35]),mv 37 3,o 38 (.call 79 [.t 37]),o 39 (.call 81 [.t 36, .t 38]),o 40 (.call 80 [.t 39]),mv 12 40]) (.seq (.reg [mv 42 11,mv 43 1,mv 44 2,mv 45 4,o 46 (.call 77 [.t 42, .t 43, .t 44, .t 45]),mv 41 46,o 47 (.ext (.t 41) 0),o 48 (.ext (.t 41) 1),mv 13 47,mv 14 48]) (.seq (.reg [mv 50 11,mv 51 1,mv 52 3,mv 53 4,o 54 (.call 77 [.t 50, .t 51, .t 52, .t 53]),mv 49 54,o 55 (.ext (.t 49) 0),o 56 (.ext (.t 49) 1),mv 15 55,mv 16 56]) (.seq (.reg [mv 58 11,mv 59 1,mv 60 12,mv 61 4,o 62 (.call 77 [.t 58, .t 59, .t 60, .t 61]),mv 57 62,o 63 (.ext (.t 57) 0),o 64 (.ext (.t 57) 1),mv 17 63,mv 18 64]) (.seq (.reg [mv 65 13,o 66 (.call 79 [.t 65]),mv 67 15,o 68 (.call 79 [.t 67]),o 69 (.call 37 [.t 66, .t 68]),mv 70 4,o 71 (.call 79 [.t 70]),o 72 (.call 82 [.t 69, .t 71]),mv 19 72]) (.seq (.reg [mv 73 14,o 74 (.bin .eql (.t 73) (i64 0)),mv 75 74,og 76 75 true (.mv (.t 16)),og 77 75 true (.bin .eql (.t 76) (i64 0)),o 78 (.pick (.t 75) (.t 77) (.c (.bool false))),mv 79 78,og 80 79 true (.mv (.t 18)),og 81 79 true (.bin .eql (.t 80) (i64 0)),o 82 (.pick (.t 79) (.t 81) (.c (.bool false))),mv 83 82,og 84 83 true (.mv (.t 19)),og 85 83 true (.mv (.t 17)),og 86 83 true (.call 38 [.t 84, .t 85]),o 87 (.pick (.t 83) (.t 86) (.c (.bool false))),mv 88 87,og 89 88 true (.call 26 []),o 90 (.pick (.t 88) (.t 89) (.c (.bool false))),mv 10 90]) .ret))))))))))
theorem in_law19_PowerLaws:Ent 14 91 c_law19_PowerLaws [.t 10]:=ent Tryz.func14 rfl rfl rfl (show compile _ 91 _=_ by kernel_rfl) (show compRes _ 91 _=_ by kernel_rfl)
def c_law19_PowerTables:AC:= .seq (.reg [o 7 (.box 23 (.t 0)),o 8 (.box 23 (.t 1)),o 9 (.box 27 (.t 2)),o 14 (.mv (.c (.bool false)))]) (.seq (.reg [o 25 (.ld (some 2) (.t 9)),o 26 (.call 22 [.t 25,i64 4]),od (.st 2 (.t 9) (.t 26))]) (.seq (.reg [mv 27 4,o 28 (.call 76 [.t 27,i64 20]),mv 29 5,o 30 (.call 76 [.t 29,i64 2]),mv 31 6,o 32 (.call 76 [.t 31,i64 20]),mv 4 28,mv 5 30,mv 6 32]) (.seq (.reg [o 33 (.ld (some 11) (.t 7)),o 35 (.ld (some 11) (.t 8)),⟨some 34,none, .call 23 [.t 33],[(some 35,none, .ld (some 11) (.t 8))]⟩,o 36 (.call 23 [.t 35]),mv 15 34,mv 16 36]) (.seq (.seq (.reg [mv 37 15,o 38 (.peq false (.t 37) (.c (.ptr none))),mv 39 38,og 40 39 false (.mv (.t 16)),og 41 39 false (.peq false (.t 40) (.c (.ptr none))),o 42 (.pick (.t 39) (.c (.bool true)) (.t 41))]) (.cond (.t 42) (.seq (.reg [o 14 (.mv (.c (.bool false)))]) .ret) .skip)) (.seq (.regt [mv 44 15,o 45 (.ld (some 2) (.t 9)),mv 46 3] (.alt (⟨some 47,none, .call 24 [.t 46,i64 60],[(some 45,none, .ld (some 2) (.t 9))]⟩) [] (.alt (o 48 (.call 25 [.t 44, .t 45, .t 47,i64 20000])) [mv 43 48,o 49 (.ext (.t 43) 0),o 50 (.ext (.t 43) 1)] (.alt (⟨some 17,none, .alloc 27 [.sl none 0 0 none, .bool false],[(some 45,none, .ld (some 2) (.t 9))]⟩) [] (.alt (od (.st 2 (.t 17) (.t 49))) [mv 18 50] .fin .no) .no) (.alt (⟨some 17,none, .alloc 27 [.sl none 0 0 none, .bool false],[(some 45,none, .ld (some 2) (.t 9))]⟩) [] (.alt (o 48 (.call 25 [.t 44, .t 45, .t 47,i64 20000])) [mv 43 48,o 49 (.ext (.t 43) 0),o 50 (.ext (.t 43) 1)] (.alt (od (.st 2 (.t 17) (.t 49))) [mv 18 50] .fin .no) .no) .no)) (.alt (⟨some 17,none, .alloc 27 [.sl none 0 0 none, .bool false],[(some 45,none, .ld (some 2) (.t 9))]⟩) [] (.alt (⟨some 47,none, .call 24 [.t 46,i64 60],[(some 45,none, .ld (some 2) (.t 9))]⟩) [] (.alt (o 48 (.call 25 [.t 44, .t 45, .t 47,i64 20000])) [mv 43 48,o 49 (.ext (.t 43) 0),o 50 (.ext (.t 43) 1)] (.alt (od (.st 2 (.t 17) (.t 49))) [mv 18 50] .fin .no) .no) .no) .no))) (.seq (.regt [mv 52 16,o 53 (.ld (some 2) (.t 9)),mv 54 3] (.alt (⟨some 55,none, .call 24 [.t 54,i64 60],[(some 53,none, .ld (some 2) (.t 9))]⟩) [] (.alt (o 56 (.call 25 [.t 52, .t 53, .t 55,i64 20000])) [mv 51 56,o 57 (.ext (.t 51) 0),o 58 (.ext (.t 51) 1)] (.alt (⟨some 19,none, .alloc 27 [.sl none 0 0 none, .bool false],[(some 53,none, .ld (some 2) (.t 9))]⟩) [] (.alt (od (.st 2 (.t 19) (.t 57))) [mv 20 58] .fin .no) .no) (.alt (⟨some 19,none, .alloc 27 [.sl none 0 0 none, .bool false],[(some 53,none, .ld (some 2) (.t 9))]⟩) [] (.alt (o 56 (.call 25 [.t 52, .t 53, .t 55,i64 20000])) [mv 51 56,o 57 (.ext (.t 51) 0),o 58 (.ext (.t 51) 1)] (.alt (od (.st 2 (.t 19) (.t 57))) [mv 20 58] .fin .no) .no) .no)) (.alt (⟨some 19,none, .alloc 27 [.sl none 0 0 none, .bool false],[(some 53,none, .ld (some 2) (.t 9))]⟩) [] (.alt (⟨some 55,none, .call 24 [.t 54,i64 60],[(some 53,none, .ld (some 2) (.t 9))]⟩) [] (.alt (o 56 (.call 25 [.t 52, .t 53, .t 55,i64 20000])) [mv 51 56,o 57 (.ext (.t 51) 0),o 58 (.ext (.t 51) 1)] (.alt (od (.st 2 (.t 19) (.t 57))) [mv 20 58] .fin .no) .no) .no) .no))) (.seq (.reg [mv 60 15,mv 61 4,mv 62 5,mv 63 6,o 64 (.call 77 [.t 60, .t 61, .t 62, .t 63]),mv 59 64,o 65 (.ext (.t 59) 0),o 66 (.ext (.t 59) 1),mv 21 65,mv 22 66]) (.seq (.reg [mv 68 16,mv 69 4,mv 70 5,mv 71 6,o 72 (.call 77 [.t 68, .t 69, .t 70, .t 71]),mv 67 72,o 73 (.ext (.t 67) 0),o 74 (.ext (.t 67) 1),mv 23 73,mv 24 74]) (.seq (.reg [mv 75 18,mv 76 20,bn 77 .eql 75 76,mv 78 77,og 79 78 true (.ld (some 2) (.t 17)),og 80 78 true (.ld (some 2) (.t 19)),og 81 78 true (.call 29 [.t 79, .t 80]),o 82 (.pick (.t 78) (.t 81) (.c (.bool false))),mv 83 82,og 84 83 true (.mv (.t 22)),og 85 83 true (.mv (.t 24)),og 86 83 true (.bin .eql (.t 84) (.t 85)),o 87 (.pick (.t 83) (.t 86) (.c (.bool false))),mv 88 87,og 89 88 true (.mv (.t 21)),og 90 88 true (.mv (.t 23)),og 91 88 true (.call 83 [.t 89, .t 90]),o 92 (.pick (.t 88) (.t 91) (.c (.bool false))),mv 93 92,og 94 93 true (.call 26 []),o 95 (.pick (.t 93) (.t 94) (.c (.bool false))),mv 14 95]) .ret)))))))))
theorem in_law19_PowerTables:Ent 15 96 c_law19_PowerTables [.t 14]:=ent Tryz.func15 rfl rfl rfl (show compile _ 96 _=_ by kernel_rfl) (show compRes _ 96 _=_ by kernel_rfl)
def c_law19_wakes:AC:= .seq (.reg [o 0 (.mv (.c (.bool false)))]) (.seq (.reg [o 6 (.bld [.int .i64 0, .int .i64 0, .int .i64 0, .int .i64 0, .int .i64 0, .int .i64 0, .int .i64 0, .int .i64 0, .int .i64 0, .int .i64 0, .int .i64 0] []),o 7 (.call 23 [.t 6]),mv 1 7]) (.seq (.seq (.reg [mv 8 1,o 9 (.peq false (.t 8) (.c (.ptr none)))]) (.cond (.t 9) (.seq (.reg [o 0 (.mv (.c (.bool false)))]) .ret) .skip)) (.seq (.reg [mv 11 1,o 12 (.call 49 [i64 (-2)]),o 13 (.call 25 [.t 11, .t 12,i64 3,i64 4]),mv 10 13,o 14 (.ext (.t 10) 0),o 15 (.ext (.t 10) 1),o 2 (.alloc 27 [.sl none 0 0 none, .bool false]),od (.st 2 (.t 2) (.t 14)),mv 3 15]) (.seq (.reg [mv 17 1,o 18 (.call 49 [i64 (-2)]),o 19 (.call 25 [.t 17, .t 18,i64 3,i64 3]),mv 16 19,o 20 (.ext (.t 16) 0),o 21 (.ext (.t 16) 1),o 4 (.alloc 27 [.sl none 0 0 none, .bool false]),od (.st 2 (.t 4) (.t 20)),mv 5 21]) (.seq (.reg [mv 22 3,o 23 (.bin .eql (.t 22) (i64 0)),mv 24 23,og 25 24 true (.ld (some 2) (.t 2)),⟨some 26,some (24,true), .call 47 [i64 (-8)],[(some 25,some (24,true), .ld (some 2) (.t 2))]⟩,⟨some 27,some (24,true), .call 30 [.t 26],[(some 25,some (24,true), .ld (some 2) (.t 2))]⟩,og 28 24 true (.call 29 [.t 25, .t 27]),o 29 (.pick (.t 24) (.t 28) (.c (.bool false))),mv 30 29,og 31 30 true (.mv (.t 5)),og 32 30 true (.bin .eql (.t 31) (i64 10)),o 33 (.pick (.t 30) (.t 32) (.c (.bool false))),mv 0 33]) .ret)))))
theorem in_law19_wakes:Ent 26 34 c_law19_wakes [.t 0]:=ent Tryz.func26 rfl rfl rfl (show compile _ 34 _=_ by kernel_rfl) (show compRes _ 34 _=_ by kernel_rfl)
end
end Ab
end Go.Proofs.YtnlkbdmmoplkoaaGreatDoor
