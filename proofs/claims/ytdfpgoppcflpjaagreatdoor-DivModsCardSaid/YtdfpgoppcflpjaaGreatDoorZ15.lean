/- Joined texts: J1 J3 I1 J4 J5 J6. No condition. -/
import Derived.Test.YtdfpgoppcflpjaaGreatDoorZ14
import Derived.Test.YtdfpgoppcflpjaaGreatDoorProg
import Derived.KernelRfl
namespace Go.Proofs.YtdfpgoppcflpjaaGreatDoor
namespace Ab
open Go Go.RowKit
set_option linter.unusedSimpArgs false
set_option linter.unusedVariables false
attribute [local go_sem ↓] x_mv x_pick x_bin x_beq x_peq x_seq x_cat x_aeq x_idxS x_idxV x_un x_cvI x_idx x_idxA x_fld x_ld x_st x_nn x_prt x_slc x_mk x_bsl x_bld x_box x_alloc x_len x_capo x_mnx x_app x_cpy x_mkf x_ext x_call x_callV x_bad s_none s_some s_nil s_cons s_chks w_skip w_reg tP_fin tP_no tP_alt w_seq w_cond w_block w_exit w_ret t_normal t_exit t_ret b_normal b_ret b_exit n_normal n_exit n_ret p_normal p_ret f_nil f_t f_c k_ops k_chk k_fin
attribute [local go_sem] e_t e_c e_f u_some u_none u_at env_at k_v k_pick k_add k_sub k_mul k_quo k_rem k_and k_or k_xor k_shl k_shr k_eql k_neq k_lss k_leq k_gtr k_geq k_beq k_peqn k_peqs k_neg k_not k_com k_cvI k_idxS k_idxV1 k_idxVn k_idx k_idxA k_idxG k_ldG k_gld k_seq k_cat k_aeq k_eqs k_fld k_ld1 k_ldn k_get k_gets k_sti k_stb k_stp k_sts k_stf k_sta k_put k_nn k_prt1 k_prtn k_slc_a k_slc_b k_slc_c k_mk k_agg k_bsl k_box k_len k_lenS k_cap k_max k_min k_ext k_callV k_true k_false k_gtt k_gtf k_gft k_gsk k_gff k_lit1i k_lit2i k_lit3i k_c0 k_c1 k_ck List.getElem?_cons_zero List.getElem?_cons_succ List.getElem?_nil Option.getD_some Option.getD_none tupOf List.map_cons List.map_nil Option.map_some Option.map_none List.nil_append List.cons_append List.append_nil Nat.mul_one Int.toNat_natCast Nat.zero_add
attribute [local go_sem] e_t e_c e_f u_some u_none u_at env_at k_v k_pick k_add k_sub k_mul k_quo k_rem k_and k_or k_xor k_shl k_shr k_eql k_neq k_lss k_leq k_gtr k_geq k_beq k_peqn k_peqs k_neg k_not k_com k_cvI k_idxS k_idxV1 k_idxVn k_idx k_idxA k_idxG k_ldG k_gld k_seq k_cat k_aeq k_eqs k_fld k_ld1 k_ldn k_get k_gets k_sti k_stb k_stp k_sts k_stf k_sta k_put k_nn k_prt1 k_prtn k_slc_a k_slc_b k_slc_c k_mk k_agg k_bsl k_box k_len k_lenS k_cap k_max k_min k_ext k_callV k_true k_false k_gtt k_gtf k_gft k_gsk k_gff k_lit1i k_lit2i k_lit3i k_c0 k_c1 k_ck List.getElem?_cons_zero List.getElem?_cons_succ List.getElem?_nil Option.getD_some Option.getD_none tupOf List.map_cons List.map_nil Option.map_some Option.map_none List.nil_append List.cons_append List.append_nil Nat.mul_one Int.toNat_natCast Nat.zero_add
--what a store into a cell of two leaves
attribute [local go_sem_proc] Nat.reduceEqDiff Nat.reduceAdd Int.reduceToNat
attribute [local go_sem_proc ↓] reduceIte
attribute [local go_sem] Bool.false_eq_true
theorem H.le_over {u:Nat} {a b c:H} (hw:a.wf) (h1:a.le b) (hu:a.next≤u) (h2:H.lee u b c):a.le c:=
 ⟨Nat.le_trans h1.1 h2.1,fun i r e=>h2.2 i r (by have:=H.row_lt hw e;omega) (h1.2 i r e)⟩
theorem two_and {p:Prop}:((2:Int)≠0∧p)=p:=by simp
section
def gA (D:Nat):Nat:=((2*D+3)/64+2)*((D+4)/64+2)
def gB (D:Nat):Nat:=(8*(((D+4)/64+1)*((D+1)/64+1))+8*(((D+1)/64+1)*((2*D+3)/64+1)))+8*(((D+4)/64+1)*((D+1)/64+1))
def gR (D:Nat):Nat:=(44*(D*D)+20000*D)/4096+12
theorem gR_ok:∀D,D<1930→gA D+(if D≤64 then 0 else gR (D/2+4)+gB D)≤gR D:=by decide+kernel
theorem gR_mono {C D:Nat} (h:C≤D):gR C≤gR D:=by
 unfold gR
 have h1:C*C≤D*D:=Nat.mul_le_mul h h
 have h2:(44*(C*C)+20000*C)/4096≤(44*(D*D)+20000*D)/4096:=Nat.div_le_div_right (by omega)
 omega
theorem rc_args {b n:Nat} (h0:0<b) (h1:b≤n+1):∃c m,b-(b-((n+1-b)/2+4)-4)=c∧c-1+((n+1-b)/2+4)=m∧0<c∧c≤m+1∧m+1-c=(n+1-b)/2+4∧c≤b∧c≤(n+1-b)/2+8:=
 ⟨_,_,rfl,rfl,by omega,by omega,by omega,by omega,by omega⟩
theorem rcC_le:∀(f b n:Nat),0<b→b≤n+1→b≤(n+1-b)+4→n+1-b<1930→rcC f b n≤gR (n+1-b):=by
 intro f
 induction f with
 |zero=>intro b n _ _ _ _;exact Nat.zero_le _
 |succ f ih=>
  intro b n h0 h1 h2 h3
  have hg:=gR_ok _ h3
  obtain⟨c,m,e1,e2,c0,c1,c2,_,c3⟩:=rc_args h0 h1
  have d1:n/64≤(2*(n+1-b)+3)/64:=Nat.div_le_div_right (by omega)
  have d2:b/64≤((n+1-b)+4)/64:=Nat.div_le_div_right (by omega)
  have d3:(n+2-b)/64=((n+1-b)+1)/64:=by congr 1;omega
  have m1:(n/64+2)*(b/64+2)≤gA (n+1-b):=Nat.mul_le_mul (by omega) (by omega)
  rcases Nat.lt_or_ge 64 (n+1-b) with h4|h4
  ·rw[rcC_big h4,e1,e2]
   rw[if_neg (by omega)] at hg
   have ih:=ih c m c0 c1 (by omega) (by omega)
   rw[c2] at ih
   have m2:(8*((b/64+1)*((n+2-b)/64+1))+8*(((n+2-b)/64+1)*(n/64+1)))+8*((b/64+1)*((n+2-b)/64+1))≤gB (n+1-b):=by
    unfold gB
    rw[d3]
    have k1:(b/64+1)*(((n+1-b)+1)/64+1)≤(((n+1-b)+4)/64+1)*(((n+1-b)+1)/64+1):=Nat.mul_le_mul (by omega) (Nat.le_refl _)
    have k2:(((n+1-b)+1)/64+1)*(n/64+1)≤(((n+1-b)+1)/64+1)*((2*(n+1-b)+3)/64+1):=Nat.mul_le_mul (Nat.le_refl _) (by omega)
    omega
   omega
  ·rw[if_pos h4] at hg
   simp only[rcC]
   rw[if_pos h4]
   omega
theorem gT_ok:∀n,n<61→∀v,v<58→v+3≤n→3≤v→(n+2)*(n-v+2)+gR (32*v+4)+24*((n-v+1)*(v+1))+16*((v+1)*(n+1))≤64*(n*n)+64:=by decide+kernel
theorem dvC_le {n b:Nat} (hn:n≤60) (h1:4≤(b+63)/64) (h2:(b+63)/64+3≤n):dvC n b≤64*(n*n)+64:=by
 obtain⟨q,hq⟩:∃q,q=b/64:=⟨_,rfl⟩
 obtain⟨v,hv⟩:∃v,v=n-q:=⟨_,rfl⟩
 have ht:=gT_ok n (by omega) v (by omega) (by omega) (by omega)
 obtain⟨D,hD⟩:∃D,D=64*n+1-b:=⟨_,rfl⟩
 have hDv:D≤64*v+1:=by omega
 obtain⟨c,m,e1,e2,c0,c1,c2,_,c3⟩:=rc_args (b:=b) (n:=64*n) (by omega) (by omega)
 have h64:64<64*n+1-b:=by omega
 have hr:=rcC_le (64*n+1) c m c0 c1 (by omega) (by omega)
 rw[c2,←hD] at hr
 have hr2:gR (D/2+4)≤gR (32*v+4):=gR_mono (by omega)
 have dw:dvW n b≤v+1:=by unfold dvW;omega
 have w1:(64*n+2-b)/64+1≤v+1:=by omega
 have w2:b/64+1=n-v+1:=by omega
 have w3:64*n/64=n:=by omega
 have w4:(b+63)/64≤n-v+1:=by omega
 unfold dvC
 rw[show 64*n+2=(64*n+1)+1 from rfl,rcC_big h64,e1,e2,w3]
 have k0:(n+2)*(b/64+2)=(n+2)*(n-v+2):=by congr 1;omega
 have k1:(b/64+1)*((64*n+2-b)/64+1)≤(n-v+1)*(v+1):=Nat.mul_le_mul (by omega) w1
 have k2:((64*n+2-b)/64+1)*(n+1)≤(v+1)*(n+1):=Nat.mul_le_mul w1 (Nat.le_refl _)
 have k3:n*dvW n b≤(v+1)*(n+1):=by rw[Nat.mul_comm];exact Nat.mul_le_mul dw (by omega)
 have k4:dvW n b*((b+63)/64)≤(n-v+1)*(v+1):=by rw[Nat.mul_comm];exact Nat.mul_le_mul w4 dw
 rw[k0]
 generalize (n+2)*(n-v+2)=z0 at*
 generalize (n-v+1)*(v+1)=z1 at*
 generalize (v+1)*(n+1)=z2 at*
 generalize n*n=z3 at*
 refine Nat.max_le.2 ⟨by omega, ?_⟩
 have hr':rcC (64*n+1) c m≤gR (32*v+4):=Nat.le_trans hr hr2
 clear hr hr2
 omega
theorem rcD_up {T T' k:Nat} (hT:T'/2+4≤T) (hl:lev ((2*T'+3)/64+1)≤k) (ih:∀f b n,0<b→b≤n+1→n+1-b≤T→b≤(n+1-b)+4→rcD f b n≤k):∀f b n,0<b→b≤n+1→n+1-b≤T'→b≤(n+1-b)+4→rcD f b n≤k+1:=by
 intro f b n h0 h1 h2 h3
 cases f with
 |zero=>exact Nat.zero_le _
 |succ f=>
  rcases Nat.lt_or_ge 64 (n+1-b) with h4|h4
  ·obtain⟨c,m,e1,e2,c0,c1,c2,_,c3⟩:=rc_args h0 h1
   rw[rcD_big h4,e1,e2]
   have ih:=ih f c m c0 c1 (by omega) (by omega)
   have l1:lev (max (b/64+1) (max ((n+2-b)/64+1) (n/64+1)))≤k:=Nat.le_trans (lev_mono _ _ (by omega)) hl
   have l2:lev (max (b/64+1) ((n+2-b)/64+1))≤k:=Nat.le_trans (lev_mono _ _ (by omega)) hl
   omega
  ·simp only[rcD]
   rw[if_pos h4]
   exact Nat.zero_le _
theorem lev3:lev 3≤0:=Nat.le_of_eq (lev_small (by decide))
theorem lev_up {n m k:Nat} (h:4≤n) (hm:(n+1)/2+1≤m) (hk:lev m≤k):lev n≤k+1:=by
 rw[lev_big h]
 have:=lev_mono _ _ hm
 omega
theorem lev4:lev 4≤1:=lev_up (by decide) (by decide) lev3
theorem lev6:lev 6≤2:=lev_up (by decide) (by decide) lev4
theorem lev10:lev 10≤3:=lev_up (by decide) (by decide) lev6
theorem lev18:lev 18≤4:=lev_up (by decide) (by decide) lev10
theorem lev34:lev 34≤5:=lev_up (by decide) (by decide) lev18
theorem lev66:lev 66≤6:=lev_up (by decide) (by decide) lev34
theorem lev130:lev 130≤7:=lev_up (by decide) (by decide) lev66
theorem rcD_le:∀f b n,0<b→b≤n+1→n+1-b≤2110→b≤(n+1-b)+4→rcD f b n≤7:=by
 have t0:∀f b n,0<b→b≤n+1→n+1-b≤64→b≤(n+1-b)+4→rcD f b n≤0:=by
  intro f b n _ _ h _
  cases f with
  |zero=>exact Nat.le_refl _
  |succ f=>simp only[rcD];rw[if_pos h];exact Nat.le_refl _
 have t1:=rcD_up (T':=94) (by decide) lev3 t0
 have t2:=rcD_up (T':=126) (by decide) lev4 t1
 have t3:=rcD_up (T':=190) (by decide) lev6 t2
 have t4:=rcD_up (T':=318) (by decide) lev10 t3
 have t5:=rcD_up (T':=574) (by decide) lev18 t4
 have t6:=rcD_up (T':=1086) (by decide) lev34 t5
 exact rcD_up (T':=2110) (by decide) lev66 t6
theorem dvD_le {n b:Nat} (hn:n≤60) (h0:0<b) (h2:(b+63)/64≤n):dvD n b≤8:=by
 have l1:lev (2*((b+63)/64))≤7:=Nat.le_trans (lev_mono _ _ (by omega)) lev130
 have l2:lev (n+1)≤6:=Nat.le_trans (lev_mono _ _ (by omega)) lev66
 have l3:rcD (64*n+2) b (64*n)≤8:=by
  rcases Nat.lt_or_ge 64 (64*n+1-b) with h4|h4
  ·obtain⟨c,m,e1,e2,c0,c1,c2,_,c3⟩:=rc_args (b:=b) (n:=64*n) (by omega) (by omega)
   rw[show 64*n+2=(64*n+1)+1 from rfl,rcD_big h4,e1,e2]
   have:=rcD_le (64*n+1) c m c0 c1 (by omega) (by omega)
   have l4:lev (max (b/64+1) (max ((64*n+2-b)/64+1) (64*n/64+1)))≤7:=Nat.le_trans (lev_mono _ _ (by omega)) lev130
   have l5:lev (max (b/64+1) ((64*n+2-b)/64+1))≤7:=Nat.le_trans (lev_mono _ _ (by omega)) lev130
   omega
  ·rw[show 64*n+2=(64*n+1)+1 from rfl]
   simp only[rcD]
   rw[if_pos (by omega)]
   exact Nat.zero_le _
 unfold dvD
 omega
section
variable {e u m nw dp a b:Nat} {t:Tb} {va vb:AV} {h:H} {K:AV→H→Prop}
set_option maxRecDepth 100000 in
theorem DivMod3_calls (hT:TbOK t) (he:Eng 7 h e u) (ht:Tune h u m nw dp t) (na:Nn h va a) (nb:Nn h vb b) (wa:wlen a≤4000) (wb:wlen b≤4000) (hnw:nw≤600000000) {C D:Nat} (hC1:wlen b≤wlen a→64*(wlen a*wlen a)≤C) (hC2:4≤wlen b→wlen b+3≤wlen a→dvC (wlen a) (blen b)≤C) (hD1:wlen b≤wlen a→lev (2*wlen b)+1≤D) (hD2:4≤wlen b→wlen b+3≤wlen a→dvD (wlen a) (blen b)≤D)
  (hk0:b=0→h.wf→K (.tup [.sl none 0 0 none, .sl none 0 0 none, .int .i64 2]) h)
  (hk:0<b→∀q r h' m' dp',h'.wf→H.lee u h h'→Tune h' u m' nw dp' t→Sp m dp m' dp' nw C D→Nf h.next h' q (a/b)→Nf h.next h' r (a%b)→K (.tup [q,r, .int .i64 0]) h'):
  ACalls Tryz.prog 39 [.ptr (some (e,0)),va,vb] h K:=by
 have ba:Big a:=wbig wa (by omega)
 have bb:Big b:=wbig wb (by omega)
 refine in_div_Engine_DivMod (by simp) fun hw=> ?_
 unfold c_div_Engine_DivMod
 obtain⟨f,rfl,rfl,G,E⟩:=Eng.path ht he
 have l0:=H.lee_refl (f 7) h
 have htd:=tune_div ht
 have htr:=tune_recip ht
 have hT1:=hT.1
 have hwb:=wlen_blen b
 have hC3:0<b→longCost a b≤C:=fun h0=>by
  have hb1:wlen b≠0:=fun h=>by have:=wlen_eq_zero.1 h;omega
  unfold longCost
  split
  ·exact Nat.zero_le _
  ·rename_i hge
   have h1:=hC1 (by omega)
   have h2:(wlen a-wlen b+1)*(wlen b+1)≤(2*wlen a)*(2*wlen a):=Nat.mul_le_mul (by omega) (by omega)
   have h3:(2*wlen a)*(2*wlen a)=4*(wlen a*wlen a):=by rw[Nat.mul_mul_mul_comm]
   omega
 have hspL:0<b→Sp m dp (m+longCost a b) dp nw C D:=fun h0=>by
  have:=hC3 h0
  exact⟨by omega,by omega,by omega,by omega⟩
 have long:0<b→∀K0:AV→H→Prop,(∀q r h',h'.wf→H.lee (f 7) h h'→Tune h' (f 7) (m+longCost a b) nw dp t→Nf h.next h' q (a/b)→Nf h.next h' r (a%b)→K0 (.tup [q,r, .int .i64 0]) h')→ACalls Tryz.prog 50 [.ptr (some (f 2,0)),va,vb] h K0:=fun h0 K0 hK=>Long_calls (E 2 (by omega)) ht na nb ba bb (fun h=>absurd h (by omega)) fun _ q r h' a1 a2 a3 a4 a5=>hK q r h' a1 a2 a3 a4 a5
 simp only[go_sem]
 refine LenN_calls na ?_
 simp only[go_sem]
 refine LenN_calls nb ?_
 rcases Nat.eq_zero_or_pos b with h0|h0
 ·have hz:wlen b=0:=by rw[h0];rfl
  simp only[go_sem,hz,eqT (show((0:Nat):Int)=0 from rfl)]
  exact hk0 h0
 have hM:wlen b≠0:=fun h=>by have:=wlen_eq_zero.1 h;omega
 have hwa0:=hwb
 rcases Nat.lt_or_ge (wlen a) (wlen b) with c1|c1
 ·simp only[go_sem,eqF (show((wlen b:Nat):Int)≠0 by omega),ltT c1,G 0 (by omega) _ l0,G 1 (by omega) _ l0]
  refine long h0 _ fun q r h1 hw1 hl1 ht1 hq hr=> ?_
  simp only[go_sem]
  exact fun hw'=>hk h0 q r h1 _ _ hw' hl1 ht1 (hspL h0) hq hr
 by_cases c2:((wlen b:Nat):Int)<t.div
 ·simp only[go_sem,eqF (show((wlen b:Nat):Int)≠0 by omega),ltF c1,G 0 (by omega) _ l0,G 1 (by omega) _ l0,G 2 (by omega) _ l0,G 3 (by omega) _ l0,G 4 (by omega) _ l0,G 5 (by omega) _ l0,G 6 (by omega) _ l0,htd,decide_eq_true c2]
  refine long h0 _ fun q r h1 hw1 hl1 ht1 hq hr=> ?_
  simp only[go_sem]
  exact fun hw'=>hk h0 q r h1 _ _ hw' hl1 ht1 (hspL h0) hq hr
 have e1:=subI (a:=wlen a) (b:=wlen b) c1 (by omega)
 have e2:=incI (i:=wlen a-wlen b) (by omega)
 by_cases c3:((wlen a-wlen b+1:Nat):Int)<t.div
 ·simp only[go_sem,eqF (show((wlen b:Nat):Int)≠0 by omega),ltF c1,G 0 (by omega) _ l0,G 1 (by omega) _ l0,G 2 (by omega) _ l0,G 3 (by omega) _ l0,G 4 (by omega) _ l0,G 5 (by omega) _ l0,G 6 (by omega) _ l0,htd,decide_eq_false c2,e1,e2,decide_eq_true c3]
  refine long h0 _ fun q r h1 hw1 hl1 ht1 hq hr=> ?_
  simp only[go_sem]
  exact fun hw'=>hk h0 q r h1 _ _ hw' hl1 ht1 (hspL h0) hq hr
 by_cases c4:t.recip≤((wlen b:Nat):Int)
 ·simp only[go_sem,eqF (show((wlen b:Nat):Int)≠0 by omega),ltF c1,G 0 (by omega) _ l0,G 1 (by omega) _ l0,G 2 (by omega) _ l0,G 3 (by omega) _ l0,G 4 (by omega) _ l0,G 5 (by omega) _ l0,G 6 (by omega) _ l0,htd,htr,decide_eq_false c2,e1,e2,decide_eq_false c3,show decide (((wlen b:Nat):Int)≥t.recip)=true from decide_eq_true c4,show decide (((wlen a:Nat):Int)≤16384)=true from decide_eq_true (by omega)]
  refine dnewton_calls he ht na nb wa wb c1 h0 hnw fun q r h1 m1 dp1 hw1 hl1 ht1 hsp hq hr=> ?_
  simp only[go_sem]
  exact fun hw'=>hk h0 q r h1 _ _ hw' hl1 ht1 (hsp.le (hC2 (by omega) (by omega)) (hD2 (by omega) (by omega))) hq hr
 ·simp only[go_sem,eqF (show((wlen b:Nat):Int)≠0 by omega),ltF c1,G 0 (by omega) _ l0,G 1 (by omega) _ l0,G 2 (by omega) _ l0,G 3 (by omega) _ l0,G 4 (by omega) _ l0,G 5 (by omega) _ l0,G 6 (by omega) _ l0,htd,htr,decide_eq_false c2,e1,e2,decide_eq_false c3,show decide (((wlen b:Nat):Int)≥t.recip)=false from decide_eq_false c4]
  refine Halves_calls hT he ht na nb wa wb hnw (fun h=>absurd h (by omega)) fun _ q r h1 m1 dp1 hw1 hl1 ht1 hsp hq hr=> ?_
  simp only[go_sem]
  refine fun hw'=>hk h0 q r h1 _ _ hw' hl1 ht1 (hsp.le ?_ ?_) hq hr
  ·exact hC1 c1
  ·exact hD1 c1
end
end
def sg (b:Bool) (x:Nat):Int:=if b=true then-(x:Int) else(x:Int)
theorem g2 {h:H} {i:Nat} {T:Option TypeId} {a b:AV} (hr:h.rows i=some ⟨T,2,[a,b]⟩):h.get i 0=some a∧h.get i 1=some b∧h.gets i 0 2=some [a,b]:=by
 rw[H.get_of hr,H.get_of hr,H.gets_of hr (by simp)]
 exact⟨rfl,rfl,rfl⟩
section
section
variable {va vb:AV} {x y n:Nat} {xs:List Nat} {h:H} {K:AV→H→Prop}
theorem from15_calls (hv:Nn h va x) (hk:∀r h',h'.wf→h.le h'→Num 4294967296 h' r x→K r h'):ACalls Tryz.prog 42 [va] h K:=by
 obtain⟨xs,h1,h2,h3,rfl⟩:=hv
 refine in_law15_from (by simp) fun hw=> ?_
 unfold c_law15_from
 simp only[go_sem]
 refine From_calls h1 h2 (by omega) fun r h' hw' hl' hr=> ?_
 simp only[go_sem]
 exact fun _=>hk r h' hw' hl' hr
theorem words15_calls (hv:Nn h va x) (hk:K (.int .i64 (wlen x:Nat)) h):ACalls Tryz.prog 41 [va] h K:=by
 refine in_law15_words (by simp) fun hw=> ?_
 unfold c_law15_words
 simp only[go_sem]
 refine LenN_calls hv ?_
 simp only[go_sem]
 exact fun _=>hk
theorem Nf.nil_of {b:Nat} {v:AV} (hv:Nf b h v 0):∃id c,v= .sl id 0 0 c:=by
 obtain⟨xs,h1,h2,h3,h4⟩:=hv
 have:xs.length=0:=by rw[top_len h2 h3,h4];rfl
 obtain⟨id,c,e⟩:=h1.form
 rw[this] at e
 exact⟨id,c,e⟩
theorem wakes15_calls (hk:∀h',h'.wf→h.le h'→K (.bool true) h'):ACalls Tryz.prog 40 [] h K:=by
 refine in_law15_wakes (by simp) fun hw=> ?_
 unfold c_law15_wakes
 have e1:∀l:List AV,abuild l []=some l:=fun l=>by simp[abuild]
 simp only[go_sem,e1]
 refine diNew_calls (t:=⟨0,0,0,0,0,0,0,0,0,0,0⟩) fun e u h1 hw1 hl1 hn1 hue he ht=> ?_
 simp only[go_sem,Bool.false_bne,Option.isNone]
 have hw2:=H.wf_new hw1 ⟨some 47,1,[AV.int .u64 7]⟩
 have hl2:=H.le_new hw1 (H.le_refl h1) ⟨some 47,1,[AV.int .u64 7]⟩
 have hl3:=H.le_new hw2 (H.le_refl _) ⟨some 47,1,[AV.int .u64 9]⟩
 have d1:Dig [7]:=Dig.one (by omega)
 have d2:Dig [9]:=Dig.one (by omega)
 refine DivMod2_calls (clamp_ok _) (a:=val 18446744073709551616 [7]) (b:=val 18446744073709551616 [9]) ((he.mono hl2).mono hl3) ((ht.mono hl2).mono hl3) (((IsN.lit [7] _ rfl rfl).mono hl3).nn d1 (by simp)) ((IsN.lit [9] _ rfl rfl).nn d2 (by simp)) (by decide) (by decide) (by omega) (fun h=>absurd h (by decide)) fun _ q r h4 m4 dp4 hw4 hl4 ht4 _ hq hr=> ?_
 rw[show val 18446744073709551616 [7]/val 18446744073709551616 [9]=0 by decide] at hq
 obtain⟨iq,cq,rfl⟩:=hq.nil_of
 obtain⟨rs,hr1,hr2,hr3,hr4⟩:=hr
 have hrl:rs=[7]:=top_inj hr2 (Dig.one (by omega)) hr3 (fun z hz=>by simp at hz;omega) (by rw[hr4];decide)
 subst hrl
 have hl04:=H.le_over hw (H.le_trans hl1 (H.le_trans hl2 hl3)) hn1 hl4
 simp only[go_sem,beq_self_eq_true,eqT (show((0:Nat):Int)=0 from rfl)]
 have hl5:=H.le_new hw4 (H.le_refl h4) ⟨some 47,1,[AV.int .u64 7]⟩
 refine kSame_calls (xs:=[7]) (hr1.isN.mono hl5) (IsN.lit [7] _ rfl rfl) (by simp) ?_
 simp only[go_sem]
 exact fun hw'=>hk _ hw' (H.le_trans hl04 hl5)
theorem mDeep_calls {u m nw dp:Nat} {t:Tb} (ht:Tune h u m nw dp t) (hk:K (.int .i64 (dp:Nat)) h):ACalls Tryz.prog 44 [.ptr (some (u,0))] h K:=by
 refine in_meter_Meter_Deep (by simp) fun hw=> ?_
 unfold c_meter_Meter_Deep
 simp only[go_sem,(tune_row ht).2]
 exact fun _=>hk
theorem mNow_calls {u m nw dp:Nat} {t:Tb} (ht:Tune h u m nw dp t) (hk:K (.int .i64 (nw:Nat)) h):ACalls Tryz.prog 45 [.ptr (some (u,0))] h K:=by
 refine in_meter_Meter_Now (by simp) fun hw=> ?_
 unfold c_meter_Meter_Now
 simp only[go_sem,(tune_row ht).1]
 exact fun _=>hk
end
end
section
theorem blen_halfs {k:Nat} (h:0<k):blen (k/2)+1=blen k:=by
 have h1:=(blen_ge h).1
 have:=blen_shr (d:=k) (c:=1)
 rcases Nat.lt_or_ge 1 (blen k) with h2|h2
 ·have:=this h2
  rw[show k/2^1=k/2 from rfl] at this
  omega
 ·have h3:=blen_lt k
  have h4:blen k=1:=by omega
  rw[h4] at h3
  have:k=1:=by omega
  subst this
  rfl
section
variable {t:Tb} {va vb vc:AV} {xs0 ys0 zs0:List Nat} {h:H} {K:AV→H→Prop}
set_option maxHeartbeats 2000000 in
theorem DivMods_law (hv0:IsN h va xs0) (hx0:Dig xs0) (hu0:IsN h vb ys0) (hy0:Dig ys0) (hk:∀h',h'.wf→K (.bool true) h'):ACalls Tryz.prog 8 [t.av,va,vb] h K:=by
 refine in_law15_DivMods (by simp) fun hw=> ?_
 unfold c_law15_DivMods
 have hl0:=H.le_new hw (H.le_refl h) ⟨some 23,11,t.cells⟩
 have hr0:=H.rows_new h ⟨some 23,11,t.cells⟩
 simp only[go_sem,av_held,av_cells,cells_len,true_and]
 generalize hg:h.new ⟨some 23,11,t.cells⟩=g0 at*
 refine Cut_calls (n:=60) (hv0.mono hl0) fun a ha=> ?_
 simp only[go_sem]
 refine Cut_calls (n:=40) (hu0.mono hl0) fun b hb=> ?_
 have hxd:Dig (xs0.take 60):=Dig.take hx0 60
 have hyd:Dig (ys0.take 40):=Dig.take hy0 40
 have hxl:(xs0.take 60).length≤60:=by simp;omega
 have hyl:(ys0.take 40).length≤40:=by simp;omega
 generalize xs0.take 60=xs at*
 generalize ys0.take 40=ys at*
 simp only[go_sem,gsT hr0]
 refine diNew_calls fun e u g1 hw1 hl1 hn1 hue he ht=> ?_
 simp only[go_sem,Option.isNone,Bool.false_bne]
 refine Lend_calls (ha.mono hl1) (by omega) fun x g2 hw2 hl2 lx=> ?_
 simp only[go_sem]
 refine Lend_calls (hb.mono (H.le_trans hl1 hl2)) (by omega) fun y g3 hw3 hl3 ly=> ?_
 have lx3:=lx.mono hl3
 have wx:wlen (val 18446744073709551616 xs)≤60:=Nat.le_trans (wlen_len hxd) hxl
 have wy:wlen (val 18446744073709551616 ys)≤40:=Nat.le_trans (wlen_len hyd) hyl
 have bx:Big (val 18446744073709551616 xs):=wbig wx (by omega)
 have by_:Big (val 18446744073709551616 ys):=wbig wy (by omega)
 have hut:=H.row_lt hw1 ht
 have ht3:=(ht.mono hl2).mono hl3
 have he3:=(he.mono hl2).mono hl3
 have hA3:=ha.mono (H.le_trans hl1 (H.le_trans hl2 hl3))
 have hB3:=hb.mono (H.le_trans hl1 (H.le_trans hl2 hl3))
 have na3:=hA3.nn hxd (by omega)
 have nb3:=hB3.nn hyd (by omega)
 have hyb:=wlen_blen (val 18446744073709551616 ys)
 simp only[go_sem]
 refine DivMod3_calls (clamp_ok _) he3 ht3 (lx3.isN.nn hxd (by omega)) (ly.isN.nn hyd (by omega)) (by omega) (by omega) (by omega) (C:=64*(wlen (val 18446744073709551616 xs)*wlen (val 18446744073709551616 xs))+64) (D:=8) (fun _=>Nat.le_add_right _ _) (fun h1 h2=>dvC_le wx (by omega) (by omega)) (fun h1=> ?_) (fun h1 h2=>dvD_le wx (by omega) (by omega)) (fun hz hw4=> ?_) (fun hpos q r g4 m4 dp4 hw4 hl4 ht4 hsp hq hr=> ?_)
 ·have:=Nat.le_trans (lev_mono _ _ (show 2*wlen (val 18446744073709551616 ys)≤130 by omega)) lev130
  omega
 ·simp only[go_sem]
  refine words15_calls nb3 ?_
  rw[hz,wlen_zero]
  simp only[go_sem,eqT (show((0:Nat):Int)=0 from rfl),beq_self_eq_true]
  refine wakes15_calls fun g5 hw5 hl5=> ?_
  simp only[go_sem]
  exact fun _=>hk g5 hw5
 ·have hm1:wlen (val 18446744073709551616 ys)≠0:=fun h=>by have:=wlen_eq_zero.1 h;omega
  have na4:=na3.monoE' ht3 hl4
  have nb4:=nb3.monoE' ht3 hl4
  have he4:=he3.monoE ht3 hl4
  simp only[go_sem]
  refine words15_calls nb4 ?_
  simp only[go_sem,eqF (show((wlen (val 18446744073709551616 ys):Nat):Int)≠0 by omega)]
  refine from15_calls na4 fun fa g5 hw5 hl5 nfa=> ?_
  simp only[go_sem]
  refine from15_calls (nb4.mono hl5) fun fb g6 hw6 hl6 nfb=> ?_
  simp only[go_sem]
  refine DivMod_calls (nfa.mono hl6) nfb bx by_ hpos fun qq rr g7 hw7 hl7 nq nr=> ?_
  have hle47:=(H.le_trans hl5 (H.le_trans hl6 hl7))
  simp only[go_sem,show((0:Int) !=0)=false from rfl]
  refine rSame_calls nq (bx.le (Nat.div_le_self _ _)) (hq.nt.mono hle47) fun g8 hw8 hl8=> ?_
  simp only[go_sem,Bool.not_true]
  refine rSame_calls (nr.mono hl8) (by_.le (Nat.le_of_lt (Nat.mod_lt _ hpos))) (hr.nt.mono (H.le_trans hle47 hl8)) fun g9 hw9 hl9=> ?_
  have hle49:=(H.le_trans hle47 (H.le_trans hl8 hl9))
  simp only[go_sem,Bool.not_true]
  refine words15_calls (na4.mono hle49) ?_
  obtain⟨n,hn⟩:∃n,n=wlen (val 18446744073709551616 xs):=⟨_,rfl⟩
  rw[←hn] at hsp wx⊢
  simp only[go_sem]
  refine loop_cut (fun ρ h'=>h'=g9∧ρ 1=a∧ρ 2=b∧ρ 7= .ptr (some (e,0))∧ρ 8=x∧ρ 9=y∧ρ 10=q∧ρ 11=r∧ρ 15= .int .i64 (n:Int)∧ρ 16= .int .i64 ((8+4*blen n:Nat):Int)) ?_ ?_
  ·refine⟨fun k ρ h'=>k≤n∧h'=g9∧ρ 1=a∧ρ 2=b∧ρ 7= .ptr (some (e,0))∧ρ 8=x∧ρ 9=y∧ρ 10=q∧ρ 11=r∧ρ 15= .int .i64 (n:Int)∧ρ 17= .int .i64 (k:Int)∧∃s:Nat,ρ 16= .int .i64 (s:Int)∧s+4*blen k=8+4*blen n,n,⟨Nat.le_refl _,rfl,by first|rfl|trivial|assumption,by first|rfl|trivial|assumption,by first|rfl|trivial|assumption,by first|rfl|trivial|assumption,by first|rfl|trivial|assumption,by first|rfl|trivial|assumption,by first|rfl|trivial|assumption,by first|rfl|trivial|assumption,by first|rfl|trivial|assumption,8,by first|rfl|trivial|assumption,rfl⟩, ?_⟩
   rintro k ρ h' ⟨hkn,rfl,q1,q2,q7,q8,q9,q10,q11,q15,q17,s,q16,hs⟩
   rcases Nat.eq_zero_or_pos k with h0|h0
   ·subst h0
    rw[blen_zero] at hs
    simp only[go_sem,q1,q2,q7,q8,q9,q10,q11,q15,q16,q17,show decide ((0:Int)<((0:Nat):Int))=false from rfl]
    refine⟨trivial,trivial,trivial,trivial,trivial,trivial,trivial,trivial,trivial, ?_⟩
    rw[show s=8+4*blen n by omega]
   ·have hb:=blen_halfs h0
    have hbn:blen n≤6:=blen_le (by omega)
    have e1:IntKind.i64.wrap ((s:Int)+4)=((s+4:Nat):Int):=addI (a:=s) (b:=4) (by omega)
    have e2:((k:Nat):Int).tdiv 2=((k/2:Nat):Int):=tdivN (a:=k) (b:=2)
    simp only[go_sem,q1,q2,q7,q8,q9,q10,q11,q15,q16,q17,show decide ((0:Int)<((k:Nat):Int))=true from decide_eq_true (by omega),e1,e2,wNI (n:=k/2) (by omega),two_and]
    exact⟨k/2,by omega,by omega,trivial,by first|rfl|trivial|assumption,by first|rfl|trivial|assumption,by first|rfl|trivial|assumption,by first|rfl|trivial|assumption,by first|rfl|trivial|assumption,by first|rfl|trivial|assumption,by first|rfl|trivial|assumption,by first|rfl|trivial|assumption,by first|rfl|trivial|assumption,s+4,by first|rfl|trivial|assumption,by omega⟩
  rintro ρ g9' ⟨rfl,q1,q2,q7,q8,q9,q10,q11,q15,q16⟩
  have he9:=he4.mono hle49
  have ht9:=ht4.mono hle49
  obtain⟨f,rfl,rfl,G,E⟩:=Eng.path ht9 he9
  have l9:=H.lee_refl (f 7) g9'
  obtain⟨s1,s2,s3,s4⟩:=hsp
  have hnn:n*n≤60*60:=Nat.mul_le_mul wx wx
  have m1:IntKind.i64.wrap (64*(n:Int))=((64*n:Nat):Int):=mulI (a:=64) (b:=n) (by omega)
  have m2:IntKind.i64.wrap (((64*n:Nat):Int)*(n:Int))=((64*(n*n):Nat):Int):=by
   rw[mulI (a:=64*n) (b:=n) (by rw[Nat.mul_assoc];omega),Nat.mul_assoc]
  have m3:IntKind.i64.wrap (((64*(n*n):Nat):Int)+64)=((64*(n*n)+64:Nat):Int):=addI (a:=64*(n*n)) (b:=64) (by omega)
  simp only[go_sem,q7,G 0 (by omega) _ l9,G 1 (by omega) _ l9,G 2 (by omega) _ l9,G 3 (by omega) _ l9,G 4 (by omega) _ l9,G 5 (by omega) _ l9,G 6 (by omega) _ l9]
  refine Muls2_calls ht9 ?_
  rw[wr_small (m:=m4) (by omega)]
  simp only[go_sem,q15,m1,m2,m3,show decide (((64*(n*n)+64:Nat):Int)<(m4:Int))=false from decide_eq_false (by omega),q7,G 0 (by omega) _ l9,G 1 (by omega) _ l9,G 2 (by omega) _ l9,G 3 (by omega) _ l9,G 4 (by omega) _ l9,G 5 (by omega) _ l9,G 6 (by omega) _ l9]
  refine mDeep_calls ht9 ?_
  simp only[go_sem,q16,show decide (((8+4*blen n:Nat):Int)<(dp4:Int))=false from decide_eq_false (by omega),q7,G 0 (by omega) _ l9,G 1 (by omega) _ l9,G 2 (by omega) _ l9,G 3 (by omega) _ l9,G 4 (by omega) _ l9,G 5 (by omega) _ l9,G 6 (by omega) _ l9]
  refine mNow_calls ht9 ?_
  simp only[go_sem,show(((0:Nat):Int) !=0)=false from rfl,q10]
  have hle39:H.lee (f 7) g3 g9':=hl4.trans hle49.lee
  have hu2:f 7<g2.next:=Nat.lt_of_lt_of_le hut hl2.1
  have uw:=H.upto_wf g9' g3.next
  have ule:=H.upto_le hle39.1
  have hun:=Nat.le_of_eq (H.upto_next g9' g3.next)
  have ux:=lx3.upto hw3 hle39 hut
  have uy:=ly.upto hw3 hle39 hu2
  have ua:=hA3.upto hw3 ht3 hle39
  have ub:=hB3.upto hw3 ht3 hle39
  generalize g9'.upto g3.next=gu at*
  refine Spoil_calls (hq.mono hle49).own fun g10 hw10 hka10 hko10=> ?_
  simp only[go_sem,q11]
  refine Spoil_calls (hko10 _ _ (hr.mono hle49).own) fun g11 hw11 hka11 _=> ?_
  have ul:=hka11 gu uw (hka10 gu uw ule hun) hun
  simp only[go_sem,q8,q1]
  refine Intact_calls (ux.mono ul) (ua.mono ul) (by omega) ?_
  simp only[go_sem,q9,q2]
  refine Intact_calls (uy.mono ul) (ub.mono ul) (by omega) ?_
  simp only[go_sem]
  refine wakes15_calls fun g12 hw12 hl12=> ?_
  simp only[go_sem]
  exact fun _=>hk g12 hw12
end
set_option maxRecDepth 100000 in
theorem DivMods_row (h:H) (avs:List AV) (_:h.wf) (r:ReadsAll Tryz.prog h [23,24,24] avs):ACalls Tryz.prog 8 avs h (fun r _=>r= .bool true):=by
 match avs,r with
 |[_,_,_],⟨r0,r1,r2,_⟩=>
  obtain⟨t0,rfl⟩:=reads_table r0
  obtain⟨xs,h1,hx,_⟩:=reads_words r1
  obtain⟨ys,h2,hy,_⟩:=reads_words r2
  exact DivMods_law h1 hx h2 hy fun _ _=>rfl
end
def Kp (b u:Nat) (h h':H):Prop:=h.next≤h'.next∧∀j r,j≠u→(j<b∨r.own=some 47)→h.rows j=some r→h'.rows j=some r
end Ab
end Go.Proofs.YtdfpgoppcflpjaaGreatDoor
