/- Joined texts: W6 M13 T3 U1 U3 U4 C8. No condition. -/
import Derived.Test.YtnlkbdmmoplkoaaGreatDoorZ10
import Derived.Test.YtnlkbdmmoplkoaaGreatDoorProg
import Derived.KernelRfl
namespace Go.Proofs.YtnlkbdmmoplkoaaGreatDoor
namespace Ab
open Go Go.RowKit
set_option linter.unusedSimpArgs false
set_option linter.unusedVariables false
attribute [local go_sem ↓] x_mv x_pick x_bin x_beq x_peq x_seq x_cat x_aeq x_idxS x_idxV x_un x_cvI x_idx x_idxA x_fld x_ld x_st x_nn x_prt x_slc x_mk x_bsl x_bld x_box x_alloc x_len x_capo x_mnx x_app x_cpy x_mkf x_ext x_call x_callV x_bad s_none s_some s_nil s_cons s_chks w_skip w_reg tP_fin tP_no tP_alt w_seq w_cond w_block w_exit w_ret t_normal t_exit t_ret b_normal b_ret b_exit n_normal n_exit n_ret p_normal p_ret f_nil f_t f_c k_ops k_chk k_fin
attribute [local go_sem] e_t e_c e_f u_some u_none u_at env_at k_v k_pick k_add k_sub k_mul k_quo k_rem k_and k_or k_xor k_shl k_shr k_eql k_neq k_lss k_leq k_gtr k_geq k_beq k_peqn k_peqs k_neg k_not k_com k_cvI k_idxS k_idxV1 k_idxVn k_idx k_idxA k_idxG k_ldG k_gld k_seq k_cat k_aeq k_eqs k_fld k_ld1 k_ldn k_get k_gets k_sti k_stb k_stp k_sts k_stf k_sta k_put k_nn k_prt1 k_prtn k_slc_a k_slc_b k_slc_c k_mk k_agg k_bsl k_box k_len k_lenS k_cap k_max k_min k_ext k_callV k_true k_false k_gtt k_gtf k_gft k_gsk k_gff k_lit1i k_lit2i k_lit3i k_c0 k_c1 k_ck List.getElem?_cons_zero List.getElem?_cons_succ List.getElem?_nil Option.getD_some Option.getD_none tupOf List.map_cons List.map_nil Option.map_some Option.map_none List.nil_append List.cons_append List.append_nil Nat.mul_one Int.toNat_natCast Nat.zero_add
attribute [local go_sem] e_t e_c e_f u_some u_none u_at env_at k_v k_pick k_add k_sub k_mul k_quo k_rem k_and k_or k_xor k_shl k_shr k_eql k_neq k_lss k_leq k_gtr k_geq k_beq k_peqn k_peqs k_neg k_not k_com k_cvI k_idxS k_idxV1 k_idxVn k_idx k_idxA k_idxG k_ldG k_gld k_seq k_cat k_aeq k_eqs k_fld k_ld1 k_ldn k_get k_gets k_sti k_stb k_stp k_sts k_stf k_sta k_put k_nn k_prt1 k_prtn k_slc_a k_slc_b k_slc_c k_mk k_agg k_bsl k_box k_len k_lenS k_cap k_max k_min k_ext k_callV k_true k_false k_gtt k_gtf k_gft k_gsk k_gff k_lit1i k_lit2i k_lit3i k_c0 k_c1 k_ck List.getElem?_cons_zero List.getElem?_cons_succ List.getElem?_nil Option.getD_some Option.getD_none tupOf List.map_cons List.map_nil Option.map_some Option.map_none List.nil_append List.cons_append List.append_nil Nat.mul_one Int.toNat_natCast Nat.zero_add
--what a store into a cell of two leaves
attribute [local go_sem_proc] Nat.reduceEqDiff Nat.reduceAdd Int.reduceToNat
attribute [local go_sem_proc ↓] reduceIte
attribute [local go_sem] Bool.false_eq_true
section
section
variable {e u m nw dp a x:Nat} {t:Tb} {va:AV} {h:H} {K:AV→H→Prop}
set_option maxHeartbeats 1000000 in
theorem square_ok:∀(M:Nat),M≤16384→∀(h:H) (m nw dp:Nat),Eng 4 h e u→Tune h u m nw dp t→SqOK 133 [.ptr (some (e,0))] [] h u t M 1000000000:=by
 intro M
 induction M using Nat.strongRecOn with
 |_ M ih=>
  intro hM h m nw dp he ht h1 m1 nw1 dp1 n x va K hl1 ht1 nv hn htop hk
  have he1:=he.monoE ht hl1
  refine in_mul_Engine_square (by simp) fun hw=> ?_
  unfold c_mul_Engine_square
  obtain⟨ida,offa,ca,rfl⟩:=nv.form
  obtain⟨e1,he1',G1⟩:=he1.open ht1
  obtain⟨e2,he2,G2⟩:=he1'.open ht1
  obtain⟨e3,he3,G3⟩:=he2.open ht1
  obtain⟨e4,he4,G4⟩:=he3.open ht1
  obtain rfl:e4=u:=he4
  have g1:=G1 h1 (H.lee_refl _ _)
  have g2:=G2 h1 (H.lee_refl _ _)
  have g3:=G3 h1 (H.lee_refl _ _)
  have g4:=G4 h1 (H.lee_refl _ _)
  simp only[List.cons_append,List.nil_append]
  simp only[go_sem,g1,g2,g3,g4]
  refine tRoute2_calls ht1 fun h2 hw2 hl2=> ?_
  have nv2:=nv.mono hl2
  have ht2:=ht1.mono hl2
  have he22:=he2.mono hl2
  have he12:=he1'.mono hl2
  have he32:=he3.mono hl2
  have l12:=hl2.lee (u:=e4)
  have hn2:h1.next≤h2.next:=hl2.1
  have g12:=G1 h2 l12
  have g22:=G2 h2 l12
  have g32:=G3 h2 l12
  have g42:=G4 h2 l12
  have hra:=routeT_at (t:=t) (Nat.le_refl n) (show n≤16384 by omega)
  have hok:=(clamp_isT t).ok
  have hB:=hok.b1
  have lb:4≤n→lev n=lev ((n+1)/2+1)+1:=fun h4=>lev_big h4
  have school:∀K0:AV→H→Prop,(∀r h' m',h'.wf→H.lee e4 h2 h'→Tune h' e4 m' nw1 dp1 t→Nf h2.next h' r (x*x)→K0 r h')→ACalls Tryz.prog 158 [.ptr (some (e3,0)), .sl ida offa n ca] h2 K0:=by
   intro K0 hK
   obtain⟨xs,hv,hxd,hxl,hxv⟩:=nv2
   refine sSqr_calls he32 ht2 hv hxd (by omega) fun r h' m' a1 a2 a3 a4=> ?_
   rw[hxv] at a4
   exact hK r h' m' a1 a2 a3 a4
  rcases route_cases (B:=(clampT t).base.toNat) (T:=(clampT t).toom.toNat) (N:=(clampT t).ntt.toNat) n n with⟨r0,c0⟩|⟨r0,c0,c1⟩|⟨r0,c0,c1,c2⟩|⟨r0,c0,c1,c2,c3⟩|⟨r0,c0,c1,c2,c3,c4,c5⟩|⟨r0,c0,c1,c2,c3,c4⟩
  ·rw[r0] at hra
   rw[hra]
   have hx0:x=0:=by
    have:=nv.lt
    obtain rfl:n=0:=by omega
    omega
   simp only[go_sem,show(((0:Nat):Int)==0)=true from rfl]
   refine times_ok 16384 (Nat.le_refl _) h2 _ _ _ (he1.mono hl2) ht2 h2 _ _ _ _ _ _ _ _ _ _ (H.lee_refl _ _) ht2 nv2 nv2 (by omega) (by omega) ?_ fun r h3 m3 dp3 hw3 hl3 ht3 _ hr=> ?_
   ·obtain rfl:n=0:=by omega
    have:lev2 0 0=0:=lev_small (by decide)
    omega
   ·simp only[go_sem]
    exact fun hw'=>hk r h3 _ _ hw' (l12.trans hl3) ht3 (hr.base hn2)
  ·rw[r0] at hra
   rw[hra]
   simp only[go_sem,show(((1:Nat):Int)==0)=false from rfl,show(((1:Nat):Int)==3)=false from rfl,show(((1:Nat):Int)==4)=false from rfl,show(((1:Nat):Int)==5)=false from rfl,g12,g22,g32,Bool.not_false]
   refine school _ fun r h3 m3 hw3 hl3 ht3 hr=> ?_
   simp only[go_sem]
   exact fun hw'=>hk r h3 _ _ hw' (l12.trans hl3) ht3 (hr.base hn2)
  ·omega
  ·rw[r0] at hra
   rw[hra]
   have h4:4≤n:=by omega
   have lb:=lb h4
   simp only[go_sem,show(((3:Nat):Int)==0)=false from rfl,show(((3:Nat):Int)==3)=true from rfl,g12,g22]
   refine KaraSqr_calls he22 ht2 nv2 (by omega) (by omega) (ih ((n+1)/2+1) (by omega) (by omega) h2 _ _ _ (he1.mono hl2) ht2) (Nat.le_refl _) (by omega) (by omega) fun r h3 m3 dp3 hw3 hl3 ht3 hr=> ?_
   simp only[go_sem,Bool.not_true]
   exact fun hw'=>hk r h3 _ _ hw' (l12.trans hl3) ht3 (hr.base hn2)
  ·rw[r0] at hra
   rw[hra]
   have h4:4≤n:=by omega
   have lb:=lb h4
   have lm:lev ((n+2)/3+1)≤lev ((n+1)/2+1):=lev_mono _ _ (by omega)
   simp only[go_sem,show(((4:Nat):Int)==0)=false from rfl,show(((4:Nat):Int)==3)=false from rfl,show(((4:Nat):Int)==4)=true from rfl,g12]
   refine ToomSqr_calls he12 ht2 nv2 (by omega) (by omega) (ih ((n+1)/2+1) (by omega) (by omega) h2 _ _ _ (he1.mono hl2) ht2) (by omega) (by omega) (by omega) fun r h3 m3 dp3 hw3 hl3 ht3 hr=> ?_
   simp only[go_sem,Bool.not_true]
   exact fun hw'=>hk r h3 _ _ hw' (l12.trans hl3) ht3 (hr.base hn2)
  ·rw[r0] at hra
   rw[hra]
   obtain⟨xs,hv,hxd,hxl,hxv⟩:=nv2
   have hL:=lg_blen (n:=xs.length+xs.length) (by omega) (by omega)
   simp only[go_sem,show(((5:Nat):Int)==0)=false from rfl,show(((5:Nat):Int)==3)=false from rfl,show(((5:Nat):Int)==4)=false from rfl,show(((5:Nat):Int)==5)=true from rfl,g12,g22,g32,g42]
   refine cSqr_calls ht2 hv hxd (by omega) (by omega) hL fun r h3 hw3 hl3 ht3 hr=> ?_
   rw[hxv] at hr
   simp only[go_sem,Bool.not_true]
   exact fun hw'=>hk r h3 _ _ hw' (l12.trans hl3) ht3 (hr.base hn2)
theorem Sqr_calls (he:Eng 4 h e u) (ht:Tune h u m nw dp t) (nv:Nn h va x) (hx:wlen x≤16384) (hnw:nw≤900000000)
  (hk:∀r h' m' dp',h'.wf→H.lee u h h'→Tune h' u m' nw dp' t→Nf h.next h' r (x*x)→K r h'):
  ACalls Tryz.prog 115 [.ptr (some (e,0)),va] h K:=by
 refine in_mul_Engine_Sqr (by simp) fun hw=> ?_
 unfold c_mul_Engine_Sqr
 simp only[go_sem]
 refine mwords_calls nv fun r1 n1=> ?_
 simp only[go_sem]
 have hlv:lev (wlen x)≤wlen x:=lev_le _
 refine square_ok 16384 (Nat.le_refl _) h m nw dp he ht h m nw dp _ x r1 _ (H.lee_refl _ _) ht n1 hx (by omega) fun r h' m' dp' hw' hl' ht' hr=> ?_
 simp only[go_sem]
 exact fun hw''=>hk r h' m' dp' hw'' hl' ht' hr
end
end
set_option maxRecDepth 100000 in
theorem reads_table {h:H} {u:AV} (r:ReadsV Tryz.prog h 23 u):∃t:Tb,u=t.av:=by
 have hc:Tryz.prog.cellsOf 23=11:=by kernel_rfl
 have hz:Tryz.prog.cellsOf 3=1:=by kernel_rfl
 unfold ReadsV at r
 rw[Tryz.underlying23] at r
 obtain⟨l,rfl,r⟩:=r
 have get:∀i,Reads Tryz.prog h 3 ((l.drop i).take 1)→∃n:Int,(l.drop i).take 1=[.int .i64 n]:=fun i hi=>by
  obtain⟨n,e,_⟩:=cell_int Tryz.underlying3 hi
  exact⟨n,e⟩
 cases r with
 |int ht' hw=>rw[Tryz.underlying23] at ht';cases ht'
 |bool ht'=>rw[Tryz.underlying23] at ht';cases ht'
 |str ht'=>rw[Tryz.underlying23] at ht';cases ht'
 |snil ht'=>rw[Tryz.underlying23] at ht';cases ht'
 |sl ht'=>rw[Tryz.underlying23] at ht';cases ht'
 |struct ht' hl hf=>
  rw[Tryz.underlying23] at ht'
  injection ht' with ht'
  injection ht' with ht'
  subst ht'
  rw[hc] at hl
  simp only[List.mem_cons,List.not_mem_nil,or_false,forall_eq_or_imp,forall_eq,hz] at hf
  obtain⟨f0,f1,f2,f3,f4,f5,f6,f7,f8,f9,f10⟩:=hf
  obtain⟨n0,g0⟩:=get 0 f0
  obtain⟨n1,g1⟩:=get 1 f1
  obtain⟨n2,g2⟩:=get 2 f2
  obtain⟨n3,g3⟩:=get 3 f3
  obtain⟨n4,g4⟩:=get 4 f4
  obtain⟨n5,g5⟩:=get 5 f5
  obtain⟨n6,g6⟩:=get 6 f6
  obtain⟨n7,g7⟩:=get 7 f7
  obtain⟨n8,g8⟩:=get 8 f8
  obtain⟨n9,g9⟩:=get 9 f9
  obtain⟨n10,g10⟩:=get 10 f10
  match l,hl with
  |[x0,x1,x2,x3,x4,x5,x6,x7,x8,x9,x10],_=>
   simp only[List.drop_zero,List.drop_succ_cons,List.take_succ_cons,List.take_zero,List.cons.injEq,and_true] at g0 g1 g2 g3 g4 g5 g6 g7 g8 g9 g10
   exact⟨⟨n0,n1,n2,n3,n4,n5,n6,n7,n8,n9,n10⟩,by rw[g0,g1,g2,g3,g4,g5,g6,g7,g8,g9,g10];rfl⟩
theorem wbig {x n:Nat} (hx:wlen x≤n) (h:n≤400000):Big x:=lt_bigW (wlen_le.1 hx) h
theorem kSameT_calls {v u:AV} {x:Nat} {h:H} {K:AV→H→Prop} (hv:Nt h v x) (hu:Nt h u x) (hx:Big x) (hk:K (.bool true) h):ACalls Tryz.prog 83 [v,u] h K:=by
 obtain⟨xs,h1,h2,h3,h4⟩:=hv
 obtain⟨ys,g1,g2,g3,g4⟩:=hu
 have e:ys=xs:=top_inj g2 h2 g3 h3 (by rw[g4,h4])
 subst e
 have hl:ys.length=wlen x:=by rw[←h4];exact top_len h2 h3
 have:=wlen_big hx
 exact kSame_calls h1 g1 (by rw[hl];unfold wordL at this;omega) hk
section
theorem Eng.path {u m nw dp:Nat} {t:Tb} {h:H} (ht:Tune h u m nw dp t):∀{d e:Nat},Eng d h e u→∃f:Nat→Nat,f 0=e∧f d=u∧(∀i,i<d→∀h',H.lee u h h'→h'.get (f i) 0=some (.ptr (some (f (i+1),0))))∧∀i,i≤d→Eng (d-i) h (f i) u
 |0,e,he=>⟨fun _=>e,rfl,he,fun i hi=>absurd hi (by omega),fun i _=>by rw[Nat.zero_sub];exact he⟩
 |d+1,e,he=>by
  obtain⟨e',he',G⟩:=he.open ht
  obtain⟨f,f0,fd,Gf,Ef⟩:=Eng.path ht he'
  refine⟨fun i=>match i with|0=>e|i+1=>f i,rfl,fd,fun i hi=> ?_,fun i hi=> ?_⟩
  ·cases i with
   |zero=>
    intro h' hl
    simp only[f0]
    exact G h' hl
   |succ i=>exact Gf i (by omega)
  ·cases i with
   |zero=>exact he
   |succ i=>
    rw[Nat.add_sub_add_right]
    exact Ef i (by omega)
theorem two_B (k:Nat):18446744073709551616^k=2^(64*k):=by
 rw[Nat.pow_mul]
theorem wlen_bits {x b:Nat} (h:x<2^b):wlen x≤(b+63)/64:=by
 rw[wlen_le,two_B]
 exact Nat.lt_of_lt_of_le h (Nat.pow_le_pow_right (by omega) (by omega))
theorem blen_lt (x:Nat):x<2^blen x:=(blen_spec x).1
theorem blen_ge {x:Nat} (h:0<x):0<blen x∧2^(blen x-1)≤x:=by
 have hb:=blen_spec x
 have h1:=hb.pos h
 exact⟨by omega,hb.2.resolve_left h1⟩
theorem wlen_blen (x:Nat):wlen x=(blen x+63)/64:=by
 have h1:=wlen_bits (blen_lt x)
 rcases Nat.eq_zero_or_pos x with h|h
 ·subst h;rfl
 ·have h2:=blen_ge h
  have h3:=wlen_lt x
  rw[two_B] at h3
  have h4:=blen_le h3
  omega
section
variable {va vb:AV} {x n:Nat} {h:H} {K:AV→H→Prop}
theorem nBits_calls (nv:Nn h va x) (hk:K (.int .i64 (blen x:Nat)) h):ACalls Tryz.prog 32 [va] h K:=by
 obtain⟨xs,hv,hd,hl,rfl⟩:=nv
 obtain⟨id,off,c,rfl⟩:=hv.form
 refine in_api_Nat_Bits (by simp) fun hw=> ?_
 unfold c_api_Nat_Bits
 simp only[go_sem]
 refine Len_calls hv hd (by omega) ?_
 have hle:=wlen_len hd
 rcases Nat.eq_zero_or_pos (wlen (val 18446744073709551616 xs)) with h0|h0
 ·have hz:=wlen_eq_zero.1 h0
  rw[hz] at hk
  simp only[go_sem,h0,eqT (show((0:Nat):Int)=0 from rfl)]
  exact fun _=>hk
 ·have hcut:=top_cut hd
  obtain⟨k,hk1⟩:∃k,wlen (val 18446744073709551616 xs)=k+1:=⟨wlen (val 18446744073709551616 xs)-1,by omega⟩
  rw[hk1] at hcut hle
  have hkl:k<xs.length:=by omega
  obtain⟨j,rfl,_,hg⟩:=hv.at hkl
  have hxb:=hd _ (List.getElem_mem hkl)
  have htk:=val_take_succ 18446744073709551616 xs k hkl
  have hlow:=val_lt_take 18446744073709551616 (by omega) xs hd k
  have hdiv:val 18446744073709551616 xs/2^(64*k)=xs[k]:=by
   rw[←hcut.2,htk,←two_B]
   rw[Nat.add_mul_div_left _ _ (Nat.pow_pos (by omega)),Nat.div_eq_of_lt hlow,Nat.zero_add]
  have e1:IntKind.i64.wrap (((k+1:Nat):Int)-1)=(k:Int):=(wI (by omega) (by omega)).trans (by omega)
  have e2:IntKind.i64.wrap (64*(k:Int))=((64*k:Nat):Int):=mulI (a:=64) (b:=k) (by omega)
  have hne:xs[k]≠0:=by
   refine hcut.1 _ ?_
   rw[List.take_succ_eq_append_getElem hkl]
   exact List.getLast?_concat ..
  simp only[go_sem,hk1,eqF (show((k+1:Nat):Int)≠0 by omega),e1,e2]
  refine⟨by omega,by omega, ?_⟩
  simp only[go_sem,Int.toNat_natCast,Nat.mul_one,hg]
  refine Len64_calls hxb fun L hL hbl=> ?_
  have hbl2:BL (val 18446744073709551616 xs) (64*k+L):=BL.up (by rw[hdiv];exact hbl) (hbl.pos (by omega))
  rw[BL.uniq (blen_spec _) hbl2] at hk
  simp only[go_sem,addI (a:=64*k) (b:=L) (by omega)]
  exact fun _=>hk
end
end
theorem Nn.monoE' {u m nw dp:Nat} {t:Tb} {h h':H} {v:AV} {x:Nat} (hv:Nn h v x) (ht:Tune h u m nw dp t) (hl:H.lee u h h'):Nn h' v x:=Nn.monoE ht hv hl
section
section
variable {e u m nw dp n d:Nat} {t:Tb} {vd:AV} {h:H} {K:AV→H→Prop}
theorem rNew_calls {t:Tb} {h:H} {K:AV→H→Prop} (hk:∀e u h',h'.wf→h.le h'→h.next≤u→u<e→Eng 6 h' e u→Tune h' u 0 0 0 (clampT t)→K (.ptr (some (e,0))) h'):ACalls Tryz.prog 159 [t.av] h K:=by
 refine in_recip_New (by simp) fun hw=> ?_
 unfold c_recip_New
 have hl1:=H.le_new hw (H.le_refl h) ⟨some 23,11,t.cells⟩
 have hn1:h.next<(h.new ⟨some 23,11,t.cells⟩).next:=Nat.lt_succ_self _
 simp only[go_sem,av_held,av_cells,cells_len,true_and,gsT (H.rows_new h _)]
 refine dNew_calls fun e u h1 hw1 hl2 hn2 _ he ht=> ?_
 simp only[go_sem,bldp]
 simp only[AV.held,AV.cells,true_and,go_sem]
 have hl3:=H.le_new hw1 (H.le_refl h1) ⟨some 139,1,[AV.ptr (some (e,0))]⟩
 exact fun hw'=>hk _ u _ hw' (H.le_trans hl1 (H.le_trans hl2 hl3)) (by omega) (H.row_lt hw1 ht) ⟨_,e,H.rows_new _ _,rfl,he.mono hl3⟩ (ht.mono hl3)
theorem diNew_calls {t:Tb} {h:H} {K:AV→H→Prop} (hk:∀e u h',h'.wf→h.le h'→h.next≤u→u<e→Eng 7 h' e u→Tune h' u 0 0 0 (clampT t)→K (.ptr (some (e,0))) h'):ACalls Tryz.prog 134 [t.av] h K:=by
 refine in_div_New (by simp) fun hw=> ?_
 unfold c_div_New
 have hl1:=H.le_new hw (H.le_refl h) ⟨some 23,11,t.cells⟩
 have hn1:h.next<(h.new ⟨some 23,11,t.cells⟩).next:=Nat.lt_succ_self _
 simp only[go_sem,av_held,av_cells,cells_len,true_and,gsT (H.rows_new h _)]
 refine rNew_calls fun e u h1 hw1 hl2 hn2 _ he ht=> ?_
 simp only[go_sem,bldp]
 simp only[AV.held,AV.cells,true_and,go_sem]
 have hl3:=H.le_new hw1 (H.le_refl h1) ⟨some 136,1,[AV.ptr (some (e,0))]⟩
 exact fun hw'=>hk _ u _ hw' (H.le_trans hl1 (H.le_trans hl2 hl3)) (by omega) (H.row_lt hw1 ht) ⟨_,e,H.rows_new _ _,rfl,he.mono hl3⟩ (ht.mono hl3)
end
end
section
open Go
def c_law19_PowerPows:AC:= .seq (.reg [o 4 (.box 23 (.t 0)),o 5 (.box 27 (.t 1)),o 8 (.mv (.c (.bool false)))]) (.seq (.reg [o 14 (.ld (some 2) (.t 5)),o 15 (.call 22 [.t 14,i64 3]),od (.st 2 (.t 5) (.t 15))]) (.seq (.reg [o 16 (.ld (some 11) (.t 4)),o 17 (.call 23 [.t 16]),mv 9 17]) (.seq (.seq (.reg [mv 18 9,o 19 (.peq false (.t 18) (.c (.ptr none)))]) (.cond (.t 19) (.seq (.reg [o 8 (.mv (.c (.bool false)))]) .ret) .skip)) (.seq (.seq (.reg [mv 20 3,o 21 (.bin .gtr (.t 20) (i64 3000)),mv 22 21,og 23 22 true (.mv (.t 3)),og 24 22 true (.bin .leq (.t 23) (i64 1048576)),o 25 (.pick (.t 22) (.t 24) (.c (.bool false)))]) (.cond (.t 25) (.reg [mv 26 3,o 27 (.call 24 [.t 26,i64 3000]),mv 3 27]) .skip)) (.seq (.reg [mv 29 9,o 30 (.ld (some 2) (.t 5)),mv 31 2,mv 32 3,o 33 (.call 25 [.t 29, .t 30, .t 31, .t 32]),mv 28 33,o 34 (.ext (.t 28) 0),o 35 (.ext (.t 28) 1),o 10 (.alloc 27 [.sl none 0 0 none, .bool false]),od (.st 2 (.t 10) (.t 34)),mv 11 35]) (.seq (.seq (.reg [mv 36 2,o 37 (.bin .lss (.t 36) (i64 0)),mv 38 37,og 39 38 false (.mv (.t 3)),og 40 38 false (.bin .lss (.t 39) (i64 0)),o 41 (.pick (.t 38) (.c (.bool true)) (.t 40)),mv 42 41,og 43 42 false (.mv (.t 3)),og 44 42 false (.bin .gtr (.t 43) (i64 1048576)),o 45 (.pick (.t 42) (.c (.bool true)) (.t 44))]) (.cond (.t 45) (.seq (.reg [mv 46 11,o 47 (.bin .eql (.t 46) (i64 1)),mv 48 47,og 49 48 true (.fld 0 (.t 10)),og 50 48 true (.ld none (.t 49)),og 51 48 true (.len false (.t 50)),og 52 48 true (.bin .eql (.t 51) (i64 0)),o 53 (.pick (.t 48) (.t 52) (.c (.bool false))),mv 54 53,og 55 54 true (.fld 1 (.t 10)),og 56 54 true (.ld none (.t 55)),og 57 54 true (.un .not (.t 56)),o 58 (.pick (.t 54) (.t 57) (.c (.bool false))),mv 59 58,og 60 59 true (.call 26 []),o 61 (.pick (.t 59) (.t 60) (.c (.bool false))),mv 8 61]) .ret) .skip)) (.seq (.reg [o 63 (.ld (some 2) (.t 5)),o 64 (.call 28 [.t 63]),mv 65 2,mv 66 3,o 67 (.call 27 [.t 64, .t 65, .t 66]),mv 62 67,o 68 (.ext (.t 62) 0),o 69 (.ext (.t 62) 1),o 12 (.alloc 38 [.sl none 0 0 none, .bool false]),od (.st 2 (.t 12) (.t 68)),mv 13 69]) (.seq (.seq (.reg [mv 70 13,o 71 (.un .not (.t 70))]) (.cond (.t 71) (.seq (.reg [mv 72 11,o 73 (.bin .eql (.t 72) (i64 10)),mv 74 73,og 75 74 true (.fld 0 (.t 10)),og 76 74 true (.ld none (.t 75)),og 77 74 true (.len false (.t 76)),og 78 74 true (.bin .eql (.t 77) (i64 0)),o 79 (.pick (.t 74) (.t 78) (.c (.bool false))),mv 80 79,og 81 80 true (.fld 1 (.t 10)),og 82 80 true (.ld none (.t 81)),og 83 80 true (.un .not (.t 82)),o 84 (.pick (.t 80) (.t 83) (.c (.bool false))),mv 85 84,og 86 85 true (.call 26 []),o 87 (.pick (.t 85) (.t 86) (.c (.bool false))),mv 8 87]) .ret) .skip)) (.seq (.reg [mv 88 11,o 89 (.bin .eql (.t 88) (i64 0)),mv 90 89,og 91 90 true (.ld (some 2) (.t 10)),og 92 90 true (.ld (some 2) (.t 12)),⟨some 93,some (90,true), .call 30 [.t 92],[(some 91,some (90,true), .ld (some 2) (.t 10))]⟩,og 94 90 true (.call 29 [.t 91, .t 93]),o 95 (.pick (.t 90) (.t 94) (.c (.bool false))),mv 96 95,og 97 96 true (.call 26 []),o 98 (.pick (.t 96) (.t 97) (.c (.bool false))),mv 8 98]) .ret)))))))))
theorem in_law19_PowerPows:Ent 3 99 c_law19_PowerPows [.t 8]:=ent Tryz.func3 rfl rfl rfl (show compile _ 99 _=_ by kernel_rfl) (show compRes _ 99 _=_ by kernel_rfl)
def c_law19_PowerBits:AC:= .seq (.reg [o 2 (.box 27 (.t 0)),o 4 (.mv (.c (.bool false)))]) (.seq (.reg [o 12 (.ld (some 2) (.t 2)),o 13 (.call 22 [.t 12,i64 3]),od (.st 2 (.t 2) (.t 13))]) (.seq (.reg [o 15 (.ld (some 2) (.t 2)),mv 16 1,o 17 (.call 31 [.t 15, .t 16]),mv 14 17,o 18 (.ext (.t 14) 0),o 19 (.ext (.t 14) 1),mv 5 18,mv 6 19]) (.seq (.reg [o 20 (.fld 0 (.t 2)),o 21 (.ld none (.t 20)),o 22 (.call 32 [.t 21]),mv 23 1,o 24 (.mnx false (.t 23) [i64 1048576]),mv 7 22,mv 8 24]) (.seq (.reg [mv 25 7,o 26 (.bin .sub (.t 25) (i64 1)),mv 27 8,bn 28 .mul 26 27,o 29 (.bin .add (.t 28) (i64 1)),mv 30 7,mv 31 8,bn 32 .mul 30 31,mv 9 29,mv 10 32]) (.seq (.seq (.reg [mv 33 7,o 34 (.bin .eql (.t 33) (i64 1))]) (.cond (.t 34) (.reg [o 9 (.mv (i64 1)),o 10 (.mv (i64 1))]) .skip)) (.seq (.seq (.reg [mv 35 1,o 36 (.bin .lss (.t 35) (i64 1)),mv 37 36,og 38 37 false (.mv (.t 7)),og 39 37 false (.bin .eql (.t 38) (i64 0)),o 40 (.pick (.t 37) (.c (.bool true)) (.t 39))]) (.cond (.t 40) (.reg [o 9 (.mv (i64 0)),o 10 (.mv (i64 1))]) .skip)) (.seq (.seq (.reg [mv 41 5,mv 42 9,bn 43 .neq 41 42,mv 44 43,og 45 44 false (.mv (.t 6)),og 46 44 false (.mv (.t 10)),og 47 44 false (.bin .neq (.t 45) (.t 46)),o 48 (.pick (.t 44) (.c (.bool true)) (.t 47))]) (.cond (.t 48) (.seq (.reg [o 4 (.mv (.c (.bool false)))]) .ret) .skip)) (.seq (.seq (.reg [mv 49 1,o 50 (.bin .lss (.t 49) (i64 0)),mv 51 50,og 52 51 false (.mv (.t 1)),og 53 51 false (.bin .gtr (.t 52) (i64 30)),o 54 (.pick (.t 51) (.c (.bool true)) (.t 53))]) (.cond (.t 54) (.seq (.reg [o 55 (.call 26 []),mv 4 55]) .ret) .skip)) (.seq (.reg [o 56 (.ld (some 2) (.t 2)),o 57 (.call 28 [.t 56]),mv 58 1,o 59 (.call 34 [.t 57, .t 58]),o 60 (.prt none 0 (.t 59)),o 61 (.call 33 [.t 60]),mv 11 61]) (.seq (.reg [mv 62 11,mv 63 5,bn 64 .geq 62 63,mv 65 64,og 66 65 true (.mv (.t 11)),og 67 65 true (.mv (.t 6)),og 68 65 true (.bin .leq (.t 66) (.t 67)),o 69 (.pick (.t 65) (.t 68) (.c (.bool false))),mv 70 69,og 71 70 true (.call 26 []),o 72 (.pick (.t 70) (.t 71) (.c (.bool false))),mv 4 72]) .ret))))))))))
theorem in_law19_PowerBits:Ent 4 73 c_law19_PowerBits [.t 4]:=ent Tryz.func4 rfl rfl rfl (show compile _ 73 _=_ by kernel_rfl) (show compRes _ 73 _=_ by kernel_rfl)
def c_law19_PowerFactorials:AC:= .seq (.reg [o 3 (.box 23 (.t 0)),o 6 (.mv (.c (.bool false)))]) (.seq (.reg [o 12 (.ld (some 11) (.t 3)),o 13 (.call 23 [.t 12]),mv 7 13]) (.seq (.seq (.reg [mv 14 7,o 15 (.peq false (.t 14) (.c (.ptr none)))]) (.cond (.t 15) (.seq (.reg [o 6 (.mv (.c (.bool false)))]) .ret) .skip)) (.seq (.seq (.reg [mv 16 2,o 17 (.bin .gtr (.t 16) (i64 3000)),mv 18 17,og 19 18 true (.mv (.t 2)),og 20 18 true (.bin .leq (.t 19) (i64 1048576)),o 21 (.pick (.t 18) (.t 20) (.c (.bool false)))]) (.cond (.t 21) (.reg [mv 22 2,o 23 (.call 24 [.t 22,i64 3000]),mv 2 23]) .skip)) (.seq (.reg [mv 25 7,mv 26 1,mv 27 2,o 28 (.call 35 [.t 25, .t 26, .t 27]),mv 24 28,o 29 (.ext (.t 24) 0),o 30 (.ext (.t 24) 1),mv 8 29,mv 9 30]) (.seq (.seq (.reg [mv 31 1,o 32 (.bin .lss (.t 31) (i64 0)),mv 33 32,og 34 33 false (.mv (.t 1)),og 35 33 false (.bin .gtr (.t 34) (i64 1048576)),o 36 (.pick (.t 33) (.c (.bool true)) (.t 35)),mv 37 36,og 38 37 false (.mv (.t 2)),og 39 37 false (.bin .lss (.t 38) (i64 0)),o 40 (.pick (.t 37) (.c (.bool true)) (.t 39)),mv 41 40,og 42 41 false (.mv (.t 2)),og 43 41 false (.bin .gtr (.t 42) (i64 1048576)),o 44 (.pick (.t 41) (.c (.bool true)) (.t 43))]) (.cond (.t 44) (.seq (.reg [mv 45 9,o 46 (.bin .eql (.t 45) (i64 1)),mv 47 46,og 48 47 true (.mv (.t 8)),og 49 47 true (.len false (.t 48)),og 50 47 true (.bin .eql (.t 49) (i64 0)),o 51 (.pick (.t 47) (.t 50) (.c (.bool false))),mv 52 51,og 53 52 true (.call 26 []),o 54 (.pick (.t 52) (.t 53) (.c (.bool false))),mv 6 54]) .ret) .skip)) (.seq (.reg [o 55 (.call 36 [u64 1]),mv 10 55]) (.seq (.seq (.reg [o 11 (.mv (i64 2))]) (.block 0 (.loop (.seq (.seq (.reg [mv 56 11,mv 57 1,bn 58 .leq 56 57,mv 59 58,og 60 59 true (.mv (.t 10)),og 61 59 true (.call 33 [.t 60]),og 62 59 true (.mv (.t 2)),og 63 59 true (.bin .leq (.t 61) (.t 62)),o 64 (.pick (.t 59) (.t 63) (.c (.bool false)))]) (.cond (.t 64) .skip (.exit 0))) (.seq (.block 1 (.reg [mv 67 10,mv 68 11,o 69 (.cvI .u64 (.t 68)),o 70 (.call 36 [.t 69]),o 71 (.call 37 [.t 67, .t 70]),mv 10 71])) (.reg [mv 65 11,o 66 (.bin .add (.t 65) (i64 1)),mv 11 66])))))) (.seq (.seq (.reg [mv 72 10,o 73 (.call 33 [.t 72]),mv 74 2,bn 75 .gtr 73 74]) (.cond (.t 75) (.seq (.reg [mv 76 9,o 77 (.bin .eql (.t 76) (i64 10)),mv 78 77,og 79 78 true (.mv (.t 8)),og 80 78 true (.len false (.t 79)),og 81 78 true (.bin .eql (.t 80) (i64 0)),o 82 (.pick (.t 78) (.t 81) (.c (.bool false))),mv 83 82,og 84 83 true (.call 26 []),o 85 (.pick (.t 83) (.t 84) (.c (.bool false))),mv 6 85]) .ret) .skip)) (.seq (.reg [mv 86 9,o 87 (.bin .eql (.t 86) (i64 0)),mv 88 87,og 89 88 true (.mv (.t 10)),og 90 88 true (.mv (.t 8)),og 91 88 true (.call 38 [.t 89, .t 90]),o 92 (.pick (.t 88) (.t 91) (.c (.bool false))),mv 93 92,og 94 93 true (.call 26 []),o 95 (.pick (.t 93) (.t 94) (.c (.bool false))),mv 6 95]) .ret)))))))))
theorem in_law19_PowerFactorials:Ent 5 96 c_law19_PowerFactorials [.t 6]:=ent Tryz.func5 rfl rfl rfl (show compile _ 96 _=_ by kernel_rfl) (show compRes _ 96 _=_ by kernel_rfl)
def c_law19_wakes:AC:= .seq (.reg [o 0 (.mv (.c (.bool false)))]) (.seq (.reg [o 6 (.bld [.int .i64 0, .int .i64 0, .int .i64 0, .int .i64 0, .int .i64 0, .int .i64 0, .int .i64 0, .int .i64 0, .int .i64 0, .int .i64 0, .int .i64 0] []),o 7 (.call 23 [.t 6]),mv 1 7]) (.seq (.seq (.reg [mv 8 1,o 9 (.peq false (.t 8) (.c (.ptr none)))]) (.cond (.t 9) (.seq (.reg [o 0 (.mv (.c (.bool false)))]) .ret) .skip)) (.seq (.reg [mv 11 1,o 12 (.call 49 [i64 (-2)]),o 13 (.call 25 [.t 11, .t 12,i64 3,i64 4]),mv 10 13,o 14 (.ext (.t 10) 0),o 15 (.ext (.t 10) 1),o 2 (.alloc 27 [.sl none 0 0 none, .bool false]),od (.st 2 (.t 2) (.t 14)),mv 3 15]) (.seq (.reg [mv 17 1,o 18 (.call 49 [i64 (-2)]),o 19 (.call 25 [.t 17, .t 18,i64 3,i64 3]),mv 16 19,o 20 (.ext (.t 16) 0),o 21 (.ext (.t 16) 1),o 4 (.alloc 27 [.sl none 0 0 none, .bool false]),od (.st 2 (.t 4) (.t 20)),mv 5 21]) (.seq (.reg [mv 22 3,o 23 (.bin .eql (.t 22) (i64 0)),mv 24 23,og 25 24 true (.ld (some 2) (.t 2)),⟨some 26,some (24,true), .call 47 [i64 (-8)],[(some 25,some (24,true), .ld (some 2) (.t 2))]⟩,⟨some 27,some (24,true), .call 30 [.t 26],[(some 25,some (24,true), .ld (some 2) (.t 2))]⟩,og 28 24 true (.call 29 [.t 25, .t 27]),o 29 (.pick (.t 24) (.t 28) (.c (.bool false))),mv 30 29,og 31 30 true (.mv (.t 5)),og 32 30 true (.bin .eql (.t 31) (i64 10)),o 33 (.pick (.t 30) (.t 32) (.c (.bool false))),mv 0 33]) .ret)))))
theorem in_law19_wakes:Ent 26 34 c_law19_wakes [.t 0]:=ent Tryz.func26 rfl rfl rfl (show compile _ 34 _=_ by kernel_rfl) (show compRes _ 34 _=_ by kernel_rfl)
end
end Ab
end Go.Proofs.YtnlkbdmmoplkoaaGreatDoor
