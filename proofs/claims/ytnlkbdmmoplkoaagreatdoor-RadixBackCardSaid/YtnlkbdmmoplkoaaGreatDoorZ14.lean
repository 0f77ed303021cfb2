/- Joined texts: U8 U9 J1 C8 Y2 Y5 Y3 Y6 Y7 Y8 Y9 I1 I8 W8 I9 W12 W14 Y10 Y11 Y12 Y13. No condition. -/
import Derived.Test.YtnlkbdmmoplkoaaGreatDoorZ13
import Derived.Test.YtnlkbdmmoplkoaaGreatDoorProg
import Derived.KernelRfl
namespace Go.Proofs.YtnlkbdmmoplkoaaGreatDoor
namespace Ab
open Go Go.RowKit
set_option linter.unusedSimpArgs false
set_option linter.unusedVariables false
attribute [local go_sem ↓] x_mv x_pick x_bin x_beq x_peq x_seq x_cat x_aeq x_idxS x_idxV x_un x_cvI x_bts x_idx x_idxA x_fld x_ld x_st x_nn x_prt x_slc x_mk x_bsl x_bld x_box x_alloc x_len x_capo x_mnx x_app x_cpy x_mkf x_ext x_call x_callV x_bad s_none s_some s_nil s_cons s_chks w_skip w_reg tP_fin tP_no tP_alt w_seq w_cond w_block w_exit w_ret t_normal t_exit t_ret b_normal b_ret b_exit n_normal n_exit n_ret p_normal p_ret f_nil f_t f_c k_ops k_chk k_fin
attribute [local go_sem] e_t e_c e_f u_some u_none u_at env_at k_v k_pick k_add k_sub k_mul k_quo k_rem k_and k_or k_xor k_shl k_shr k_eql k_neq k_lss k_leq k_gtr k_geq k_beq k_peqn k_peqs k_neg k_not k_com k_cvI k_idxS k_idxV1 k_idxVn k_idx k_idxA k_idxG k_ldG k_gld k_seq k_cat k_aeq k_eqs k_fld k_ld1 k_ldn k_get k_gets k_sti k_stb k_stp k_sts k_stf k_sta k_put k_nn k_prt1 k_prtn k_slc_a k_slc_b k_slc_c k_mk k_agg k_bsl k_box k_len k_lenS k_cap k_max k_min k_ext k_callV k_true k_false k_gtt k_gtf k_gft k_gsk k_gff k_lit1i k_lit2i k_lit3i k_c0 k_c1 k_ck List.getElem?_cons_zero List.getElem?_cons_succ List.getElem?_nil Option.getD_some Option.getD_none tupOf List.map_cons List.map_nil Option.map_some Option.map_none List.nil_append List.cons_append List.append_nil Nat.mul_one Int.toNat_natCast Nat.zero_add
attribute [local go_sem] e_t e_c e_f u_some u_none u_at env_at k_v k_pick k_add k_sub k_mul k_quo k_rem k_and k_or k_xor k_shl k_shr k_eql k_neq k_lss k_leq k_gtr k_geq k_beq k_peqn k_peqs k_neg k_not k_com k_cvI k_idxS k_idxV1 k_idxVn k_idx k_idxA k_idxG k_ldG k_gld k_seq k_cat k_aeq k_eqs k_fld k_ld1 k_ldn k_get k_gets k_sti k_stb k_stp k_sts k_stf k_sta k_put k_nn k_prt1 k_prtn k_slc_a k_slc_b k_slc_c k_mk k_agg k_bsl k_box k_len k_lenS k_cap k_max k_min k_ext k_callV k_true k_false k_gtt k_gtf k_gft k_gsk k_gff k_lit1i k_lit2i k_lit3i k_c0 k_c1 k_ck List.getElem?_cons_zero List.getElem?_cons_succ List.getElem?_nil Option.getD_some Option.getD_none tupOf List.map_cons List.map_nil Option.map_some Option.map_none List.nil_append List.cons_append List.append_nil Nat.mul_one Int.toNat_natCast Nat.zero_add
--what a store into a cell of two leaves
attribute [local go_sem_proc] Nat.reduceEqDiff Nat.reduceAdd Int.reduceToNat
attribute [local go_sem_proc ↓] reduceIte
attribute [local go_sem] Bool.false_eq_true
section
section
variable {e u m nw dp a b:Nat} {t:Tb} {va vb:AV} {h:H} {K:AV→H→Prop}
theorem cmp_lt {x y:Nat} (h:x<y):decide (cmpI x y<0)=true:=by unfold cmpI;rw[if_pos h];rfl
theorem cmp_ge {x y:Nat} (h:y≤x):decide (cmpI x y<0)=false:=by
 unfold cmpI
 rw[if_neg oM]
 split<;>rfl
set_option maxHeartbeats 2000000 in
theorem Halves_calls (hT:TbOK t) (he:Eng 7 h e u) (ht:Tune h u m nw dp t) (na:Nn h va a) (nb:Nn h vb b) (wa:wlen a≤4000) (wb:wlen b≤4000) (hnw:nw≤600000000)
  (hk0:b=0→h.wf→K (.tup [.sl none 0 0 none, .sl none 0 0 none, .int .i64 2]) h)
  (hk:0<b→∀q r h' m' dp',h'.wf→H.lee u h h'→Tune h' u m' nw dp' t→Sp m dp m' dp' nw (64*(wlen a*wlen a)) (lev (2*wlen b)+1)→Nf h.next h' q (a/b)→Nf h.next h' r (a%b)→K (.tup [q,r, .int .i64 0]) h'):
  ACalls Tryz.prog 128 [.ptr (some (e,0)),va,vb] h K:=by
 have ba:Big a:=wbig wa oM
 have bb:Big b:=wbig wb oM
 refine in_div_Engine_Halves sM fun hw=> ?_
 unfold c_div_Engine_Halves
 simp only[go_sem]
 refine LenN_calls nb ?_
 rcases Nat.eq_zero_or_pos b with h0|h0
 ·have hz:wlen b=0:=by rw[h0];rfl
  simp only[go_sem,hz,eqT (show((0:Nat):Int)=0 from rfl)]
  exact hk0 h0
 have hM:wlen b≠0:=fun h=>by have:=wlen_eq_zero.1 h;omega
 have hbb:=blen_ge h0
 have hwb:=wlen_blen b
 obtain⟨M,hMe⟩:∃M,M=wlen b:=⟨_,rfl⟩
 rw[←hMe] at hM wb hk hwb⊢
 simp only[go_sem,eqF (show(M:Int)≠0 by omega)]
 refine lCmp_calls na nb ?_
 rcases Nat.lt_or_ge a b with hab|hab
 ·rw[Nat.div_eq_of_lt hab,Nat.mod_eq_of_lt hab] at hk
  simp only[go_sem,cmp_lt hab]
  refine Norm_calls na fun r h1 hw1 hl1 hr=> ?_
  simp only[go_sem]
  exact fun hw'=>hk h0 _ r h1 _ _ hw' hl1.lee (ht.mono hl1) ((Sp.refl m dp nw 0 0).le (Nat.zero_le _) (Nat.zero_le _)) (Nf.nil _ _ _) hr
 have hMa:M≤wlen a:=by rw[hMe];exact wlen_mono hab
 have hbla:blen b≤blen a:=blen_mono hab
 have hwa:=wlen_blen a
 obtain⟨f,rfl,rfl,G,E⟩:=Eng.path ht he
 have hu:=H.row_lt hw ht
 have l0:=H.lee_refl (f 7) h
 have htd:=tune_div ht
 simp only[go_sem,cmp_ge hab]
 refine loop_cut (fun ρ h'=>h'=h∧ρ 0= .ptr (some (f 0,0))∧ρ 1=va∧ρ 2=vb∧ρ 7= .sl none 0 0 none∧ρ 9= .int .i64 (M:Int)∧∃s half:Nat,ρ 10= .int .i64 (s:Int)∧ρ 11= .int .i64 (half:Int)∧M≤s*2^half∧(s-1)*2^half<M∧(2≤s∨half=0)∧1≤s) ?_ ?_
 ·refine⟨fun s ρ h'=>h'=h∧ρ 0= .ptr (some (f 0,0))∧ρ 1=va∧ρ 2=vb∧ρ 7= .sl none 0 0 none∧ρ 9= .int .i64 (M:Int)∧∃half:Nat,ρ 10= .int .i64 (s:Int)∧ρ 11= .int .i64 (half:Int)∧M≤s*2^half∧(s-1)*2^half<M∧(2≤s∨half=0)∧1≤s,M,⟨rfl,tR,tR,tR,tR,tR,0,tR,rfl,sM,by simp;omega, .inr rfl,oM⟩, ?_⟩
  rintro s ρ h' ⟨rfl,q0,q1,q2,q7,q9,half,q10,q11,i1,i2,i3,i4⟩
  have hhl:=(halved i1 i2 i3 i4 rfl)
  have hhalf:half<2^half:=Nat.lt_two_pow_self
  by_cases hD:t.div≤(s:Int)
  ·have hs4:4≤s:=by have:=hT.1;omega
   have c2:(((s+1:Nat):Int)).tdiv 2=(((s+1)/2:Nat):Int):=tdivN (b:=2)
   have hsM:s≤M:=by
    have h1:(s-1)*1≤(s-1)*2^half:=Nat.mul_le_mul_left _ (Nat.pow_pos oM)
    omega
   simp only[go_sem,q0,q1,q2,q9,q10,q11,G 0 oM _ l0,G 1 oM _ l0,G 2 oM _ l0,G 3 oM _ l0,G 4 oM _ l0,G 5 oM _ l0,G 6 oM _ l0,htd,show decide ((s:Int)≥t.div)=true from decide_eq_true hD,incI (i:=s) oM,c2,wNI (n:=(s+1)/2) oM,incI (i:=half) oM]
   refine⟨dM, ?_⟩
   refine⟨(s+1)/2,oM,trivial,tR,tR,tR,tR,tR,half+1,tR,tR,halved_up i1,halved_lo i2, .inl oM,oM⟩
  ·simp only[go_sem,q0,q1,q2,q9,q10,q11,G 0 oM _ l0,G 1 oM _ l0,G 2 oM _ l0,G 3 oM _ l0,G 4 oM _ l0,G 5 oM _ l0,G 6 oM _ l0,htd,show decide ((s:Int)≥t.div)=false from decide_eq_false hD]
   exact⟨trivial,tR,tR,tR,tR,tR,s,half,tR,tR,i1,i2,i3,i4⟩
 rintro ρ h' ⟨rfl,q0,q1,q2,q7,q9,s,half,q10,q11,i1,i2,i3,i4⟩
 obtain⟨N,hN⟩:∃N,N=s*2^half:=⟨_,rfl⟩
 obtain⟨n1,n2,n3⟩:=halved i1 i2 i3 i4 hN
 have hhalf:half<2^half:=Nat.lt_two_pow_self
 have e1:IntKind.u64.wrap (half:Int)=(half:Int):=wUn oM
 have e2:=shl_int (s:=s) (half:=half) (by rw[←hN];omega) (by
  rcases Nat.lt_or_ge 64 half with h|h
  ·have:2^64≤2^half:=Nat.pow_le_pow_right oM oM
   omega
  ·exact h)
 rw[←hN] at e2
 clear i1 i2 i3 i4 n3
 have e3:=subI (a:=N) (b:=M) n1 oM
 have e4:IntKind.i64.wrap (64*((N-M:Nat):Int))=((64*(N-M):Nat):Int):=mulI (a:=64) (b:=N-M) oM
 have e5:IntKind.i64.wrap ((M:Int)-1)=((M-1:Nat):Int):=(wI oM oM).trans oM
 obtain⟨ys,hv,hyd,hyl,hyv⟩:=nb
 obtain⟨idb,offb,cb,rfl⟩:=hv.form
 have hMl:M-1<ys.length:=by
  have:=wlen_len hyd
  rw[hyv,←hMe] at this
  omega
 obtain⟨jb,rfl,_,hg⟩:=hv.at hMl
 have hwd:=hyd _ (List.getElem_mem hMl)
 --the word on top
 have htop:b/2^(64*(M-1))=ys[M-1]:=by
  have hcut:=top_cut hyd
  rw[hyv,←hMe] at hcut
  have h1:=val_take_succ 18446744073709551616 ys (M-1) hMl
  rw[show M-1+1=M by omega,hcut.2] at h1
  have h2:=val_lt_take 18446744073709551616 oM ys hyd (M-1)
  rw[h1,←two_B,Nat.add_mul_div_left _ _ (Nat.pow_pos oM),Nat.div_eq_of_lt h2,Nat.zero_add]
 have htb:=blen_shr (d:=b) (c:=64*(M-1)) oM
 rw[htop] at htb
 have hw0:0<ys[M-1]:=by
  rcases Nat.eq_zero_or_pos ys[M-1] with h|h
  ·rw[h,blen_zero] at htb
   omega
  ·exact h
 generalize ys[M-1]=w at*
 simp only[go_sem,q0,q1,q2,q7,q9,q10,q11,e1,e2,Int.toNat_natCast]
 refine⟨oM, ?_⟩
 simp only[go_sem,q0,q1,q2,q7,q9,q10,q11,e1,e2,e3,e4,e5]
 refine⟨oM,oM, ?_⟩
 simp only[go_sem,q0,q1,q2,q7,q9,q10,q11,Int.toNat_natCast,Nat.mul_one,hg]
 refine LeadingZeros64_calls hwd hw0 fun lz hlz z1 z2=> ?_
 have hlzb:lz+blen w=64:=by
  have b1:=blen_ge hw0
  have b2:=blen_lt w
  have h1:2^(blen w-1+lz)<2^64:=by
   rw[Nat.pow_add]
   exact Nat.lt_of_le_of_lt (Nat.mul_le_mul_right _ b1.2) z2
  have h2:2^63<2^(blen w+lz):=by
   rw[Nat.pow_add]
   exact Nat.lt_of_le_of_lt z1 (Nat.mul_lt_mul_of_pos_right b2 (Nat.pow_pos oM))
  have h3:=(Nat.pow_lt_pow_iff_right (show 1<2 by omega)).1 h1
  have h4:=(Nat.pow_lt_pow_iff_right (show 1<2 by omega)).1 h2
  omega
 obtain⟨S,hS⟩:∃S,S=64*(N-M)+lz:=⟨_,rfl⟩
 have e6:IntKind.i64.wrap (((64*(N-M):Nat):Int)+(lz:Int))=(S:Int):=by rw[hS];exact addI oM
 have hSb:S+blen b=64*N:=by omega
 clear z1 z2 hlzb htb hw0 hwd hg
 have nb:Nn h' (.sl (some jb) offb ys.length cb) b:=⟨ys,hv,hyd,hyl,hyv⟩
 simp only[go_sem,q0,q1,q2,q7,q9,q10,q11,e6]
 refine lShl_calls nb oM fun vd h1 hw1 hl1 hvd=> ?_
 simp only[go_sem,q0,q1,q2,q7,q9,q10,q11]
 refine lShl_calls (na.mono hl1) oM fun vu h2 hw2 hl2 hvu=> ?_
 --the numbers that are divided
 have dhi:b*2^S<18446744073709551616^N:=by
  rw[two_B,←hSb,Nat.add_comm S,Nat.pow_add]
  exact Nat.mul_lt_mul_of_pos_right (blen_lt b) (Nat.pow_pos oM)
 have dlo:18446744073709551616^N≤2*(b*2^S):=by
  have h3:2^(blen b-1+S)≤b*2^S:=by rw[Nat.pow_add];exact Nat.mul_le_mul_right _ hbb.2
  have h4:18446744073709551616^N=2*2^(blen b-1+S):=by rw[two_B,←Nat.pow_succ'];congr 1;omega
  omega
 have udiv:a*2^S/(b*2^S)=a/b:=Nat.mul_div_mul_right _ _ (Nat.pow_pos oM)
 have umod:a*2^S%(b*2^S)=a%b*2^S:=Nat.mul_mod_mul_right _ _ _
 have hd0:0<b*2^S:=Nat.mul_pos h0 (Nat.pow_pos oM)
 have ub:a*2^S<2^(blen a+S):=by
  rw[Nat.pow_add]
  exact Nat.mul_lt_mul_of_pos_right (blen_lt a) (Nat.pow_pos oM)
 have uw:=wlen_bits ub
 have bD:Big (b*2^S):=big_pow dhi oM
 generalize b*2^S=D at*
 obtain⟨us,hus,hud,hut,huv⟩:=hvu
 have hul:us.length=wlen (a*2^S):=by rw[←huv];exact top_len hud hut
 rw[←hul] at uw
 obtain⟨idu,cu,rfl⟩:=hus.form
 have hu0:0<us.length:=by
  rcases Nat.eq_zero_or_pos us.length with h|h
  ·exfalso
   have:us=[]:=List.eq_nil_of_length_eq_zero h
   rw[this] at huv
   simp only[val] at huv
   have:0<a*2^S:=Nat.mul_pos oM (Nat.pow_pos oM)
   omega
  ·exact h
 obtain⟨top,htop⟩:∃top,top=(us.length+N-1)/N:=⟨_,rfl⟩
 have hcost:=halves_cost (N:=N) (ul:=us.length) n1 n2 hMa oM htop
 have htopN:us.length≤top*N:=by
  rw[htop]
  have h3:=Nat.div_add_mod (us.length+N-1) N
  have h4:=Nat.mod_lt (us.length+N-1) (show 0<N by omega)
  rw[Nat.mul_comm] at h3
  omega
 have htopN2:top*N≤us.length+N:=by
  rw[htop]
  have:=Nat.div_mul_le_self (us.length+N-1) N
  omega
 have htop1:1≤top:=by
  rcases Nat.eq_zero_or_pos top with h|h
  ·rw[h] at htopN;omega
  ·exact h
 have htoplt:top≤us.length:=by
  rw[htop]
  refine Nat.div_le_of_le_mul ?_
  have:us.length+N≤N*us.length+1:=by
   obtain⟨p,rfl⟩:∃p,N=p+1:=⟨N-1,oM⟩
   obtain⟨q,hq⟩:∃q,us.length=q+1:=⟨us.length-1,oM⟩
   rw[hq,Nat.add_mul,Nat.mul_add]
   omega
  omega
 have e7:IntKind.i64.wrap ((us.length:Int)+(N:Int))=((us.length+N:Nat):Int):=addI oM
 have e8:IntKind.i64.wrap (((us.length+N:Nat):Int)-1)=((us.length+N-1:Nat):Int):=(wI oM oM).trans oM
 have e9:IntKind.i64.wrap ((((us.length+N-1:Nat):Int)).tdiv (N:Int))=(top:Int):=by rw[tdivN,←htop];exact wNI oM
 have e10:IntKind.i64.wrap ((top:Int)-1)=(top:Int)-1:=wI oM oM
 clear htop
 simp only[go_sem,q0,q1,q2,q7,q9,q10,q11,e7,e8]
 refine⟨oM, ?_⟩
 simp only[go_sem,q0,q1,q2,q7,q9,q10,q11,e9,e10]
 have l02:=H.le_trans hl1 hl2
 have ht2:=ht.mono l02
 have hn2:=l02.1
 have nd2:=hvd.mono hl2
 have hu1:f 7<h1.next:=Nat.lt_of_lt_of_le hu hl1.1
 have hu2:f 7<h2.next:=Nat.lt_of_lt_of_le hu1 hl2.1
 have tk:=fun j=>val_take_drop 18446744073709551616 (us.drop j) N
 refine loop_cut (fun ρ h4=>h4.wf∧H.lee (f 7) h2 h4∧(∃m' dp',Tune h4 (f 7) m' nw dp' t∧Sp m dp m' dp' nw (top*(8*(N*N))) (lev N+1))∧ρ 10= .int .i64 (N:Int)∧ρ 12= .int .i64 (S:Int)∧(∃vr,ρ 7=vr∧Nf h2.next h4 vr (val 18446744073709551616 us%D))∧∃vp P,ρ 15=vp∧Live 25 1 h2.next (NfB h2.next) h4 vp P∧P.length=top∧val (18446744073709551616^N) P.reverse=val 18446744073709551616 us/D) ?_ ?_
 ·refine⟨fun s ρ h4=>s≤top∧h4.wf∧H.lee (f 7) h2 h4∧(∃m' dp',Tune h4 (f 7) m' nw dp' t∧Sp m dp m' dp' nw ((top-s)*(8*(N*N))) (lev N+1))∧ρ 0= .ptr (some (f 0,0))∧ρ 10= .int .i64 (N:Int)∧ρ 12= .int .i64 (S:Int)∧ρ 13=vd∧ρ 14= .sl idu 0 us.length cu∧ρ 17= .int .i64 ((s:Int)-1)∧(∃vr,ρ 7=vr∧Nf h2.next h4 vr (val 18446744073709551616 (us.drop (s*N))%D))∧∃vp P,ρ 15=vp∧Live 25 1 h2.next (NfB h2.next) h4 vp P∧P.length=top-s∧val (18446744073709551616^N) P.reverse=val 18446744073709551616 (us.drop (s*N))/D,top,
   ⟨Nat.le_refl _,hw2,H.lee_refl _ _,⟨m,dp,ht2,(Sp.refl m dp nw 0 0).le (Nat.zero_le _) (Nat.zero_le _)⟩,tR,tR,tR,tR,tR,tR,⟨_,q7,by rw[List.drop_of_length_le htopN];simpa [val] using Nf.nil _ _ _⟩,_,[],rfl,Live.nil _ _ _ _ _ _,sM,by rw[List.drop_of_length_le htopN];simp[val]⟩, ?_⟩
  rintro s ρ h4 ⟨hs,hw4,hl4,⟨m4,dp4,ht4,hsp4⟩,q0,q10,q12,q13,q14,q17,⟨vr,q7,hr⟩,vp,P,q15,hP,hPl,hPv⟩
  have l04:H.lee (f 7) h' h4:=l02.lee.trans hl4
  rcases Nat.eq_zero_or_pos s with h5|h5
  ·subst h5
   simp only[go_sem,q0,q10,q12,q13,q14,q17,show decide (((0:Nat):Int)-1≥0)=false from rfl]
   rw[Nat.zero_mul,List.drop_zero] at hr hPv
   exact⟨hw4,hl4,⟨m4,dp4,ht4,by simpa using hsp4⟩,tR,tR,⟨vr,q7,hr⟩,vp,P,q15,hP,hPl,hPv⟩
  ·obtain⟨j,rfl⟩:∃j,s=j+1:=⟨s-1,oM⟩
   have ej:(((j+1:Nat):Int)-1)=(j:Int):=by omega
   rw[ej] at q17
   have hjN:(j+1)*N≤top*N:=Nat.mul_le_mul_right _ hs
   rw[Nat.add_mul,Nat.one_mul] at hjN
   have f1:IntKind.i64.wrap ((j:Int)*(N:Int))=((j*N:Nat):Int):=mulI oM
   have f2:IntKind.i64.wrap ((j:Int)-1)=(j:Int)-1:=wI oM oM
   simp only[go_sem,q0,q10,q12,q13,q14,q17,show decide ((j:Int)≥0)=true from decide_eq_true oM,f1]
   refine dpiece_calls ((hus.monoE hu1 hl4).isN) hud oM oM oM fun vp1 h5 hw5 hl5 hp1=> ?_
   have hpd:Dig ((us.drop (j*N)).take N):=fun z hz=>hud z (List.mem_of_mem_drop (List.mem_of_mem_take hz))
   have hpb:val 18446744073709551616 ((us.drop (j*N)).take N)<18446744073709551616^N:=Nat.lt_of_lt_of_le (val_lt 18446744073709551616 oM _ hpd) (Nat.pow_le_pow_right oM (by simp;omega))
   have tk:=tk (j*N)
   rw[List.drop_drop,show j*N+N=(j+1)*N by rw[Nat.add_mul,Nat.one_mul]] at tk
   have hst:=halves_step (B:=18446744073709551616) (N:=N) (p:=val 18446744073709551616 ((us.drop (j*N)).take N)) (d:=D) (U1:=val 18446744073709551616 (us.drop ((j+1)*N))) (r:=0) hd0
   rw[←tk] at hst
   generalize val 18446744073709551616 ((us.drop (j*N)).take N)=p at*
   have hmr:=Nat.mod_lt (val 18446744073709551616 (us.drop ((j+1)*N))) hd0
   generalize val 18446744073709551616 (us.drop ((j+1)*N))=U1 at*
   obtain⟨U0,hU0⟩:∃U0,U0=val 18446744073709551616 (us.drop (j*N)):=⟨_,rfl⟩
   rw[←hU0] at tk hst
   have hr5:=hr.mono hl5
   have bp:Big p:=big_pow hpb oM
   have bR:Big (U1%D):=bD.le (Nat.le_of_lt hmr)
   simp only[go_sem,q0,q7,q10,q12,q13,q14,q15,q17,lit2a hp1.one hr5.one]
   refine Join2_calls hw5 (hp1.nn bp) (hr5.nn bR) bp bR oM fun vj h6 hw6 hl6 hvj=> ?_
   have l46:=H.le_trans hl5 hl6
   have l06:=l04.trans l46.lee
   have hjlt:p+18446744073709551616^N*(U1%D)<D*18446744073709551616^N:=by
    have:18446744073709551616^N*(U1%D+1)≤18446744073709551616^N*D:=Nat.mul_le_mul_left _ hmr
    rw[Nat.mul_add,Nat.mul_one,Nat.mul_comm (18446744073709551616^N) D] at this
    omega
   have bj:Big (p+18446744073709551616^N*(U1%D)):=big_pow (n:=N+N) (Nat.lt_trans hjlt (mul_lt_pow dhi (Nat.le_refl _))) oM
   simp only[go_sem,q0,q7,q10,q12,q13,q14,q15,q17]
   refine two_ok hT N oM oM h6 m4 nw dp4 (f 0) (he.monoE ht l06) (ht4.mono l46) h6 _ _ _ _ _ _ _ _ (H.lee_refl _ _) (ht4.mono l46) (hvj.nn bj) (((nd2.nn bD).monoE' ht2 hl4).mono l46) hjlt dlo dhi oM fun x r7 h7 m7 dp7 hw7 hl7 ht7 hsp7 hx hr7=> ?_
   obtain⟨io,co,evp⟩:=hP.form
   subst evp
   have hiol:=hP.io_lt hw4
   have hP7:=(hP.mono NfB.grows l46).monoE (fun⟨v,e,hx,hb⟩ hl=>⟨v,e,hx.monoE hu2 hl,hb⟩) hu2 hl7
   have l27:H.lee (f 7) h2 h7:=(hl4.trans l46.lee).trans hl7
   have hqb:(p+18446744073709551616^N*(U1%D))/D<18446744073709551616^N:=(Nat.div_lt_iff_lt_mul hd0).2 (by rw[Nat.mul_comm (18446744073709551616^N) D];exact hjlt)
   have bq:Big ((p+18446744073709551616^N*(U1%D))/D):=big_pow hqb oM
   have hb6:h2.next≤h6.next:=(hl4.trans l46.lee).1
   simp only[go_sem,q0,q7,q10,q12,q13,q14,q15,q17,k_lit1 hx.one]
   have hio6:∀j,io=some j→j<h6.next:=fun j hj=>by have:=hiol j hj;have:=l46.1;omega
   have hr8:=hr7.del hio6
   have hx8:=hx.del hio6
   have hle78:∀h8,(h7.del io).le h8→H.lee (f 7) h2 h8:=fun h8 hl8=>⟨Nat.le_trans l27.1 hl8.1,fun i r hi hr=>hl8.2 i r (by
    show(if some i=io then none else h7.rows i)=some r
    rw[if_neg ?_]
    ·exact l27.2 i r hi hr
    ·intro e
     exact absurd (H.row_lt hw2 hr) (Nat.not_lt.2 (hP.io_ge e.symm)))⟩
   refine Live.app2 NfB.grows oM hw7 (Nat.le_trans hb6 hl7.1) hP7 rfl (y:=(p+18446744073709551616^N*(U1%D))/D) ⟨x,rfl,hx8.base hb6,bq⟩ rfl (by simp[hx.one]) oM oM rfl fun v8 h8 hw8 hle8 hs8=> ?_
   have hr8:=(hr8.mono hle8).base hb6
   have ht8:Tune h8 (f 7) m7 nw dp7 t:=hle8.2 _ _ (by
    show(if some (f 7)=io then none else h7.rows (f 7))=_
    rw[if_neg ?_]
    ·exact ht7
    ·intro e
     exact absurd hu2 (Nat.not_lt.2 (hP.io_ge e.symm)))
   simp only[go_sem,q0,q7,q10,q12,q13,q14,q15,q17,f2]
   rw[←hst.2] at hr8
   refine⟨j,oM,oM,hw8,hle78 _ hle8,⟨m7,dp7,ht8, ?_⟩,tR,tR,tR,tR,tR,tR,⟨r7,tR,by rw[←hU0];exact hr8⟩,v8,_,tR,hs8,by simp;omega, ?_⟩
   ·refine(hsp4.trans hsp7).le ?_ oM
    have e1:top-j=(top-(j+1))+1:=by omega
    rw[e1,Nat.add_mul,Nat.one_mul]
    exact Nat.le_refl _
   ·rw[List.reverse_append,List.reverse_cons,List.reverse_nil,List.nil_append,List.singleton_append]
    simp only[val]
    rw[hPv,←hU0,hst.1,Nat.add_comm]
 rintro ρ h4 ⟨hw4,hl4,⟨m4,dp4,ht4,hsp4⟩,q10,q12,⟨vr,q7,hr⟩,vp,P,q15,hP,hPl,hPv⟩
 obtain⟨io,co,rfl⟩:=hP.form
 obtain⟨io,_,rfl,_,_,_⟩:=hP.get1 (j:=0) oM
 have f3:IntKind.i64.wrap ((P.length:Int)-1)=((P.length-1:Nat):Int):=(wI oM oM).trans oM
 simp only[go_sem,q7,q10,q12,q15,f3]
 refine loop_cut (fun ρ h5=>h5.wf∧H.lee (f 7) h2 h5∧Tune h5 (f 7) m4 nw dp4 t∧ρ 7=vr∧ρ 10= .int .i64 (N:Int)∧ρ 12= .int .i64 (S:Int)∧ρ 15= .sl (some io) 0 P.length co∧Nf h2.next h5 vr (val 18446744073709551616 us%D)∧∃n,Live 25 1 h2.next (NfB h2.next) h5 (.sl (some io) 0 n co) P.reverse∧n=P.length) ?_ ?_
 ·refine for_rule (fun i ρ h5=>2*i≤P.length∧h5.wf∧H.lee (f 7) h2 h5∧Tune h5 (f 7) m4 nw dp4 t∧ρ 7=vr∧ρ 10= .int .i64 (N:Int)∧ρ 12= .int .i64 (S:Int)∧ρ 15= .sl (some io) 0 P.length co∧ρ 19= .int .i64 (i:Int)∧ρ 20= .int .i64 ((P.length-1-i:Nat):Int)∧Nf h2.next h5 vr (val 18446744073709551616 us%D)∧Live 25 1 h2.next (NfB h2.next) h5 (.sl (some io) 0 P.length co) (turnL P i)) P.length
   ⟨oM,hw4,hl4,ht4,q7,q10,q12,q15,tR,tR,hr,by rw[turnL_zero];exact hP⟩ (fun i ρ h hI=>by have:=hI.1;omega) ?_
  rintro i ρ h5 ⟨hi,hw5,hl5,ht5,q7,q10,q12,q15,q19,q20,hr,hP5⟩
  rcases Nat.lt_or_ge i (P.length-1-i) with h6|h6
  ·obtain⟨j,hj⟩:∃j,j=P.length-1-i:=⟨_,rfl⟩
   rw[←hj] at q20 h6
   have hjl:j<P.length:=by omega
   obtain⟨_,aj,ej,_,gj,rj⟩:=hP5.get1 (j:=j) (by rw[turnL_len];omega)
   injection ej with ej
   subst ej
   obtain⟨_,ai,ei,_,gi,ri⟩:=hP5.get1 (j:=i) (by rw[turnL_len];omega)
   injection ei with ei
   subst ei
   rw[turnL_get hjl,if_neg oM] at rj
   rw[turnL_get oM,if_neg oM] at ri
   have hstep:=turnL_step (P:=P) (i:=i) oM
   rw[←hj] at hstep
   obtain⟨r1,hb1,hlt1,hr1,ho1,hf1,hp1⟩:=hP5.put1 hw5 (j:=i) (by rw[turnL_len];omega)
   have hP6:=hp1 aj _ rj
   have o1:∀{a:AV} {x:Nat},NfB h2.next (h5.del (some io)) [a] x→a.one=true:=by
    rintro a x ⟨v,e,hx,_⟩
    injection e with e
    subst e
    exact hx.one
   have hw6:=H.wf_set hw5 hlt1 {r1 with cells:=putAt r1.cells i [aj]}
   have hl6:=H.lee_put hw2 hl5 hb1 {r1 with cells:=putAt r1.cells i [aj]}
   have ht6:=ht5.put (show f 7≠io by omega) {r1 with cells:=putAt r1.cells i [aj]}
   have hr6:=Nf.put (r':={r1 with cells:=putAt r1.cells i [aj]}) hr hr1 ho1 dM
   have hd6:(h5.set io {r1 with cells:=putAt r1.cells i [aj]}).del (some io)=h5.del (some io):=H.del_set
   simp only[go_sem,q7,q10,q12,q15,q19,q20,ltT h6]
   refine⟨oM,oM, ?_⟩
   simp only[go_sem,q7,q10,q12,q15,q19,q20,Int.toNat_natCast,Nat.mul_one,Nat.zero_add,gj]
   refine⟨oM,oM, ?_⟩
   simp only[go_sem,q7,q10,q12,q15,q19,q20,Int.toNat_natCast,Nat.mul_one,Nat.zero_add,gi]
   refine⟨oM,oM,(one_held (o1 rj)).1,by rw[(one_held (o1 rj)).2];rfl,by rw[(one_held (o1 rj)).2];simp[o1 rj], ?_⟩
   rw[(one_held (o1 rj)).2]
   simp only[go_sem,hr1]
   refine⟨by rw[ho1];simp,oM, ?_⟩
   generalize h5.set io {r1 with cells:=putAt r1.cells i [aj]}=g6 at*
   obtain⟨r2,hb2,hlt2,hr2,ho2,hf2,hp2⟩:=hP6.put1 hw6 (j:=j) (by rw[List.length_set,turnL_len];omega)
   have hP7:=hp2 ai _ (by rw[hd6];exact ri)
   rw[hstep] at hP7
   have hw7:=H.wf_set hw6 hlt2 {r2 with cells:=putAt r2.cells j [ai]}
   have hl7:=H.lee_put hw2 hl6 hb2 {r2 with cells:=putAt r2.cells j [ai]}
   have ht7:=ht6.put (show f 7≠io by omega) {r2 with cells:=putAt r2.cells j [ai]}
   have hr7:=Nf.put (r':={r2 with cells:=putAt r2.cells j [ai]}) hr6 hr2 ho2 dM
   refine⟨oM,oM,(one_held (o1 ri)).1,by rw[(one_held (o1 ri)).2];rfl,by rw[(one_held (o1 ri)).2];simp[o1 ri], ?_⟩
   rw[(one_held (o1 ri)).2]
   simp only[go_sem,hr2]
   refine⟨by rw[ho2];simp,oM, ?_⟩
   generalize g6.set io {r2 with cells:=putAt r2.cells j [ai]}=g7 at*
   have f4:IntKind.i64.wrap ((j:Int)-1)=((P.length-1-(i+1):Nat):Int):=(wI oM oM).trans oM
   simp only[go_sem,q7,q10,q12,q15,q19,q20,incI (i:=i) oM,f4]
   exact⟨oM,hw7,hl7,ht7,tR,tR,tR,tR,tR,tR,hr7,hP7⟩
  ·rw[turnL_end h6] at hP5
   simp only[go_sem,q7,q10,q12,q15,q19,q20,ltF h6]
   exact⟨hw5,hl5,ht5,tR,tR,tR,tR,hr,_,hP5,rfl⟩
 ·rintro ρ h5 ⟨hw5,hl5,ht5,q7,q10,q12,q15,hr,n,hP5,rfl⟩
  have hPA:=hP5.isA NfB.grows
  simp only[go_sem,q7,q10,q12,q15]
  refine Join_calls (xs:=P.reverse) oM (hPA.imp fun c x hx=>hx.nn) (NfB.big hPA) (by simp;omega) fun q h6 hw6 hl6 hq=> ?_
  rw[hPv,huv,udiv] at hq
  rw[huv,umod] at hr
  have bmD:Big (a%b*2^S):=by
   rw[←umod]
   exact bD.le (Nat.le_of_lt (Nat.mod_lt _ hd0))
  simp only[go_sem,q7,q10,q12,q15]
  refine lShr_calls ((hr.nn bmD).mono hl6) oM fun r h7 hw7 hl7 hr7=> ?_
  rw[Nat.mul_div_cancel _ (Nat.pow_pos oM)] at hr7
  have hb5:h2.next≤h5.next:=hl5.1
  have hb6:=hl6.1
  simp only[go_sem]
  refine fun hw'=>hk h0 q r h7 m4 dp4 hw' (l02.lee.trans (hl5.trans (H.le_trans hl6 hl7).lee)) ((ht5.mono hl6).mono hl7) (hsp4.le hcost ?_) ((hq.mono hl7).base oM) (hr7.base oM)
  have:lev N≤lev (2*M):=lev_of oM
  omega
end
end
section
def dvW (n b:Nat):Nat:=(64*n+1-b)/64+1
def dvC (n b:Nat):Nat:=max (64*(n*n)) (rcC (64*n+2) b (64*n)+8*(n*dvW n b)+8*(dvW n b*((b+63)/64)))
def dvD (n b:Nat):Nat:=max (lev (2*((b+63)/64))+1) (max (rcD (64*n+2) b (64*n)) (lev (n+1)))
theorem newton_le {a b v k:Nat} (hv:v=2^k/b):a*v/2^k*b≤a:=by
 have h1:v*b≤2^k:=by rw[hv];exact Nat.div_mul_le_self _ _
 have h2:a*v/2^k*b*2^k≤a*2^k:=by
  have h3:a*v/2^k*2^k≤a*v:=Nat.div_mul_le_self _ _
  calc a*v/2^k*b*2^k=a*v/2^k*2^k*b:=by ac_rfl
   _≤a*v*b:=Nat.mul_le_mul_right _ h3
   _=a*(v*b):=Nat.mul_assoc _ _ _
   _≤a*2^k:=Nat.mul_le_mul_left _ h1
 exact Nat.le_of_mul_le_mul_right h2 (Nat.pow_pos oM)
section
variable {e u m nw dp a b:Nat} {t:Tb} {va vb:AV} {h:H} {K:AV→H→Prop}
theorem dnewton_calls (he:Eng 7 h e u) (ht:Tune h u m nw dp t) (na:Nn h va a) (nb:Nn h vb b) (wa:wlen a≤4000) (wb:wlen b≤4000) (hba:wlen b≤wlen a) (hb0:0<b) (hnw:nw≤600000000)
  (hk:∀q r h' m' dp',h'.wf→H.lee u h h'→Tune h' u m' nw dp' t→Sp m dp m' dp' nw (dvC (wlen a) (blen b)) (dvD (wlen a) (blen b))→Nf h.next h' q (a/b)→Nf h.next h' r (a%b)→K (.tup [q,r]) h'):
  ACalls Tryz.prog 127 [.ptr (some (e,0)),va,vb] h K:=by
 have ba:Big a:=wbig wa oM
 have bb:Big b:=wbig wb oM
 refine in_div_Engine_newton sM fun hw=> ?_
 unfold c_div_Engine_newton
 obtain⟨f,rfl,rfl,G,E⟩:=Eng.path ht he
 have hu:=H.row_lt hw ht
 have l0:=H.lee_refl (f 7) h
 have hbb:=blen_ge hb0
 have hwb:=wlen_blen b
 obtain⟨n,hn⟩:∃n,n=wlen a:=⟨_,rfl⟩
 have hwa:=wlen_blen a
 have han:a<2^(64*n):=by rw[hn,←two_B];exact wlen_lt a
 rw[←hn] at hk hba wa
 have e1:IntKind.i64.wrap (64*(n:Int))=((64*n:Nat):Int):=mulI (a:=64) (b:=n) oM
 simp only[go_sem]
 refine LenN_calls na ?_
 rw[←hn]
 simp only[go_sem,e1,G 0 oM _ l0]
 refine Recip_calls (E 1 oM) ht nb hb0 oM oM oM fun v h1 m1 dp1 hw1 hl1 ht1 hsp1 hv=> ?_
 have wv:wlen (2^(64*n)/b)≤dvW n (blen b):=by
  have:=wlen_two (pow_div_le (m:=64*n) (b:=blen b-1) hb0 hbb.2 oM)
  have e:64*n-(blen b-1)=64*n+1-blen b:=by omega
  rw[e] at this
  exact this
 have hdvw:dvW n (blen b)≤n+1:=by unfold dvW;omega
 have hle:=newton_le (a:=a) (b:=b) (k:=64*n) rfl
 have bv:Big (2^(64*n)/b):=wbig wv oM
 generalize 2^(64*n)/b=V at*
 simp only[go_sem,G 0 oM _ hl1,G 1 oM _ hl1,G 2 oM _ hl1]
 refine Mul2_calls ((E 3 oM).monoE ht hl1) ht1 (na.monoE' ht hl1) (hv.nn bv) oM oM oM fun p h2 m2 dp2 hw2 hl2 ht2 hsp2 hp=> ?_
 have bp:Big (a*V):=mul_big (show wlen a≤n by omega) wv oM
 have c2:costT t (wlen a) (wlen V)≤8*(n*dvW n (blen b)):=Nat.le_trans (costT_le oM oM) (Nat.mul_le_mul_left 8 (Nat.mul_le_mul oM wv))
 have d2:lev2 (wlen a) (wlen V)≤lev (n+1):=lev_of oM
 simp only[go_sem]
 refine lShr_calls (hp.nn bp) oM fun q h3 hw3 hl3 hq=> ?_
 have hqv:a*V/2^(64*n)≤V:=by
  refine Nat.div_le_of_le_mul ?_
  exact Nat.mul_le_mul_right _ (Nat.le_of_lt han)
 have wq:wlen (a*V/2^(64*n))≤dvW n (blen b):=Nat.le_trans (wlen_mono hqv) wv
 generalize a*V/2^(64*n)=Q at*
 have bQ:Big Q:=wbig wq oM
 have l03:H.lee (f 7) h h3:=(hl1.trans hl2).trans hl3.lee
 simp only[go_sem,G 0 oM _ l03,G 1 oM _ l03,G 2 oM _ l03]
 refine Mul2_calls ((E 3 oM).monoE ht l03) (ht2.mono hl3) (hq.nn bQ) (nb.monoE' ht l03) oM oM oM fun p2 h4 m4 dp4 hw4 hl4 ht4 hsp4 hp2=> ?_
 have bp2:Big (Q*b):=ba.le hle
 have c4:costT t (wlen Q) (wlen b)≤8*(dvW n (blen b)*((blen b+63)/64)):=Nat.le_trans (costT_le oM oM) (Nat.mul_le_mul_left 8 (Nat.mul_le_mul wq oM))
 have d4:lev2 (wlen Q) (wlen b)≤lev (n+1):=lev_of oM
 have l04:=l03.trans hl4
 simp only[go_sem]
 refine lSub_calls (na.monoE' ht l04) (hp2.nn bp2) (fun h=>absurd h oM) fun _ r h5 hw5 hl5 hr=> ?_
 have l05:H.lee (f 7) h h5:=l04.trans hl5.lee
 have nb5:=nb.monoE' ht l05
 have hb0':h.next≤h5.next:=l05.1
 have ht5:=ht4.mono hl5
 have hq5:=(hq.monoE (Nat.lt_of_lt_of_le hu (hl1.trans hl2).1) hl4).mono hl5
 have hspF:Sp m dp m4 dp4 nw (dvC n (blen b)) (dvD n (blen b)):=by
  refine((hsp1.trans hsp2).trans hsp4).le ?_ ?_
  ·unfold dvC;omega
  ·unfold dvD;omega
 clear hsp1 hsp2 hsp4 c2 c4 d2 d4
 simp only[go_sem]
 refine loop_cut (fun ρ h'=>h'.wf∧h5.le h'∧Nf h.next h' (ρ 6) (a/b)∧Nf h.next h' (ρ 7) (a%b)) ?_ ?_
 ·refine⟨fun s ρ h'=>h'.wf∧h5.le h'∧ρ 2=vb∧∃Q',Nf h.next h' (ρ 6) Q'∧Nf h.next h' (ρ 7) s∧a=Q'*b+s,a-Q*b,⟨hw5,H.le_refl _,tR,Q,hq5.base (hl1.trans hl2).1,hr.base l04.1,oM⟩, ?_⟩
  rintro s ρ h6 ⟨hw6,hl6,q2,Q',hQ,hs,hinv⟩
  have hQa:Q'≤a:=by
   have:=Nat.le_mul_of_pos_right Q' hb0
   omega
  simp only[go_sem,q2]
  refine lCmp_calls (hs.nn (ba.le oM)) (nb5.mono hl6) ?_
  rcases Nat.lt_or_ge s b with hc|hc
  ·have hd:decide (cmpI s b≥0)=false:=by unfold cmpI;rw[if_pos hc];rfl
   have e1:a/b=Q':=by
    rw[hinv,Nat.mul_comm,Nat.mul_add_div hb0,Nat.div_eq_of_lt hc,Nat.add_zero]
   have e2:a%b=s:=by
    rw[hinv,Nat.mul_comm,Nat.mul_add_mod,Nat.mod_eq_of_lt hc]
   simp only[go_sem,q2,hd]
   exact⟨hw6,hl6,by rw[e1];exact hQ,by rw[e2];exact hs⟩
  ·have hd:decide (cmpI s b≥0)=true:=by
    unfold cmpI
    rw[if_neg oM]
    split<;>rfl
   simp only[go_sem,q2,hd]
   refine lSub_calls (hs.nn (ba.le oM)) (nb5.mono hl6) (fun h=>absurd h oM) fun _ s' h7 hw7 hl7 hs'=> ?_
   simp only[go_sem,q2]
   refine One_calls (x:=1) dM fun o h8 hw8 hl8 ho=> ?_
   simp only[go_sem,q2]
   refine lAdd_calls ((hQ.nn (ba.le hQa)).mono (H.le_trans hl7 hl8)) (ho.nn (word_big dM)) fun q' h9 hw9 hl9 hq'=> ?_
   have hb6:=hl6.1
   have hb7:=hl7.1
   have hb8:=hl8.1
   simp only[go_sem,q2]
   refine⟨s-b,oM,hw9,(H.le_trans hl6 (H.le_trans hl7 (H.le_trans hl8 hl9))),tR,Q'+1,hq'.base oM,(hs'.mono (H.le_trans hl8 hl9)).base oM, ?_⟩
   rw[Nat.add_mul,Nat.one_mul]
   omega
 ·rintro ρ h6 ⟨hw6,hl6,hQ,hR⟩
  simp only[go_sem]
  exact fun hw'=>hk _ _ h6 _ _ hw' (l05.trans hl6.lee) (ht5.mono hl6) hspF hQ hR
set_option maxRecDepth 100000 in
theorem DivMod2_calls (hT:TbOK t) (he:Eng 7 h e u) (ht:Tune h u m nw dp t) (na:Nn h va a) (nb:Nn h vb b) (wa:wlen a≤4000) (wb:wlen b≤4000) (hnw:nw≤600000000)
  (hk0:b=0→h.wf→K (.tup [.sl none 0 0 none, .sl none 0 0 none, .int .i64 2]) h)
  (hk:0<b→∀q r h' m' dp',h'.wf→H.lee u h h'→Tune h' u m' nw dp' t→Sp m dp m' dp' nw (dvC (wlen a) (blen b)) (dvD (wlen a) (blen b))→Nf h.next h' q (a/b)→Nf h.next h' r (a%b)→K (.tup [q,r, .int .i64 0]) h'):
  ACalls Tryz.prog 109 [.ptr (some (e,0)),va,vb] h K:=by
 have ba:Big a:=wbig wa oM
 have bb:Big b:=wbig wb oM
 refine in_div_Engine_DivMod sM fun hw=> ?_
 unfold c_div_Engine_DivMod
 obtain⟨f,rfl,rfl,G,E⟩:=Eng.path ht he
 have l0:=H.lee_refl (f 7) h
 have htd:=tune_div ht
 have htr:=tune_recip ht
 have hT1:=hT.1
 have hwb:=wlen_blen b
 have hC1:0<b→longCost a b≤dvC (wlen a) (blen b):=fun h0=>by
  have hb1:wlen b≠0:=fun h=>by have:=wlen_eq_zero.1 h;omega
  have h1:longCost a b≤64*(wlen a*wlen a):=by
   unfold longCost
   split
   ·exact Nat.zero_le _
   ·have h2:(wlen a-wlen b+1)*(wlen b+1)≤(2*wlen a)*(2*wlen a):=Nat.mul_le_mul oM oM
    have h3:(2*wlen a)*(2*wlen a)=4*(wlen a*wlen a):=by rw[Nat.mul_mul_mul_comm]
    omega
  unfold dvC
  omega
 have hspL:0<b→Sp m dp (m+longCost a b) dp nw (dvC (wlen a) (blen b)) (dvD (wlen a) (blen b)):=fun h0=>by
  have:=hC1 h0
  exact⟨oM,oM,oM,oM⟩
 have long:0<b→∀K0:AV→H→Prop,(∀q r h',h'.wf→H.lee (f 7) h h'→Tune h' (f 7) (m+longCost a b) nw dp t→Nf h.next h' q (a/b)→Nf h.next h' r (a%b)→K0 (.tup [q,r, .int .i64 0]) h')→ACalls Tryz.prog 126 [.ptr (some (f 2,0)),va,vb] h K0:=fun h0 K0 hK=>Long_calls (E 2 oM) ht na nb ba bb (fun h=>absurd h oM) fun _ q r h' a1 a2 a3 a4 a5=>hK q r h' a1 a2 a3 a4 a5
 simp only[go_sem]
 refine LenN_calls na ?_
 simp only[go_sem]
 refine LenN_calls nb ?_
 rcases Nat.eq_zero_or_pos b with h0|h0
 ·have hz:wlen b=0:=by rw[h0];rfl
  simp only[go_sem,hz,eqT (show((0:Nat):Int)=0 from rfl)]
  exact hk0 h0
 have hM:wlen b≠0:=fun h=>by have:=wlen_eq_zero.1 h;omega
 have hwa0:=hwb
 rcases Nat.lt_or_ge (wlen a) (wlen b) with c1|c1
 ·simp only[go_sem,eqF (show((wlen b:Nat):Int)≠0 by omega),ltT c1,G 0 oM _ l0,G 1 oM _ l0]
  refine long h0 _ fun q r h1 hw1 hl1 ht1 hq hr=> ?_
  simp only[go_sem]
  exact fun hw'=>hk h0 q r h1 _ _ hw' hl1 ht1 (hspL h0) hq hr
 by_cases c2:((wlen b:Nat):Int)<t.div
 ·simp only[go_sem,eqF (show((wlen b:Nat):Int)≠0 by omega),ltF c1,G 0 oM _ l0,G 1 oM _ l0,G 2 oM _ l0,G 3 oM _ l0,G 4 oM _ l0,G 5 oM _ l0,G 6 oM _ l0,htd,decide_eq_true c2]
  refine long h0 _ fun q r h1 hw1 hl1 ht1 hq hr=> ?_
  simp only[go_sem]
  exact fun hw'=>hk h0 q r h1 _ _ hw' hl1 ht1 (hspL h0) hq hr
 have e1:=subI (a:=wlen a) (b:=wlen b) c1 oM
 have e2:=incI (i:=wlen a-wlen b) oM
 by_cases c3:((wlen a-wlen b+1:Nat):Int)<t.div
 ·simp only[go_sem,eqF (show((wlen b:Nat):Int)≠0 by omega),ltF c1,G 0 oM _ l0,G 1 oM _ l0,G 2 oM _ l0,G 3 oM _ l0,G 4 oM _ l0,G 5 oM _ l0,G 6 oM _ l0,htd,decide_eq_false c2,e1,e2,decide_eq_true c3]
  refine long h0 _ fun q r h1 hw1 hl1 ht1 hq hr=> ?_
  simp only[go_sem]
  exact fun hw'=>hk h0 q r h1 _ _ hw' hl1 ht1 (hspL h0) hq hr
 by_cases c4:t.recip≤((wlen b:Nat):Int)
 ·simp only[go_sem,eqF (show((wlen b:Nat):Int)≠0 by omega),ltF c1,G 0 oM _ l0,G 1 oM _ l0,G 2 oM _ l0,G 3 oM _ l0,G 4 oM _ l0,G 5 oM _ l0,G 6 oM _ l0,htd,htr,decide_eq_false c2,e1,e2,decide_eq_false c3,show decide (((wlen b:Nat):Int)≥t.recip)=true from decide_eq_true c4,show decide (((wlen a:Nat):Int)≤16384)=true from decide_eq_true oM]
  refine dnewton_calls he ht na nb wa wb c1 h0 hnw fun q r h1 m1 dp1 hw1 hl1 ht1 hsp hq hr=> ?_
  simp only[go_sem]
  exact fun hw'=>hk h0 q r h1 _ _ hw' hl1 ht1 hsp hq hr
 ·simp only[go_sem,eqF (show((wlen b:Nat):Int)≠0 by omega),ltF c1,G 0 oM _ l0,G 1 oM _ l0,G 2 oM _ l0,G 3 oM _ l0,G 4 oM _ l0,G 5 oM _ l0,G 6 oM _ l0,htd,htr,decide_eq_false c2,e1,e2,decide_eq_false c3,show decide (((wlen b:Nat):Int)≥t.recip)=false from decide_eq_false c4]
  refine Halves_calls hT he ht na nb wa wb hnw (fun h=>absurd h oM) fun _ q r h1 m1 dp1 hw1 hl1 ht1 hsp hq hr=> ?_
  simp only[go_sem]
  refine fun hw'=>hk h0 q r h1 _ _ hw' hl1 ht1 (hsp.le ?_ ?_) hq hr
  ·unfold dvC;omega
  ·unfold dvD;rw[←hwb];omega
end
end
theorem Eng.monoO {h h':H} {u w m nw dp:Nat} {t:Tb} (ht:Tune h u m nw dp t) (hl:H.lee u h h'):∀{d e:Nat},Eng d h e w→Eng d h' e w
 |0,_,he=>he
 |_+1,e,⟨r,e',h1,h2,h3⟩=>⟨r,e',hl.2 _ _ (by
   rintro rfl
   rw[ht] at h1
   injection h1 with h1
   rw[←h1] at h2
   have:=congrArg List.length h2
   simp[tuneRow,Tb.cells] at this) h1,h2,Eng.monoO ht hl h3⟩
theorem grd_sym {P:Program} {b:Bool} {o:AOp} {ρ:Env} {h:H} {K:AV→H→Prop} (v:AV) (h1:b=true→∀K':AV→H→Prop,aexec P o ρ h K'=K' v h) (h2:K (if b=true then v else .tup []) h):grdK P (.bool b) true o ρ h K:=by
 cases b
 ·exact h2
 ·show aexec P o ρ h K
  rw[h1 rfl]
  exact h2
theorem two_and {p:Prop}:((2:Int)≠0∧p)=p:=by simp
theorem nz_and {k:Int} (h:k≠0) {p:Prop}:(k≠0∧p)=p:=by simp[h]
section
open Go
def c_law17_RadixTexts:AC:= .seq (.reg [o 3 (.box 23 (.t 0)),o 6 (.mv (.c (.bool false)))]) (.seq (.reg [mv 11 1,o 12 (.call 76 [.t 11,i64 24]),mv 1 12]) (.seq (.reg [o 13 (.ld (some 11) (.t 3)),o 14 (.call 84 [.t 13]),mv 7 14]) (.seq (.seq (.reg [mv 15 7,o 16 (.peq false (.t 15) (.c (.ptr none)))]) (.cond (.t 16) (.seq (.reg [o 6 (.mv (.c (.bool false)))]) .ret) .skip)) (.seq (.reg [mv 17 1,o 18 (.call 62 [.t 17]),mv 8 18]) (.seq (.reg [mv 20 7,mv 21 8,mv 22 2,o 23 (.call 85 [.t 20, .t 21, .t 22]),mv 19 23,o 24 (.ext (.t 19) 0),o 25 (.ext (.t 19) 1),mv 9 24,mv 10 25]) (.seq (.seq (.reg [mv 26 2,o 27 (.bin .lss (.t 26) (i64 2)),mv 28 27,og 29 28 false (.mv (.t 2)),og 30 28 false (.bin .gtr (.t 29) (i64 36)),o 31 (.pick (.t 28) (.c (.bool true)) (.t 30))]) (.cond (.t 31) (.seq (.reg [mv 32 10,o 33 (.bin .eql (.t 32) (i64 1)),mv 34 33,og 35 34 true (.mv (.t 9)),og 36 34 true (.seq false (.t 35) (.c (.str ⟨#[]⟩))),o 37 (.pick (.t 34) (.t 36) (.c (.bool false))),mv 38 37,og 39 38 true (.call 86 []),o 40 (.pick (.t 38) (.t 39) (.c (.bool false))),mv 6 40]) .ret) .skip)) (.seq (.reg [mv 41 10,o 42 (.bin .eql (.t 41) (i64 0)),mv 43 42,og 44 43 true (.mv (.t 9)),og 45 43 true (.mv (.t 1)),og 46 43 true (.call 88 [.t 45]),og 47 43 true (.mv (.t 2)),og 48 43 true (.call 87 [.t 46, .t 47]),og 49 43 true (.seq false (.t 44) (.t 48)),o 50 (.pick (.t 43) (.t 49) (.c (.bool false))),mv 51 50,og 52 51 true (.mv (.t 8)),og 53 51 true (.mv (.t 1)),og 54 51 true (.call 73 [.t 52, .t 53]),o 55 (.pick (.t 51) (.t 54) (.c (.bool false))),mv 56 55,og 57 56 true (.call 86 []),o 58 (.pick (.t 56) (.t 57) (.c (.bool false))),mv 6 58]) .ret)))))))
theorem in_law17_RadixTexts:Ent 16 59 c_law17_RadixTexts [.t 6]:=en Tryz.func16 rfl
def c_law17_RadixParses:AC:= .seq (.reg [o 3 (.box 23 (.t 0)),o 6 (.mv (.c (.bool false)))]) (.seq (.seq (.reg [mv 12 1,o 13 (.len true (.t 12)),o 14 (.bin .gtr (.t 13) (i64 400))]) (.cond (.t 14) (.seq (.reg [o 15 (.call 86 []),mv 6 15]) .ret) .skip)) (.seq (.reg [o 16 (.ld (some 11) (.t 3)),o 17 (.call 84 [.t 16]),mv 7 17]) (.seq (.seq (.reg [mv 18 7,o 19 (.peq false (.t 18) (.c (.ptr none)))]) (.cond (.t 19) (.seq (.reg [o 6 (.mv (.c (.bool false)))]) .ret) .skip)) (.seq (.reg [mv 21 7,mv 22 1,mv 23 2,o 24 (.call 89 [.t 21, .t 22, .t 23]),mv 20 24,o 25 (.ext (.t 20) 0),o 26 (.ext (.t 20) 1),mv 8 25,mv 9 26]) (.seq (.reg [mv 28 1,mv 29 2,o 30 (.call 90 [.t 28, .t 29]),mv 27 30,o 31 (.ext (.t 27) 0),o 32 (.ext (.t 27) 1),mv 10 31,mv 11 32]) (.seq (.reg [mv 33 9,mv 34 11,bn 35 .eql 33 34,mv 36 35,og 37 36 true (.mv (.t 10)),og 38 36 true (.mv (.t 8)),og 39 36 true (.call 38 [.t 37, .t 38]),o 40 (.pick (.t 36) (.t 39) (.c (.bool false))),mv 41 40,og 42 41 true (.call 86 []),o 43 (.pick (.t 41) (.t 42) (.c (.bool false))),mv 6 43]) .ret))))))
theorem in_law17_RadixParses:Ent 17 44 c_law17_RadixParses [.t 6]:=en Tryz.func17 rfl
def c_law17_RadixBack:AC:= .seq (.reg [o 5 (.box 23 (.t 0)),o 6 (.box 23 (.t 1)),o 10 (.mv (.c (.bool false)))]) (.seq (.reg [mv 22 2,o 23 (.call 76 [.t 22,i64 80]),mv 2 23]) (.seq (.reg [o 24 (.ld (some 11) (.t 5)),o 26 (.ld (some 11) (.t 6)),⟨some 25,none, .call 84 [.t 24],[(some 26,none, .ld (some 11) (.t 6))]⟩,o 27 (.call 84 [.t 26]),mv 11 25,mv 12 27]) (.seq (.seq (.reg [mv 28 11,o 29 (.peq false (.t 28) (.c (.ptr none))),mv 30 29,og 31 30 false (.mv (.t 12)),og 32 30 false (.peq false (.t 31) (.c (.ptr none))),o 33 (.pick (.t 30) (.c (.bool true)) (.t 32))]) (.cond (.t 33) (.seq (.reg [o 10 (.mv (.c (.bool false)))]) .ret) .skip)) (.seq (.reg [mv 34 3,o 35 (.call 24 [.t 34,i64 35]),o 36 (.bin .add (i64 2) (.t 35)),mv 3 36]) (.seq (.reg [mv 38 11,mv 39 2,mv 40 3,o 41 (.call 85 [.t 38, .t 39, .t 40]),mv 37 41,o 42 (.ext (.t 37) 0),o 43 (.ext (.t 37) 1),mv 13 42,mv 14 43]) (.seq (.reg [mv 45 12,mv 46 2,mv 47 3,o 48 (.call 85 [.t 45, .t 46, .t 47]),mv 44 48,o 49 (.ext (.t 44) 0),o 50 (.ext (.t 44) 1),mv 15 49,mv 16 50]) (.seq (.seq (.reg [mv 51 4,o 52 (.call 24 [.t 51,i64 60]),mv 17 52]) (.block 0 (.loop (.seq (.seq (.reg [mv 53 17,o 54 (.bin .gtr (.t 53) (i64 0))]) (.cond (.t 54) .skip (.exit 0))) (.seq (.block 1 (.reg [mv 57 15,o 58 (.cat (.c (.str ⟨#[48]⟩)) (.t 57)),mv 15 58])) (.reg [mv 55 17,o 56 (.bin .sub (.t 55) (i64 1)),mv 17 56])))))) (.seq (.reg [mv 60 11,mv 61 15,mv 62 3,o 63 (.call 89 [.t 60, .t 61, .t 62]),mv 59 63,o 64 (.ext (.t 59) 0),o 65 (.ext (.t 59) 1),mv 18 64,mv 19 65]) (.seq (.reg [mv 67 12,mv 68 13,mv 69 3,o 70 (.call 89 [.t 67, .t 68, .t 69]),mv 66 70,o 71 (.ext (.t 66) 0),o 72 (.ext (.t 66) 1),mv 20 71,mv 21 72]) (.seq (.reg [mv 73 14,o 74 (.bin .eql (.t 73) (i64 0)),mv 75 74,og 76 75 true (.mv (.t 16)),og 77 75 true (.bin .eql (.t 76) (i64 0)),o 78 (.pick (.t 75) (.t 77) (.c (.bool false))),mv 79 78,og 80 79 true (.mv (.t 19)),og 81 79 true (.bin .eql (.t 80) (i64 0)),o 82 (.pick (.t 79) (.t 81) (.c (.bool false))),mv 83 82,og 84 83 true (.mv (.t 21)),og 85 83 true (.bin .eql (.t 84) (i64 0)),o 86 (.pick (.t 83) (.t 85) (.c (.bool false))),mv 87 86,og 88 87 true (.mv (.t 2)),og 89 87 true (.call 88 [.t 88]),og 90 87 true (.mv (.t 18)),og 91 87 true (.call 38 [.t 89, .t 90]),o 92 (.pick (.t 87) (.t 91) (.c (.bool false))),mv 93 92,og 94 93 true (.mv (.t 2)),og 95 93 true (.call 88 [.t 94]),og 96 93 true (.mv (.t 20)),og 97 93 true (.call 38 [.t 95, .t 96]),o 98 (.pick (.t 93) (.t 97) (.c (.bool false))),mv 99 98,og 100 99 true (.mv (.t 13)),og 101 99 true (.len true (.t 100)),og 102 99 true (.bin .gtr (.t 101) (i64 0)),o 103 (.pick (.t 99) (.t 102) (.c (.bool false))),mv 104 103,og 105 104 true (.mv (.t 13)),og 106 104 true (.seq false (.t 105) (.c (.str ⟨#[48]⟩))),og 107 104 true (.mv (.t 106)),og 108 107 false (.mv (.t 13)),og 109 107 false (.idxS (.t 108) (i64 0)),og 110 107 false (.bin .neq (.t 109) (.c (.int .u8 48))),og 111 104 true (.pick (.t 107) (.c (.bool true)) (.t 110)),o 112 (.pick (.t 104) (.t 111) (.c (.bool false))),mv 113 112,og 114 113 true (.call 86 []),o 115 (.pick (.t 113) (.t 114) (.c (.bool false))),mv 10 115]) .ret))))))))))
theorem in_law17_RadixBack:Ent 18 116 c_law17_RadixBack [.t 10]:=en Tryz.func18 rfl
def c_law17_RadixDigits:AC:= .seq (.reg [o 3 (.box 23 (.t 0)),o 6 (.mv (.c (.bool false)))]) (.seq (.reg [mv 10 1,o 11 (.call 76 [.t 10,i64 10]),mv 1 11]) (.seq (.seq (.reg [mv 12 2,o 13 (.bin .gtr (.t 12) (u64 1)),mv 14 13,og 15 14 true (.mv (.t 2)),og 16 14 true (.bin .lss (.t 15) (u64 16)),o 17 (.pick (.t 14) (.t 16) (.c (.bool false)))]) (.cond (.t 17) (.reg [mv 18 1,o 19 (.call 76 [.t 18,i64 3]),mv 1 19]) .skip)) (.seq (.reg [o 20 (.ld (some 11) (.t 3)),o 21 (.call 84 [.t 20]),mv 7 21]) (.seq (.seq (.reg [mv 22 7,o 23 (.peq false (.t 22) (.c (.ptr none)))]) (.cond (.t 23) (.seq (.reg [o 6 (.mv (.c (.bool false)))]) .ret) .skip)) (.seq (.reg [mv 25 7,mv 26 1,mv 27 2,o 28 (.call 91 [.t 25, .t 26, .t 27]),mv 24 28,o 29 (.ext (.t 24) 0),o 30 (.ext (.t 24) 1),mv 8 29,mv 9 30]) (.seq (.seq (.reg [mv 31 2,o 32 (.bin .lss (.t 31) (u64 2))]) (.cond (.t 32) (.seq (.reg [mv 33 9,o 34 (.bin .eql (.t 33) (i64 1)),mv 35 34,og 36 35 true (.mv (.t 8)),og 37 35 true (.len false (.t 36)),og 38 35 true (.bin .eql (.t 37) (i64 0)),o 39 (.pick (.t 35) (.t 38) (.c (.bool false))),mv 40 39,og 41 40 true (.call 86 []),o 42 (.pick (.t 40) (.t 41) (.c (.bool false))),mv 6 42]) .ret) .skip)) (.seq (.reg [mv 43 9,o 44 (.bin .eql (.t 43) (i64 0)),mv 45 44,og 46 45 true (.mv (.t 8)),og 47 45 true (.mv (.t 1)),og 48 45 true (.call 88 [.t 47]),og 49 45 true (.mv (.t 2)),og 50 45 true (.call 92 [.t 48, .t 49]),og 51 45 true (.call 83 [.t 46, .t 50]),o 52 (.pick (.t 45) (.t 51) (.c (.bool false))),mv 53 52,og 54 53 true (.call 86 []),o 55 (.pick (.t 53) (.t 54) (.c (.bool false))),mv 6 55]) .ret)))))))
theorem in_law17_RadixDigits:Ent 19 56 c_law17_RadixDigits [.t 6]:=en Tryz.func19 rfl
def c_law17_RadixValues:AC:= .seq (.reg [o 4 (.box 23 (.t 0)),o 8 (.mv (.c (.bool false)))]) (.seq (.reg [mv 14 2,o 15 (.call 76 [.t 14,i64 40]),o 16 (.call 93 [.t 15]),mv 2 16]) (.seq (.reg [o 17 (.ld (some 11) (.t 4)),o 18 (.call 84 [.t 17]),mv 9 18]) (.seq (.seq (.reg [mv 19 9,o 20 (.peq false (.t 19) (.c (.ptr none)))]) (.cond (.t 20) (.seq (.reg [o 8 (.mv (.c (.bool false)))]) .ret) .skip)) (.seq (.reg [mv 21 1,o 22 (.bin .geq (.t 21) (u64 2)),mv 10 22]) (.seq (.seq (.reg [o 11 (.mv (i64 0))]) (.block 0 (.loop (.seq (.seq (.reg [mv 23 11,mv 24 2,o 25 (.len false (.t 24)),bn 26 .lss 23 25,mv 27 26,og 28 27 true (.mv (.t 1)),og 29 27 true (.bin .geq (.t 28) (u64 2)),o 30 (.pick (.t 27) (.t 29) (.c (.bool false)))]) (.cond (.t 30) .skip (.exit 0))) (.seq (.block 1 (.seq (.seq (.reg [mv 33 3]) (.cond (.t 33) (.reg [mv 34 2,mv 35 11,mv 36 2,mv 37 11,o 38 (.idx 1 (.t 36) (.t 37)),o 39 (.ld none (.t 38)),mv 40 1,bn 41 .rem 39 40,o 42 (.idx 1 (.t 34) (.t 35)),od (.st 1 (.t 42) (.t 41))]) .skip)) (.reg [mv 43 10,mv 44 43,og 45 44 true (.mv (.t 2)),og 46 44 true (.mv (.t 11)),og 47 44 true (.idx 1 (.t 45) (.t 46)),og 48 44 true (.ld none (.t 47)),og 49 44 true (.mv (.t 1)),og 50 44 true (.bin .lss (.t 48) (.t 49)),o 51 (.pick (.t 44) (.t 50) (.c (.bool false))),mv 10 51]))) (.reg [mv 31 11,o 32 (.bin .add (.t 31) (i64 1)),mv 11 32])))))) (.seq (.reg [mv 53 9,mv 54 1,mv 55 2,o 56 (.call 94 [.t 53, .t 54, .t 55]),mv 52 56,o 57 (.ext (.t 52) 0),o 58 (.ext (.t 52) 1),mv 12 57,mv 13 58]) (.seq (.seq (.reg [mv 59 10,o 60 (.un .not (.t 59))]) (.cond (.t 60) (.seq (.reg [mv 61 13,o 62 (.bin .eql (.t 61) (i64 1)),mv 63 62,og 64 63 true (.mv (.t 12)),og 65 63 true (.len false (.t 64)),og 66 63 true (.bin .eql (.t 65) (i64 0)),o 67 (.pick (.t 63) (.t 66) (.c (.bool false))),mv 68 67,og 69 68 true (.call 86 []),o 70 (.pick (.t 68) (.t 69) (.c (.bool false))),mv 8 70]) .ret) .skip)) (.seq (.reg [mv 71 13,o 72 (.bin .eql (.t 71) (i64 0)),mv 73 72,og 74 73 true (.mv (.t 1)),og 75 73 true (.mv (.t 2)),og 76 73 true (.call 95 [.t 74, .t 75]),og 77 73 true (.mv (.t 12)),og 78 73 true (.call 38 [.t 76, .t 77]),o 79 (.pick (.t 73) (.t 78) (.c (.bool false))),mv 80 79,og 81 80 true (.call 86 []),o 82 (.pick (.t 80) (.t 81) (.c (.bool false))),mv 8 82]) .ret))))))))
theorem in_law17_RadixValues:Ent 20 83 c_law17_RadixValues [.t 8]:=en Tryz.func20 rfl
def c_law17_RadixRound:AC:= .seq (.reg [o 4 (.box 23 (.t 0)),o 5 (.box 23 (.t 1)),o 8 (.mv (.c (.bool false)))]) (.seq (.reg [mv 15 2,o 16 (.call 76 [.t 15,i64 40]),mv 2 16]) (.seq (.reg [o 17 (.ld (some 11) (.t 4)),o 19 (.ld (some 11) (.t 5)),⟨some 18,none, .call 84 [.t 17],[(some 19,none, .ld (some 11) (.t 5))]⟩,o 20 (.call 84 [.t 19]),mv 9 18,mv 10 20]) (.seq (.seq (.reg [mv 21 9,o 22 (.peq false (.t 21) (.c (.ptr none))),mv 23 22,og 24 23 false (.mv (.t 10)),og 25 23 false (.peq false (.t 24) (.c (.ptr none))),o 26 (.pick (.t 23) (.c (.bool true)) (.t 25))]) (.cond (.t 26) (.seq (.reg [o 8 (.mv (.c (.bool false)))]) .ret) .skip)) (.seq (.reg [mv 27 3,o 28 (.mnx true (.t 27) [u64 256]),mv 3 28]) (.seq (.reg [mv 30 9,mv 31 2,mv 32 3,o 33 (.call 91 [.t 30, .t 31, .t 32]),mv 29 33,o 34 (.ext (.t 29) 0),o 35 (.ext (.t 29) 1),mv 11 34,mv 12 35]) (.seq (.reg [mv 37 10,mv 38 3,mv 39 11,o 40 (.call 94 [.t 37, .t 38, .t 39]),mv 36 40,o 41 (.ext (.t 36) 0),o 42 (.ext (.t 36) 1),mv 13 41,mv 14 42]) (.seq (.seq (.reg [mv 43 11,o 44 (.len false (.t 43)),o 45 (.bin .gtr (.t 44) (i64 0)),mv 46 45,og 47 46 true (.mv (.t 11)),og 48 46 true (.mv (.t 11)),og 49 46 true (.len false (.t 48)),og 50 46 true (.bin .sub (.t 49) (i64 1)),og 51 46 true (.idx 1 (.t 47) (.t 50)),og 52 46 true (.ld none (.t 51)),og 53 46 true (.bin .eql (.t 52) (u64 0)),o 54 (.pick (.t 46) (.t 53) (.c (.bool false)))]) (.cond (.t 54) (.seq (.reg [o 8 (.mv (.c (.bool false)))]) .ret) .skip)) (.seq (.reg [mv 55 12,o 56 (.bin .eql (.t 55) (i64 0)),mv 57 56,og 58 57 true (.mv (.t 14)),og 59 57 true (.bin .eql (.t 58) (i64 0)),o 60 (.pick (.t 57) (.t 59) (.c (.bool false))),mv 61 60,og 62 61 true (.mv (.t 2)),og 63 61 true (.call 88 [.t 62]),og 64 61 true (.mv (.t 13)),og 65 61 true (.call 38 [.t 63, .t 64]),o 66 (.pick (.t 61) (.t 65) (.c (.bool false))),mv 67 66,og 68 67 true (.call 86 []),o 69 (.pick (.t 67) (.t 68) (.c (.bool false))),mv 8 69]) .ret))))))))
theorem in_law17_RadixRound:Ent 21 70 c_law17_RadixRound [.t 8]:=en Tryz.func21 rfl
def c_law17_wakes:AC:= .seq (.reg [o 0 (.mv (.c (.bool false)))]) (.seq (.reg [o 6 (.bld [.int .i64 0, .int .i64 0, .int .i64 0, .int .i64 0, .int .i64 0, .int .i64 0, .int .i64 0, .int .i64 0, .int .i64 0, .int .i64 0, .int .i64 0] []),o 7 (.call 84 [.t 6]),mv 1 7]) (.seq (.seq (.reg [mv 8 1,o 9 (.peq false (.t 8) (.c (.ptr none)))]) (.cond (.t 9) (.seq (.reg [o 0 (.mv (.c (.bool false)))]) .ret) .skip)) (.seq (.reg [mv 11 1,o 12 (.bsl 54 1 1 [.int .u64 0] [(0,u64 255)]),o 13 (.call 85 [.t 11, .t 12,i64 16]),mv 10 13,o 14 (.ext (.t 10) 0),o 15 (.ext (.t 10) 1),mv 2 14,mv 3 15]) (.seq (.reg [mv 17 1,o 18 (.call 89 [.t 17, .c (.str (⟨#[48,48,55]⟩)),i64 8]),mv 16 18,o 19 (.ext (.t 16) 0),o 20 (.ext (.t 16) 1),mv 4 19,mv 5 20]) (.seq (.reg [mv 21 3,o 22 (.bin .eql (.t 21) (i64 0)),mv 23 22,og 24 23 true (.mv (.t 2)),og 25 23 true (.seq false (.t 24) (.c (.str (⟨#[102,102]⟩)))),o 26 (.pick (.t 23) (.t 25) (.c (.bool false))),mv 27 26,og 28 27 true (.mv (.t 5)),og 29 27 true (.bin .eql (.t 28) (i64 0)),o 30 (.pick (.t 27) (.t 29) (.c (.bool false))),mv 31 30,og 32 31 true (.mv (.t 4)),og 33 31 true (.bsl 54 1 1 [.int .u64 0] [(0,u64 7)]),og 34 31 true (.call 83 [.t 32, .t 33]),o 35 (.pick (.t 31) (.t 34) (.c (.bool false))),mv 0 35]) .ret)))))
theorem in_law17_wakes:Ent 86 36 c_law17_wakes [.t 0]:=en Tryz.func86 rfl
def c_law17_from:AC:= .seq (.reg [o 2 (.mv (.c (.sl none 0 0 none)))]) (.seq (.reg [mv 3 0,o 4 (.call 79 [.t 3]),mv 2 4]) .ret)
theorem in_law17_from:Ent 88 5 c_law17_from [.t 2]:=en Tryz.func88 rfl
end
section
section
variable {b:Nat} {h:H} {K:AV→H→Prop}
theorem few_calls (hb:2≤b) (hb64:b<18446744073709551616) (hk:∀n:Nat,1≤n→n≤64→b^n<18446744073709551616→18446744073709551616≤b^(n+1)→K (.tup [.int .i64 (n:Int), .int .u64 ((b^n:Nat):Int)]) h):ACalls Tryz.prog 137 [.int .u64 (b:Int)] h K:=by
 refine in_radix_few sM fun hw=> ?_
 unfold c_radix_few
 have hpw:∀n:Nat,b^n<18446744073709551616→n<64:=by
  intro n hn
  have h1:2^n≤b^n:=Nat.pow_le_pow_left hb n
  have h2:2^n<2^64:=Nat.lt_of_le_of_lt h1 oM
  exact(Nat.pow_lt_pow_iff_right oM).1 h2
 simp only[go_sem]
 refine for_rule (fun j ρ h'=>j≤64∧h'=h∧ρ 0= .int .u64 (b:Int)∧ρ 4= .int .i64 ((j+1:Nat):Int)∧ρ 5= .int .u64 ((b^(j+1):Nat):Int)∧b^(j+1)<18446744073709551616) 64 ⟨oM,rfl,rfl,rfl,by rw[Nat.zero_add,Nat.pow_one];rfl,by rw[Nat.zero_add,Nat.pow_one];exact hb64⟩ (fun i ρ h hI=>hI.1) ?_
 rintro j ρ h' ⟨hj,rfl,q0,q4,q5,hlt⟩
 have hj64:=hpw _ hlt
 have hb0:(b:Int)≠0:=by omega
 have e1:(18446744073709551615:Int).tdiv (b:Int)=((18446744073709551615/b:Nat):Int):=tdivN (a:=18446744073709551615) (b:=b)
 have e2:IntKind.u64.wrap ((18446744073709551615/b:Nat):Int)=((18446744073709551615/b:Nat):Int):=wUn (Nat.lt_of_le_of_lt (Nat.div_le_self _ _) oM)
 have hiff:b^(j+1)≤18446744073709551615/b↔b^(j+1)*b≤18446744073709551615:=Nat.le_div_iff_mul_le oM
 have hps:b^(j+1+1)=b^(j+1)*b:=Nat.pow_succ ..
 generalize 18446744073709551615/b=d at*
 by_cases c1:b^(j+1)≤d
 ·have h3:=hiff.1 c1
  have e3:IntKind.u64.wrap (((b^(j+1):Nat):Int)*(b:Int))=((b^(j+1+1):Nat):Int):=by
   rw[←Int.natCast_mul,←hps]
   exact wUn oM
  simp only[go_sem,q0,q4,q5,e1,e2,nz_and hb0,show decide (((b^(j+1):Nat):Int)≤(d:Int))=true from decide_eq_true oM,e3,incI (i:=j+1) oM]
  exact⟨oM,tR,tR,tR,tR,oM⟩
 ·have h3:¬b^(j+1)*b≤18446744073709551615:=fun h=>c1 (hiff.2 h)
  simp only[go_sem,q0,q4,q5,e1,e2,nz_and hb0,show decide (((b^(j+1):Nat):Int)≤(d:Int))=false from decide_eq_false oM]
  exact fun _=>hk (j+1) oM oM hlt (by rw[hps];omega)
end
end
theorem app_own2 {t:TypeId} {k:IntKind} {b:Nat} {h:H} {K:AV→H→Prop} {s x:AV} {xs ys:List Int} {by_:Nat} (hw:h.wf) (hs:IsF t k b h s xs) (hx:IsW k h x ys) (hne:ys≠ []) (hb:b≤h.next) (hl:(xs.length+ys.length)*by_≤140737488355328) (hl2:xs.length+ys.length≤140737488355328)
  (hk:∀v h' io c,s= .sl io 0 xs.length c→h'.wf→(∃c',v= .sl (some h.next) 0 (xs.length+ys.length) c')→IsF t k b h' v (xs++ys)→(h.del io).le h'→K v h'):appK t 1 by_ s x h K:=by
 have hs0:=hs
 obtain⟨ids,cs,rfl,hs⟩:=hs
 obtain⟨idx,offx,cx,rfl,hx⟩:=hx
 simp only[appK]
 refine⟨fun h0=> ?_,fun h0=> ?_⟩
 ·exact absurd (List.eq_nil_of_length_eq_zero h0) hne
 ·rcases hx with⟨_,rfl,_⟩|⟨j,r,rfl,hr,_,hfit,ht⟩
  ·exact absurd rfl hne
  ·refine⟨j,r,rfl,hr,by simpa using hfit,by rw[Nat.mul_one,ht];exact W_one _ _,hl,hl2, ?_⟩
   rw[Nat.mul_one,Nat.mul_one,ht]
   rcases hs with⟨rfl,rfl⟩|⟨i,q,rfl,hbi,hq,ho,he,hf2,ht2⟩
   ·refine .inl ⟨sM,sM,hk _ _ none cs rfl (H.wf_new hw _) ⟨none,sM⟩ ?_ (H.le_trans (H.del_le none) (H.le_new hw (H.le_refl h) _))⟩
    exact⟨some h.next,none,sM, .inr ⟨h.next,_,rfl,hb,H.rows_new _ _,rfl,rfl,by simp[W_length],by simp only[List.nil_append];exact W_all k ys⟩⟩
   ·refine .inr ⟨i,q,rfl,hq,ho,he,sM,hf2,hk _ _ (some i) cs rfl (H.wf_new (H.wf_del hw _) _) ⟨none,by simp[H.next_del]⟩ ?_ (H.le_new (H.wf_del hw _) (H.le_refl _) _)⟩
    refine⟨some h.next,none,sM, .inr ⟨h.next,_,rfl,hb,H.rows_new _ _,rfl,rfl, ?_, ?_⟩⟩
    ·simp only[List.length_append,ht2,W_length];omega
    ·rw[ht2,W_append]
     exact List.take_of_length_le (by simp[W_length])
theorem dg_succ (b n x:Nat):dg b (n+1) x=dg b n x++[x/b^n%b]:=by
 rw[dg_add b n 1]
 rfl
section
def Gr (s:AV) (h:H) (v:AV) (h':H):Prop:=h.next≤h'.next∧(∀io n c,s= .sl io 0 n c→∀j r,j<h.next→some j≠io→h.rows j=some r→h'.rows j=some r)∧(v=s∨∃i n c,v= .sl (some i) 0 n c∧h.next≤i)
theorem Gr.refl (s:AV) (h:H):Gr s h s h:=⟨Nat.le_refl _,fun _ _ _ _ _ _ _ _ e=>e, .inl rfl⟩
theorem Gr.trans {s v w:AV} {h h1 h2:H} (a:Gr s h v h1) (b:Gr v h1 w h2):Gr s h w h2:=by
 obtain⟨a1,a2,a3⟩:=a
 obtain⟨b1,b2,b3⟩:=b
 refine⟨Nat.le_trans a1 b1,fun io n c e j r hj hne hr=> ?_, ?_⟩
 ·have h3:=a2 io n c e j r hj hne hr
  rcases a3 with rfl|⟨i,m,d,rfl,hi⟩
  ·exact b2 io n c e j r oM hne h3
  ·exact b2 (some i) m d rfl j r oM (by intro e;injection e;omega) h3
 ·rcases b3 with rfl|⟨i,m,d,rfl,hi⟩
  ·exact a3
  ·exact .inr ⟨i,m,d,rfl,oM⟩
theorem Gr.le {s v:AV} {h h1 h2:H} (hw:h1.wf) (a:Gr s h v h1) (b:h1.le h2):Gr s h v h2:=⟨Nat.le_trans a.1 b.1,fun io n c e j r hj hne hr=>b.2 _ _ (a.2.1 io n c e j r hj hne hr),a.2.2⟩
theorem dig_app {c:Nat} {h:H} {K:AV→H→Prop} {s:AV} {xs:List Nat} {y:Nat} (hw:h.wf) (hs:IsG c h s xs) (hc:c≤h.next) (hl:xs.length+1≤17592186044416)
  (hk:∀v h',h'.wf→IsG c h' v (xs++[y])→Gr s h v h'→K v h'):appK 54 1 8 s (.sl (some h.next) 0 1 (some 1)) (h.new ⟨some 54,1,[.int .u64 (y:Int)]⟩) K:=by
 have hle:=H.le_new hw (H.le_refl h) ⟨some 54,1,[.int .u64 (y:Int)]⟩
 have hnx:(h.new ⟨some 54,1,[.int .u64 (y:Int)]⟩).next=h.next+1:=rfl
 refine app_own2 (k:= .u64) (xs:=xs.map fun n:Nat=>(n:Int)) (ys:=[(y:Int)]) (H.wf_new hw _) (hs.mono hle) (IsW.lit [(y:Int)]) sM (by rw[hnx];omega) (by simp;omega) (by simp;omega) fun v h' io c' e hw' hv hv2 hle2=>hk v h' hw' ?_ ?_
 ·unfold IsG
  rw[List.map_append]
  exact hv2
 ·refine⟨by have:=hle2.1;rw[H.next_del,hnx] at this;omega,fun io' n c3 e' j r hj hne hr=> ?_, .inr ?_⟩
  ·rw[e] at e'
   injection e' with e1
   subst e1
   refine hle2.2 j r ?_
   show(if some j=io then none else _)=_
   rw[if_neg hne]
   exact hle.2 _ _ hr
  ·obtain⟨c4,rfl⟩:=hv
   exact⟨_,_,_,rfl,by rw[hnx];omega⟩
section
variable {b w n T c:Nat} {h:H} {s f un up:AV} {xs:List Nat} {K:AV→H→Prop}
theorem chunk2_calls (hc:c≤h.next) (hTc:T<c) (hT:h.rows T=some ⟨some 192,4,[.int .u64 (b:Int),f,un,up]⟩) (hs:IsG c h s xs) (hb:0<b) (hw64:w<18446744073709551616) (hl:xs.length+n≤17592186044416)
  (hk:∀v h',h'.wf→IsG c h' v (xs++dg b n w)→Gr s h v h'→K v h'):ACalls Tryz.prog 189 [.ptr (some (T,0)), .int .u64 (w:Int), .int .i64 (n:Int),s] h K:=by
 refine in_radix_tree_chunk sM fun hw=> ?_
 unfold c_radix_tree_chunk
 have hb0:(b:Int)≠0:=by omega
 have hTk:∀{v:AV} {h2:H},Gr s h v h2→h2.rows T=some ⟨some 192,4,[.int .u64 (b:Int),f,un,up]⟩:=by
  intro v h2 hg
  obtain⟨io,co,e,h1⟩:=id hs
  refine hg.2.1 io _ co e T _ oM ?_ hT
  rintro rfl
  rcases h1 with⟨h2,_⟩|⟨i,q,h2,hbi,_⟩
  ·cases h2
  ·injection h2 with h2
   omega
 simp only[go_sem]
 refine loop_cut (fun ρ h'=>h'.wf∧Gr s h (ρ 3) h'∧IsG c h' (ρ 3) (xs++dg b n w)) ?_ ?_
 ·refine for_rule (fun j ρ h'=>j≤n∧h'.wf∧Gr s h (ρ 3) h'∧ρ 0= .ptr (some (T,0))∧ρ 1= .int .u64 ((w/b^j:Nat):Int)∧ρ 9= .int .i64 (n:Int)∧ρ 10= .int .i64 (j:Int)∧IsG c h' (ρ 3) (xs++dg b j w)) n
   ⟨oM,hw,Gr.refl _ _,tR,by rw[Nat.pow_zero,Nat.div_one];rfl,tR,rfl,by rw[dg,List.append_nil];exact hs⟩ (fun i ρ h hI=>hI.1) ?_
  rintro j ρ h2 ⟨hj,hw2,hg2,q0,q1,q9,q10,hs2⟩
  rcases Nat.lt_or_ge j n with h3|h3
  ·obtain⟨io,co,q3⟩:=hs2.form
   rw[q3] at hs2 hg2
   have gT:h2.get T 0=some (.int .u64 (b:Int)):=by
    unfold H.get
    rw[hTk hg2]
    rfl
   have e1:((w/b^j:Nat):Int).tmod (b:Int)=((w/b^j%b:Nat):Int):=tmodN
   have e2:((w/b^j:Nat):Int).tdiv (b:Int)=((w/b^(j+1):Nat):Int):=by
    rw[tdivN,Nat.div_div_eq_div_mul,←Nat.pow_succ]
   simp only[go_sem,q0,q1,q3,q9,q10,ltT h3,gT,nz_and hb0,e1,e2]
   have hll:(xs++dg b j w).length=xs.length+j:=by rw[List.length_append,dg_len]
   refine dig_app hw2 hs2 (Nat.le_trans hc hg2.1) (by rw[hll];omega) fun v h4 hw4 hv4 hg4=> ?_
   have hg5:=hg2.trans hg4
   have gT4:h4.get T 0=some (.int .u64 (b:Int)):=by
    unfold H.get
    rw[hTk hg5]
    rfl
   have e4:IntKind.u64.wrap ((w/b^(j+1):Nat):Int)=((w/b^(j+1):Nat):Int):=wUn (Nat.lt_of_le_of_lt (Nat.div_le_self _ _) hw64)
   rw[List.append_assoc,←dg_succ] at hv4
   simp only[go_sem,q0,q1,q9,q10,gT4,nz_and hb0,e2,e4,incI (i:=j) oM]
   exact⟨oM,hw4,hg5,tR,tR,tR,tR,hv4⟩
  ·obtain rfl:j=n:=by omega
   simp only[go_sem,q0,q1,q9,q10,ltF (Nat.le_refl j)]
   exact⟨hw2,hg2,hs2⟩
 ·rintro ρ h2 ⟨hw2,hg2,hs2⟩
  simp only[go_sem]
  exact fun hw'=>hk _ h2 hw' hs2 hg2
end
end
section
theorem H.del_get {h:H} {io:Option Nat} {j:Nat} {r:Row} (e:(h.del io).rows j=some r):some j≠io∧h.rows j=some r:=by
 unfold H.del at e
 simp only at e
 split at e
 ·cases e
 ·exact⟨by assumption,e⟩
theorem H.del_put {h:H} {io:Option Nat} {j:Nat} {r:Row} (hn:some j≠io) (e:h.rows j=some r):(h.del io).rows j=some r:=by
 unfold H.del
 simp only
 rw[if_neg hn]
 exact e
theorem Gr.dle {io io':Option Nat} {n n':Nat} {c c':Option Nat} {h h':H} (hw:h.wf) (hg:Gr (.sl io 0 n c) h (.sl io' 0 n' c') h'):(h.del io).le (h'.del io'):=by
 refine⟨hg.1,fun j r e=> ?_⟩
 obtain⟨h1,h2⟩:=H.del_get e
 have hj:=H.row_lt hw h2
 refine H.del_put ?_ (hg.2.1 io n c rfl j r hj h1 h2)
 rcases hg.2.2 with h3|⟨i,_,_,h3,hi⟩
 ·injection h3 with h3
  rw[h3]
  exact h1
 ·injection h3 with h3
  rw[h3]
  intro h4
  injection h4 with h4
  omega
theorem Nf.delN {b x:Nat} {h:H} {v:AV} {io:Option Nat} (hio:∀i,io=some i→i<b) (hv:Nf b h v x):Nf b (h.del io) v x:=by
 obtain⟨xs,⟨id,c,rfl,h1⟩,h2⟩:=hv
 refine⟨xs,⟨id,c,rfl, ?_⟩,h2⟩
 rcases h1 with h1|⟨i,r,rfl,hb,hr,h3⟩
 ·exact .inl h1
 ·refine .inr ⟨i,r,rfl,hb,H.del_put (fun e=> ?_) hr,h3⟩
  have:=hio i e.symm
  omega
section
variable {b F n T x c:Nat} {h:H} {s e va up:AV} {io co:Option Nat} {xs:List Nat} {K:AV→H→Prop}
theorem hand2_calls (hc:c≤h.next) (hTc:T<c) (hT:h.rows T=some ⟨some 192,4,[.int .u64 (b:Int), .int .i64 (F:Int), .int .u64 ((b^F:Nat):Int),up]⟩) (hs:IsG c h (.sl io 0 xs.length co) xs) (nx:Nn (h.del io) va x) (bx:Big x) (hb:0<b) (hF:1≤F) (hF9:F≤64) (hp:b^F<18446744073709551616) (hl:xs.length+n≤17592186044416)
  (hk:∀v h',h'.wf→IsG c h' v (xs++dg b n x)→Gr (.sl io 0 xs.length co) h v h'→K v h'):ACalls Tryz.prog 160 [e, .ptr (some (T,0)),va, .int .i64 (n:Int), .sl io 0 xs.length co] h K:=by
 refine in_radix_Engine_hand sM fun hw=> ?_
 unfold c_radix_Engine_hand
 have hio:∀i,io=some i→c≤i:=by
  rintro i rfl
  obtain⟨_,_,e,h1⟩:=hs
  injection e with e
  rcases h1 with⟨h2,_⟩|⟨i',_,h2,hb,_⟩
  ·rw[h2] at e;cases e
  ·rw[h2] at e
   injection e with e
   omega
 have hTk:∀{v:AV} {h2:H},Gr (.sl io 0 xs.length co) h v h2→h2.rows T=some ⟨some 192,4,[.int .u64 (b:Int), .int .i64 (F:Int), .int .u64 ((b^F:Nat):Int),up]⟩:=by
  intro v h2 hg
  refine hg.2.1 io _ _ rfl T _ oM ?_ hT
  intro e
  have:=hio T e.symm
  omega
 simp only[go_sem]
 refine loop_cut (fun ρ h'=>h'.wf∧Gr (.sl io 0 xs.length co) h (ρ 4) h'∧IsG c h' (ρ 4) (xs++dg b n x)) ?_ ?_
 ·refine⟨fun m ρ h'=>h'.wf∧ρ 1= .ptr (some (T,0))∧ρ 3= .int .i64 (m:Int)∧m≤n∧∃X ys io' co',ρ 4= .sl io' 0 ys.length co'∧Gr (.sl io 0 xs.length co) h (.sl io' 0 ys.length co') h'∧Nn (h'.del io') (ρ 2) X∧Big X∧IsG c h' (.sl io' 0 ys.length co') ys∧ys.length+m=xs.length+n∧ys++dg b m X=xs++dg b n x,n,
   ⟨hw,tR,tR,Nat.le_refl _,x,xs,io,co,rfl,Gr.refl _ _,nx,bx,hs,rfl,rfl⟩, ?_⟩
  rintro m ρ h2 ⟨hw2,q1,q3,hm,X,ys,io',co',q4,hg2,nX,bX,hs2,hlen,heq⟩
  rcases Nat.eq_zero_or_pos m with h0|h0
  ·subst h0
   rw[dg,List.append_nil] at heq
   subst heq
   simp only[go_sem,q1,q3,q4,show decide ((0:Int)<((0:Nat):Int))=false from rfl]
   exact⟨hw2,hg2,hs2⟩
  have gU:h2.get T 2=some (.int .u64 ((b^F:Nat):Int)):=by
   unfold H.get
   rw[hTk hg2]
   rfl
  have hpos:0<b^F:=Nat.pow_pos hb
  simp only[go_sem,q1,q3,q4,show decide ((0:Int)<(m:Int))=true from decide_eq_true oM,gU]
  refine lDivWord_calls (nX.mono (H.del_le _)) hp hpos fun q h3 hw3 hl3 hq=> ?_
  have hg3:=hg2.le hw2 hl3
  have gF:h3.get T 1=some (.int .i64 (F:Int)):=by
   unfold H.get
   rw[hTk hg3]
   rfl
  obtain⟨k,hkk,hk1,hkm,hkF,hkc⟩:∃k:Nat,min (m:Int) (F:Int)=(k:Int)∧1≤k∧k≤m∧k≤F∧(k=m∨k=F):=⟨min m F,oM,oM,oM,oM,oM⟩
  simp only[go_sem,q1,q3,q4,gF,hkk]
  refine chunk2_calls (n:=k) (Nat.le_trans hc hg3.1) hTc (hTk hg3) (hs2.mono hl3) hb (Nat.lt_trans (Nat.mod_lt _ hpos) hp) oM fun v h4 hw4 hv4 hg4=> ?_
  have hd:dg b k (X%b^F)=dg b k X:=by
   obtain⟨r,rfl⟩:∃r,F=k+r:=⟨F-k,oM⟩
   rw[←dg_mod hb k (X%b^(k+r)),←dg_mod hb k X,Nat.pow_add,Nat.mod_mul_right_mod]
  rw[hd] at hv4
  obtain⟨io4,co4,rfl⟩:=hv4.form
  have hio2:∀i,io'=some i→i<h2.next:=by
   rintro i rfl
   obtain⟨_,_,e,h1⟩:=hs2
   injection e with e
   rcases h1 with⟨h5,_⟩|⟨i',_,h5,_,h6,_⟩
   ·rw[h5] at e;cases e
   ·rw[h5] at e
    injection e with e
    rw[e]
    exact H.row_lt hw2 h6
  have bq:Big (X/b^F):=bX.le (Nat.div_le_self _ _)
  have nq:=((hq.delN hio2).nn bq).mono (hg4.dle hw3)
  have e1:IntKind.i64.wrap ((m:Int)-(k:Int))=((m-k:Nat):Int):=by rw[wI]<;>omega
  have hm2:dg b m X=dg b k X++dg b (m-k) (X/b^F):=by
   have h7:=dg_add b k (m-k) X
   rw[show k+(m-k)=m by omega] at h7
   rw[h7]
   rcases hkc with h8|h8
   ·subst h8
    rw[Nat.sub_self]
    rfl
   ·rw[h8]
  rw[hm2,←List.append_assoc] at heq
  simp only[go_sem,q1,q3,e1]
  exact⟨m-k,oM,hw4,tR,tR,oM,X/b^F,ys++dg b k X,io4,co4,tR,hg3.trans hg4,nq,bq,hv4,by rw[List.length_append,dg_len];omega,heq⟩
 ·rintro ρ h2 ⟨hw2,hg2,hs2⟩
  simp only[go_sem]
  exact fun hw'=>hk _ h2 hw' hs2 hg2
end
end
def GrU (u:Nat) (s:AV) (h:H) (v:AV) (h':H):Prop:=h.next≤h'.next∧(∀io n c,s= .sl io 0 n c→∀j r,j<h.next→j≠u→some j≠io→h.rows j=some r→h'.rows j=some r)∧(v=s∨∃i n c,v= .sl (some i) 0 n c∧h.next≤i)
theorem Gr.u {s v:AV} {h h':H} (u:Nat) (g:Gr s h v h'):GrU u s h v h':=⟨g.1,fun io n c e j r hj _ hn hr=>g.2.1 io n c e j r hj hn hr,g.2.2⟩
theorem GrU.trans {u:Nat} {s v w:AV} {h h1 h2:H} (a:GrU u s h v h1) (b:GrU u v h1 w h2):GrU u s h w h2:=by
 obtain⟨a1,a2,a3⟩:=a
 obtain⟨b1,b2,b3⟩:=b
 refine⟨Nat.le_trans a1 b1,fun io n c e j r hj hu hne hr=> ?_, ?_⟩
 ·have h3:=a2 io n c e j r hj hu hne hr
  rcases a3 with rfl|⟨i,m,d,rfl,hi⟩
  ·exact b2 io n c e j r oM hu hne h3
  ·exact b2 (some i) m d rfl j r oM hu (by intro e;injection e;omega) h3
 ·rcases b3 with rfl|⟨i,m,d,rfl,hi⟩
  ·exact a3
  ·exact .inr ⟨i,m,d,rfl,oM⟩
theorem H.lee.gr {u:Nat} {h h':H} (hl:H.lee u h h') (s:AV):GrU u s h s h':=⟨hl.1,fun _ _ _ _ j r _ hu _ hr=>hl.2 j r hu hr, .inl rfl⟩
theorem H.del_tune {u m nw dp:Nat} {t:Tb} {h:H} {io:Option Nat} (ht:Tune h u m nw dp t) (hio:io≠some u):Tune (h.del io) u m nw dp t:=H.del_put (fun e=>hio e.symm) ht
theorem GrU.dlee {u n n':Nat} {io io':Option Nat} {c c':Option Nat} {h h':H} (hw:h.wf) (hg:GrU u (.sl io 0 n c) h (.sl io' 0 n' c') h'):H.lee u (h.del io) (h'.del io'):=by
 refine⟨hg.1,fun j r hu e=> ?_⟩
 obtain⟨h1,h2⟩:=H.del_get e
 have hj:=H.row_lt hw h2
 refine H.del_put ?_ (hg.2.1 io n c rfl j r hj hu h1 h2)
 rcases hg.2.2 with h3|⟨i,_,_,h3,hi⟩
 ·injection h3 with h3
  rw[h3]
  exact h1
 ·injection h3 with h3
  rw[h3]
  intro h4
  injection h4 with h4
  omega
theorem GrU.old {u n:Nat} {io:Option Nat} {c:Option Nat} {a h h':H} {v:AV} (ha:a.wf) (hl:H.lee u a h) (hio:∀i,io=some i→a.next≤i) (hg:GrU u (.sl io 0 n c) h v h'):H.lee u a h':=by
 refine⟨Nat.le_trans hl.1 hg.1,fun j r hu hr=> ?_⟩
 have hj:=H.row_lt ha hr
 refine hg.2.1 io n c rfl j r (Nat.lt_of_lt_of_le hj hl.1) hu (fun e=> ?_) (hl.2 j r hu hr)
 have:=hio j e.symm
 omega
theorem IsG.io {b:Nat} {h:H} {xs:List Nat} {io:Option Nat} {n:Nat} {c:Option Nat} (hs:IsG b h (.sl io 0 n c) xs):∀i,io=some i→b≤i:=by
 rintro i rfl
 obtain⟨_,_,e,h1⟩:=hs
 injection e with e
 rcases h1 with⟨h2,_⟩|⟨i',_,h2,hb,_⟩
 ·rw[h2] at e;cases e
 ·rw[h2] at e
  injection e with e
  omega
theorem IsG.io_lt {b:Nat} {h:H} {xs:List Nat} {io:Option Nat} {n:Nat} {c:Option Nat} (hw:h.wf) (hs:IsG b h (.sl io 0 n c) xs):∀i,io=some i→i<h.next:=by
 rintro i rfl
 obtain⟨_,_,e,h1⟩:=hs
 injection e with e
 rcases h1 with⟨h5,_⟩|⟨i',_,h5,_,h6,_⟩
 ·rw[h5] at e;cases e
 ·rw[h5] at e
  injection e with e
  rw[e]
  exact H.row_lt hw h6
def pw (U n:Nat):List Nat:=(List.range n).map fun i=>U^2^i
theorem pw_len (U n:Nat):(pw U n).length=n:=by unfold pw;rw[List.length_map,List.length_range]
theorem pw_get {U n i:Nat} (h:i<(pw U n).length):(pw U n)[i]=U^2^i:=by
 have e:(pw U n)[i]? =some (U^2^i):=by
  have h2:=h
  rw[pw_len] at h2
  unfold pw
  rw[List.getElem?_map,List.getElem?_range h2]
  rfl
 rw[List.getElem?_eq_getElem h] at e
 injection e
theorem pw_succ (U n:Nat):pw U (n+1)=pw U n++[U^2^n]:=by unfold pw;rw[List.range_succ,List.map_append];rfl
theorem pw_sqr (U n:Nat):U^2^n*U^2^n=U^2^(n+1):=by rw[←Nat.pow_add];congr 1;rw[Nat.pow_succ];omega
def DgOf (b x:Nat) (xs:List Nat):Prop:=(∀y∈xs,y<b)∧(∀y,xs.getLast? =some y→y≠0)∧val b xs=x
theorem DgOf.uniq {b x:Nat} (hb:1<b) {xs ys:List Nat} (h:DgOf b x xs) (k:DgOf b x ys):xs=ys:=top_uniq hb h.1 k.1 h.2.1 k.2.1 (h.2.2.trans k.2.2.symm)
theorem dg_down {b F k A U:Nat} (hU:U=b^F):dg b (F*2^(k+1)) A=dg b (F*2^k) (A%U^2^k)++dg b (F*2^k) (A/U^2^k):=by
 have e:U^2^k=b^(F*2^k):=by rw[hU,←Nat.pow_mul]
 have e2:F*2^(k+1)=F*2^k+F*2^k:=by rw[Nat.pow_succ,←Nat.mul_assoc];omega
 rw[e,e2,dg_add]
 congr 1
 rcases Nat.eq_zero_or_pos b with h0|h0
 ·subst h0
  rcases Nat.eq_zero_or_pos (F*2^k) with h1|h1
  ·rw[h1];rfl
  ·rw[Nat.zero_pow h1,Nat.mod_zero]
 ·rw[dg_mod h0]
def sb (l:List Nat):ByteArray:=⟨(l.map UInt8.ofNat).toArray⟩
theorem sb_size (l:List Nat):(sb l).size=l.length:=by simp[sb,ByteArray.size]
theorem u8_nat {x:Nat} (h:x<256):(UInt8.ofNat x).toNat=x:=by
 rw[UInt8.toNat_ofNat']
 exact Nat.mod_eq_of_lt h
theorem sb_get {l:List Nat} {i:Nat} (h:i<l.length):(sb l)[i]? =some (UInt8.ofNat l[i]):=by
 have h1:i<(sb l).size:=by rw[sb_size];exact h
 rw[getElem?_pos (sb l) i h1]
 congr 1
 show(sb l).data[i]=_
 simp[sb]
theorem sb_append (l m:List Nat):sb l++sb m=sb (l++m):=by
 apply ByteArray.ext
 rw[ByteArray.data_append]
 simp[sb]
theorem sb_of (s:ByteArray):∃l:List Nat,s=sb l∧∀x∈l,x<256:=by
 refine⟨s.data.toList.map UInt8.toNat, ?_, ?_⟩
 ·apply ByteArray.ext
  unfold sb
  rw[List.map_map]
  have:(UInt8.ofNat ∘ UInt8.toNat)=id:=by
   funext x
   simp
  rw[this,List.map_id,Array.toArray_toList]
 ·intro x hx
  obtain⟨y,_,rfl⟩:=List.mem_map.1 hx
  exact y.toNat_lt
theorem sb_inj {l m:List Nat} (hl:∀x∈l,x<256) (hm:∀x∈m,x<256) (h:sb l=sb m):l=m:=by
 unfold sb at h
 injection h with h
 have h:=congrArg Array.toList h
 simp only at h
 have h2:=congrArg (List.map UInt8.toNat) h
 rw[List.map_map,List.map_map] at h2
 have key:∀l:List Nat,(∀x∈l,x<256)→l.map (UInt8.toNat ∘ UInt8.ofNat)=l:=by
  intro l hl
  conv=>rhs;rw[←List.map_id l]
  exact List.map_congr_left fun x hx=>u8_nat (hl x hx)
 rwa[key l hl,key m hm] at h2
theorem ba_beq (a b:ByteArray):(a==b)=(a.data==b.data):=by
 cases a
 cases b
 rfl
theorem sb_beq {l m:List Nat} (hl:∀x∈l,x<256) (hm:∀x∈m,x<256):(sb l==sb m)=decide (l=m):=by
 rw[ba_beq]
 by_cases h:l=m
 ·subst h
  rw[decide_eq_true rfl]
  exact beq_self_eq_true _
 ·rw[decide_eq_false h]
  exact beq_eq_false_iff_ne.2 fun e=>h (sb_inj hl hm (ByteArray.ext e))
theorem bytes_W (l:List Nat):bytesOf (W .u8 (l.map fun n:Nat=>(n:Int)))=sb l:=by
 unfold bytesOf sb W
 rw[List.map_map,List.map_map]
 congr 2
theorem allU8_W {l:List Nat} (h:∀x∈l,x<256):allU8 (W .u8 (l.map fun n:Nat=>(n:Int)))=true:=by
 unfold allU8 W
 rw[List.all_eq_true]
 intro x hx
 rw[List.map_map] at hx
 obtain⟨y,hy,rfl⟩:=List.mem_map.1 hx
 have:=h y hy
 show decide ((0:Int)≤(y:Int)∧(y:Int)<256)=true
 exact decide_eq_true ⟨oM,oM⟩
def chr (d:Nat):Nat:=if 9<d then 87+d else 48+d
def dgt (c:Nat):Nat:=if 48≤c∧c≤57 then c-48 else if 97≤c∧c≤122 then c-87 else 99
theorem chr_lt {d:Nat} (h:d<36):chr d<256:=by unfold chr;split<;>omega
theorem dgt_chr {d:Nat} (h:d<36):dgt (chr d)=d:=by
 unfold chr dgt
 split
 ·rw[if_neg oM,if_pos oM];omega
 ·rw[if_pos oM];omega
theorem dgt_lt (c:Nat):dgt c<100:=by
 unfold dgt
 split
 ·omega
 ·split<;>omega
def txt (ds:List Nat):List Nat:=if ds=[] then [48] else(ds.map chr).reverse
def num (b:Nat) (cs:List Nat):Nat:=val b (cs.map dgt).reverse
theorem num_snoc (b:Nat) (cs:List Nat) (c:Nat):num b (cs++[c])=num b cs*b+dgt c:=by
 unfold num
 rw[List.map_append,List.reverse_append]
 show dgt c+b*val b (List.map dgt cs).reverse=_
 rw[Nat.mul_comm b,Nat.add_comm]
theorem txt_lt {ds:List Nat} (h:∀d∈ds,d<36):∀x∈txt ds,x<256:=by
 intro x hx
 unfold txt at hx
 split at hx
 ·rw[List.mem_singleton.1 hx];omega
 ·obtain⟨y,hy,rfl⟩:=List.mem_map.1 (List.mem_reverse.1 hx)
  exact chr_lt (h y hy)
theorem num_txt {b:Nat} {ds:List Nat} (h:∀d∈ds,d<36):num b (txt ds)=val b ds:=by
 unfold num txt
 split
 ·rename_i e
  subst e
  rfl
 ·rw[List.map_reverse,List.reverse_reverse,List.map_map]
  congr 1
  conv=>rhs;rw[←List.map_id ds]
  exact List.map_congr_left fun x hx=>dgt_chr (h x hx)
theorem num_nought (b k:Nat) (cs:List Nat):num b (List.replicate k 48++cs)=num b cs:=by
 unfold num
 rw[List.map_append,List.reverse_append,val_append,List.map_replicate,List.reverse_replicate,show dgt 48=0 from rfl,val_zero b (List.replicate k 0) (fun x hx=>List.eq_of_mem_replicate hx),Nat.mul_zero,Nat.add_zero]
section
def sg (b:Bool) (x:Nat):Int:=if b=true then-(x:Int) else(x:Int)
theorem g2 {h:H} {i:Nat} {T:Option TypeId} {a b:AV} (hr:h.rows i=some ⟨T,2,[a,b]⟩):h.get i 0=some a∧h.get i 1=some b∧h.gets i 0 2=some [a,b]:=by
 rw[H.get_of hr,H.get_of hr,H.gets_of hr sM]
 exact⟨rfl,rfl,rfl⟩
section
variable {v u wa wb:AV} {ba bb:Bool} {x y:Nat} {h:H} {K:AV→H→Prop}
theorem rZero_calls (nv:Num 4294967296 h v x) (hk:K (.bool (decide (x=0))) h):ACalls Tryz.prog 108 [v] h K:=by
 obtain⟨xs,h1,h2,h3,rfl⟩:=nv
 obtain⟨id,off,c,rfl⟩:=h1.form
 refine in_ref02_Zero sM fun hw=> ?_
 unfold c_ref02_Zero
 have e:((xs.length:Int)==0)=decide (val 4294967296 xs=0):=by
  rw[Bool.eq_iff_iff]
  simp only[beq_iff_eq,decide_eq_true_eq]
  constructor
  ·intro h0
   have:xs=[]:=List.eq_nil_of_length_eq_zero oM
   subst this
   rfl
  ·intro h0
   rcases Nat.eq_zero_or_pos xs.length with h|h
   ·omega
   ·exfalso
    have h4:xs≠ []:=by intro e;subst e;simp at h
    have h5:=val_ge 4294967296 xs h3 h4
    have h6:0<4294967296^(xs.length-1):=Nat.pow_pos oM
    omega
 simp only[go_sem,e]
 exact fun _=>hk
end
end
section
section
variable {t:Tb} {h:H} {K:AV→H→Prop}
theorem roNew_calls (hk:∀e u h',h'.wf→h.le h'→h.next≤u→u<e→Eng 8 h' e u→Tune h' u 0 0 0 (clampT t)→K (.ptr (some (e,0))) h'):ACalls Tryz.prog 116 [t.av] h K:=by
 refine in_root_New sM fun hw=> ?_
 unfold c_root_New
 have hl1:=H.le_new hw (H.le_refl h) ⟨some 23,11,t.cells⟩
 have hn1:h.next<(h.new ⟨some 23,11,t.cells⟩).next:=Nat.lt_succ_self _
 simp only[go_sem,av_held,av_cells,cells_len,true_and,gsT (H.rows_new h _)]
 refine diNew_calls fun e u h1 hw1 hl2 hn2 _ he ht=> ?_
 simp only[go_sem,bldp]
 simp only[AV.held,AV.cells,true_and,go_sem]
 have hl3:=H.le_new hw1 (H.le_refl h1) ⟨some 133,1,[AV.ptr (some (e,0))]⟩
 exact fun hw'=>hk _ u _ hw' (H.le_trans hl1 (H.le_trans hl2 hl3)) oM (H.row_lt hw1 ht) ⟨_,e,H.rows_new _ _,rfl,he.mono hl3⟩ (ht.mono hl3)
theorem raNew_calls (hk:∀e u h',h'.wf→h.le h'→h.next≤u→u<e→Eng 9 h' e u→Tune h' u 0 0 0 (clampT t)→K (.ptr (some (e,0))) h'):ACalls Tryz.prog 84 [t.av] h K:=by
 refine in_radix_New sM fun hw=> ?_
 unfold c_radix_New
 have hl1:=H.le_new hw (H.le_refl h) ⟨some 23,11,t.cells⟩
 have hn1:h.next<(h.new ⟨some 23,11,t.cells⟩).next:=Nat.lt_succ_self _
 simp only[go_sem,av_held,av_cells,cells_len,true_and,gsT (H.rows_new h _)]
 refine roNew_calls fun e u h1 hw1 hl2 hn2 _ he ht=> ?_
 simp only[go_sem,bldp]
 simp only[AV.held,AV.cells,true_and,go_sem]
 have hl3:=H.le_new hw1 (H.le_refl h1) ⟨some 130,1,[AV.ptr (some (e,0))]⟩
 exact fun hw'=>hk _ u _ hw' (H.le_trans hl1 (H.le_trans hl2 hl3)) oM (H.row_lt hw1 ht) ⟨_,e,H.rows_new _ _,rfl,he.mono hl3⟩ (ht.mono hl3)
end
end
theorem blen_pow {x n:Nat} (hx:0<x) (hn:1≤n):(blen x-1)*n+1≤blen (x^n)∧blen (x^n)≤blen x*n:=by
 have h1:=blen_ge hx
 have h2:=blen_lt x
 constructor
 ·have h3:2^((blen x-1)*n)≤x^n:=by
   rw[Nat.pow_mul]
   exact Nat.pow_le_pow_left h1.2 n
  have h4:=blen_lt (x^n)
  have h5:=Nat.lt_of_le_of_lt h3 h4
  have:=(Nat.pow_lt_pow_iff_right (a:=2) oM).1 h5
  omega
 ·refine blen_le ?_
  rw[Nat.pow_mul]
  exact Nat.pow_lt_pow_left h2 oM
theorem le_over {u:Nat} {a b c:H} (hw:a.wf) (h1:a.le b) (hu:a.next≤u) (h2:H.lee u b c):a.le c:=
 ⟨Nat.le_trans h1.1 h2.1,fun i r e=>h2.2 i r (by have:=H.row_lt hw e;omega) (h1.2 i r e)⟩
section
section
variable {wa wn wm:AV} {A N M:Nat} {h:H} {K:AV→H→Prop}
theorem fromN (nv:Nn h wa A) (hk:∀r h',h'.wf→h.le h'→Num 4294967296 h' r A→K r h'):ACalls Tryz.prog 79 [wa] h K:=by
 obtain⟨xs,v1,v2,v3,rfl⟩:=nv
 exact From_calls v1 v2 v3 hk
end
end
theorem blen_mul_le (x y:Nat):blen (x*y)≤blen x+blen y:=by
 refine blen_le ?_
 rw[Nat.pow_add]
 exact Nat.mul_lt_mul'' (blen_lt x) (blen_lt y)
theorem blen_wl {x k:Nat} (h:wlen x≤k):blen x≤64*k:=blen_le_iff.2 (by rw[←two_B];exact wlen_le.1 h)
theorem grow_gt {A x:Nat} (hx:0<x) (h:blen A+2≤2*blen x):A<x*x:=by
 have h1:=blen_lt A
 obtain⟨h2,h3⟩:=blen_ge hx
 have h4:2^blen A≤2^(blen x-1+(blen x-1)):=Nat.pow_le_pow_right oM oM
 rw[Nat.pow_add] at h4
 exact Nat.lt_of_lt_of_le h1 (Nat.le_trans h4 (Nat.mul_le_mul h3 h3))
theorem grow_le {A x:Nat} (h:2*blen x<blen A+2):blen (x*x)≤blen A+1:=by
 have:=blen_mul_le x x
 omega
theorem grow_bl {U:Nat} (hU:2≤U) (j:Nat):2^j<blen (U^2^j):=by
 have h1:=(blen_pow (x:=U) (n:=2^j) oM (Nat.pow_pos oM)).1
 have h2:2≤blen U:=by
  have:=blen_mono hU
  have e:blen 2=2:=by decide
  omega
 have h3:1*2^j≤(blen U-1)*2^j:=Nat.mul_le_mul_right _ oM
 omega
theorem val_wlen {b:Nat} (hb:0<b) (hb64:b<18446744073709551616) {xs:List Nat} (h:∀x∈xs,x<b):wlen (val b xs)≤xs.length:=by
 refine wlen_le.2 (Nat.lt_of_lt_of_le (val_lt b hb xs h) (Nat.pow_le_pow_left (Nat.le_of_lt hb64) _))
theorem pow_few {b F:Nat} (hb:2≤b) (h:b^F<18446744073709551616):F<64:=by
 have h1:2^F≤b^F:=Nat.pow_le_pow_left hb F
 have h2:2^F<2^64:=Nat.lt_of_le_of_lt h1 oM
 exact(Nat.pow_lt_pow_iff_right oM).1 h2
section
def Tree (h:H) (T b F:Nat) (up:AV):Prop:=h.rows T=some ⟨some 192,4,[.int .u64 (b:Int), .int .i64 (F:Int), .int .u64 ((b^F:Nat):Int),up]⟩
theorem Tree.ne {h:H} {T b F u m nw dp:Nat} {t:Tb} {up:AV} (hT:Tree h T b F up) (ht:Tune h u m nw dp t):T≠u:=by
 rintro rfl
 unfold Tree at hT
 rw[ht] at hT
 injection hT with hT
 have:=congrArg (fun r:Row=>r.cells.length) hT
 simp[tuneRow,Tb.cells] at this
theorem Tree.monoE {h h':H} {T b F u m nw dp:Nat} {t:Tb} {up:AV} (hT:Tree h T b F up) (ht:Tune h u m nw dp t) (hl:H.lee u h h'):Tree h' T b F up:=hl.2 _ _ (hT.ne ht) hT
theorem Tree.gets {h:H} {T b F:Nat} {up:AV} (hT:Tree h T b F up):h.get T 0=some (.int .u64 (b:Int))∧h.get T 1=some (.int .i64 (F:Int))∧h.get T 2=some (.int .u64 ((b^F:Nat):Int))∧h.get T 3=some up:=by
 have e:∀j,h.get T j=([.int .u64 (b:Int), .int .i64 (F:Int), .int .u64 ((b^F:Nat):Int),up]:List AV)[j]? :=fun j=>H.get_of hT
 exact⟨e 0,e 1,e 2,e 3⟩
theorem IsG.lee {u b:Nat} {h h':H} {io:Option Nat} {n:Nat} {c:Option Nat} {xs:List Nat} (hub:u<b) (hs:IsG b h (.sl io 0 n c) xs) (hl:H.lee u h h'):IsG b h' (.sl io 0 n c) xs:=IsG.monoE hub hs hl
section
variable {b F T e u m00 nw00 dp00 n0:Nat} {t:Tb} {up:AV} {a0:H}
set_option maxHeartbeats 1000000 in
theorem rdown_calls (hT:TbOK t) (hb:2≤b) (hF:1≤F) (hp:b^F<18446744073709551616) (hw0:a0.wf) (he0:Eng 9 a0 e u) (ht0:Tune a0 u m00 nw00 dp00 t) (hTr:Tree a0 T b F up) (hup:IsA 1 NnL a0 up (pw (b^F) n0)) (hupb:∀i,i<n0→wlen ((b^F)^2^i)≤4000):
  ∀(k:Nat) {h:H} {m nw dp A:Nat} {va:AV} {io co:Option Nat} {xs:List Nat} {K:AV→H→Prop},k≤n0→k≤20→H.lee u a0 h→Tune h u m nw dp t→nw+k≤500000000→Nn (h.del io) va A→wlen A≤4000→IsG a0.next h (.sl io 0 xs.length co) xs→xs.length+F*2^k≤17592186044416→
   (∀v h' m' dp',h'.wf→IsG a0.next h' v (xs++dg b (F*2^k) A)→GrU u (.sl io 0 xs.length co) h v h'→Tune h' u m' nw dp' t→K v h')→
   ACalls Tryz.prog 136 [.ptr (some (e,0)), .ptr (some (T,0)),va, .int .i64 (k:Int), .sl io 0 xs.length co] h K:=by
 have hu0:=H.row_lt hw0 ht0
 have hTu:=hTr.ne ht0
 have hT0:=H.row_lt hw0 hTr
 have hF9:=pow_few hb hp
 obtain⟨f,rfl,rfl,G,E⟩:=Eng.path ht0 he0
 --by words
 have hand:∀(k:Nat) {h:H} {m nw dp A:Nat} {va:AV} {io co:Option Nat} {xs:List Nat} {K:AV→H→Prop},h.wf→k≤20→H.lee (f 9) a0 h→Tune h (f 9) m nw dp t→Nn (h.del io) va A→wlen A≤4000→IsG a0.next h (.sl io 0 xs.length co) xs→xs.length+F*2^k≤17592186044416→
   (∀v h' m' dp',h'.wf→IsG a0.next h' v (xs++dg b (F*2^k) A)→GrU (f 9) (.sl io 0 xs.length co) h v h'→Tune h' (f 9) m' nw dp' t→K v h')→
   ACalls Tryz.prog 160 [.ptr (some (f 0,0)), .ptr (some (T,0)),va, .int .i64 ((F*2^k:Nat):Int), .sl io 0 xs.length co] h K:=by
  intro k h m nw dp A va io co xs K hw hk20 hlee ht na wa hs hlen hk
  refine hand2_calls hlee.1 hT0 (hTr.monoE ht0 hlee) hs na (wbig wa oM) oM hF oM hp hlen fun v h' hw' hv hg=> ?_
  refine hk v h' m dp hw' hv (hg.u _) (hg.2.1 io _ _ rfl _ _ (H.row_lt hw ht) ?_ ht)
  intro ej
  have:=hs.io _ ej.symm
  omega
 have few:∀k,k≤20→bShl .i64 (F:Int) (IntKind.u64.wrap ((k:Nat):Int)).toNat=((F*2^k:Nat):Int):=by
  intro k hk
  have h1:2^k≤2^20:=Nat.pow_le_pow_right oM hk
  have h2:F*2^k≤64*2^20:=Nat.mul_le_mul oM h1
  rw[wUn oM,Int.toNat_natCast]
  exact shl_int oM oM
 intro k
 induction k with
 |zero=>
  intro h m nw dp A va io co xs K hkn hk20 hlee ht hnw na wa hs hlen hk
  refine in_radix_Engine_down sM fun hw=> ?_
  unfold c_radix_Engine_down
  obtain⟨g0,g1,g2,g3⟩:=(hTr.monoE ht0 hlee).gets
  simp only[go_sem,eqT (show((0:Nat):Int)=0 from rfl),g1,few 0 oM,and_self,true_and]
  refine hand 0 hw oM hlee ht na wa hs hlen fun v h' m' dp' hw' hv hg ht'=> ?_
  simp only[go_sem]
  exact fun _=>hk v h' m' dp' hw' hv hg ht'
 |succ k ih=>
  intro h m nw dp A va io co xs K hkn hk20 hlee ht hnw na wa hs hlen hk
  refine in_radix_Engine_down sM fun hw=> ?_
  unfold c_radix_Engine_down
  obtain⟨g0,g1,g2,g3⟩:=(hTr.monoE ht0 hlee).gets
  have nah:=na.mono (H.del_le io)
  simp only[go_sem,eqF (show((k+1:Nat):Int)≠0 by omega),G 0 oM _ hlee,G 1 oM _ hlee,G 2 oM _ hlee,G 3 oM _ hlee,G 4 oM _ hlee,G 5 oM _ hlee,G 6 oM _ hlee,G 7 oM _ hlee,G 8 oM _ hlee,tune_radix ht]
  refine LenN_calls nah ?_
  by_cases c1:((wlen A:Nat):Int)<t.radix
  ·simp only[go_sem,G 0 oM _ hlee,G 1 oM _ hlee,G 2 oM _ hlee,G 3 oM _ hlee,G 4 oM _ hlee,G 5 oM _ hlee,G 6 oM _ hlee,G 7 oM _ hlee,G 8 oM _ hlee,tune_radix ht,decide_eq_true c1,and_self,true_and,g1,few (k+1) hk20]
   refine hand (k+1) hw hk20 hlee ht na wa hs hlen fun v h' m' dp' hw' hv hg ht'=> ?_
   simp only[go_sem]
   exact fun _=>hk v h' m' dp' hw' hv hg ht'
  simp only[go_sem,G 0 oM _ hlee,G 1 oM _ hlee,G 2 oM _ hlee,G 3 oM _ hlee,G 4 oM _ hlee,G 5 oM _ hlee,G 6 oM _ hlee,G 7 oM _ hlee,G 8 oM _ hlee,tune_radix ht,decide_eq_false c1,and_self,true_and]
  refine Enter_calls ht oM fun _ h1 hw1 hl1 hn1 ht1=> ?_
  have hlee1:=hlee.trans hl1
  have hTr1:=hTr.monoE ht0 hlee1
  obtain⟨_,_,_,g13⟩:=hTr1.gets
  obtain⟨idu,ofu,cu,rfl⟩:=hup.form
  have hup1:=hup.monoE (fun⟨v,e,hx⟩=>⟨v,e,hx.monoE' ht0 hlee1⟩) ht0 oM hlee1
  have hkl:k<(pw (b^F) n0).length:=by rw[pw_len];omega
  obtain⟨ii,av,rfl,_,hgu,vv,ev,nP⟩:=hup1.at1 hkl
  injection ev with ev
  subst ev
  rw[pw_get hkl] at nP
  have hPb:=hupb k oM
  have hP0:0<(b^F)^2^k:=Nat.pow_pos (Nat.pow_pos oM)
  have e2:IntKind.i64.wrap (((k+1:Nat):Int)-1)=(k:Int):=by rw[wI]<;>omega
  simp only[go_sem,G 0 oM _ hlee1,G 1 oM _ hlee1,g13,e2]
  refine⟨oM,by rw[pw_len];omega, ?_⟩
  simp only[go_sem,hgu]
  have bA:Big A:=wbig wa oM
  have bP:Big ((b^F)^2^k):=wbig hPb oM
  have hio:=hs.io
  have hiol:=hs.io_lt hw
  refine DivMod2_calls hT ((E 2 oM).monoE ht0 hlee1) ht1 (nah.monoE' ht hl1) nP wa hPb oM (fun h0=>absurd h0 oM) fun _ q r h2 m2 dp2 hw2 hl2 ht2 _ hq hr=> ?_
  have l02:=hl1.trans hl2
  have hlee2:=hlee.trans l02
  have bq:Big (A/(b^F)^2^k):=bA.le (Nat.div_le_self _ _)
  have br:Big (A%(b^F)^2^k):=bA.le (Nat.mod_le _ _)
  have hio1:∀i,io=some i→i<h1.next:=fun i e=>Nat.lt_of_lt_of_le (hiol i e) hl1.1
  have hiu:io≠some (f 9):=fun e=>by have:=hio _ e;omega
  have wq:wlen (A/(b^F)^2^k)≤4000:=Nat.le_trans (wlen_mono (Nat.div_le_self _ _)) wa
  have wr':wlen (A%(b^F)^2^k)≤4000:=Nat.le_trans (wlen_mono (Nat.mod_le _ _)) wa
  have hdd:=dg_down (b:=b) (F:=F) (k:=k) (A:=A) rfl
  have e3:F*2^(k+1)=F*2^k+F*2^k:=by rw[Nat.pow_succ,←Nat.mul_assoc];omega
  rw[hdd] at hk
  generalize A/(b^F)^2^k=Q at*
  generalize A%(b^F)^2^k=R at*
  have hs2:=hs.lee hu0 l02
  simp only[go_sem,e2]
  refine ih oM oM hlee2 ht2 oM ((hr.delN hio1).nn br) wr' hs2 oM fun v3 h3 m3 dp3 hw3 hv3 hg3 ht3=> ?_
  obtain⟨io3,co3,rfl⟩:=hv3.form
  have hlee3:=hg3.old hw0 hlee2 hio
  have nq3:=((hq.delN hio1).nn bq).monoE' (H.del_tune ht2 hiu) (hg3.dlee hw2)
  simp only[go_sem,e2]
  refine ih oM oM hlee3 ht3 oM nq3 wq hv3 (by rw[List.length_append,dg_len];omega) fun v4 h4 m4 dp4 hw4 hv4 hg4 ht4=> ?_
  have hlee4:=hg4.old hw0 hlee3 hv3.io
  simp only[go_sem,G 0 oM _ hlee4,G 1 oM _ hlee4,G 2 oM _ hlee4,G 3 oM _ hlee4,G 4 oM _ hlee4,G 5 oM _ hlee4,G 6 oM _ hlee4,G 7 oM _ hlee4,G 8 oM _ hlee4]
  refine Leave_calls ht4 oM fun _ h5 hw5 hl5 hn5 ht5=> ?_
  simp only[go_sem]
  rw[List.append_assoc] at hv4
  refine fun _=>hk v4 h5 m4 dp4 hw5 (IsG.monoE hu0 hv4 hl5) ?_ ht5
  exact(((l02.gr _).trans hg3).trans hg4).trans (hl5.gr _)
end
end
section
theorem Nf.keepY {b x:Nat} {h h':H} {v:AV} (hk:∀j q,q.own=some 54→h.rows j=some q→h'.rows j=some q) (hv:Nf b h v x):Nf b h' v x:=by
 obtain⟨xs,⟨id,c,rfl,h1⟩,h2⟩:=hv
 refine⟨xs,⟨id,c,rfl, ?_⟩,h2⟩
 rcases h1 with h1|⟨j,q,rfl,hb,hq,hqo,h3⟩
 ·exact .inl h1
 ·exact .inr ⟨j,q,rfl,hb,hk j q hqo hq,hqo,h3⟩
theorem Live.io_own {b n:Nat} {h:H} {io c:Option Nat} {xs:List Nat} (hv:Live 25 1 b (NfL b) h (.sl io 0 n c) xs):∀j,io=some j→∃r,h.rows j=some r∧r.own=some 25:=by
 obtain⟨io',c',cs,e,⟨_,id2,c2,e2,h3⟩,_⟩:=hv
 injection e2 with e2
 subst e2
 rintro j rfl
 rcases h3 with⟨h0,_⟩|⟨i,q,h0,hb,hq,ho,_⟩
 ·cases h0
 ·injection h0 with h0
  subst h0
  exact⟨q,hq,ho⟩
theorem tree_put {g:H} {T k:Nat} {l l':List AV} {a:AV} {K:AV→H→Prop} (hw:g.wf) (hr:g.rows T=some ⟨some 192,4,l⟩) (hl:l.length=4) (hk4:k<4) (hl':putAt l k [a]=l')
  (hk:∀g',g'.wf→g'.rows T=some ⟨some 192,4,l'⟩→H.lee T g g'→g'=g.set T ⟨some 192,4,l'⟩→K .junk g'):putK (g.rows T) T k 1 [a] g K:=by
 subst hl'
 rw[hr]
 exact⟨sM,by simp;omega,hk _ (H.wf_set hw (H.row_lt hw hr) _) (H.rows_set _ _ _) (H.lee_set _) rfl⟩
theorem IsA.impM {α:Type} {z:Nat} {R R':H→List AV→α→Prop} {h:H} {v:AV} {xs:List α} (hv:IsA z R h v xs) (hr:∀c x,x∈xs→R h c x→R' h c x):IsA z R' h v xs:=by
 obtain⟨cs,h1,h2⟩:=hv
 exact⟨cs,h1,h2.1,fun j x hx=>hr _ x (List.mem_of_getElem? hx) (h2.2 j x hx)⟩
theorem pw_mem {U n x:Nat} (h:x∈pw U n):∃i,i<n∧x=U^2^i:=by
 unfold pw at h
 obtain⟨i,hi,rfl⟩:=List.mem_map.1 h
 exact⟨i,List.mem_range.1 hi,rfl⟩
theorem Live.setT {b i:Nat} {h:H} {v:AV} {r0 r:Row} {xs:List Nat} (hv:Live 25 1 b (NfL b) h v xs) (hr:h.rows i=some r0) (ho:r0.own=some 192):Live 25 1 b (NfL b) (h.set i r) v xs:=by
 obtain⟨io,c,cs,rfl,⟨q1,id2,c2,e2,h3⟩,hc⟩:=hv
 injection e2 with e2 _ _ e4
 subst e2;subst e4
 refine⟨io,c,cs,rfl,⟨q1,io,c,rfl, ?_⟩,hc.mono ?_⟩
 ·rcases h3 with h3|⟨j,q,h0,hb,hq,hqo,h4⟩
  ·exact .inl h3
  ·refine .inr ⟨j,q,h0,hb, ?_,hqo,h4⟩
   rw[H.rows_set_ne ?_]
   ·exact hq
   ·rintro rfl
    rw[hr] at hq
    injection hq with hq
    rw[←hq,ho] at hqo
    injection hqo with hqo
    exact absurd hqo dM
 ·rintro l x ⟨w,rfl,hw⟩
  refine⟨w,rfl,hw.keepY fun j q hqo e=> ?_⟩
  simp only[H.del] at e⊢
  split at e
  ·cases e
  ·rename_i hj
   rw[if_neg hj,H.rows_set_ne ?_]
   ·exact e
   ·rintro rfl
    rw[hr] at e
    injection e with e
    rw[←e,ho] at hqo
    injection hqo with hqo
    exact absurd hqo dM
theorem H.lee.app {u:Nat} {a h h':H} {io:Option Nat} (ha:a.wf) (hl:H.lee u a h) (hio:∀i,io=some i→a.next≤i) (h1:(h.del io).le h'):H.lee u a h':=
 ⟨Nat.le_trans hl.1 h1.1,fun j r hj e=>h1.2 _ _ (H.del_put (fun ej=>by have:=hio j ej.symm;have:=H.row_lt ha e;omega) (hl.2 j r hj e))⟩
theorem H.lee.put {u i:Nat} {a h:H} (ha:a.wf) (hl:H.lee u a h) (hi:a.next≤i) (r:Row):H.lee u a (h.set i r):=
 ⟨hl.1,fun j q hj e=>by
  have:=H.row_lt ha e
  rw[H.rows_set_ne oM]
  exact hl.2 j q hj e⟩
theorem bldt {x:Int}:abuild [.int .u64 0, .int .i64 0, .int .u64 0, .sl none 0 0 none] [(0,1, .int .u64 x)]=some [.int .u64 x, .int .i64 0, .int .u64 0, .sl none 0 0 none]:=by simp[abuild,putAt,AV.held,AV.cells]
theorem Tree.row_own {h:H} {T b F:Nat} {up:AV} (hT:Tree h T b F up) {io:Option Nat} (hio:∀j,io=some j→∃r,h.rows j=some r∧r.own=some 25):some T≠io:=by
 rintro rfl
 obtain⟨r,h1,h2⟩:=hio T rfl
 unfold Tree at hT
 rw[hT] at h1
 injection h1 with h1
 rw[←h1] at h2
 injection h2 with h2
 exact absurd h2 dM
section
variable {b A e u m nw dp:Nat} {t:Tb} {h:H} {K:AV→H→Prop}
set_option maxHeartbeats 1000000 in
theorem grown_calls (he:Eng 9 h e u) (ht:Tune h u m nw dp t) (hb:2≤b) (hb64:b<18446744073709551616) (wA:wlen A≤128) (hnw:nw≤500000000)
  (hk:∀F T n0 up h' m' dp',1≤F→b^F<18446744073709551616→h'.wf→H.lee u h h'→h.next≤T→Tree h' T b F up→Tune h' u m' nw dp' t→IsA 1 NnL h' up (pw (b^F) n0)→n0≤20→A<(b^F)^2^n0→(∀i,i<n0→wlen ((b^F)^2^i)≤4000)→K (.ptr (some (T,0))) h'):
  ACalls Tryz.prog 135 [.ptr (some (e,0)), .int .u64 (b:Int), .int .i64 (blen A:Int)] h K:=by
 refine in_radix_Engine_grown sM fun hw=> ?_
 unfold c_radix_Engine_grown
 obtain⟨f,rfl,rfl,G,E⟩:=Eng.path ht he
 have hu:=H.row_lt hw ht
 simp only[go_sem,bldt]
 simp only[AV.held,AV.cells,true_and,go_sem]
 have hl1:=H.le_new hw (H.le_refl h) ⟨some 192,4,[.int .u64 (b:Int), .int .i64 0, .int .u64 0, .sl none 0 0 none]⟩
 have hw1:=H.wf_new hw ⟨some 192,4,[.int .u64 (b:Int), .int .i64 0, .int .u64 0, .sl none 0 0 none]⟩
 have r1:=H.rows_new h ⟨some 192,4,[.int .u64 (b:Int), .int .i64 0, .int .u64 0, .sl none 0 0 none]⟩
 generalize h.new ⟨some 192,4,[.int .u64 (b:Int), .int .i64 0, .int .u64 0, .sl none 0 0 none]⟩=h1 at*
 refine few_calls hb hb64 fun F hF1 hF64 hp hp2=> ?_
 simp only[go_sem]
 refine tree_put hw1 r1 rfl oM (l':=[.int .u64 (b:Int), .int .i64 (F:Int), .int .u64 0, .sl none 0 0 none]) (by simp[putAt]) fun h2 hw2 r2 hl2 e2=> ?_
 simp only[go_sem]
 refine tree_put hw2 r2 rfl oM (l':=[.int .u64 (b:Int), .int .i64 (F:Int), .int .u64 ((b^F:Nat):Int), .sl none 0 0 none]) (by simp[putAt]) fun h3 hw3 r3 hl3 e3=> ?_
 have t3:Tree h3 h.next b F (.sl none 0 0 none):=r3
 have lee1:H.lee (f 9) h h1:=hl1.lee
 have lee3:H.lee (f 9) h h3:=by
  rw[e3,e2]
  exact(lee1.put hw (Nat.le_refl _) _).put hw (Nat.le_refl _) _
 simp only[go_sem,t3.gets.2.2.1]
 refine One_calls hp fun x h4 hw4 hl4 hx=> ?_
 have t4:Tree h4 h.next b F (.sl none 0 0 none):=hl4.2 _ _ t3
 have lee4:=lee3.trans hl4.lee
 have hx4:Nf h.next h4 x (b^F):=hx.base lee3.1
 simp only[go_sem,t4.gets.2.2.2,k_lit1 hx.one]
 refine Live.app2 NfL.grows oM hw4 lee4.1 (Live.nil 25 1 h.next (NfL h.next) h4 none) rfl (y:=b^F) ⟨x,rfl,hx4.del fun j hj=>by cases hj⟩ rfl (by simp[hx.one]) oM oM rfl fun v5 h5 hw5 hl5 hv5=> ?_
 have t5:Tree h5 h.next b F (.sl none 0 0 none):=hl5.2 _ _ (H.del_put sM t4)
 have hv5:Live 25 1 h.next (NfL h.next) h5 v5 (pw (b^F) 1):=by
  have e:pw (b^F) 1=[]++[b^F]:=by
   rw[pw_succ,Nat.pow_zero,Nat.pow_one]
   rfl
  rw[e]
  exact hv5
 obtain⟨io5,co5,rfl⟩:=hv5.form
 have lee5:H.lee (f 9) h h5:=lee4.app hw (fun _ h=>by cases h) hl5
 have hx5:Nf h.next h5 x (b^F):=(hx4.del (io:=none) fun j hj=>by cases hj).mono hl5
 simp only[go_sem,t5.gets.2.2.2]
 refine tree_put hw5 t5 rfl oM (l':=[.int .u64 (b:Int), .int .i64 (F:Int), .int .u64 ((b^F:Nat):Int), .sl io5 0 (pw (b^F) 1).length co5]) (by simp[putAt]) fun h6 hw6 r6 hl6 e6=> ?_
 have t6:Tree h6 h.next b F (.sl io5 0 (pw (b^F) 1).length co5):=r6
 have lee6:H.lee (f 9) h h6:=by
  rw[e6]
  exact lee5.put hw (Nat.le_refl _) _
 have hv6:Live 25 1 h.next (NfL h.next) h6 (.sl io5 0 (pw (b^F) 1).length co5) (pw (b^F) 1):=by
  rw[e6]
  exact hv5.setT t5 rfl
 have hx6:Nf h.next h6 x (b^F):=hx5.keepY fun j q ho e=>hl6.2 _ _ (by
  rintro rfl
  unfold Tree at t5
  rw[t5] at e
  injection e with e
  rw[←e] at ho
  injection ho with ho
  exact absurd ho dM) e
 have hT9:h.next≠f 9:=by omega
 have ht6:Tune h6 (f 9) m nw dp t:=by
  have h3u:Tune h3 (f 9) m nw dp t:=hl3.2 _ _ (Ne.symm hT9) (hl2.2 _ _ (Ne.symm hT9) (ht.mono hl1))
  exact hl6.2 _ _ (Ne.symm hT9) (hl5.2 _ _ (H.del_put sM (h3u.mono hl4)))
 have hbA:=blen_wl wA
 have hw1F:wlen ((b^F)^2^0)≤4000:=by
  rw[Nat.pow_zero,Nat.pow_one]
  exact Nat.le_trans (wlen_le.2 (by rw[Nat.pow_one];exact hp)) (show 1≤4000 by omega)
 have hw0F:∀i,i≤0→wlen ((b^F)^2^i)≤4000:=by
  intro i hi
  obtain rfl:i=0:=by omega
  exact hw1F
 have hU2:2≤b^F:=by
  have:=Nat.pow_le_pow_right (n:=b) oM hF1
  rw[Nat.pow_one] at this
  omega
 clear t5 t4 t3 r1 r3 hl5 hl4 hl3 hl2 e3 e2 e6
 simp only[go_sem]
 refine for_rule (fun j ρ h'=>j≤14∧h'.wf∧H.lee (f 9) h h'∧ρ 0= .ptr (some (f 0,0))∧ρ 2= .int .i64 (blen A:Int)∧ρ 7= .ptr (some (h.next,0))∧(∃up,Tree h' h.next b F up∧Live 25 1 h.next (NfL h.next) h' up (pw (b^F) (j+1)))∧Nf h.next h' (ρ 8) ((b^F)^2^j)∧(∃m dp,Tune h' (f 9) m nw dp t)∧(j=0∨2^j≤blen A)∧∀i,i≤j→wlen ((b^F)^2^i)≤4000) 14
  ⟨oM,hw6,lee6,tR,tR,tR,⟨_,t6,hv6⟩,by rw[Nat.pow_zero,Nat.pow_one];exact hx6,⟨_,_,ht6⟩, .inl rfl,hw0F⟩ (fun i ρ h hI=>hI.1) ?_
 rintro j ρ g ⟨hj,hwg,leg,q0,q2,q7,⟨up,tg,vg⟩,xg,⟨mg,dg',htg⟩,hjA,hwl⟩
 obtain⟨io,co,rfl⟩:=vg.form
 have hjl:=hwl j (Nat.le_refl _)
 have hX0:0<(b^F)^2^j:=Nat.pow_pos oM
 have bX:Big ((b^F)^2^j):=wbig hjl oM
 have hgb:=grow_bl hU2 j
 have hps:2^(j+1)=2*2^j:=by rw[Nat.pow_succ];omega
 have hsq:=pw_sqr (b^F) j
 have hpl:=pw_succ (b^F) (j+1)
 obtain⟨X,hX⟩:∃X,X=(b^F)^2^j:=⟨_,rfl⟩
 rw[←hX] at xg hjl hX0 bX hgb hsq
 have hbX:=blen_wl hjl
 have e1:IntKind.i64.wrap (2*(blen X:Int))=((2*blen X:Nat):Int):=mulI (a:=2) (b:=blen X) oM
 have e2:IntKind.i64.wrap ((blen A:Int)+2)=((blen A+2:Nat):Int):=addI (a:=blen A) (b:=2) oM
 simp only[go_sem,q2,q7]
 refine nBits_calls (xg.nn bX) ?_
 rcases Nat.lt_or_ge (2*blen X) (blen A+2) with c1|c1
 ·have hgl:=grow_le c1
  have hj13:j<13:=by
   rcases Nat.lt_or_ge j 13 with h|h
   ·exact h
   ·have:=Nat.pow_le_pow_right (n:=2) oM h
    omega
  simp only[go_sem,q0,q2,q7,e1,e2,ltT c1,G 0 oM _ leg,G 1 oM _ leg,G 2 oM _ leg,G 3 oM _ leg,G 4 oM _ leg]
  refine Sqr_calls ((E 5 oM).monoE ht leg) htg (xg.nn bX) oM oM fun y g1 m1 d1 hwg1 hlg1 htg1 hy=> ?_
  have vg1:=vg.monoE (fun⟨v,e,hx⟩ hl=>⟨v,e,hx.monoE hu hl⟩) hu hlg1
  have tg1:Tree g1 h.next b F _:=hlg1.2 _ _ hT9 tg
  have leg1:=leg.trans hlg1
  have hiol:=vg.io_lt hwg
  have hioge:∀i,io=some i→h.next≤i:=fun i e=>vg.io_ge e
  have hlj:(pw (b^F) (j+1)).length=j+1:=pw_len _ _
  have hyd:Nf h.next (g1.del io) y (X*X):=(hy.del hiol).base leg.1
  simp only[go_sem,q7,tg1.gets.2.2.2,k_lit1 hy.one]
  refine Live.app2 NfL.grows oM hwg1 leg1.1 vg1 rfl (y:=X*X) ⟨y,rfl,hyd⟩ rfl (by simp[hy.one]) oM oM rfl fun v2 g2 hwg2 hlg2 vg2=> ?_
  rw[hsq,←hpl] at vg2
  have tg2:Tree g2 h.next b F _:=hlg2.2 _ _ (H.del_put (tg1.row_own vg1.io_own) tg1)
  have htg2:Tune g2 (f 9) m1 nw d1 t:=hlg2.2 _ _ (H.del_put (fun e=>by have:=hioge _ e.symm;omega) htg1)
  have leg2:=leg1.app hw hioge hlg2
  have y2:=hyd.mono hlg2
  obtain⟨io2,co2,rfl⟩:=vg2.form
  simp only[go_sem,q7,tg2.gets.2.2.2]
  refine tree_put hwg2 tg2 rfl oM (l':=[.int .u64 (b:Int), .int .i64 (F:Int), .int .u64 ((b^F:Nat):Int), .sl io2 0 (pw (b^F) (j+1+1)).length co2]) (by simp[putAt]) fun g3 hwg3 r3 hlg3 e3=> ?_
  have tg3:Tree g3 h.next b F _:=r3
  have leg3:H.lee (f 9) h g3:=by
   rw[e3]
   exact leg2.put hw (Nat.le_refl _) _
  have vg3:Live 25 1 h.next (NfL h.next) g3 (.sl io2 0 (pw (b^F) (j+1+1)).length co2) (pw (b^F) (j+1+1)):=by
   rw[e3]
   exact vg2.setT tg2 rfl
  have y3:Nf h.next g3 y (X*X):=y2.keepY fun j q ho e=>hlg3.2 _ _ (by
   rintro rfl
   unfold Tree at tg2
   rw[tg2] at e
   injection e with e
   rw[←e] at ho
   injection ho with ho
   exact absurd ho dM) e
  have htg3:Tune g3 (f 9) m1 nw d1 t:=hlg3.2 _ _ (Ne.symm hT9) htg2
  have hwX:wlen (X*X)≤4000:=by
   have:=wlen_blen (X*X)
   omega
  rw[hsq] at y3 hwX
  simp only[go_sem,q0,q2,q7]
  refine⟨oM,hwg3,leg3,tR,tR,tR,⟨_,tg3,vg3⟩,y3,⟨_,_,htg3⟩, .inr oM,fun i hi=> ?_⟩
  rcases Nat.lt_or_ge i (j+1) with h1|h1
  ·exact hwl i oM
  ·obtain rfl:i=j+1:=by omega
   exact hwX
 ·have hgt:=grow_gt hX0 c1
  simp only[go_sem,q0,q2,q7,e1,e2,ltF c1]
  rw[hsq] at hgt
  exact fun hw'=>hk F h.next (j+1) _ g mg dg' hF1 hp hw' leg (Nat.le_refl _) tg htg ((vg.isA NfL.grows).impM fun c x hm ⟨v,e,hv⟩=>⟨v,e,hv.nn (by obtain⟨i,hi,rfl⟩:=pw_mem hm;exact wbig (hwl i oM) oM)⟩) oM hgt fun i hi=>hwl i oM
end
end
section
theorem IsG.cutTop {b:Nat} {h:H} {io c:Option Nat} {n:Nat} {xs:List Nat} (hv:IsG b h (.sl io 0 n c) xs) {k:Nat} (hk:k≤xs.length):IsG b h (.sl io 0 k c) (xs.take k):=by
 obtain⟨id,c',e,h1⟩:=hv
 injection e with e1 e2 e3 e4
 subst e1;subst e4
 refine⟨io,c,by simp;omega, ?_⟩
 rcases h1 with⟨rfl,h2⟩|⟨i,r,rfl,hb,hr,ho,he,hf,ht⟩
 ·have h0:xs=[]:=by simpa using h2
  subst h0
  exact .inl ⟨rfl,sM⟩
 ·refine .inr ⟨i,r,rfl,hb,hr,ho,he,by simp at hf⊢;omega, ?_⟩
  have e2:((xs.take k).map fun n:Nat=>(n:Int)).length=k:=by simp;omega
  have e3:r.cells.take k=(r.cells.take (xs.map fun n:Nat=>(n:Int)).length).take k:=by
   rw[List.take_take]
   congr 1
   simp
   omega
  rw[e2,e3,ht,List.map_take]
  unfold W
  rw[List.map_take]
theorem IsG.nil' (b:Nat) (h:H) (c:Option Nat):IsG b h (.sl none 0 0 c) []:=IsF.nil _ _ _ _ _
theorem H.del_none {h:H}:h.le (h.del none):=⟨Nat.le_refl _,fun i r e=>H.del_put sM e⟩
theorem DgOf.of {b x:Nat} {xs ys:List Nat} (hx:∀y∈xs,y<b) (hv:val b xs=x) (hz:∀y∈xs.drop ys.length,y=0) (e:ys=xs.take ys.length) (hl:∀y,ys.getLast? =some y→y≠0):DgOf b x ys:=by
 refine⟨fun y hy=>hx y ?_,hl, ?_⟩
 ·rw[e] at hy
  exact List.mem_of_mem_take hy
 ·rw[e,val_take b xs _ hz,hv]
section
variable {b A e u m nw dp:Nat} {t:Tb} {h:H} {va:AV} {K:AV→H→Prop}
set_option maxHeartbeats 1000000 in
theorem digits_calls (hT:TbOK t) (he:Eng 9 h e u) (ht:Tune h u m nw dp t) (hb:2≤b) (hb64:b<18446744073709551616) (na:Nn h va A) (wA:wlen A≤128) (hnw:nw≤400000000)
  (hk:∀v ds h' m' dp',h'.wf→H.lee u h h'→Tune h' u m' nw dp' t→IsG h.next h' v ds→DgOf b A ds→K v h'):
  ACalls Tryz.prog 117 [.ptr (some (e,0)),va, .int .u64 (b:Int)] h K:=by
 refine in_radix_Engine_digits sM fun hw=> ?_
 unfold c_radix_Engine_digits
 have hu:=H.row_lt hw ht
 have bA:Big A:=wbig wA oM
 simp only[go_sem]
 refine Norm_calls na fun a h1 hw1 hl1 ha=> ?_
 simp only[go_sem]
 refine nBits_calls (ha.nn bA) ?_
 simp only[go_sem]
 refine grown_calls (he.mono hl1) (ht.mono hl1) hb hb64 wA oM fun F T n0 up h2 m2 dp2 hF hp hw2 hl2 hT2 t2 ht2 hup hn0 hgt hupb=> ?_
 obtain⟨idu,ofu,cu,rfl⟩:=hup.form
 have hlen:(pw (b^F) n0).length=n0:=pw_len _ _
 have hF9:=pow_few hb hp
 have hu1:u<h1.next:=Nat.lt_of_lt_of_le hu hl1.1
 have na2:Nn h2 a A:=(ha.nn bA).monoE' (ht.mono hl1) hl2
 have e2:F*2^n0≤67108864:=by
  have h1:2^n0≤2^20:=Nat.pow_le_pow_right oM hn0
  have h2:F*2^n0≤64*2^20:=Nat.mul_le_mul oM h1
  omega
 simp only[go_sem,t2.gets.2.2.2,hlen]
 have hin:([]:List Nat).length=0:=rfl
 refine rdown_calls (xs:=[]) hT hb hF hp hw2 ((he.mono hl1).monoE (ht.mono hl1) hl2) ht2 t2 hup hupb n0 (Nat.le_refl _) hn0 (H.lee_refl _ _) ht2 oM (na2.mono H.del_none) oM (IsG.nil' _ _ _) (by rw[hin];omega) fun v3 h3 m3 dp3 hw3 hv3 hg3 ht3=> ?_
 rw[List.nil_append] at hv3
 have leg3:H.lee u h h3:=hl1.lee.trans (hl2.trans (hg3.old hw2 (H.lee_refl _ _) fun i e=>by cases e))
 have hle2:h.next≤h2.next:=Nat.le_trans hl1.1 hl2.1
 have hmod:val b (dg b (F*2^n0) A)=A:=by
  rw[dg_val,Nat.mod_eq_of_lt]
  rw[Nat.pow_mul]
  exact hgt
 have hdl:=dg_lt (b:=b) oM (F*2^n0) A
 have hdn:=dg_len b (F*2^n0) A
 generalize dg b (F*2^n0) A=D at*
 obtain⟨io,co,rfl⟩:=hv3.form
 simp only[go_sem]
 refine⟨fun k ρ h'=>h'=h3∧ρ 9= .sl io 0 k co∧k≤D.length∧(∀x∈D.drop k,x=0),D.length,⟨rfl,tR,Nat.le_refl _,sM⟩, ?_⟩
 rintro k ρ h' ⟨rfl,q9,hk1,hz⟩
 have hvk:=hv3.cutTop hk1
 have hkl:(D.take k).length=k:=by simp;omega
 have fin:(∀x,(D.take k).getLast? =some x→x≠0)→h'.wf→K (.sl io 0 k co) h':=fun hl hw'=>hk _ (D.take k) h' m3 dp3 hw' leg3 ht3 (hvk.base hle2) (DgOf.of hdl hmod (by rw[hkl];exact hz) (by rw[hkl]) hl)
 rcases Nat.eq_zero_or_pos k with h0|h0
 ·subst h0
  simp only[go_sem,q9,show decide ((0:Int)<((0:Nat):Int))=false from rfl]
  exact fun hw'=>fin sM hw'
 ·obtain⟨i,rfl,_,hg⟩:=hv3.isN.at (j:=k-1) oM
  rw[Nat.zero_add] at hg
  have e1:IntKind.i64.wrap ((k:Int)-1)=((k-1:Nat):Int):=by rw[wI]<;>omega
  simp only[go_sem,q9,show decide ((0:Int)<(k:Int))=true from decide_eq_true oM,e1]
  refine⟨oM,oM, ?_⟩
  simp only[go_sem,hg]
  by_cases hx:D[k-1]=0
  ·simp only[go_sem,show(((D[k-1]:Nat):Int)==0)=true by simp[hx],q9,e1]
   refine⟨oM, .inl oM,hvk.isN.row, ?_⟩
   refine⟨k-1,oM,tR,tR,oM,fun x hm=> ?_⟩
   rw[List.drop_eq_getElem_cons oM] at hm
   rcases List.mem_cons.1 hm with rfl|hm
   ·exact hx
   ·exact hz x (by rwa[show k-1+1=k from by omega] at hm)
  ·simp only[go_sem,show(((D[k-1]:Nat):Int)==0)=false by simp;omega,q9]
   refine fun hw'=>fin (fun x hl=> ?_) hw'
   rw[List.getLast?_eq_getElem?,List.length_take,Nat.min_eq_left hk1,List.getElem?_take,if_pos oM,List.getElem?_eq_getElem oM] at hl
   injection hl with hl
   omega
theorem Digits_calls (hT:TbOK t) (he:Eng 9 h e u) (ht:Tune h u m nw dp t) (hb64:b<18446744073709551616) (na:Nn h va A) (wA:wlen A≤128) (hnw:nw≤400000000)
  (hk0:b<2→h.wf→K (.tup [.sl none 0 0 none, .int .i64 1]) h)
  (hk:2≤b→∀v ds h' m' dp',h'.wf→H.lee u h h'→Tune h' u m' nw dp' t→IsG h.next h' v ds→DgOf b A ds→K (.tup [v, .int .i64 0]) h'):
  ACalls Tryz.prog 91 [.ptr (some (e,0)),va, .int .u64 (b:Int)] h K:=by
 refine in_radix_Engine_Digits sM fun hw=> ?_
 unfold c_radix_Engine_Digits
 rcases Nat.lt_or_ge b 2 with c1|c1
 ·simp only[go_sem,show decide ((b:Int)<2)=true from decide_eq_true oM]
  exact hk0 c1
 ·simp only[go_sem,show decide ((b:Int)<2)=false from decide_eq_false oM]
  refine digits_calls hT he ht c1 hb64 na wA hnw fun v ds h' m' dp' hw' hl ht' hv hd=> ?_
  simp only[go_sem]
  exact fun hw'=>hk c1 v ds h' m' dp' hw' hl ht' hv hd
end
end
end Ab
end Go.Proofs.YtnlkbdmmoplkoaaGreatDoor
