/- Joined texts: X6 X7 X8. No condition. -/
import Derived.Test.YtkbglkjpdndkiaaGreatDoorZ14
namespace Go.Proofs.YtkbglkjpdndkiaaGreatDoor
namespace Ab
open Go Go.RowKit
set_option linter.unusedSimpArgs false
set_option linter.unusedVariables false
attribute [local go_sem ↓] x_mv x_pick x_bin x_beq x_peq x_seq x_cat x_aeq x_idxS x_idxV x_un x_cvI x_bts x_idx x_idxA x_fld x_ld x_st x_nn x_prt x_slc x_mk x_bsl x_bld x_box x_alloc x_len x_capo x_mnx x_app x_cpy x_mkf x_ext x_call x_callV x_bad s_none s_some s_nil s_cons s_chks w_skip w_reg tP_fin tP_no tP_alt w_seq w_cond w_block w_exit w_ret t_normal t_exit t_ret b_normal b_ret b_exit n_normal n_exit n_ret p_normal p_ret f_nil f_t f_c k_ops k_chk k_fin
attribute [local go_sem] e_t e_c e_f u_some u_none u_at env_at k_v k_pick k_add k_sub k_mul k_quo k_rem k_and k_or k_xor k_shl k_shr k_eql k_neq k_lss k_leq k_gtr k_geq k_beq k_peqn k_peqs k_neg k_not k_com k_cvI k_idxS k_idxV1 k_idxVn k_idx k_idxA k_idxG k_ldG k_gld k_seq k_cat k_aeq k_eqs k_fld k_ld1 k_ldn k_get k_gets k_sti k_stb k_stp k_sts k_stf k_sta k_put k_nn k_prt1 k_prtn k_slc_a k_slc_b k_slc_c k_mk k_agg k_bsl k_box k_len k_lenS k_cap k_max k_min k_ext k_callV k_true k_false k_gtt k_gtf k_gft k_gsk k_gff k_lit1i k_lit2i k_lit3i k_c0 k_c1 k_ck List.getElem?_cons_zero List.getElem?_cons_succ List.getElem?_nil Option.getD_some Option.getD_none tupOf List.map_cons List.map_nil Option.map_some Option.map_none List.nil_append List.cons_append List.append_nil Nat.mul_one Int.toNat_natCast Nat.zero_add
attribute [local go_sem] e_t e_c e_f u_some u_none u_at env_at k_v k_pick k_add k_sub k_mul k_quo k_rem k_and k_or k_xor k_shl k_shr k_eql k_neq k_lss k_leq k_gtr k_geq k_beq k_peqn k_peqs k_neg k_not k_com k_cvI k_idxS k_idxV1 k_idxVn k_idx k_idxA k_idxG k_ldG k_gld k_seq k_cat k_aeq k_eqs k_fld k_ld1 k_ldn k_get k_gets k_sti k_stb k_stp k_sts k_stf k_sta k_put k_nn k_prt1 k_prtn k_slc_a k_slc_b k_slc_c k_mk k_agg k_bsl k_box k_len k_lenS k_cap k_max k_min k_ext k_callV k_true k_false k_gtt k_gtf k_gft k_gsk k_gff k_lit1i k_lit2i k_lit3i k_c0 k_c1 k_ck List.getElem?_cons_zero List.getElem?_cons_succ List.getElem?_nil Option.getD_some Option.getD_none tupOf List.map_cons List.map_nil Option.map_some Option.map_none List.nil_append List.cons_append List.append_nil Nat.mul_one Int.toNat_natCast Nat.zero_add
--what a store into a cell of two leaves
attribute [local go_sem_proc] Nat.reduceEqDiff Nat.reduceAdd Int.reduceToNat
attribute [local go_sem_proc ↓] reduceIte
attribute [local go_sem] Bool.false_eq_true
section
section
variable {e u m nw dp Wa Wb:Nat} {t:Tb} {va vb:AV} {as0 bs0:List Int} {h:H} {K:AV→H→Prop}
set_option maxHeartbeats 2000000 in
theorem zHand_calls (he:Eng 15 h e u) (ht:Tune h u m nw dp t) (ha:IsA 2 (ZwL Wa) h va as0) (hb:IsA 2 (ZwL Wb) h vb bs0) (hla:as0.length≤1000) (hlb:bs0.length≤1000) (hWa:Wa≤8000) (hWb:Wb≤8000) (hnw:nw≤900000000)
  (hk:∀r us ws ys h',ES h h' u nw t→Live 39 2 h.next (ZbL h.next (Wa+Wb+1)) h' r ys→TrimG 0 (fun i=>as0.getD i 0) us→TrimG 0 (fun i=>bs0.getD i 0) ws→TrimG 0 (fun k=>partI (fun i=>us.getD i 0) (fun i=>ws.getD i 0) us.length k) ys→ys.length≤2000→K r h'):
  ACalls Tryz.prog 11 [.ptr (some (e,0)),va,vb] h K:=by
 refine in_polyz_Engine_Hand (by simp) fun hw=> ?_
 unfold c_polyz_Engine_Hand
 have hub:=H.row_lt hw ht
 simp only[go_sem]
 refine ztrim_calls (by omega) ha (by omega) fun ida offa ca na ea hna hza htopa=> ?_
 subst ea
 simp only[go_sem]
 refine ztrim_calls (by omega) hb (by omega) fun idb offb cb nb eb hnb hzb htopb=> ?_
 subst eb
 have hta:=TrimG.of hza htopa
 have htb:=TrimG.of hzb htopb
 have hca:=ha.cut (c':=ca) (a:=0) (b:=na) (Nat.zero_le _) hna
 have hcb:=hb.cut (c':=cb) (a:=0) (b:=nb) (Nat.zero_le _) hnb
 rw[Nat.zero_mul,Nat.add_zero,Nat.sub_zero,List.drop_zero] at hca hcb
 have hla2:(as0.take na).length=na:=by rw[List.length_take];omega
 have hlb2:(bs0.take nb).length=nb:=by rw[List.length_take];omega
 have hk:=fun r ys h' s hl hy hyl=>hk r (as0.take na) (bs0.take nb) ys h' s hl hta htb hy hyl
 have hwza:=hca.wz
 have hwzb:=hcb.wz
 generalize as0.take na=us at*
 generalize bs0.take nb=ws at*
 subst hla2 hlb2
 clear hza htopa hzb htopb hta htb ha hb
 obtain⟨f,hf⟩:∃f:Nat→Int,f=fun i=>us.getD i 0:=⟨_,rfl⟩
 obtain⟨g,hg⟩:∃g:Nat→Int,g=fun i=>ws.getD i 0:=⟨_,rfl⟩
 have hf0:∀i,us.length≤i→f i=0:=fun i hi=>by rw[hf];exact getG_out hi
 have hg0:∀i,ws.length≤i→g i=0:=fun i hi=>by rw[hg];exact getG_out hi
 have hwf:∀i,Wz Wa (f i):=fun i=>by rw[hf];exact hwza i
 have hwg:∀i,Wz Wb (g i):=fun i=>by rw[hg];exact hwzb i
 rw[←hf,←hg] at hk
 rcases Nat.eq_zero_or_pos us.length with h0|h0
 ·have hk:=hk (.sl none 0 0 none) [] h (ES.refl hw ht) (Live.nil _ _ _ _ _ _) ⟨fun k=>by
   show 0=partI f g us.length k
   rw[h0]
   rfl,by simp⟩ (Nat.zero_le _)
  simp only[go_sem,eqT (show(us.length:Int)=0 by omega)]
  exact fun _=>hk
 rcases Nat.eq_zero_or_pos ws.length with h0'|h0'
 ·have hk:=hk (.sl none 0 0 none) [] h (ES.refl hw ht) (Live.nil _ _ _ _ _ _) ⟨fun k=>by
   show 0=partI f g us.length k
   have:∀m,partI f g m k=0:=fun m=>by
    induction m with
    |zero=>rfl
    |succ m ih=>rw[partI,ih,hg0 _ (by omega),Int.mul_zero];split<;>rfl
   rw[this],by simp⟩ (Nat.zero_le _)
  simp only[go_sem,eqF (show(us.length:Int)≠0 by omega),eqT (show(ws.length:Int)=0 by omega)]
  exact fun _=>hk
 obtain⟨N,hN⟩:∃N,N+1=us.length+ws.length:=⟨us.length+ws.length-1,by omega⟩
 have e1:IntKind.i64.wrap ((us.length:Int)+(ws.length:Int))=((N+1:Nat):Int):=by rw[wI]<;>omega
 have e2:IntKind.i64.wrap (((N+1:Nat):Int)-1)=(N:Int):=by rw[wI]<;>omega
 simp only[go_sem,eqF (show(us.length:Int)≠0 by omega),eqF (show(ws.length:Int)≠0 by omega),e1,e2,Int.toNat_natCast]
 refine⟨by omega,by omega,by omega, ?_⟩
 have hl2:=H.le_new hw (H.le_refl h) ⟨some 39,2,zs [AV.sl none 0 0 none,AV.bool false] N⟩
 have hw2:=H.wf_new hw ⟨some 39,2,zs [AV.sl none 0 0 none,AV.bool false] N⟩
 have hs0:Live 39 2 h.next (ZbL h.next (Wa+Wb+1)) (h.new ⟨some 39,2,zs [AV.sl none 0 0 none,AV.bool false] N⟩) (.sl (some h.next) 0 N (some N)) (List.replicate N 0):=Live.madez (b:=h.next) (R:=ZbL h.next (Wa+Wb+1)) (x:=0) hw (Nat.le_refl _) rfl (fun g=>⟨Zf.zero _ _,Wz.zero _⟩) _
 have s2:ES h (h.new ⟨some 39,2,zs [AV.sl none 0 0 none,AV.bool false] N⟩) u nw t:=(ES.refl hw ht).mono hw2 hl2
 generalize h.new ⟨some 39,2,zs [AV.sl none 0 0 none,AV.bool false] N⟩=h2 at*
 obtain⟨A,hA⟩:∃A:AV,A= .sl ida offa us.length ca:=⟨_,rfl⟩
 obtain⟨B,hB⟩:∃B:AV,B= .sl idb offb ws.length cb:=⟨_,rfl⟩
 obtain⟨O,hO⟩:∃O:AV,O= .sl (some h.next) 0 N (some N):=⟨_,rfl⟩
 rw[←hA,←hB,←hO]
 refine loop_cut (fun ρ h'=>ES h h' u nw t∧Live 39 2 h.next (ZbL h.next (Wa+Wb+1)) h' (ρ 7) (rowF (fun k=>partI f g us.length k) N)) ?_ ?_
 ·refine for_rule (fun i ρ h'=>i≤us.length∧ES h h' u nw t∧ρ 0= .ptr (some (e,0))∧ρ 2=B∧ρ 7=O∧ρ 31=A∧ρ 32= .int .i64 (us.length:Int)∧ρ 33= .int .i64 (i:Int)∧Live 39 2 h.next (ZbL h.next (Wa+Wb+1)) h' O (rowF (fun k=>partI f g i k) N)) us.length
   ⟨by omega,s2,by first|rfl|trivial|assumption,by first|rfl|trivial|assumption,by first|rfl|trivial|assumption,by first|rfl|trivial|assumption,by rw[hA];rfl,by first|rfl|trivial|assumption,by rw[show(fun k=>partI f g 0 k)=fun _=>0 from rfl,rowF_rep,hO];exact hs0⟩ (fun i ρ h hI=>hI.1) ?_
  clear hs0 s2 hw2 hl2
  rintro i ρ h3 ⟨hi,s,q0,q2,q7,q31,q32,q33,hs⟩
  rcases Nat.lt_or_ge i us.length with c1|c1
  ·obtain⟨ii,l,e7,_,_,hga,_,hR⟩:=(s.zw ht hca).atz (by omega) c1
   subst e7
   have hWz:=hR.2
   obtain⟨w,bz,x,rfl,nwz,hzx,hxz,hone⟩:=zw_open hR
   have hfi:us[i]=f i:=by rw[hf];exact(getG_in c1).symm
   rw[hfi] at hzx hxz hWz
   simp only[go_sem,q0,q2,q7,q31,q32,q33,hA,ltT c1]
   refine⟨by omega,by omega, ?_⟩
   simp only[go_sem,hga,q0,q2,q7,q31,q32,q33]
   have r3:=H.rows_new h3 ⟨some 39,2,[.sl none 0 0 none, .bool false]⟩
   have hl4:=H.le_new s.wf (H.le_refl h3) ⟨some 39,2,[.sl none 0 0 none, .bool false]⟩
   have s4:=s.mono (H.wf_new s.wf ⟨some 39,2,[.sl none 0 0 none, .bool false]⟩) hl4
   simp only[List.length_cons,List.length_nil,Nat.zero_add,Nat.reduceAdd]
   have hn3:=s.lee.1
   rw[hO] at hs
   have hio:=hs.io_lt s.wf _ rfl
   generalize hR3:h3.next=R3 at*
   generalize h3.new ⟨some 39,2,[.sl none 0 0 none, .bool false]⟩=g4 at*
   refine⟨by trivial,all2 hone,s4.box hw hub (by omega) r3 rfl fun g5 s5 hg5 r3n e5=> ?_⟩
   have hs5:=(hs.mono ZbL.grows hl4).boxZ (by intro e;injection e;omega) r3 e5
   have nwz:=(nwz.mono hl4).lee2 r3 e5
   rw[←hO] at hs5
   simp only[go_sem,q0,q2,q7,q31,q32,q33,hB]
   rw[←hA,←hB]
   refine loop_cut2 (fun ρ h'=>ES h h' u nw t∧ρ 0= .ptr (some (e,0))∧ρ 2=B∧ρ 7=O∧ρ 31=A∧ρ 32= .int .i64 (us.length:Int)∧ρ 33= .int .i64 (i:Int)∧Live 39 2 h.next (ZbL h.next (Wa+Wb+1)) h' O (rowF (fun k=>partI f g (i+1) k) N)) ?_ ?_
   ·refine for_rule (fun j ρ h'=>j≤ws.length∧ES h h' u nw t∧ρ 0= .ptr (some (e,0))∧ρ 2=B∧ρ 7=O∧ρ 31=A∧ρ 32= .int .i64 (us.length:Int)∧ρ 33= .int .i64 (i:Int)∧ρ 8= .int .i64 (i:Int)∧ρ 9= .ptr (some (R3,0))∧ρ 38=B∧ρ 39= .int .i64 (ws.length:Int)∧ρ 40= .int .i64 (j:Int)∧h'.rows R3=some ⟨some 39,2,[w, .bool bz]⟩∧Nn h' w x∧Live 39 2 h.next (ZbL h.next (Wa+Wb+1)) h' O (rowF (fun k=>partIJ f g i j k) N)) ws.length
     ⟨by omega,s5,by first|rfl|trivial|assumption,by first|rfl|trivial|assumption,by first|rfl|trivial|assumption,by first|rfl|trivial|assumption,by first|rfl|trivial|assumption,by first|rfl|trivial|assumption,by first|rfl|trivial|assumption,by first|rfl|trivial|assumption,by first|rfl|trivial|assumption,by first|rfl|trivial|assumption,by first|rfl|trivial|assumption,r3n,nwz,by rw[show(fun k=>partIJ f g i 0 k)=fun k=>partI f g i k from funext fun k=>by rw[partIJ_zero]];exact hs5⟩ (fun i ρ h hI=>hI.1) ?_
    clear hs5 hs q0 q2 q7 q31 q32 q33 r3 r3n nwz hga hl4 s4 e5 hg5
    rintro j ρ g6 ⟨hj,s6,q0,q2,q7,q31,q32,q33,q8,q9,q38,q39,q40,r9,nwz,hs⟩
    rcases Nat.lt_or_ge j ws.length with c2|c2
    ·obtain⟨jj,l,e7,_,_,hgb,_,hR⟩:=(s6.zw ht hcb).atz (by omega) c2
     subst e7
     have hWy:=hR.2
     obtain⟨w2,bz2,x2,rfl,nwy,hzy,hxy,hone2⟩:=zw_open hR
     have hgj:ws[j]=g j:=by rw[hg];exact(getG_in c2).symm
     rw[hgj] at hzy hxy hWy
     have hij:i+j<N:=by omega
     have eij:IntKind.i64.wrap ((i:Int)+(j:Int))=((i+j:Nat):Int):=by rw[wI]<;>omega
     simp only[go_sem,q0,q2,q7,q31,q32,q33,q8,q9,q38,q39,q40,hB,ltT c2]
     refine⟨by omega,by omega, ?_⟩
     simp only[go_sem,hgb,q0,q2,q7,q31,q32,q33,q8,q9,q38,q39,q40]
     have r3:=H.rows_new g6 ⟨some 39,2,[.sl none 0 0 none, .bool false]⟩
     have hl7:=H.le_new s6.wf (H.le_refl g6) ⟨some 39,2,[.sl none 0 0 none, .bool false]⟩
     have s7:=s6.mono (H.wf_new s6.wf ⟨some 39,2,[.sl none 0 0 none, .bool false]⟩) hl7
     simp only[List.length_cons,List.length_nil,Nat.zero_add,Nat.reduceAdd]
     have hn6:=s6.lee.1
     rw[hO] at hs
     have hio:=hs.io_lt s6.wf _ rfl
     have hR9:=H.row_lt s6.wf r9
     generalize hR7:g6.next=R7 at*
     generalize g6.new ⟨some 39,2,[.sl none 0 0 none, .bool false]⟩=g7 at*
     refine⟨by trivial,all2 hone2,s7.box hw hub (by omega) r3 rfl fun g8 s8 hg8 r3n e8=> ?_⟩
     have hs8:=(hs.mono ZbL.grows hl7).boxZ (by intro e;injection e;omega) r3 e8
     have nwz8:=(nwz.mono hl7).lee2 r3 e8
     have nwy8:=(nwy.mono hl7).lee2 r3 e8
     have r98:=e8.2 _ _ (by omega) (hl7.2 _ _ r9)
     obtain⟨kk,lo,e0',_,_,hgo,_,hRo⟩:=hs8.getz (by omega) (j:=i+j) (by rw[rowF_len];exact hij)
     injection e0' with e0'
     subst e0'
     rw[rowF_get hij] at hRo
     have hWo:=hRo.2
     have hRo':Zf h.next g8 (.agg lo) (partIJ f g i j (i+j)):=hRo.1.mono (H.del_le _)
     obtain⟨wo,bo,xo,elo,nwo,hzo,hxo,hone_o⟩:=zf_zw hRo' hWo (by omega)
     injection elo with elo
     subst elo
     obtain⟨m8,dp8,t8⟩:=s8.tn
     have wx1:wlen x≤Wa:=by have h5:=hWz;unfold Wz at h5;rwa[hxz] at h5
     have wx2:wlen x2≤Wb:=by have h5:=hWy;unfold Wz at h5;rwa[hxy] at h5
     simp only[go_sem,q0,q2,q7,hO,q31,q32,q33,q8,q9,q38,q39,q40,eij]
     refine⟨by omega,by omega, ?_⟩
     simp only[go_sem,hgo,q0,q2,q7,q31,q32,q33,q8,q9,q38,q39,q40,(g2 r3n).2.2,(g2 r98).2.2]
     refine zprod_calls (s8.eng ht he) t8 nwz8 nwy8 (by omega) (by omega) hnw fun r g9 m9 dp9 hw9 hl9 t9 hr=> ?_
     rw[←hzx,←hzy] at hr
     have s9:=s8.over hw9 hl9 t9
     have hs9:=hs8.engZ hub hub hl9
     have hgo9:=H.gets_lee hl9 (show h.next≠u by omega) hgo
     have nwo9:=nwo.monoE t8 hl9
     have hWp:Wz (Wa+Wb) (f i*g j):=hWz.mul hWy
     obtain⟨wp,bp,xp,rfl,nwp,hyp,hxp,_⟩:=zf_zw hr hWp (by omega)
     have hBp:=hWp.big (by omega)
     have hBo:=hWo.big (by omega)
     have hBB:=hWo.bigs (hWp.le (show Wa+Wb≤Wa+Wb+1 by omega)) (by omega)
     rw[hxp] at hBp
     rw[hxo] at hBo
     rw[hxp,hxo] at hBB
     simp only[go_sem,hgo9,true_and,q0,q2,q7,q31,q32,q33,q8,q9,q38,q39,q40]
     refine zAdd_calls nwo9 nwp hBo hBp hBB fun r g10 hw10 hl10 hr10=> ?_
     rw[←hzo,←hyp,←partIJ_here] at hr10
     have hs10:=hs9.mono ZbL.grows hl10
     have s10:=s9.mono hw10 hl10
     have hWn:Wz (Wa+Wb+1) (partIJ f g i (j+1) (i+j)):=partIJ_wz hwf hwg (by omega)
     have hof:=(hr10.base (d:=h.next) s9.lee.1).off hs10 (by decide)
     obtain⟨a0,a1,rfl,oa0,oa1⟩:=hr10.two
     obtain⟨io',rr,e0',hbi,hin,hrr,ho,hz,hcl,hput⟩:=hs10.putz hw10 (by omega) (j:=i+j) (by rw[rowF_len];exact hij)
     injection e0' with e0'
     subst e0'
     have hput:=hput [a0,a1] (partIJ f g i (j+1) (i+j)) rfl ⟨hof,hWn⟩
     rw[rowF_set (G:=fun k=>partIJ f g i (j+1) k) rfl (fun k _ hk=>by show partIJ f g i (j+1) k=_;rw[partIJ_other hk])] at hput
     simp only[go_sem,q0,q2,q7,hO,q31,q32,q33,q8,q9,q38,q39,q40]
     refine⟨by omega,by omega, ?_⟩
     simp only[go_sem,hrr,q0,q2,q7,q31,q32,q33,q8,q9,q38,q39,q40]
     refine⟨by trivial,all2b oa0 oa1,by rw[ho];simp,hcl, ?_⟩
     simp only[go_sem,q0,q2,q7,q31,q32,q33,q8,q9,q38,q39,q40,incI (i:=j) (by omega)]
     have l810:=hl9.trans hl10.lee
     have r910:=l810.2 _ _ (by omega) r98
     have nwz10:Nn g10 w x:=(nwz8.monoE t8 hl9).mono hl10
     have hrr':g10.rows h.next=some ⟨some 39,2,rr.cells⟩:=by rw[hrr,←ho,←hz]
     exact⟨by omega,s10.set hw hub hbi hin,by first|rfl|trivial|assumption,by rw[hB],by rw[hO],by first|rfl|trivial|assumption,by first|rfl|trivial|assumption,by first|rfl|trivial|assumption,by first|rfl|trivial|assumption,by first|rfl|trivial|assumption,by rw[hB],by first|rfl|trivial|assumption,by first|rfl|trivial|assumption,by rw[H.rows_set_ne (by omega)];exact r910,nwz10.lee2 hrr' (H.lee_set _),hput⟩
    ·obtain rfl:j=ws.length:=by omega
     simp only[go_sem,q39,q40,ltF (Nat.le_refl ws.length)]
     rw[show(fun k=>partIJ f g i ws.length k)=fun k=>partI f g (i+1) k from funext fun k=>by rw[partIJ_full hg0]] at hs
     exact⟨s6,q0,q2,q7,q31,q32,q33,hs⟩
   ·clear hs5 hs q0 q2 q7 q31 q32 q33 r3 r3n nwz hga hl4 s4 e5 hg5
    rintro ρ h6 ⟨s6,q0,q2,q7,q31,q32,q33,hs⟩
    simp only[go_sem,q0,q2,q7,q31,q32,q33,incI (i:=i) (by omega)]
    exact⟨by omega,s6,by first|rfl|trivial|assumption,by first|rfl|trivial|assumption,by first|rfl|trivial|assumption,by first|rfl|trivial|assumption,by first|rfl|trivial|assumption,by first|rfl|trivial|assumption,hs⟩
  ·obtain rfl:i=us.length:=by omega
   simp only[go_sem,q32,q33,q7,ltF (Nat.le_refl us.length)]
   exact⟨s,hs⟩
 rintro ρ g6 ⟨s,hs⟩
 simp only[go_sem]
 refine ztrim_live (by omega) hs (fun g l z hx=>hx.zw (by omega)) (by rw[rowF_len];omega) fun r ys hy hty hyl=> ?_
 simp only[go_sem]
 rw[rowF_len] at hyl
 refine fun _=>hk r ys g6 s hy (hty.congr fun k=> ?_) (by omega)
 rw[rowF_getD]
 split
 ·rfl
 ·rw[partI_out hg0 (by omega)]
end
end
section
section
variable {e u m nw dp Wa Wc:Nat} {t:Tb} {va wc:AV} {bc:Bool} {xc:Nat} {as0:List Int} {h:H} {K:AV→H→Prop}
theorem Wz.tdiv {W:Nat} {a b:Int} (h:Wz W a):Wz W (a.tdiv b):=by
 unfold Wz at*
 rw[Int.natAbs_tdiv]
 exact Nat.le_trans (wlen_mono (Nat.div_le_self _ _)) h
set_option maxHeartbeats 2000000 in
theorem zOver_calls (hT:TbOK t) (he:Eng 15 h e u) (ht:Tune h u m nw dp t) (ha:IsA 2 (ZwL Wa) h va as0) (hla:as0.length≤1000) (nc:Nn h wc xc) (hWc:Wz Wc (sg bc xc)) (hWa:Wa≤4000) (hWc2:Wc≤4000) (hnw:nw≤600000000)
  (hk0:xc=0→∀h',ES h h' u nw t→K (.tup [.sl none 0 0 none, .int .i64 2]) h')
  (hk1:0<xc→∀us h',ES h h' u nw t→TrimG 0 (fun i=>as0.getD i 0) us→(∃z∈us,z.tmod (sg bc xc)≠0)→K (.tup [.sl none 0 0 none, .int .i64 5]) h')
  (hk:0<xc→∀us r h',ES h h' u nw t→TrimG 0 (fun i=>as0.getD i 0) us→us.length≤as0.length→(∀z∈us,z.tmod (sg bc xc)=0)→Live 39 2 h.next (ZbL h.next Wa) h' r (us.map fun z=>z.tdiv (sg bc xc))→K (.tup [r, .int .i64 0]) h'):
  ACalls Tryz.prog 23 [.ptr (some (e,0)),va, .agg [wc, .bool bc]] h K:=by
 refine in_polyz_Engine_Over (by simp) fun hw=> ?_
 unfold c_polyz_Engine_Over
 have hub:=H.row_lt hw ht
 obtain⟨f,rfl,rfl,G,E⟩:=Eng.path ht he
 simp only[go_sem]
 simp only[AV.cells,List.length_cons,List.length_nil,Nat.zero_add,Nat.reduceAdd]
 refine⟨rfl, ?_⟩
 generalize hh:(h.new ⟨some 39,2,[wc, .bool bc]⟩)=h1
 have r1:h1.rows h.next=some ⟨some 39,2,[wc, .bool bc]⟩:=by rw[←hh];exact H.rows_new _ _
 have hl1:h.le h1:=by rw[←hh];exact H.le_new hw (H.le_refl h) _
 have hw1:h1.wf:=by rw[←hh];exact H.wf_new hw _
 clear hh
 have s1:=(ES.refl hw ht).mono hw1 hl1
 simp only[go_sem,(g2 r1).1,Nat.add_zero]
 refine Zero_calls (nc.mono hl1) ?_
 by_cases hc0:xc=0
 ·simp only[go_sem,decide_eq_true hc0]
  exact fun _=>hk0 hc0 h1 s1
 have hcp:0<xc:=by omega
 have hk1:=hk1 hcp
 have hk:=hk hcp
 simp only[go_sem,decide_eq_false hc0]
 refine ztrim_calls (by omega) (s1.zw ht ha) (by omega) fun ida offa ca na ea hna hza htopa=> ?_
 subst ea
 have hta:=TrimG.of hza htopa
 have hca:=ha.cut (c':=ca) (a:=0) (b:=na) (Nat.zero_le _) hna
 rw[Nat.zero_mul,Nat.add_zero,Nat.sub_zero,List.drop_zero] at hca
 have hla2:(as0.take na).length=na:=by rw[List.length_take];omega
 have hk1:=fun h' s=>hk1 (as0.take na) h' s hta
 have hk:=fun r h' s=>hk (as0.take na) r h' s hta (by omega)
 generalize as0.take na=us at*
 subst hla2
 clear hza htopa hta
 simp only[go_sem]
 obtain⟨A,hA⟩:∃A:AV,A= .sl ida offa us.length ca:=⟨_,rfl⟩
 rw[←hA]
 refine for_rule (fun j ρ g=>j≤us.length∧ES h g (f 15) nw t∧ρ 0= .ptr (some (f 0,0))∧ρ 5= .ptr (some (h.next,0))∧ρ 17=A∧ρ 18= .int .i64 (us.length:Int)∧ρ 19= .int .i64 (j:Int)∧g.rows h.next=some ⟨some 39,2,[wc, .bool bc]⟩∧(∀i,i<j→(us.getD i 0).tmod (sg bc xc)=0)∧Live 39 2 (h.next+1) (ZbL h.next Wa) g (ρ 8) ((us.take j).map fun z=>z.tdiv (sg bc xc))) us.length
  ⟨by omega,s1,by first|rfl|trivial|assumption,by first|rfl|trivial|assumption,by rw[hA];rfl,by first|rfl|trivial|assumption,by first|rfl|trivial|assumption,r1,(fun i hi=>by omega),Live.nil _ _ _ _ _ _⟩ (fun i ρ h hI=>hI.1) ?_
 clear r1 hl1 hw1 s1
 rintro j ρ g ⟨hj,s,q0,q5,q17,q18,q19,r5,hmod,hs⟩
 rcases Nat.lt_or_ge j us.length with c1|c1
 ·obtain⟨ii,l,e7,_,_,hga,_,hR⟩:=(s.zw ht hca).atz (by omega) c1
  subst e7
  have hWz:=hR.2
  obtain⟨w,bz,x,rfl,nwz,hzx,hxz,hone⟩:=zw_open hR
  obtain⟨io,co,q8⟩:=hs.form
  have hlen:((us.take j).map fun z=>z.tdiv (sg bc xc)).length=j:=by simp;omega
  rw[hlen] at q8
  rw[q8] at hs
  simp only[go_sem,q0,q5,q8,q17,q18,q19,hA,ltT c1]
  refine⟨by omega,by omega, ?_⟩
  simp only[go_sem,hga,q0,q5,q8,q17,q18,q19]
  have r3:=H.rows_new g ⟨some 39,2,[.sl none 0 0 none, .bool false]⟩
  have hl4:=H.le_new s.wf (H.le_refl g) ⟨some 39,2,[.sl none 0 0 none, .bool false]⟩
  have s4:=s.mono (H.wf_new s.wf ⟨some 39,2,[.sl none 0 0 none, .bool false]⟩) hl4
  simp only[List.length_cons,List.length_nil,Nat.zero_add,Nat.reduceAdd]
  have hn3:=s.lee.1
  have hio:=hs.io_lt s.wf
  have hr5l:=H.row_lt s.wf r5
  generalize hR3:g.next=R3 at*
  generalize g.new ⟨some 39,2,[.sl none 0 0 none, .bool false]⟩=g4 at*
  refine⟨by trivial,all2 hone,s4.box hw hub (by omega) r3 rfl fun g5 s5 hg5 r3n e5=> ?_⟩
  have nwz:=(nwz.mono hl4).lee2 r3 e5
  have hs5:=(hs.mono ZbL.grows hl4).boxZ (by intro e;have:=hio _ e;omega) r3 e5
  have r55:=e5.2 _ _ (by omega) (hl4.2 _ _ r5)
  have nc5:=nc.monoE ht s5.lee
  obtain⟨m5,dp5,t5⟩:=s5.tn
  have hioge:∀i,io=some i→h.next≤i:=fun i e=>by have:=(hs5.ownz i e).1;omega
  have wx:wlen x≤Wa:=by have h5:=hWz;unfold Wz at h5;rwa[hxz] at h5
  have wc':wlen xc≤Wc:=by have h5:=hWc;unfold Wz at h5;rwa[sg_abs] at h5
  have hr3l:=H.row_lt s5.wf r3n
  simp only[go_sem,q0,q5,q8,q17,q18,q19]
  refine awp_cut (fun ρ' g'=>ES h g' (f 15) nw t∧ρ' 0= .ptr (some (f 0,0))∧ρ' 5= .ptr (some (h.next,0))∧ρ' 8= .sl io 0 j co∧ρ' 17=A∧ρ' 18= .int .i64 (us.length:Int)∧ρ' 19= .int .i64 (j:Int)∧g'.rows h.next=some ⟨some 39,2,[wc, .bool bc]⟩∧Live 39 2 (h.next+1) (ZbL h.next Wa) g' (.sl io 0 j co) ((us.take j).map fun z=>z.tdiv (sg bc xc))∧∃Q s0 s1,ρ' 11= .ptr (some (Q,0))∧g'.rows Q=some ⟨some 39,2,[s0,s1]⟩∧
   ((ρ' 12= .int .i64 5∧us[j].tmod (sg bc xc)≠0)∨(ρ' 12= .int .i64 0∧us[j].tmod (sg bc xc)=0∧Zf h.next g' (.agg [s0,s1]) (us[j].tdiv (sg bc xc))))) ?_ ?_
  ·simp only[go_sem,w_regt,q0,q5,q8,q17,q18,q19,G 0 (by omega) _ s5.lee,G 1 (by omega) _ s5.lee,G 2 (by omega) _ s5.lee,G 3 (by omega) _ s5.lee,G 4 (by omega) _ s5.lee,(g2 r3n).2.2,(g2 r55).2.2,and_true]
   refine⟨?_, ?_⟩
   ·refine zEven_calls hT ((E 5 (by omega)).monoE ht s5.lee) t5 nwz nc5 (by omega) (by omega) hnw (fun hy0=>absurd hy0 (by omega)) (fun _ hm0 g6 m6 dp6 hw6 hl6 t6=> ?_) (fun _ hm0 q g6 m6 dp6 hw6 hl6 t6 hq=> ?_)
    ·skip
     have s6:=s5.over hw6 hl6 t6
     have hs6:=hs5.engZ (by omega) hub hl6
     have r56:=hl6.2 _ _ (by omega) r55
     have r36:=hl6.2 _ _ (by omega) r3n
     simp only[go_sem]
     have r7:=H.rows_new g6 ⟨some 39,2,[.sl none 0 0 none, .bool false]⟩
     have hl7:=H.le_new hw6 (H.le_refl g6) ⟨some 39,2,[.sl none 0 0 none, .bool false]⟩
     have s7:=s6.mono (H.wf_new hw6 ⟨some 39,2,[.sl none 0 0 none, .bool false]⟩) hl7
     have hioge7:=hs6.io_lt s6.wf
     have hr56l:=H.row_lt s6.wf r56
     simp only[List.length_cons,List.length_nil,Nat.zero_add,Nat.reduceAdd]
     generalize hR7:g6.next=R7 at*
     generalize g6.new ⟨some 39,2,[.sl none 0 0 none, .bool false]⟩=g7 at*
     have r56:=hl7.2 _ _ r56
     have r36:=hl7.2 _ _ r36
     simp only[go_sem,q0,q5,q8,q17,q18,q19,G 0 (by omega) _ s7.lee,G 1 (by omega) _ s7.lee,G 2 (by omega) _ s7.lee,G 3 (by omega) _ s7.lee,G 4 (by omega) _ s7.lee,(g2 r36).2.2,(g2 r56).2.2,true_and,and_true]
     refine⟨by trivial,s7.box hw hub (by have:=s7.lee.1;have:=s6.lee.1;omega) r7 rfl fun g8 s8 hg8 r8n e8=> ?_⟩
     simp only[go_sem]
     exact⟨s8,by first|rfl|trivial|assumption,by first|rfl|trivial|assumption,by first|rfl|trivial|assumption,by first|rfl|trivial|assumption,by first|rfl|trivial|assumption,by first|rfl|trivial|assumption,e8.2 _ _ (by omega) r56,(hs6.mono ZbL.grows hl7).boxZ (by intro e;have:=hioge7 _ e;omega) r7 e8,R7,_,_,by first|rfl|trivial|assumption,r8n, .inl ⟨by first|rfl|trivial|assumption,by rw[hzx];exact hm0⟩⟩
    ·skip
     have s6:=s5.over hw6 hl6 t6
     have hs6:=hs5.engZ (by omega) hub hl6
     have r56:=hl6.2 _ _ (by omega) r55
     have r36:=hl6.2 _ _ (by omega) r3n
     rw[←hzx] at hq
     have hq:=hq.base (d:=h.next) s5.lee.1
     obtain⟨o0',o1',rfl,o0,o1⟩:=hq.two
     simp only[go_sem]
     have r7:=H.rows_new g6 ⟨some 39,2,[.sl none 0 0 none, .bool false]⟩
     have hl7:=H.le_new hw6 (H.le_refl g6) ⟨some 39,2,[.sl none 0 0 none, .bool false]⟩
     have s7:=s6.mono (H.wf_new hw6 ⟨some 39,2,[.sl none 0 0 none, .bool false]⟩) hl7
     have hioge7:=hs6.io_lt s6.wf
     have hr56l:=H.row_lt s6.wf r56
     simp only[List.length_cons,List.length_nil,Nat.zero_add,Nat.reduceAdd]
     generalize hR7:g6.next=R7 at*
     generalize g6.new ⟨some 39,2,[.sl none 0 0 none, .bool false]⟩=g7 at*
     have r56:=hl7.2 _ _ r56
     have r36:=hl7.2 _ _ r36
     simp only[go_sem,q0,q5,q8,q17,q18,q19,G 0 (by omega) _ s7.lee,G 1 (by omega) _ s7.lee,G 2 (by omega) _ s7.lee,G 3 (by omega) _ s7.lee,G 4 (by omega) _ s7.lee,(g2 r36).2.2,(g2 r56).2.2,true_and,and_true]
     refine⟨all22 o0 o1,s7.box hw hub (by have:=s7.lee.1;have:=s6.lee.1;omega) r7 rfl fun g8 s8 hg8 r8n e8=> ?_⟩
     simp only[go_sem]
     exact⟨s8,by first|rfl|trivial|assumption,by first|rfl|trivial|assumption,by first|rfl|trivial|assumption,by first|rfl|trivial|assumption,by first|rfl|trivial|assumption,by first|rfl|trivial|assumption,e8.2 _ _ (by omega) r56,(hs6.mono ZbL.grows hl7).boxZ (by intro e;have:=hioge7 _ e;omega) r7 e8,R7,_,_,by first|rfl|trivial|assumption,r8n, .inr ⟨by first|rfl|trivial|assumption,by rw[hzx];exact hm0,(hq.mono hl7).lee2 r7 e8⟩⟩
   ·have r7:=H.rows_new g5 ⟨some 39,2,[.sl none 0 0 none, .bool false]⟩
    have hl7:=H.le_new s5.wf (H.le_refl g5) ⟨some 39,2,[.sl none 0 0 none, .bool false]⟩
    have s7:=s5.mono (H.wf_new s5.wf ⟨some 39,2,[.sl none 0 0 none, .bool false]⟩) hl7
    have hio5:=hs5.io_lt s5.wf
    simp only[List.length_cons,List.length_nil,Nat.zero_add,Nat.reduceAdd]
    have hr55l:=H.row_lt s5.wf r55
    have hn5:=s5.lee.1
    generalize hR7:g5.next=R7 at*
    generalize g5.new ⟨some 39,2,[.sl none 0 0 none, .bool false]⟩=g7 at*
    have r37:=hl7.2 _ _ r3n
    have r57:=hl7.2 _ _ r55
    have hs7:=hs5.mono ZbL.grows hl7
    have t7:=t5.mono hl7
    simp only[go_sem,q0,q5,q8,q17,q18,q19,G 0 (by omega) _ s7.lee,G 1 (by omega) _ s7.lee,G 2 (by omega) _ s7.lee,G 3 (by omega) _ s7.lee,G 4 (by omega) _ s7.lee,(g2 r37).2.2,(g2 r57).2.2,true_and,and_true]
    refine zEven_calls hT ((E 5 (by omega)).monoE ht s7.lee) t7 (nwz.mono hl7) (nc5.mono hl7) (by omega) (by omega) hnw (fun hy0=>absurd hy0 (by omega)) (fun _ hm0 g6 m6 dp6 hw6 hl6 t6=> ?_) (fun _ hm0 q g6 m6 dp6 hw6 hl6 t6 hq=> ?_)
    ·skip
     have s6:=s7.over hw6 hl6 t6
     have hs6:=hs7.engZ (by omega) hub hl6
     have r56:=hl6.2 _ _ (by omega) r57
     have r76:=hl6.2 _ _ (by omega) r7
     simp only[go_sem,and_true]
     refine⟨by trivial,by trivial,s6.box hw hub (by have:=s5.lee.1;omega) r76 rfl fun g8 s8 hg8 r8n e8=> ?_⟩
     simp only[go_sem]
     exact⟨s8,by first|rfl|trivial|assumption,by first|rfl|trivial|assumption,by first|rfl|trivial|assumption,by first|rfl|trivial|assumption,by first|rfl|trivial|assumption,by first|rfl|trivial|assumption,e8.2 _ _ (by omega) r56,hs6.boxZ (by intro e;have:=hio5 _ e;omega) r76 e8,R7,_,_,by first|rfl|trivial|assumption,r8n, .inl ⟨by first|rfl|trivial|assumption,by rw[hzx];exact hm0⟩⟩
    ·skip
     have s6:=s7.over hw6 hl6 t6
     have hs6:=hs7.engZ (by omega) hub hl6
     have r56:=hl6.2 _ _ (by omega) r57
     have r76:=hl6.2 _ _ (by omega) r7
     rw[←hzx] at hq
     have hq:=hq.base (d:=h.next) s7.lee.1
     obtain⟨o0',o1',rfl,o0,o1⟩:=hq.two
     simp only[go_sem,and_true]
     refine⟨by trivial,all22 o0 o1,s6.box hw hub (by have:=s5.lee.1;omega) r76 rfl fun g8 s8 hg8 r8n e8=> ?_⟩
     simp only[go_sem]
     exact⟨s8,by first|rfl|trivial|assumption,by first|rfl|trivial|assumption,by first|rfl|trivial|assumption,by first|rfl|trivial|assumption,by first|rfl|trivial|assumption,by first|rfl|trivial|assumption,e8.2 _ _ (by omega) r56,hs6.boxZ (by intro e;have:=hio5 _ e;omega) r76 e8,R7,_,_,by first|rfl|trivial|assumption,r8n, .inr ⟨by first|rfl|trivial|assumption,by rw[hzx];exact hm0,hq.lee2 r76 e8⟩⟩
  clear r55 r3n hs5 t5 nc5 nwz s5 hg5 r3 hl4 s4 e5 hs r5 q0 q5 q8 q17 q18 q19
  rintro ρ g6 ⟨s6,q0,q5,q8,q17,q18,q19,r5,hs,Q,s0,s1,q11,rQ,hcase⟩
  rcases hcase with⟨q12,hm0⟩|⟨q12,hm0,hq⟩
  ·simp only[go_sem,q12,show((5:Int) !=0)=true from rfl]
   exact fun _=>hk1 g6 s6 ⟨us[j],List.getElem_mem c1,hm0⟩
  ·have hof:=hq.off hs (by decide)
   obtain⟨a0,a1,e8,oa0,oa1⟩:=hq.two
   injection e8 with e8
   injection e8 with e81 e82
   injection e82 with e82
   subst e81 e82
   simp only[go_sem,q0,q5,q8,q11,q12,q17,q18,q19,show((0:Int) !=0)=false from rfl,(g2 rQ).2.2,bldZ oa0 oa1]
   refine hs.app2 ZbL.grows (by omega) s6.wf (by have:=H.row_lt s6.wf r5;omega) hlen.symm (y:=us[j].tdiv (sg bc xc)) ⟨hof,hWz.tdiv⟩ rfl (all2b oa0 oa1) (by omega) (by omega) rfl fun v7 g7 hw7 hl7 hs7=> ?_
   simp only[go_sem,q0,q5,q11,q12,q17,q18,q19,incI (i:=j) (by omega)]
   refine⟨by omega,s6.app hw hub hioge hw7 hl7,by first|rfl|trivial|assumption,by first|rfl|trivial|assumption,by first|rfl|trivial|assumption,by first|rfl|trivial|assumption,by first|rfl|trivial|assumption,hl7.2 _ _ ?_,fun i hi=> ?_, ?_⟩
   ·simp only[H.del]
    rw[if_neg (fun e=> ?_)]
    ·exact r5
    ·have:=(hs.ownz _ e.symm).1
     omega
   ·rcases Nat.lt_or_ge i j with h9|h9
    ·exact hmod i h9
    ·obtain rfl:i=j:=by omega
     rw[getG_in c1]
     exact hm0
   ·rw[List.take_succ_eq_append_getElem c1,List.map_append]
    exact hs7
 ·obtain rfl:j=us.length:=by omega
  rw[List.take_length] at hs
  simp only[go_sem,q18,q19,ltF (Nat.le_refl us.length)]
  exact fun _=>hk _ g s (fun z hz=>by
   obtain⟨i,hi,rfl⟩:=List.getElem_of_mem hz
   rw[←getG_in (z:=0) hi]
   exact hmod i hi) (by
    obtain⟨io,co,q8⟩:=hs.form
    rw[q8] at hs⊢
    exact hs.lowz (by omega))
end
end
section
theorem Live.boxQ {T T':TypeId} {b n i W:Nat} {h g:H} {zs:List Int} {io co:Option Nat} {l:List AV} (hv:Live T 2 b (ZqL W) h (.sl io 0 n co) zs) (hi:io≠some i) (hr:h.rows i=some ⟨some T',2,l⟩) (hl:H.lee i h g):Live T 2 b (ZqL W) g (.sl io 0 n co) zs:=by
 obtain⟨h1,h2⟩:=lee_del hi hr hl
 exact hv.other hi (fun l x hx=>⟨hx.1.lee2 h1 h2,hx.2⟩) hl
section
variable {W Wc Wb:Nat} {v va vb wc:AV} {zs us ws:List Int} {c:Int} {h:H} {K:AV→H→Prop}
theorem zrScale_calls (hv:IsA 2 (ZqL W) h v zs) (hl:zs.length≤100000) (nc:Num 4294967296 h wc c.natAbs) (hWc:Wz Wc c) (hW:W+Wc≤16000)
  (hk:∀r ys h',h'.wf→h.le h'→IsA 2 (ZqL (W+Wc)) h' r ys→TrimG 0 (fun i=>zs.getD i 0*c) ys→ys.length≤zs.length→K r h'):ACalls Tryz.prog 20 [v, .agg [wc, .bool (decide (c<0))]] h K:=by
 obtain⟨id,off,cp,rfl⟩:=hv.form
 refine in_ref28_Scale (by simp) fun hw=> ?_
 unfold c_ref28_Scale
 simp only[go_sem]
 simp only[AV.cells,List.length_cons,List.length_nil,Nat.zero_add,Nat.reduceAdd]
 refine⟨rfl, ?_⟩
 generalize hh:(h.new ⟨some 47,2,[wc, .bool (decide (c<0))]⟩)=h1
 have r1:h1.rows h.next=some ⟨some 47,2,[wc, .bool (decide (c<0))]⟩:=by rw[←hh];exact H.rows_new _ _
 have hl1:h.le h1:=by rw[←hh];exact H.le_new hw (H.le_refl h) _
 have hw1:h1.wf:=by rw[←hh];exact H.wf_new hw _
 have hn1:h1.next=h.next+1:=by rw[←hh];rfl
 clear hh
 refine loop_cut (fun ρ h2=>h2.wf∧h1.le h2∧Live 47 2 h1.next (ZqL (W+Wc)) h2 (ρ 5) (rowF (fun i=>zs.getD i 0*c) zs.length)) ?_ ?_
 ·refine for_rule (fun j ρ h2=>j≤zs.length∧h2.wf∧h1.le h2∧ρ 0= .sl id off zs.length cp∧ρ 3= .ptr (some (h.next,0))∧ρ 6= .int .i64 (j:Int)∧Live 47 2 h1.next (ZqL (W+Wc)) h2 (ρ 5) (rowF (fun i=>zs.getD i 0*c) j)) zs.length
   ⟨by omega,hw1,H.le_refl _,by first|rfl|trivial|assumption,by first|rfl|trivial|assumption,by first|rfl|trivial|assumption,Live.nil _ _ _ _ _ _⟩ (fun i ρ h hI=>hI.1) ?_
  rintro j ρ h2 ⟨hj,hw2,hle,q0,q3,q6,hs⟩
  rcases Nat.lt_or_ge j zs.length with h3|h3
  ·obtain⟨i,l,rfl,_,_,hg,_,hR⟩:=hv.atz (by omega) h3
   have hWz:=hR.2
   obtain⟨w,rfl,nw,_⟩:=zq_open hR
   have hle0:=H.le_trans hl1 hle
   have hg:=H.gets_le hle0 hg
   have r2:=hle.2 _ _ r1
   obtain⟨io,co,q5⟩:=hs.form
   rw[rowF_len] at q5
   rw[q5] at hs
   have hzj:zs[j]=zs.getD j 0:=(getG_in h3).symm
   rw[hzj] at hWz nw hg
   simp only[go_sem,q0,q3,q5,q6,ltT h3]
   refine⟨by omega,by omega, ?_⟩
   simp only[go_sem,hg,(g2 r2).2.2,q0,q3,q5,q6]
   refine zrMul_calls (nw.mono hle0) (nc.mono hle0) (hWz.big (by omega)) (hWc.big (by omega)) fun o h4 hw4 hl4 ho=> ?_
   rw[sg_self,sg_self] at ho
   have hs4:=hs.mono ZqL.grows hl4
   have hof:=ho.off hs4
   obtain⟨o0,o1,rfl,oo0,oo1⟩:=ho.two
   simp only[go_sem,q0,q3,q5,q6,bldZ oo0 oo1]
   refine hs4.app ZqL.grows (by omega) hw1 hw4 (H.le_trans hle hl4) (by rw[rowF_len]) (y:=zs.getD j 0*c) ⟨hof,hWz.mul hWc⟩ rfl (all2b oo0 oo1) (by omega) (by omega) rfl fun v5 h5 hw5 hl5 hs5=> ?_
   simp only[go_sem,q0,q3,q6,incI (i:=j) (by omega)]
   exact⟨by omega,hw5,hl5,by first|rfl|trivial|assumption,by first|rfl|trivial|assumption,by first|rfl|trivial|assumption,by rw[←rowF_snoc];exact hs5⟩
  ·obtain rfl:j=zs.length:=by omega
   simp only[go_sem,q0,q6,ltF (Nat.le_refl zs.length)]
   exact⟨hw2,hle,hs⟩
 rintro ρ h2 ⟨hw2,hle,hs⟩
 simp only[go_sem]
 refine zrnorm_calls (hs.isA ZqL.grows) (by rw[rowF_len];omega) fun r ys h3 hw3 hl3 hr ht hyl _=> ?_
 simp only[go_sem]
 rw[rowF_len] at hyl
 refine fun hw'=>hk r ys h3 hw' ((H.le_trans hl1 (H.le_trans hle hl3))) hr (ht.congr fun i=> ?_) hyl
 rw[rowF_getD]
 split
 ·rfl
 ·rw[getG_out (by omega),Int.zero_mul]
set_option maxHeartbeats 1000000 in
theorem zrMulP_calls (ha:IsA 2 (ZqL W) h va us) (hb:IsA 2 (ZqL Wb) h vb ws) (hla:us.length≤1000) (hlb:ws.length≤1000) (hW:W≤8000) (hWb:Wb≤8000)
  (hk:∀r ys h',h'.wf→h.le h'→IsA 2 (ZqL (W+Wb+1)) h' r ys→TrimG 0 (fun k=>partI (fun i=>us.getD i 0) (fun i=>ws.getD i 0) us.length k) ys→ys.length≤2000→K r h'):ACalls Tryz.prog 10 [va,vb] h K:=by
 obtain⟨ida,offa,ca,rfl⟩:=ha.form
 obtain⟨idb,offb,cb,rfl⟩:=hb.form
 have hwza:=ha.wq
 have hwzb:=hb.wq
 refine in_ref28_Mul (by simp) fun hw=> ?_
 unfold c_ref28_Mul
 obtain⟨f,hf⟩:∃f:Nat→Int,f=fun i=>us.getD i 0:=⟨_,rfl⟩
 obtain⟨g,hg⟩:∃g:Nat→Int,g=fun i=>ws.getD i 0:=⟨_,rfl⟩
 have hf0:∀i,us.length≤i→f i=0:=fun i hi=>by rw[hf];exact getG_out hi
 have hg0:∀i,ws.length≤i→g i=0:=fun i hi=>by rw[hg];exact getG_out hi
 have hwf:∀i,Wz W (f i):=fun i=>by rw[hf];exact hwza i
 have hwg:∀i,Wz Wb (g i):=fun i=>by rw[hg];exact hwzb i
 rw[←hf,←hg] at hk
 rcases Nat.eq_zero_or_pos us.length with h0|h0
 ·have hk:=hk (.sl none 0 0 none) [] h hw (H.le_refl h) (IsA.nil _ _ _ _) ⟨fun k=>by
   show 0=partI f g us.length k
   rw[h0]
   rfl,by simp⟩ (Nat.zero_le _)
  simp only[go_sem,eqT (show(us.length:Int)=0 by omega)]
  exact fun _=>hk
 rcases Nat.eq_zero_or_pos ws.length with h0'|h0'
 ·have hk:=hk (.sl none 0 0 none) [] h hw (H.le_refl h) (IsA.nil _ _ _ _) ⟨fun k=>by
   show 0=partI f g us.length k
   have:∀m,partI f g m k=0:=fun m=>by
    induction m with
    |zero=>rfl
    |succ m ih=>rw[partI,ih,hg0 _ (by omega),Int.mul_zero];split<;>rfl
   rw[this],by simp⟩ (Nat.zero_le _)
  simp only[go_sem,eqF (show(us.length:Int)≠0 by omega),eqT (show(ws.length:Int)=0 by omega)]
  exact fun _=>hk
 obtain⟨N,hN⟩:∃N,N+1=us.length+ws.length:=⟨us.length+ws.length-1,by omega⟩
 have e1:IntKind.i64.wrap ((us.length:Int)+(ws.length:Int))=((N+1:Nat):Int):=by rw[wI]<;>omega
 have e2:IntKind.i64.wrap (((N+1:Nat):Int)-1)=(N:Int):=by rw[wI]<;>omega
 simp only[go_sem,eqF (show(us.length:Int)≠0 by omega),eqF (show(ws.length:Int)≠0 by omega),e1,e2,Int.toNat_natCast]
 refine⟨by omega,by omega,by omega, ?_⟩
 have hl2:=H.le_new hw (H.le_refl h) ⟨some 47,2,Ab.zs [AV.sl none 0 0 none,AV.bool false] N⟩
 have hw2:=H.wf_new hw ⟨some 47,2,Ab.zs [AV.sl none 0 0 none,AV.bool false] N⟩
 have hs0:Live 47 2 h.next (ZqL (W+Wb+1)) (h.new ⟨some 47,2,Ab.zs [AV.sl none 0 0 none,AV.bool false] N⟩) (.sl (some h.next) 0 N (some N)) (List.replicate N 0):=Live.madez (b:=h.next) (R:=ZqL (W+Wb+1)) (x:=0) hw (Nat.le_refl _) rfl (fun g=>⟨Zr.zero _,Wz.zero _⟩) _
 generalize h.new ⟨some 47,2,Ab.zs [AV.sl none 0 0 none,AV.bool false] N⟩=h2 at*
 obtain⟨A,hA⟩:∃A:AV,A= .sl ida offa us.length ca:=⟨_,rfl⟩
 obtain⟨B,hB⟩:∃B:AV,B= .sl idb offb ws.length cb:=⟨_,rfl⟩
 obtain⟨O,hO⟩:∃O:AV,O= .sl (some h.next) 0 N (some N):=⟨_,rfl⟩
 rw[←hA,←hB,←hO]
 refine loop_cut (fun ρ h'=>h'.wf∧h.le h'∧Live 47 2 h.next (ZqL (W+Wb+1)) h' (ρ 5) (rowF (fun k=>partI f g us.length k) N)) ?_ ?_
 ·refine for_rule (fun i ρ h'=>i≤us.length∧h'.wf∧h.le h'∧ρ 0=A∧ρ 1=B∧ρ 5=O∧ρ 6= .int .i64 (i:Int)∧Live 47 2 h.next (ZqL (W+Wb+1)) h' O (rowF (fun k=>partI f g i k) N)) us.length
   ⟨by omega,hw2,hl2,by rw[hA];rfl,by rw[hB];rfl,by first|rfl|trivial|assumption,by first|rfl|trivial|assumption,by rw[show(fun k=>partI f g 0 k)=fun _=>0 from rfl,rowF_rep,hO];exact hs0⟩ (fun i ρ h hI=>hI.1) ?_
  rintro i ρ h3 ⟨hi,hw3,hle,q0,q1,q5,q6,hs⟩
  rcases Nat.lt_or_ge i us.length with c1|c1
  ·obtain⟨ii,l,e7,_,_,hga,_,hR⟩:=ha.atz (by omega) c1
   subst e7
   have hWz:=hR.2
   obtain⟨w,rfl,nwz,_⟩:=zq_open hR
   have hfi:us[i]=f i:=by rw[hf];exact(getG_in c1).symm
   rw[hfi] at hWz nwz hga
   simp only[go_sem,q0,q1,q5,q6,hA,ltT c1]
   rw[←hA]
   refine loop_cut2 (fun ρ h'=>h'.wf∧h.le h'∧ρ 0=A∧ρ 1=B∧ρ 5=O∧ρ 6= .int .i64 (i:Int)∧Live 47 2 h.next (ZqL (W+Wb+1)) h' O (rowF (fun k=>partI f g (i+1) k) N)) ?_ ?_
   ·refine for_rule (fun j ρ h'=>j≤ws.length∧h'.wf∧h.le h'∧ρ 0=A∧ρ 1=B∧ρ 5=O∧ρ 6= .int .i64 (i:Int)∧ρ 7= .int .i64 (j:Int)∧Live 47 2 h.next (ZqL (W+Wb+1)) h' O (rowF (fun k=>partIJ f g i j k) N)) ws.length
     ⟨by omega,hw3,hle,by first|rfl|trivial|assumption,by first|rfl|trivial|assumption,by first|rfl|trivial|assumption,by first|rfl|trivial|assumption,by first|rfl|trivial|assumption,by rw[show(fun k=>partIJ f g i 0 k)=fun k=>partI f g i k from funext fun k=>by rw[partIJ_zero]];exact hs⟩ (fun i ρ h hI=>hI.1) ?_
    clear hs q0 q1 q5 q6 hle hw3
    rintro j ρ g6 ⟨hj,hw6,hle,q0,q1,q5,q6,q7,hs⟩
    rcases Nat.lt_or_ge j ws.length with c2|c2
    ·obtain⟨jj,l,e7,_,_,hgb,_,hR⟩:=hb.atz (by omega) c2
     subst e7
     have hWy:=hR.2
     obtain⟨w2,rfl,nwy,_⟩:=zq_open hR
     have hgj:ws[j]=g j:=by rw[hg];exact(getG_in c2).symm
     rw[hgj] at hWy nwy hgb
     have hij:i+j<N:=by omega
     have eij:IntKind.i64.wrap ((i:Int)+(j:Int))=((i+j:Nat):Int):=by rw[wI]<;>omega
     rw[hO] at hs
     obtain⟨kk,lo,e0',_,_,hgo,_,hRo⟩:=hs.getz (by omega) (j:=i+j) (by rw[rowF_len];exact hij)
     injection e0' with e0'
     subst e0'
     rw[rowF_get hij] at hRo
     have hWo:=hRo.2
     obtain⟨wo,rfl,nwo,_⟩:=zq_open hRo
     have nwo:=nwo.mono (H.del_le _)
     have ga6:=H.gets_le hle hga
     have gb6:=H.gets_le hle hgb
     simp only[go_sem,q0,q1,q5,q6,q7,hA,hB,hO,eij,ltT c2]
     refine⟨by omega,by omega, ?_⟩
     simp only[go_sem,hgo,q0,q1,q5,q6,q7,hA,hB,hO,eij]
     refine⟨by omega,by omega, ?_⟩
     simp only[go_sem,hgo,ga6,q0,q1,q5,q6,q7,hA,hB,hO,eij]
     refine⟨by omega,by omega, ?_⟩
     simp only[go_sem,hgo,ga6,gb6,q0,q1,q5,q6,q7,hA,hB,hO,eij]
     refine zrMul_calls (nwz.mono hle) (nwy.mono hle) (hWz.big (by omega)) (hWy.big (by omega)) fun o h8 hw8 hl8 ho=> ?_
     rw[sg_self,sg_self] at ho
     have hWp:Wz (W+Wb) (f i*g j):=hWz.mul hWy
     obtain⟨wp,rfl,np⟩:=zr_open ho
     have hgo8:=H.gets_le hl8 hgo
     simp only[go_sem,hgo8,true_and,q0,q1,q5,q6,q7]
     refine zrAdd_calls (nwo.mono hl8) np (hWo.big (by omega)) (hWp.big (by omega)) fun o2 h9 hw9 hl9 ho2=> ?_
     rw[sg_self,sg_self,←partIJ_here] at ho2
     have hs9:=hs.mono ZqL.grows (H.le_trans hl8 hl9)
     have hWn:Wz (W+Wb+1) (partIJ f g i (j+1) (i+j)):=partIJ_wz hwf hwg (by omega)
     have hof:=ho2.off hs9
     obtain⟨a0,a1,rfl,oa0,oa1⟩:=ho2.two
     obtain⟨io',rr,e0',hbi,hin,hrr,hown,hz,hcl,hput⟩:=hs9.putz hw9 (by omega) (j:=i+j) (by rw[rowF_len];exact hij)
     injection e0' with e0'
     subst e0'
     have hput:=hput [a0,a1] (partIJ f g i (j+1) (i+j)) rfl ⟨hof,hWn⟩
     rw[rowF_set (G:=fun k=>partIJ f g i (j+1) k) rfl (fun k _ hk=>by show partIJ f g i (j+1) k=_;rw[partIJ_other hk])] at hput
     simp only[go_sem,q0,q1,q5,hO,q6,q7]
     refine⟨by omega,by omega, ?_⟩
     simp only[go_sem,hrr,q0,q1,q5,q6,q7]
     refine⟨by trivial,all2b oa0 oa1,by rw[hown];simp,hcl, ?_⟩
     simp only[go_sem,q0,q1,q5,q6,q7,incI (i:=j) (by omega)]
     exact⟨by omega,H.wf_set hw9 hin _,H.le_set hw ((H.le_trans hle (H.le_trans hl8 hl9))) hbi _,by rw[hA],by rw[hB],by rw[hO],by first|rfl|trivial|assumption,by first|rfl|trivial|assumption,hput⟩
    ·obtain rfl:j=ws.length:=by omega
     simp only[go_sem,q1,q7,hB,ltF (Nat.le_refl ws.length)]
     rw[show(fun k=>partIJ f g i ws.length k)=fun k=>partI f g (i+1) k from funext fun k=>by rw[partIJ_full hg0]] at hs
     exact⟨hw6,hle,q0,by first|rfl|trivial|assumption,q5,q6,hs⟩
   ·clear hs q0 q1 q5 q6 hle hw3
    rintro ρ h6 ⟨hw6,hle,q0,q1,q5,q6,hs⟩
    simp only[go_sem,q0,q1,q5,q6,incI (i:=i) (by omega)]
    exact⟨by omega,hw6,hle,by first|rfl|trivial|assumption,by first|rfl|trivial|assumption,by first|rfl|trivial|assumption,by first|rfl|trivial|assumption,hs⟩
  ·obtain rfl:i=us.length:=by omega
   simp only[go_sem,q0,q6,hA,q5,ltF (Nat.le_refl us.length)]
   exact⟨hw3,hle,hs⟩
 rintro ρ g6 ⟨hw6,hle,hs⟩
 simp only[go_sem]
 refine zrnorm_calls (hs.isA ZqL.grows) (by rw[rowF_len];omega) fun r ys h9 hw9 hl9 hy hty hyl _=> ?_
 simp only[go_sem]
 rw[rowF_len] at hyl
 refine fun hw'=>hk r ys h9 hw' (H.le_trans hle hl9) hy (hty.congr fun k=> ?_) (by omega)
 rw[rowF_getD]
 split
 ·rfl
 ·rw[partI_out hg0 (by omega)]
set_option maxHeartbeats 1000000 in
theorem zrAt_calls (hv:IsA 2 (ZqL W) h v zs) (hl:zs.length≤1000) (nc:Num 4294967296 h wc c.natAbs) (hWc:Wz Wc c) (hW:W+zs.length*(Wc+1)≤16000) (hWc2:Wc≤16000)
  (hk:∀r h',h'.wf→h.le h'→Zr h' r (valI c zs)→Wz (W+zs.length*(Wc+1)) (valI c zs)→K r h'):ACalls Tryz.prog 18 [v, .agg [wc, .bool (decide (c<0))]] h K:=by
 obtain⟨id,off,cp,rfl⟩:=hv.form
 refine in_ref28_At (by simp) fun hw=> ?_
 unfold c_ref28_At
 have e0:IntKind.i64.wrap ((zs.length:Int)-1)=(zs.length:Int)-1:=wI (by omega) (by omega)
 simp only[go_sem,e0]
 simp only[AV.cells,List.length_cons,List.length_nil,Nat.zero_add,Nat.reduceAdd]
 refine⟨rfl, ?_⟩
 generalize hh:((h.new ⟨some 47,2,[wc, .bool (decide (c<0))]⟩).new ⟨some 47,2,[.sl none 0 0 none, .bool false]⟩).new ⟨some 47,2,[.sl none 0 0 none, .bool false]⟩=h1
 obtain⟨hl1,hw1,hn1,r1,r2,r3⟩:=new3 hw hh
 have hR:(h.new ⟨some 47,2,[wc, .bool (decide (c<0))]⟩).next=h.next+1:=rfl
 have hR2:((h.new ⟨some 47,2,[wc, .bool (decide (c<0))]⟩).new ⟨some 47,2,[.sl none 0 0 none, .bool false]⟩).next=h.next+2:=rfl
 rw[hR,hR2]
 clear hh hR hR2
 refine loop_cut (fun ρ g=>g.wf∧h.le g∧ρ 4= .ptr (some (h.next+1,0))∧ρ 5= .ptr (some (h.next+2,0))∧g.rows (h.next+1)=some ⟨some 47,2,[.sl none 0 0 none, .bool false]⟩∧∃s0 s1,g.rows (h.next+2)=some ⟨some 47,2,[s0,s1]⟩∧Zr g (.agg [s0,s1]) (valI c zs)∧Wz (W+zs.length*(Wc+1)) (valI c zs)) ?_ ?_
 ·refine for_rule (fun j ρ g=>j≤zs.length∧g.wf∧h.le g∧ρ 0= .sl id off zs.length cp∧ρ 3= .ptr (some (h.next,0))∧ρ 4= .ptr (some (h.next+1,0))∧ρ 5= .ptr (some (h.next+2,0))∧ρ 6= .int .i64 ((zs.length:Int)-1-(j:Int))∧g.rows h.next=some ⟨some 47,2,[wc, .bool (decide (c<0))]⟩∧g.rows (h.next+1)=some ⟨some 47,2,[.sl none 0 0 none, .bool false]⟩∧∃s0 s1,g.rows (h.next+2)=some ⟨some 47,2,[s0,s1]⟩∧Zr g (.agg [s0,s1]) (valI c (zs.drop (zs.length-j)))∧Wz (W+j*(Wc+1)) (valI c (zs.drop (zs.length-j)))) zs.length
   ⟨by omega,hw1,hl1,by first|rfl|trivial|assumption,by first|rfl|trivial|assumption,by first|rfl|trivial|assumption,by first|rfl|trivial|assumption,by rw[show(zs.length:Int)-1-((0:Nat):Int)=(zs.length:Int)-1 by omega];rfl,r1,r2,_,_,r3,by rw[Nat.sub_zero,List.drop_length];exact Zr.zero _,by rw[Nat.sub_zero,List.drop_length];exact Wz.zero _⟩ (fun i ρ h hI=>hI.1) ?_
  rintro j ρ g ⟨hj,hwg,hle,q0,q3,q4,q5,q6,r1,r2,s0,s1,r3,hs,hWs⟩
  rcases Nat.lt_or_ge j zs.length with h3|h3
  ·obtain⟨k,hkk⟩:∃k,k=zs.length-1-j:=⟨_,rfl⟩
   rw[show(zs.length:Int)-1-(j:Int)=(k:Int) by omega] at q6
   rw[show zs.length-j=k+1 by omega] at hs hWs
   have hkl:k<zs.length:=by omega
   have hv0:=valI_drop c hkl
   have hd2:zs.length-(j+1)=k:=by omega
   have e6:IntKind.i64.wrap ((k:Int)-1)=(zs.length:Int)-1-((j+1:Nat):Int):=by rw[wI]<;>omega
   obtain⟨ii,l,rfl,_,_,hg,_,hR⟩:=hv.atz (by omega) hkl
   have hWz:=hR.2
   obtain⟨w,rfl,nwz,hone⟩:=zq_open hR
   have hg:=H.gets_le hle hg
   have hjW:j*(Wc+1)+(Wc+1)≤zs.length*(Wc+1):=by rw[←Nat.succ_mul];exact Nat.mul_le_mul_right _ h3
   obtain⟨ws,es,nws⟩:=zr_open hs
   injection es with es
   injection es with es1 es2
   injection es2 with es2
   subst es1 es2
   generalize valI c (zs.drop (k+1))=y at*
   simp only[go_sem,q0,q3,q4,q5,q6,show decide ((0:Int)≤(k:Int))=true from decide_eq_true (by omega),(g2 r3).2.2,(g2 r1).2.2]
   refine⟨by omega,by omega, ?_⟩
   simp only[go_sem,hg,q0,q3,q4,q5,q6]
   refine zrMul_calls nws (nc.mono hle) (hWs.big (by omega)) (hWc.big (by omega)) fun o h8 hw8 hl8 ho=> ?_
   rw[sg_self,sg_self] at ho
   have hWp:Wz (W+j*(Wc+1)+Wc) (y*c):=hWs.mul hWc
   obtain⟨wp,rfl,np⟩:=zr_open ho
   have hg8:=H.gets_le hl8 hg
   have r1:=hl8.2 _ _ r1
   have r2:=hl8.2 _ _ r2
   have r3:=hl8.2 _ _ r3
   have hWz2:Wz (W+j*(Wc+1)+Wc) zs[k]:=hWz.le (by omega)
   simp only[go_sem,hg8,true_and,q0,q3,q4,q5,q6]
   refine zrAdd_calls np ((nwz.mono hle).mono hl8) (hWp.big (by omega)) (hWz.big (by omega)) fun o2 h9 hw9 hl9 ho2=> ?_
   rw[sg_self,sg_self] at ho2
   have hnew:y*c+zs[k]=valI c (zs.drop k):=by rw[hv0,Int.add_comm,Int.mul_comm]
   have hWn:Wz (W+(j+1)*(Wc+1)) (valI c (zs.drop k)):=by
    rw[←hnew]
    exact(hWp.add hWz2).le (by rw[Nat.succ_mul];omega)
   rw[hnew] at ho2
   have r1:=hl9.2 _ _ r1
   have r2:=hl9.2 _ _ r2
   have r3:=hl9.2 _ _ r3
   obtain⟨t0,t1,rfl,ot0,ot1⟩:=ho2.two
   simp only[go_sem,q0,q3,q4,q5,q6]
   refine⟨by trivial,all22 ot0 ot1,put2 hw hw9 ((H.le_trans hle (H.le_trans hl8 hl9))) (by omega) r3 rfl fun g8 hwg8 hlg8 hg8 r3n e8=> ?_⟩
   have hr8:=ho2.lee2 r3 e8
   have r1:=e8.2 _ _ (by omega) r1
   have r2:=e8.2 _ _ (by omega) r2
   simp only[go_sem,q0,q3,q4,q5,q6,e6]
   exact⟨by omega,hwg8,hlg8,by first|rfl|trivial|assumption,by first|rfl|trivial|assumption,by first|rfl|trivial|assumption,by first|rfl|trivial|assumption,by first|rfl|trivial|assumption,r1,r2,_,_,r3n,by rw[hd2];exact hr8,by rw[hd2];exact hWn⟩
  ·obtain rfl:j=zs.length:=by omega
   rw[Nat.sub_self,List.drop_zero] at hs hWs
   simp only[go_sem,q6,show decide ((0:Int)≤(zs.length:Int)-1-(zs.length:Int))=false from decide_eq_false (by omega)]
   exact⟨hwg,hle,q4,q5,r2,s0,s1,r3,hs,hWs⟩
 rintro ρ g ⟨hwg,hle,q4,q5,r2,s0,s1,r3,hs,hWs⟩
 obtain⟨t0,t1,e,ot0,ot1⟩:=hs.two
 injection e with e
 injection e with e1 e2
 injection e2 with e2
 subst e1 e2
 simp only[go_sem,q4,q5,(g2 r3).2.2]
 refine⟨by trivial,all22 ot0 ot1,put2 hw hwg hle (by omega) r2 rfl fun g8 hwg8 hlg8 hg8 r2n e8=> ?_⟩
 simp only[go_sem,q4,hg8]
 exact fun hw'=>hk _ g8 hw' hlg8 (hs.lee2 r2 e8) hWs
end
end
end Ab
end Go.Proofs.YtkbglkjpdndkiaaGreatDoor
