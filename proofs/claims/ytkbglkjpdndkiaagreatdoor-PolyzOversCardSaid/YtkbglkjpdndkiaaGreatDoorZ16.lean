/- Joined texts: X9 X10 X11. No condition. -/
import Derived.Test.YtkbglkjpdndkiaaGreatDoorZ15
namespace Go.Proofs.YtkbglkjpdndkiaaGreatDoor
namespace Ab
open Go Go.RowKit
set_option linter.unusedSimpArgs false
set_option linter.unusedVariables false
attribute [local go_sem ↓] x_mv x_pick x_bin x_beq x_peq x_seq x_cat x_aeq x_idxS x_idxV x_un x_cvI x_bts x_idx x_idxA x_fld x_ld x_st x_nn x_prt x_slc x_mk x_bsl x_bld x_box x_alloc x_len x_capo x_mnx x_app x_cpy x_mkf x_ext x_call x_callV x_bad s_none s_some s_nil s_cons s_chks w_skip w_reg tP_fin tP_no tP_alt w_seq w_cond w_block w_exit w_ret t_normal t_exit t_ret b_normal b_ret b_exit n_normal n_exit n_ret p_normal p_ret f_nil f_t f_c k_ops k_chk k_fin
attribute [local go_sem] e_t e_c e_f u_some u_none u_at env_at k_v k_pick k_add k_sub k_mul k_quo k_rem k_and k_or k_xor k_shl k_shr k_eql k_neq k_lss k_leq k_gtr k_geq k_beq k_peqn k_peqs k_neg k_not k_com k_cvI k_idxS k_idxV1 k_idxVn k_idx k_idxA k_idxG k_ldG k_gld k_seq k_cat k_aeq k_eqs k_fld k_ld1 k_ldn k_get k_gets k_sti k_stb k_stp k_sts k_stf k_sta k_put k_nn k_prt1 k_prtn k_slc_a k_slc_b k_slc_c k_mk k_agg k_bsl k_box k_len k_lenS k_cap k_max k_min k_ext k_callV k_true k_false k_gtt k_gtf k_gft k_gsk k_gff k_lit1i k_lit2i k_lit3i k_c0 k_c1 k_ck List.getElem?_cons_zero List.getElem?_cons_succ List.getElem?_nil Option.getD_some Option.getD_none tupOf List.map_cons List.map_nil Option.map_some Option.map_none List.nil_append List.cons_append List.append_nil Nat.mul_one Int.toNat_natCast Nat.zero_add
attribute [local go_sem] e_t e_c e_f u_some u_none u_at env_at k_v k_pick k_add k_sub k_mul k_quo k_rem k_and k_or k_xor k_shl k_shr k_eql k_neq k_lss k_leq k_gtr k_geq k_beq k_peqn k_peqs k_neg k_not k_com k_cvI k_idxS k_idxV1 k_idxVn k_idx k_idxA k_idxG k_ldG k_gld k_seq k_cat k_aeq k_eqs k_fld k_ld1 k_ldn k_get k_gets k_sti k_stb k_stp k_sts k_stf k_sta k_put k_nn k_prt1 k_prtn k_slc_a k_slc_b k_slc_c k_mk k_agg k_bsl k_box k_len k_lenS k_cap k_max k_min k_ext k_callV k_true k_false k_gtt k_gtf k_gft k_gsk k_gff k_lit1i k_lit2i k_lit3i k_c0 k_c1 k_ck List.getElem?_cons_zero List.getElem?_cons_succ List.getElem?_nil Option.getD_some Option.getD_none tupOf List.map_cons List.map_nil Option.map_some Option.map_none List.nil_append List.cons_append List.append_nil Nat.mul_one Int.toNat_natCast Nat.zero_add
--what a store into a cell of two leaves
attribute [local go_sem_proc] Nat.reduceEqDiff Nat.reduceAdd Int.reduceToNat
attribute [local go_sem_proc ↓] reduceIte
attribute [local go_sem] Bool.false_eq_true
section
theorem IsA.other {α:Type} {z b i:Nat} {T:TypeId} {l:List AV} {R R':H→List AV→α→Prop} {h g:H} {v:AV} {xs:List α} (hv:IsA z R h v xs) (hs:Since b v) (hi:i<b) (_:h.rows i=some ⟨some T,2,l⟩) (hl:H.lee i h g) (hR:∀c x,R h c x→R' g c x):IsA z R' g v xs:=by
 obtain⟨cs,⟨h0,id,off,c,rfl,h1⟩,h2⟩:=hv
 refine⟨cs,⟨h0,id,off,c,rfl, ?_⟩,h2.mono hR⟩
 rcases h1 with h1|⟨j,r,rfl,hr,h3⟩
 ·exact .inl h1
 ·refine .inr ⟨j,r,rfl,hl.2 j r ?_ hr,h3⟩
  have:=hs j _ _ _ rfl
  omega
section
variable {t:Tb} {va vb wc:AV} {bc:Bool} {ps0 qs0:List (Bool×List Nat)} {cs0:List Nat} {h:H} {K:AV→H→Prop}
theorem IsA.zt {T:TypeId} {b c W:Nat} {v:AV} {zs:List Int} (hv:Live T 2 b (ZbL c W) h v zs):IsA 2 ZtL h v zs:=(hv.isA ZbL.grows).imp fun _ _ hx=>hx.zt
end
end
section
section
variable {W Wc:Nat} {v wc:AV} {zs:List Int} {c:Int} {h:H} {K:AV→H→Prop}
set_option maxHeartbeats 2000000 in
theorem zrOver_calls (hv:IsA 2 (ZqL W) h v zs) (hl:zs.length≤1000) (nc:Num 4294967296 h wc c.natAbs) (hWc:Wz Wc c) (hcp:0<c.natAbs) (hW:W≤16000) (hWc2:Wc≤16000)
  (hk1:∀h',h'.wf→h.le h'→(∃z∈zs,z.tmod c≠0)→K (.tup [.sl none 0 0 none, .bool false]) h')
  (hk:∀r h',h'.wf→h.le h'→(∀z∈zs,z.tmod c=0)→IsA 2 (ZqL W) h' r (zs.map fun z=>z.tdiv c)→K (.tup [r, .bool true]) h'):ACalls Tryz.prog 25 [v, .agg [wc, .bool (decide (c<0))]] h K:=by
 obtain⟨id,off,cp,rfl⟩:=hv.form
 refine in_ref28_Over (by simp) fun hw=> ?_
 unfold c_ref28_Over
 simp only[go_sem]
 simp only[AV.cells,List.length_cons,List.length_nil,Nat.zero_add,Nat.reduceAdd]
 refine⟨rfl, ?_⟩
 generalize hh:(h.new ⟨some 47,2,[wc, .bool (decide (c<0))]⟩)=h1
 have r1:h1.rows h.next=some ⟨some 47,2,[wc, .bool (decide (c<0))]⟩:=by rw[←hh];exact H.rows_new _ _
 have hl1:h.le h1:=by rw[←hh];exact H.le_new hw (H.le_refl h) _
 have hw1:h1.wf:=by rw[←hh];exact H.wf_new hw _
 have hn1:h1.next=h.next+1:=by rw[←hh];rfl
 clear hh
 refine for_rule (fun j ρ g=>j≤zs.length∧g.wf∧h1.le g∧ρ 0= .sl id off zs.length cp∧ρ 3= .ptr (some (h.next,0))∧ρ 7= .int .i64 (j:Int)∧(∀i,i<j→(zs.getD i 0).tmod c=0)∧Live 47 2 h1.next (ZqL W) g (ρ 6) ((zs.take j).map fun z=>z.tdiv c)) zs.length
  ⟨by omega,hw1,H.le_refl _,by first|rfl|trivial|assumption,by first|rfl|trivial|assumption,by first|rfl|trivial|assumption,(fun i hi=>by omega),Live.nil _ _ _ _ _ _⟩ (fun i ρ h hI=>hI.1) ?_
 rintro j ρ g ⟨hj,hwC,lC,q0,q3,q7,hmod,hs⟩
 rcases Nat.lt_or_ge j zs.length with c1|c1
 ·obtain⟨ii,l,rfl,_,_,hga,_,hR⟩:=hv.atz (by omega) c1
  have hWz:=hR.2
  obtain⟨w,rfl,nw,_⟩:=zq_open hR
  have lh:=H.le_trans hl1 lC
  have ga:=H.gets_le lh hga
  have nwz:=nw.mono lh
  have ncc:=nc.mono lh
  have rb:=lC.2 _ _ r1
  obtain⟨io,co,q6⟩:=hs.form
  have hlen:((zs.take j).map fun z=>z.tdiv c).length=j:=by simp;omega
  rw[hlen] at q6
  rw[q6] at hs
  simp only[go_sem,q0,q3,q6,q7,ltT c1]
  refine awp_cut (fun ρ' g'=>g'.wf∧h1.le g'∧ρ' 0= .sl (some ii) off zs.length cp∧ρ' 3= .ptr (some (h.next,0))∧ρ' 6= .sl io 0 j co∧ρ' 7= .int .i64 (j:Int)∧g'.rows h.next=some ⟨some 47,2,[wc, .bool (decide (c<0))]⟩∧Live 47 2 h1.next (ZqL W) g' (.sl io 0 j co) ((zs.take j).map fun z=>z.tdiv c)∧∃Q R a0 a1 b0 b1,ρ' 8= .ptr (some (Q,0))∧ρ' 9= .ptr (some (R,0))∧g'.rows Q=some ⟨some 47,2,[a0,a1]⟩∧g'.rows R=some ⟨some 47,2,[b0,b1]⟩∧Zr g' (.agg [a0,a1]) (zs[j].tdiv c)∧Zr g' (.agg [b0,b1]) (zs[j].tmod c)) ?_ ?_
  ·simp only[go_sem,w_regt,q0,q3,q6,q7]
   refine⟨by omega,by omega, ?_⟩
   have n1:=H.le_new hwC (H.le_refl g) ⟨some 47,2,[.sl none 0 0 none, .bool false]⟩
   have n2:=H.le_trans n1 (H.le_new (H.wf_new hwC ⟨some 47,2,[.sl none 0 0 none, .bool false]⟩) (H.le_refl _) ⟨some 47,2,[.sl none 0 0 none, .bool false]⟩)
   simp only[go_sem,ga,(g2 rb).2.2,H.gets_le n1 ga,(g2 (n1.2 _ _ rb)).2.2,H.gets_le n2 ga,(g2 (n2.2 _ _ rb)).2.2,q0,q3,q6,q7,List.length_cons,List.length_nil,Nat.zero_add,Nat.reduceAdd,true_and,and_true]
   clear n2
   clear n1
   refine⟨?_, ?_, ?_⟩
   ·skip
    refine zrTrunc_calls nwz ncc (hWz.big (by omega)) (hWc.big (by omega)) hcp fun q r gC1 hwx hlx hq hr=> ?_
    rw[sg_self,sg_self] at hq hr
    obtain⟨a0,a1,rfl,oa0,oa1⟩:=hq.two
    obtain⟨b0,b1,rfl,ob0,ob1⟩:=hr.two
    replace hwC:=hwx
    replace lC:=H.le_trans lC hlx
    replace rb:=hlx.2 _ _ rb
    replace hs:=hs.mono ZqL.grows hlx
    replace ga:=H.gets_le hlx ga
    replace nwz:=nwz.mono hlx
    replace ncc:=ncc.mono hlx
    have n1:=H.le_new hwC (H.le_refl gC1) ⟨some 47,2,[.sl none 0 0 none, .bool false]⟩
    have n2:=H.le_trans n1 (H.le_new (H.wf_new hwC ⟨some 47,2,[.sl none 0 0 none, .bool false]⟩) (H.le_refl _) ⟨some 47,2,[.sl none 0 0 none, .bool false]⟩)
    simp only[go_sem,ga,(g2 rb).2.2,H.gets_le n1 ga,(g2 (n1.2 _ _ rb)).2.2,H.gets_le n2 ga,(g2 (n2.2 _ _ rb)).2.2,q0,q3,q6,q7,List.length_cons,List.length_nil,Nat.zero_add,Nat.reduceAdd,true_and,and_true]
    clear n2
    clear n1
    refine⟨?_, ?_⟩
    ·skip
     have r8:=H.rows_new gC1 ⟨some 47,2,[.sl none 0 0 none, .bool false]⟩
     have hlx:=H.le_new hwC (H.le_refl gC1) ⟨some 47,2,[.sl none 0 0 none, .bool false]⟩
     have lb_8:=lC.1
     have io_8:=hs.io_lt hwC
     replace hwC:=H.wf_new hwC ⟨some 47,2,[.sl none 0 0 none, .bool false]⟩
     generalize hR8:gC1.next=R8 at*
     generalize gC1.new ⟨some 47,2,[.sl none 0 0 none, .bool false]⟩=gA2 at*
     replace lC:=H.le_trans lC hlx
     replace rb:=hlx.2 _ _ rb
     replace hs:=hs.mono ZqL.grows hlx
     replace ga:=H.gets_le hlx ga
     replace nwz:=nwz.mono hlx
     replace ncc:=ncc.mono hlx
     replace hq:=hq.mono hlx
     replace hr:=hr.mono hlx
     have r9:=H.rows_new gA2 ⟨some 47,2,[.sl none 0 0 none, .bool false]⟩
     have hlx:=H.le_new hwC (H.le_refl gA2) ⟨some 47,2,[.sl none 0 0 none, .bool false]⟩
     have lt_r8_9:=H.row_lt hwC r8
     have lb_9:=lC.1
     have io_9:=hs.io_lt hwC
     replace hwC:=H.wf_new hwC ⟨some 47,2,[.sl none 0 0 none, .bool false]⟩
     generalize hR9:gA2.next=R9 at*
     generalize gA2.new ⟨some 47,2,[.sl none 0 0 none, .bool false]⟩=gA3 at*
     replace lC:=H.le_trans lC hlx
     replace rb:=hlx.2 _ _ rb
     replace hs:=hs.mono ZqL.grows hlx
     replace ga:=H.gets_le hlx ga
     replace nwz:=nwz.mono hlx
     replace ncc:=ncc.mono hlx
     replace r8:=hlx.2 _ _ r8
     replace hq:=hq.mono hlx
     replace hr:=hr.mono hlx
     refine⟨all22 oa0 oa1,put2 hw1 hwC lC (by omega) r8 rfl fun gS4 hwx lx _ r8n ex=> ?_⟩
     replace hwC:=hwx
     replace lC:=lx
     replace rb:=ex.2 _ _ (by omega) rb
     replace hs:=hs.boxQ (by intro e;have:=io_8 _ e;omega) r8 ex
     replace hq:=hq.lee2 r8 ex
     replace hr:=hr.lee2 r8 ex
     replace r9:=ex.2 _ _ (by omega) r9
     simp only[go_sem,q0,q3,q6,q7,List.length_cons,List.length_nil,Nat.zero_add,Nat.reduceAdd,true_and,and_true]
     refine⟨all22 ob0 ob1,put2 hw1 hwC lC (by omega) r9 rfl fun gS5 hwx lx _ r9n ex=> ?_⟩
     replace hwC:=hwx
     replace lC:=lx
     replace rb:=ex.2 _ _ (by omega) rb
     replace hs:=hs.boxQ (by intro e;have:=io_9 _ e;omega) r9 ex
     replace hq:=hq.lee2 r9 ex
     replace r8n:=ex.2 _ _ (by omega) r8n
     replace hr:=hr.lee2 r9 ex
     simp only[go_sem,q0,q3,q6,q7,List.length_cons,List.length_nil,Nat.zero_add,Nat.reduceAdd,true_and,and_true]
     exact⟨hwC,lC,rb,hs,R8,R9,_,_,_,_,by first|rfl|trivial|assumption,by first|rfl|trivial|assumption,r8n,r9n,hq,hr⟩
    ·skip
     have r9:=H.rows_new gC1 ⟨some 47,2,[.sl none 0 0 none, .bool false]⟩
     have hlx:=H.le_new hwC (H.le_refl gC1) ⟨some 47,2,[.sl none 0 0 none, .bool false]⟩
     have lb_9:=lC.1
     have io_9:=hs.io_lt hwC
     replace hwC:=H.wf_new hwC ⟨some 47,2,[.sl none 0 0 none, .bool false]⟩
     generalize hR9:gC1.next=R9 at*
     generalize gC1.new ⟨some 47,2,[.sl none 0 0 none, .bool false]⟩=gA6 at*
     replace lC:=H.le_trans lC hlx
     replace rb:=hlx.2 _ _ rb
     replace hs:=hs.mono ZqL.grows hlx
     replace ga:=H.gets_le hlx ga
     replace nwz:=nwz.mono hlx
     replace ncc:=ncc.mono hlx
     replace hq:=hq.mono hlx
     replace hr:=hr.mono hlx
     have r8:=H.rows_new gA6 ⟨some 47,2,[.sl none 0 0 none, .bool false]⟩
     have hlx:=H.le_new hwC (H.le_refl gA6) ⟨some 47,2,[.sl none 0 0 none, .bool false]⟩
     have lt_r9_8:=H.row_lt hwC r9
     have lb_8:=lC.1
     have io_8:=hs.io_lt hwC
     replace hwC:=H.wf_new hwC ⟨some 47,2,[.sl none 0 0 none, .bool false]⟩
     generalize hR8:gA6.next=R8 at*
     generalize gA6.new ⟨some 47,2,[.sl none 0 0 none, .bool false]⟩=gA7 at*
     replace lC:=H.le_trans lC hlx
     replace rb:=hlx.2 _ _ rb
     replace hs:=hs.mono ZqL.grows hlx
     replace ga:=H.gets_le hlx ga
     replace nwz:=nwz.mono hlx
     replace ncc:=ncc.mono hlx
     replace r9:=hlx.2 _ _ r9
     replace hq:=hq.mono hlx
     replace hr:=hr.mono hlx
     refine⟨all22 oa0 oa1,put2 hw1 hwC lC (by omega) r8 rfl fun gS8 hwx lx _ r8n ex=> ?_⟩
     replace hwC:=hwx
     replace lC:=lx
     replace rb:=ex.2 _ _ (by omega) rb
     replace hs:=hs.boxQ (by intro e;have:=io_8 _ e;omega) r8 ex
     replace hq:=hq.lee2 r8 ex
     replace hr:=hr.lee2 r8 ex
     replace r9:=ex.2 _ _ (by omega) r9
     simp only[go_sem,q0,q3,q6,q7,List.length_cons,List.length_nil,Nat.zero_add,Nat.reduceAdd,true_and,and_true]
     refine⟨all22 ob0 ob1,put2 hw1 hwC lC (by omega) r9 rfl fun gS9 hwx lx _ r9n ex=> ?_⟩
     replace hwC:=hwx
     replace lC:=lx
     replace rb:=ex.2 _ _ (by omega) rb
     replace hs:=hs.boxQ (by intro e;have:=io_9 _ e;omega) r9 ex
     replace hq:=hq.lee2 r9 ex
     replace r8n:=ex.2 _ _ (by omega) r8n
     replace hr:=hr.lee2 r9 ex
     simp only[go_sem,q0,q3,q6,q7,List.length_cons,List.length_nil,Nat.zero_add,Nat.reduceAdd,true_and,and_true]
     exact⟨hwC,lC,rb,hs,R8,R9,_,_,_,_,by first|rfl|trivial|assumption,by first|rfl|trivial|assumption,r8n,r9n,hq,hr⟩
   ·skip
    have r8:=H.rows_new g ⟨some 47,2,[.sl none 0 0 none, .bool false]⟩
    have hlx:=H.le_new hwC (H.le_refl g) ⟨some 47,2,[.sl none 0 0 none, .bool false]⟩
    have lb_8:=lC.1
    have io_8:=hs.io_lt hwC
    replace hwC:=H.wf_new hwC ⟨some 47,2,[.sl none 0 0 none, .bool false]⟩
    generalize hR8:g.next=R8 at*
    generalize g.new ⟨some 47,2,[.sl none 0 0 none, .bool false]⟩=gA10 at*
    replace lC:=H.le_trans lC hlx
    replace rb:=hlx.2 _ _ rb
    replace hs:=hs.mono ZqL.grows hlx
    replace ga:=H.gets_le hlx ga
    replace nwz:=nwz.mono hlx
    replace ncc:=ncc.mono hlx
    refine⟨?_, ?_⟩
    ·skip
     refine zrTrunc_calls nwz ncc (hWz.big (by omega)) (hWc.big (by omega)) hcp fun q r gC11 hwx hlx hq hr=> ?_
     rw[sg_self,sg_self] at hq hr
     obtain⟨a0,a1,rfl,oa0,oa1⟩:=hq.two
     obtain⟨b0,b1,rfl,ob0,ob1⟩:=hr.two
     replace hwC:=hwx
     replace lC:=H.le_trans lC hlx
     replace rb:=hlx.2 _ _ rb
     replace hs:=hs.mono ZqL.grows hlx
     replace ga:=H.gets_le hlx ga
     replace nwz:=nwz.mono hlx
     replace ncc:=ncc.mono hlx
     replace r8:=hlx.2 _ _ r8
     have n1:=H.le_new hwC (H.le_refl gC11) ⟨some 47,2,[.sl none 0 0 none, .bool false]⟩
     simp only[go_sem,ga,(g2 rb).2.2,H.gets_le n1 ga,(g2 (n1.2 _ _ rb)).2.2,q0,q3,q6,q7,List.length_cons,List.length_nil,Nat.zero_add,Nat.reduceAdd,true_and,and_true]
     clear n1
     have r9:=H.rows_new gC11 ⟨some 47,2,[.sl none 0 0 none, .bool false]⟩
     have hlx:=H.le_new hwC (H.le_refl gC11) ⟨some 47,2,[.sl none 0 0 none, .bool false]⟩
     have lt_r8_9:=H.row_lt hwC r8
     have lb_9:=lC.1
     have io_9:=hs.io_lt hwC
     replace hwC:=H.wf_new hwC ⟨some 47,2,[.sl none 0 0 none, .bool false]⟩
     generalize hR9:gC11.next=R9 at*
     generalize gC11.new ⟨some 47,2,[.sl none 0 0 none, .bool false]⟩=gA12 at*
     replace lC:=H.le_trans lC hlx
     replace rb:=hlx.2 _ _ rb
     replace hs:=hs.mono ZqL.grows hlx
     replace ga:=H.gets_le hlx ga
     replace nwz:=nwz.mono hlx
     replace ncc:=ncc.mono hlx
     replace r8:=hlx.2 _ _ r8
     replace hq:=hq.mono hlx
     replace hr:=hr.mono hlx
     refine⟨all22 oa0 oa1,put2 hw1 hwC lC (by omega) r8 rfl fun gS13 hwx lx _ r8n ex=> ?_⟩
     replace hwC:=hwx
     replace lC:=lx
     replace rb:=ex.2 _ _ (by omega) rb
     replace hs:=hs.boxQ (by intro e;have:=io_8 _ e;omega) r8 ex
     replace hq:=hq.lee2 r8 ex
     replace hr:=hr.lee2 r8 ex
     replace r9:=ex.2 _ _ (by omega) r9
     simp only[go_sem,q0,q3,q6,q7,List.length_cons,List.length_nil,Nat.zero_add,Nat.reduceAdd,true_and,and_true]
     refine⟨all22 ob0 ob1,put2 hw1 hwC lC (by omega) r9 rfl fun gS14 hwx lx _ r9n ex=> ?_⟩
     replace hwC:=hwx
     replace lC:=lx
     replace rb:=ex.2 _ _ (by omega) rb
     replace hs:=hs.boxQ (by intro e;have:=io_9 _ e;omega) r9 ex
     replace hq:=hq.lee2 r9 ex
     replace r8n:=ex.2 _ _ (by omega) r8n
     replace hr:=hr.lee2 r9 ex
     simp only[go_sem,q0,q3,q6,q7,List.length_cons,List.length_nil,Nat.zero_add,Nat.reduceAdd,true_and,and_true]
     exact⟨hwC,lC,rb,hs,R8,R9,_,_,_,_,by first|rfl|trivial|assumption,by first|rfl|trivial|assumption,r8n,r9n,hq,hr⟩
    ·skip
     have r9:=H.rows_new gA10 ⟨some 47,2,[.sl none 0 0 none, .bool false]⟩
     have hlx:=H.le_new hwC (H.le_refl gA10) ⟨some 47,2,[.sl none 0 0 none, .bool false]⟩
     have lt_r8_9:=H.row_lt hwC r8
     have lb_9:=lC.1
     have io_9:=hs.io_lt hwC
     replace hwC:=H.wf_new hwC ⟨some 47,2,[.sl none 0 0 none, .bool false]⟩
     generalize hR9:gA10.next=R9 at*
     generalize gA10.new ⟨some 47,2,[.sl none 0 0 none, .bool false]⟩=gA15 at*
     replace lC:=H.le_trans lC hlx
     replace rb:=hlx.2 _ _ rb
     replace hs:=hs.mono ZqL.grows hlx
     replace ga:=H.gets_le hlx ga
     replace nwz:=nwz.mono hlx
     replace ncc:=ncc.mono hlx
     replace r8:=hlx.2 _ _ r8
     refine zrTrunc_calls nwz ncc (hWz.big (by omega)) (hWc.big (by omega)) hcp fun q r gC16 hwx hlx hq hr=> ?_
     rw[sg_self,sg_self] at hq hr
     obtain⟨a0,a1,rfl,oa0,oa1⟩:=hq.two
     obtain⟨b0,b1,rfl,ob0,ob1⟩:=hr.two
     replace hwC:=hwx
     replace lC:=H.le_trans lC hlx
     replace rb:=hlx.2 _ _ rb
     replace hs:=hs.mono ZqL.grows hlx
     replace ga:=H.gets_le hlx ga
     replace nwz:=nwz.mono hlx
     replace ncc:=ncc.mono hlx
     replace r8:=hlx.2 _ _ r8
     replace r9:=hlx.2 _ _ r9
     simp only[go_sem,ga,(g2 rb).2.2,q0,q3,q6,q7,List.length_cons,List.length_nil,Nat.zero_add,Nat.reduceAdd,true_and,and_true]
     refine⟨all22 oa0 oa1,put2 hw1 hwC lC (by omega) r8 rfl fun gS17 hwx lx _ r8n ex=> ?_⟩
     replace hwC:=hwx
     replace lC:=lx
     replace rb:=ex.2 _ _ (by omega) rb
     replace hs:=hs.boxQ (by intro e;have:=io_8 _ e;omega) r8 ex
     replace hq:=hq.lee2 r8 ex
     replace hr:=hr.lee2 r8 ex
     replace r9:=ex.2 _ _ (by omega) r9
     simp only[go_sem,q0,q3,q6,q7,List.length_cons,List.length_nil,Nat.zero_add,Nat.reduceAdd,true_and,and_true]
     refine⟨all22 ob0 ob1,put2 hw1 hwC lC (by omega) r9 rfl fun gS18 hwx lx _ r9n ex=> ?_⟩
     replace hwC:=hwx
     replace lC:=lx
     replace rb:=ex.2 _ _ (by omega) rb
     replace hs:=hs.boxQ (by intro e;have:=io_9 _ e;omega) r9 ex
     replace hq:=hq.lee2 r9 ex
     replace r8n:=ex.2 _ _ (by omega) r8n
     replace hr:=hr.lee2 r9 ex
     simp only[go_sem,q0,q3,q6,q7,List.length_cons,List.length_nil,Nat.zero_add,Nat.reduceAdd,true_and,and_true]
     exact⟨hwC,lC,rb,hs,R8,R9,_,_,_,_,by first|rfl|trivial|assumption,by first|rfl|trivial|assumption,r8n,r9n,hq,hr⟩
   ·skip
    have r9:=H.rows_new g ⟨some 47,2,[.sl none 0 0 none, .bool false]⟩
    have hlx:=H.le_new hwC (H.le_refl g) ⟨some 47,2,[.sl none 0 0 none, .bool false]⟩
    have lb_9:=lC.1
    have io_9:=hs.io_lt hwC
    replace hwC:=H.wf_new hwC ⟨some 47,2,[.sl none 0 0 none, .bool false]⟩
    generalize hR9:g.next=R9 at*
    generalize g.new ⟨some 47,2,[.sl none 0 0 none, .bool false]⟩=gA19 at*
    replace lC:=H.le_trans lC hlx
    replace rb:=hlx.2 _ _ rb
    replace hs:=hs.mono ZqL.grows hlx
    replace ga:=H.gets_le hlx ga
    replace nwz:=nwz.mono hlx
    replace ncc:=ncc.mono hlx
    refine⟨?_, ?_⟩
    ·skip
     refine zrTrunc_calls nwz ncc (hWz.big (by omega)) (hWc.big (by omega)) hcp fun q r gC20 hwx hlx hq hr=> ?_
     rw[sg_self,sg_self] at hq hr
     obtain⟨a0,a1,rfl,oa0,oa1⟩:=hq.two
     obtain⟨b0,b1,rfl,ob0,ob1⟩:=hr.two
     replace hwC:=hwx
     replace lC:=H.le_trans lC hlx
     replace rb:=hlx.2 _ _ rb
     replace hs:=hs.mono ZqL.grows hlx
     replace ga:=H.gets_le hlx ga
     replace nwz:=nwz.mono hlx
     replace ncc:=ncc.mono hlx
     replace r9:=hlx.2 _ _ r9
     have n1:=H.le_new hwC (H.le_refl gC20) ⟨some 47,2,[.sl none 0 0 none, .bool false]⟩
     simp only[go_sem,ga,(g2 rb).2.2,H.gets_le n1 ga,(g2 (n1.2 _ _ rb)).2.2,q0,q3,q6,q7,List.length_cons,List.length_nil,Nat.zero_add,Nat.reduceAdd,true_and,and_true]
     clear n1
     have r8:=H.rows_new gC20 ⟨some 47,2,[.sl none 0 0 none, .bool false]⟩
     have hlx:=H.le_new hwC (H.le_refl gC20) ⟨some 47,2,[.sl none 0 0 none, .bool false]⟩
     have lt_r9_8:=H.row_lt hwC r9
     have lb_8:=lC.1
     have io_8:=hs.io_lt hwC
     replace hwC:=H.wf_new hwC ⟨some 47,2,[.sl none 0 0 none, .bool false]⟩
     generalize hR8:gC20.next=R8 at*
     generalize gC20.new ⟨some 47,2,[.sl none 0 0 none, .bool false]⟩=gA21 at*
     replace lC:=H.le_trans lC hlx
     replace rb:=hlx.2 _ _ rb
     replace hs:=hs.mono ZqL.grows hlx
     replace ga:=H.gets_le hlx ga
     replace nwz:=nwz.mono hlx
     replace ncc:=ncc.mono hlx
     replace r9:=hlx.2 _ _ r9
     replace hq:=hq.mono hlx
     replace hr:=hr.mono hlx
     refine⟨all22 oa0 oa1,put2 hw1 hwC lC (by omega) r8 rfl fun gS22 hwx lx _ r8n ex=> ?_⟩
     replace hwC:=hwx
     replace lC:=lx
     replace rb:=ex.2 _ _ (by omega) rb
     replace hs:=hs.boxQ (by intro e;have:=io_8 _ e;omega) r8 ex
     replace hq:=hq.lee2 r8 ex
     replace hr:=hr.lee2 r8 ex
     replace r9:=ex.2 _ _ (by omega) r9
     simp only[go_sem,q0,q3,q6,q7,List.length_cons,List.length_nil,Nat.zero_add,Nat.reduceAdd,true_and,and_true]
     refine⟨all22 ob0 ob1,put2 hw1 hwC lC (by omega) r9 rfl fun gS23 hwx lx _ r9n ex=> ?_⟩
     replace hwC:=hwx
     replace lC:=lx
     replace rb:=ex.2 _ _ (by omega) rb
     replace hs:=hs.boxQ (by intro e;have:=io_9 _ e;omega) r9 ex
     replace hq:=hq.lee2 r9 ex
     replace r8n:=ex.2 _ _ (by omega) r8n
     replace hr:=hr.lee2 r9 ex
     simp only[go_sem,q0,q3,q6,q7,List.length_cons,List.length_nil,Nat.zero_add,Nat.reduceAdd,true_and,and_true]
     exact⟨hwC,lC,rb,hs,R8,R9,_,_,_,_,by first|rfl|trivial|assumption,by first|rfl|trivial|assumption,r8n,r9n,hq,hr⟩
    ·skip
     have r8:=H.rows_new gA19 ⟨some 47,2,[.sl none 0 0 none, .bool false]⟩
     have hlx:=H.le_new hwC (H.le_refl gA19) ⟨some 47,2,[.sl none 0 0 none, .bool false]⟩
     have lt_r9_8:=H.row_lt hwC r9
     have lb_8:=lC.1
     have io_8:=hs.io_lt hwC
     replace hwC:=H.wf_new hwC ⟨some 47,2,[.sl none 0 0 none, .bool false]⟩
     generalize hR8:gA19.next=R8 at*
     generalize gA19.new ⟨some 47,2,[.sl none 0 0 none, .bool false]⟩=gA24 at*
     replace lC:=H.le_trans lC hlx
     replace rb:=hlx.2 _ _ rb
     replace hs:=hs.mono ZqL.grows hlx
     replace ga:=H.gets_le hlx ga
     replace nwz:=nwz.mono hlx
     replace ncc:=ncc.mono hlx
     replace r9:=hlx.2 _ _ r9
     refine zrTrunc_calls nwz ncc (hWz.big (by omega)) (hWc.big (by omega)) hcp fun q r gC25 hwx hlx hq hr=> ?_
     rw[sg_self,sg_self] at hq hr
     obtain⟨a0,a1,rfl,oa0,oa1⟩:=hq.two
     obtain⟨b0,b1,rfl,ob0,ob1⟩:=hr.two
     replace hwC:=hwx
     replace lC:=H.le_trans lC hlx
     replace rb:=hlx.2 _ _ rb
     replace hs:=hs.mono ZqL.grows hlx
     replace ga:=H.gets_le hlx ga
     replace nwz:=nwz.mono hlx
     replace ncc:=ncc.mono hlx
     replace r9:=hlx.2 _ _ r9
     replace r8:=hlx.2 _ _ r8
     simp only[go_sem,ga,(g2 rb).2.2,q0,q3,q6,q7,List.length_cons,List.length_nil,Nat.zero_add,Nat.reduceAdd,true_and,and_true]
     refine⟨all22 oa0 oa1,put2 hw1 hwC lC (by omega) r8 rfl fun gS26 hwx lx _ r8n ex=> ?_⟩
     replace hwC:=hwx
     replace lC:=lx
     replace rb:=ex.2 _ _ (by omega) rb
     replace hs:=hs.boxQ (by intro e;have:=io_8 _ e;omega) r8 ex
     replace hq:=hq.lee2 r8 ex
     replace hr:=hr.lee2 r8 ex
     replace r9:=ex.2 _ _ (by omega) r9
     simp only[go_sem,q0,q3,q6,q7,List.length_cons,List.length_nil,Nat.zero_add,Nat.reduceAdd,true_and,and_true]
     refine⟨all22 ob0 ob1,put2 hw1 hwC lC (by omega) r9 rfl fun gS27 hwx lx _ r9n ex=> ?_⟩
     replace hwC:=hwx
     replace lC:=lx
     replace rb:=ex.2 _ _ (by omega) rb
     replace hs:=hs.boxQ (by intro e;have:=io_9 _ e;omega) r9 ex
     replace hq:=hq.lee2 r9 ex
     replace r8n:=ex.2 _ _ (by omega) r8n
     replace hr:=hr.lee2 r9 ex
     simp only[go_sem,q0,q3,q6,q7,List.length_cons,List.length_nil,Nat.zero_add,Nat.reduceAdd,true_and,and_true]
     exact⟨hwC,lC,rb,hs,R8,R9,_,_,_,_,by first|rfl|trivial|assumption,by first|rfl|trivial|assumption,r8n,r9n,hq,hr⟩
  clear q0 q3 q6 q7 hs rb lC hwC ga nwz ncc lh
  rintro ρ g ⟨hwg,hle,q0,q3,q6,q7,rb,hs,Q,R,a0,a1,b0,b1,q8,q9,r8,r9,hq,hr⟩
  obtain⟨wr,er,nr⟩:=zr_open hr
  injection er with er
  injection er with er1 er2
  injection er2 with er2
  subst er1 er2
  simp only[go_sem,q0,q3,q6,q7,q8,q9,(g2 r9).2.2]
  refine zrZero_calls nr fun h5 hw5 hl5=> ?_
  rw[natAbs_eq0]
  by_cases hm0:zs[j].tmod c=0
  ·have hs5:=hs.mono ZqL.grows hl5
   have hq5:=hq.mono hl5
   have hof:=hq5.off hs5
   obtain⟨t0,t1,e8,oa0,oa1⟩:=hq.two
   injection e8 with e8
   injection e8 with e81 e82
   injection e82 with e82
   subst e81 e82
   have r8:=hl5.2 _ _ r8
   simp only[go_sem,decide_eq_true hm0,Bool.not_true,q0,q3,q6,q7,q8,(g2 r8).2.2,bldZ oa0 oa1]
   refine hs5.app ZqL.grows (by omega) hw1 hw5 (H.le_trans hle hl5) hlen.symm (y:=zs[j].tdiv c) ⟨hof,hWz.tdiv⟩ rfl (all2b oa0 oa1) (by omega) (by omega) rfl fun v6 h6 hw6 hl6 hs6=> ?_
   simp only[go_sem,q0,q3,q7,incI (i:=j) (by omega)]
   refine⟨by omega,hw6,hl6,by first|rfl|trivial|assumption,by first|rfl|trivial|assumption,by first|rfl|trivial|assumption,fun i hi=> ?_, ?_⟩
   ·rcases Nat.lt_or_ge i j with h9|h9
    ·exact hmod i h9
    ·obtain rfl:i=j:=by omega
     rw[getG_in c1]
     exact hm0
   ·rw[List.take_succ_eq_append_getElem c1,List.map_append]
    exact hs6
  ·simp only[go_sem,decide_eq_false hm0,Bool.not_false]
   exact fun hw'=>hk1 h5 hw' ((H.le_trans hl1 (H.le_trans hle hl5))) ⟨zs[j],List.getElem_mem c1,hm0⟩
 ·obtain rfl:j=zs.length:=by omega
  rw[List.take_length] at hs
  simp only[go_sem,q0,q7,ltF (Nat.le_refl zs.length)]
  exact fun hw'=>hk _ g hw' (H.le_trans hl1 lC) (fun z hz=>by
   obtain⟨i,hi,rfl⟩:=List.getElem_of_mem hz
   rw[←getG_in (z:=0) hi]
   exact hmod i hi) (hs.isA ZqL.grows)
end
end
section
section
variable {t:Tb} {va vb wc:AV} {bc ev:Bool} {ps0 qs0:List (Bool×List Nat)} {cs0:List Nat} {h:H} {K:AV→H→Prop}
set_option maxHeartbeats 2000000 in
theorem PolyzOvers_law (hv0:IsA 2 IsI h va ps0) (hl0:ps0.length≤maxLen) (hc0:IsN h wc cs0) (hcd:Dig cs0) (hk:∀h',h'.wf→K (.bool true) h'):ACalls Tryz.prog 5 [t.av,va, .agg [wc, .bool bc], .bool ev] h K:=by
 refine in_law28_PolyzOvers (by simp) fun hw=> ?_
 unfold c_law28_PolyzOvers
 have hmx:maxLen≤9223372036854775807:=by decide
 simp only[go_sem,av_held,av_cells,cells_len,true_and]
 simp only[AV.cells,List.length_cons,List.length_nil,Nat.zero_add,Nat.reduceAdd]
 refine⟨rfl, ?_⟩
 generalize hh:(h.new ⟨some 23,11,t.cells⟩).new ⟨some 39,2,[wc, .bool bc]⟩=g0
 obtain⟨hlA,hw0,hn0,hr0,hr6⟩:=new2 hw hh
 have hR:(h.new ⟨some 23,11,t.cells⟩).next=h.next+1:=rfl
 rw[hR]
 clear hh hR
 refine cut28_calls (k:=12) (n:=3) (hv0.mono IsI.grows hlA) (by omega) (by omega) (by omega) fun a x ps ys1 h1 hw1 hl1 _ hpl _ haw hx htx hyl1 hsa hsx=> ?_
 have hr0:=hl1.2 _ _ hr0
 have hr6:=hl1.2 _ _ hr6
 have hpl2:(ps.map zI).length≤12:=by rw[List.length_map];exact hpl
 rw[←List.length_map (f:=zI)] at hyl1
 generalize ps.map zI=zs at*
 simp only[go_sem,(g2 hr6).2.2]
 refine CutInt_calls (n:=2) ((hc0.mono hlA).mono hl1) (by decide) fun w h2 hw2 hl2 hcw=> ?_
 have hr0:=hl2.2 _ _ hr0
 have hr6:=hl2.2 _ _ hr6
 have hcone:w.one=true:=by obtain⟨_,_,_,rfl⟩:=hcw.form;rfl
 have hcd3:Dig (cs0.take 2):=Dig.take hcd 2
 have hcl3:(cs0.take 2).length≤2:=by rw[List.length_take];omega
 generalize cs0.take 2=cs at*
 have haw:=haw.mono ZwL.grows hl2
 have hx:=hx.mono ZqL.grows hl2
 have nc:Nn h2 w (val 18446744073709551616 cs):=hcw.nn hcd3 (by omega)
 have hWc:Wz 2 (sg bc (val 18446744073709551616 cs)):=by
  unfold Wz
  rw[sg_abs]
  exact Nat.le_trans (wlen_len hcd3) hcl3
 have hzc:(sg bc (val 18446744073709551616 cs)).natAbs=val 18446744073709551616 cs:=sg_abs _ _
 generalize val 18446744073709551616 cs=xc at*
 simp only[go_sem]
 refine⟨by trivial,all2 hcone,put2 hw hw2 ((H.le_trans hlA (H.le_trans hl1 hl2))) (by omega) hr6 rfl fun g4 hw4 hl4 _ hr6n e4=> ?_⟩
 have haw:IsA 2 (ZwL 3) g4 a zs:=haw.other hsa (by omega) hr6 e4 fun _ _ hx=>⟨hx.1.lee2 hr6 e4,hx.2⟩
 have hx:IsA 2 (ZqL 3) g4 x ys1:=hx.other hsx (by omega) hr6 e4 fun _ _ hx=>⟨hx.1.lee2 hr6 e4,hx.2⟩
 have nc:=nc.lee2 hr6 e4
 have hr0:=e4.2 _ _ (by omega) hr0
 have hr6:=hr6n
 clear hr6n e4 hcw
 simp only[go_sem,(g2 hr6).2.2]
 refine zrFrom_calls nc fun o h5 hw5 hl5 ho=> ?_
 obtain⟨wz,rfl,nz⟩:=zr_open ho
 have nzone:=nz.one
 have nc:=nc.mono hl5
 have hr0:=hl5.2 _ _ hr0
 have hr6:=hl5.2 _ _ hr6
 have haw:=haw.mono ZwL.grows hl5
 have hx:=hx.mono ZqL.grows hl5
 simp only[go_sem]
 have r10:=H.rows_new h5 ⟨some 47,2,[.sl none 0 0 none, .bool false]⟩
 have hl6:=H.le_new hw5 (H.le_refl h5) ⟨some 47,2,[.sl none 0 0 none, .bool false]⟩
 have hw6:=H.wf_new hw5 ⟨some 47,2,[.sl none 0 0 none, .bool false]⟩
 have l5:=H.le_trans hl4 hl5
 have hn5:=l5.1
 have hlt6:=H.row_lt hw5 hr6
 simp only[List.length_cons,List.length_nil,Nat.zero_add,Nat.reduceAdd]
 have hax:∀g (v:AV) (zs:List Int),h5.wf→IsA 2 (ZwL 3) h5 v zs→H.lee h5.next h5 g→(∀c z,ZwL 3 h5 c z→ZwL 3 g c z)→IsA 2 (ZwL 3) g v zs:=fun g v zs hw hv hl hR=>by
  obtain⟨cs,⟨h0,id,off,c,rfl,h1⟩,h2⟩:=hv
  refine⟨cs,⟨h0,id,off,c,rfl, ?_⟩,h2.mono hR⟩
  rcases h1 with h1|⟨j,r,rfl,hr,h3⟩
  ·exact .inl h1
  ·exact .inr ⟨j,r,rfl,hl.2 j r (by have:=H.row_lt hw hr;omega) hr,h3⟩
 have hqx:∀g (v:AV) (zs:List Int),h5.wf→IsA 2 (ZqL 3) h5 v zs→H.lee h5.next h5 g→(∀c z,ZqL 3 h5 c z→ZqL 3 g c z)→IsA 2 (ZqL 3) g v zs:=fun g v zs hw hv hl hR=>by
  obtain⟨cs,⟨h0,id,off,c,rfl,h1⟩,h2⟩:=hv
  refine⟨cs,⟨h0,id,off,c,rfl, ?_⟩,h2.mono hR⟩
  rcases h1 with h1|⟨j,r,rfl,hr,h3⟩
  ·exact .inl h1
  ·exact .inr ⟨j,r,rfl,hl.2 j r (by have:=H.row_lt hw hr;omega) hr,h3⟩
 generalize hR10:h5.next=R10 at*
 generalize h5.new ⟨some 47,2,[.sl none 0 0 none, .bool false]⟩=g6 at*
 refine⟨by trivial,all2 nzone,put2 hw hw6 (H.le_trans l5 hl6) (by omega) r10 rfl fun g7 hw7 hl7 _ r10n e7=> ?_⟩
 have l57:H.lee R10 h5 g7:=hl6.lee.trans e7
 have haw:IsA 2 (ZwL 3) g7 a zs:=hax g7 a zs hw5 haw l57 fun c z hz=>⟨(hz.1.mono hl6).lee2 r10 e7,hz.2⟩
 have hx:IsA 2 (ZqL 3) g7 x ys1:=hqx g7 x ys1 hw5 hx l57 fun c z hz=>⟨(hz.1.mono hl6).lee2 r10 e7,hz.2⟩
 have nc:=(nc.mono hl6).lee2 r10 e7
 have nz:=(nz.mono hl6).lee2 r10 e7
 have hr0:=e7.2 _ _ (by omega) (hl6.2 _ _ hr0)
 have hr6:=e7.2 _ _ (by omega) (hl6.2 _ _ hr6)
 have hlt10:=H.row_lt hw7 r10n
 have hn7:=hl7.1
 clear r10 hl6 hw6 e7 hax hqx l57 hl5 hw5 hl4 hw4
 simp only[go_sem]
 refine cond_cut (fun ρ' g=>g.wf∧h.le g∧R10<g.next∧ρ' 4= .ptr (some (h.next,0))∧ρ' 6= .ptr (some (h.next+1,0))∧ρ' 10= .ptr (some (R10,0))∧g.rows h.next=some ⟨some 23,11,t.cells⟩∧g.rows (h.next+1)=some ⟨some 39,2,[w, .bool bc]⟩∧g.rows R10=some ⟨some 47,2,[wz, .bool (decide (sg bc xc<0))]⟩∧Nn g w xc∧Num 4294967296 g wz (sg bc xc).natAbs∧
  ∃zs ys,IsA 2 (ZwL 5) g (ρ' 1) zs∧IsA 2 (ZqL 5) g (ρ' 9) ys∧TrimG 0 (fun i=>zs.getD i 0) ys∧zs.length≤12∧ys.length≤12) ?_ ?_
 ·cases ev
  ·simp only[go_sem]
   exact⟨hw7,hl7,hlt10,by first|rfl|trivial|assumption,by first|rfl|trivial|assumption,by first|rfl|trivial|assumption,hr0,hr6,r10n,nc,nz,zs,ys1,haw.imp fun _ _ hx=>⟨hx.1,hx.2.le (by omega)⟩,hx.imp fun _ _ hx=>⟨hx.1,hx.2.le (by omega)⟩,htx,hpl2,by omega⟩
  ·simp only[go_sem,(g2 r10n).2.2]
   refine zrScale_calls hx (by omega) nz hWc (by omega) fun r1 m1 h8 hw8 hl8 hr1 ht1 hm1=> ?_
   have hr0:=hl8.2 _ _ hr0
   have hr6:=hl8.2 _ _ hr6
   have r10n:=hl8.2 _ _ r10n
   simp only[go_sem]
   refine zrToL_calls (by omega) hr1 (by omega) fun r2 h9 hw9 hl9 hr2=> ?_
   have hr0:=hl9.2 _ _ hr0
   have hr6:=hl9.2 _ _ hr6
   have r10n:=hl9.2 _ _ r10n
   simp only[go_sem]
   have l79:=H.le_trans hl8 hl9
   have hn9:=l79.1
   exact⟨hw9,H.le_trans hl7 l79,by omega,by first|rfl|trivial|assumption,by first|rfl|trivial|assumption,by first|rfl|trivial|assumption,hr0,hr6,r10n,nc.mono l79,nz.mono l79,m1,m1,(hr2.isA ZbL.grows).imp fun _ _ hx=>hx.zw (by omega),hr1.mono ZqL.grows hl9,⟨fun i=>rfl,ht1.2⟩,by omega,by omega⟩
 rintro ρ g ⟨hwg,hlg,hlt10,q4,q6,q10,r4,r6,r10,nc,nz,zs,ys,haw,hx,htx,hpl,hyl⟩
 have hlt6:=H.row_lt hwg r6
 simp only[go_sem,q4,q6,q10,gsT r4]
 refine pzNew_calls fun e u h5 hw5 hl5 hn5 hue he ht=> ?_
 have r6:=hl5.2 _ _ r6
 have r10:=hl5.2 _ _ r10
 have haw:=haw.mono ZwL.grows hl5
 have hx:=hx.mono ZqL.grows hl5
 have nc:=nc.mono hl5
 have nz:=nz.mono hl5
 simp only[go_sem,Option.isNone,Bool.false_bne,q6,q10,(g2 r6).2.2]
 refine zOver_calls (clamp_ok _) he ht haw (by omega) nc hWc (by omega) (by omega) (by omega) (fun hx0 h6 s6=> ?_) (fun hcp us h6 s6 htu hnot=> ?_) (fun hcp us r h6 s6 htu hul hall hr=> ?_)
 ·have r10:=s6.lee.2 _ _ (by omega) r10
  have nz6:Num 4294967296 h6 wz (sg bc xc).natAbs:=nz.monoE ht s6.lee
  simp only[go_sem,q10,(g2 r10).2.2]
  refine zrZero_calls nz6 fun h7 hw7 hl7=> ?_
  simp only[go_sem,hzc,decide_eq_true hx0,show((2:Int)==2)=true from rfl,show(((0:Nat):Int)==0)=true from rfl]
  refine wakes28_calls fun h8 hw8 hl8=> ?_
  simp only[go_sem]
  exact fun hw'=>hk h8 hw'
 ·have r10:=s6.lee.2 _ _ (by omega) r10
  have nz6:Num 4294967296 h6 wz (sg bc xc).natAbs:=nz.monoE ht s6.lee
  have hx6:=s6.zq ht hx
  obtain rfl:=htu.uniq htx
  simp only[go_sem,q10,(g2 r10).2.2]
  refine zrZero_calls nz6 fun h7 hw7 hl7=> ?_
  have r10:=hl7.2 _ _ r10
  simp only[go_sem,hzc,decide_eq_false (show¬xc=0 by omega),q10,(g2 r10).2.2]
  refine zrOver_calls (hx6.mono ZqL.grows hl7) (by omega) (nz6.mono hl7) hWc (by omega) (by omega) (by omega) (fun h8 hw8 hl8 _=> ?_) (fun r h8 hw8 hl8 hall _=> ?_)
  ·simp only[go_sem,Bool.not_false,show((5:Int)==5)=true from rfl,show(((0:Nat):Int)==0)=true from rfl]
   refine wakes28_calls fun h9 hw9 hl9=> ?_
   simp only[go_sem]
   exact fun hw'=>hk h9 hw'
  ·obtain⟨z,hz,hz0⟩:=hnot
   exact absurd (hall z hz) hz0
 ·have r10:=s6.lee.2 _ _ (by omega) r10
  have nz6:Num 4294967296 h6 wz (sg bc xc).natAbs:=nz.monoE ht s6.lee
  have hx6:=s6.zq ht hx
  obtain rfl:=htu.uniq htx
  simp only[go_sem,q10,(g2 r10).2.2]
  refine zrZero_calls nz6 fun h7 hw7 hl7=> ?_
  have r10:=hl7.2 _ _ r10
  simp only[go_sem,hzc,decide_eq_false (show¬xc=0 by omega),q10,(g2 r10).2.2]
  refine zrOver_calls (hx6.mono ZqL.grows hl7) (by omega) (nz6.mono hl7) hWc (by omega) (by omega) (by omega) (fun h8 hw8 hl8 hnot=> ?_) (fun r2 h8 hw8 hl8 _ hr2=> ?_)
  ·obtain⟨z,hz,hz0⟩:=hnot
   exact absurd (hall z hz) hz0
  ·simp only[go_sem,Bool.not_true,show((0:Int)==0)=true from rfl]
   refine zSame28_calls (by omega) hr2 (IsA.zt (hr.mono ZbL.grows (H.le_trans hl7 hl8))) (by rw[List.length_map];omega) fun h9 hw9 hl9=> ?_
   simp only[go_sem]
   refine wakes28_calls fun h10 hw10 hl10=> ?_
   simp only[go_sem]
   exact fun hw'=>hk h10 hw'
set_option maxRecDepth 100000 in
theorem PolyzOvers_row (h:H) (avs:List AV) (_:h.wf) (r:ReadsAll Tryz.prog h [23,24,39,4] avs):ACalls Tryz.prog 5 avs h (fun r _=>r= .bool true):=by
 match avs,r with
 |[_,_,_,_],⟨r0,r1,r2,r3,_⟩=>
  obtain⟨t0,rfl⟩:=reads_table r0
  obtain⟨ps,h1,h1l⟩:=reads_wholes r1
  obtain⟨_,_,xs,rfl,h2,hx,_⟩:=reads_whole r2
  obtain⟨b,rfl⟩:=reads_bool r3
  exact PolyzOvers_law h1 h1l h2 hx fun _ _=>rfl
end
end
end Ab
end Go.Proofs.YtkbglkjpdndkiaaGreatDoor
