/- Joined texts: I2 I3 I4 I5 I6 I8 I10 I15 I16 N2 N3 X1 X20 X2 W7 X3 X4 X5. No condition. -/
import Derived.Test.YtkbglkjpdndkiaaGreatDoorZ13
import Derived.Test.YtkbglkjpdndkiaaGreatDoorProg
import Derived.KernelRfl
namespace Go.Proofs.YtkbglkjpdndkiaaGreatDoor
namespace Ab
open Go Go.RowKit
set_option linter.unusedSimpArgs false
set_option linter.unusedVariables false
attribute [local go_sem ↓] x_mv x_pick x_bin x_beq x_peq x_seq x_cat x_aeq x_idxS x_idxV x_un x_cvI x_bts x_idx x_idxA x_fld x_ld x_st x_nn x_prt x_slc x_mk x_bsl x_bld x_box x_alloc x_len x_capo x_mnx x_app x_cpy x_mkf x_ext x_call x_callV x_bad s_none s_some s_nil s_cons s_chks w_skip w_reg tP_fin tP_no tP_alt w_seq w_cond w_block w_exit w_ret t_normal t_exit t_ret b_normal b_ret b_exit n_normal n_exit n_ret p_normal p_ret f_nil f_t f_c k_ops k_chk k_fin
attribute [local go_sem] e_t e_c e_f u_some u_none u_at env_at k_v k_pick k_add k_sub k_mul k_quo k_rem k_and k_or k_xor k_shl k_shr k_eql k_neq k_lss k_leq k_gtr k_geq k_beq k_peqn k_peqs k_neg k_not k_com k_cvI k_idxS k_idxV1 k_idxVn k_idx k_idxA k_idxG k_ldG k_gld k_seq k_cat k_aeq k_eqs k_fld k_ld1 k_ldn k_get k_gets k_sti k_stb k_stp k_sts k_stf k_sta k_put k_nn k_prt1 k_prtn k_slc_a k_slc_b k_slc_c k_mk k_agg k_bsl k_box k_len k_lenS k_cap k_max k_min k_ext k_callV k_true k_false k_gtt k_gtf k_gft k_gsk k_gff k_lit1i k_lit2i k_lit3i k_c0 k_c1 k_ck List.getElem?_cons_zero List.getElem?_cons_succ List.getElem?_nil Option.getD_some Option.getD_none tupOf List.map_cons List.map_nil Option.map_some Option.map_none List.nil_append List.cons_append List.append_nil Nat.mul_one Int.toNat_natCast Nat.zero_add
attribute [local go_sem] e_t e_c e_f u_some u_none u_at env_at k_v k_pick k_add k_sub k_mul k_quo k_rem k_and k_or k_xor k_shl k_shr k_eql k_neq k_lss k_leq k_gtr k_geq k_beq k_peqn k_peqs k_neg k_not k_com k_cvI k_idxS k_idxV1 k_idxVn k_idx k_idxA k_idxG k_ldG k_gld k_seq k_cat k_aeq k_eqs k_fld k_ld1 k_ldn k_get k_gets k_sti k_stb k_stp k_sts k_stf k_sta k_put k_nn k_prt1 k_prtn k_slc_a k_slc_b k_slc_c k_mk k_agg k_bsl k_box k_len k_lenS k_cap k_max k_min k_ext k_callV k_true k_false k_gtt k_gtf k_gft k_gsk k_gff k_lit1i k_lit2i k_lit3i k_c0 k_c1 k_ck List.getElem?_cons_zero List.getElem?_cons_succ List.getElem?_nil Option.getD_some Option.getD_none tupOf List.map_cons List.map_nil Option.map_some Option.map_none List.nil_append List.cons_append List.append_nil Nat.mul_one Int.toNat_natCast Nat.zero_add
--what a store into a cell of two leaves
attribute [local go_sem_proc] Nat.reduceEqDiff Nat.reduceAdd Int.reduceToNat
attribute [local go_sem_proc ↓] reduceIte
attribute [local go_sem] Bool.false_eq_true
section
section
variable {v u wa wb:AV} {ba bb:Bool} {x y:Nat} {h:H} {K:AV→H→Prop}
theorem zAdd_calls (na:Nn h wa x) (nb:Nn h wb y) (hx:Big x) (hy:Big y) (hxy:Big (x+y)) (hk:∀r h',h'.wf→h.le h'→Zf h.next h' r (sg ba x+sg bb y)→K r h'):ACalls Tryz.prog 44 [.agg [wa, .bool ba], .agg [wb, .bool bb]] h K:=by
 refine in_num_Add (by simp) fun hw=> ?_
 unfold c_num_Add
 simp only[go_sem]
 simp only[AV.cells,List.length_cons,List.length_nil,Nat.zero_add,Nat.reduceAdd]
 refine⟨rfl,rfl, ?_⟩
 generalize hh:((h.new ⟨some 39,2,_⟩).new ⟨some 39,2,_⟩).new ⟨some 39,2,_⟩=h1
 obtain⟨hl1,hw1,hn1,r1,r2,r3⟩:=new3 hw hh
 obtain⟨a1,a2,a3⟩:=g2 r1
 obtain⟨b1,b2,b3⟩:=g2 r2
 have na1:=na.mono hl1
 have nb1:=nb.mono hl1
 change∀r h',h'.wf→h.le h'→Zf h.next h' r (sg ba x+sg bb y)→K r h' at hk
 have hR:(h.new ⟨some 39,2,[wa, .bool ba]⟩).next=h.next+1:=rfl
 have hR2:((h.new ⟨some 39,2,[wa, .bool ba]⟩).new ⟨some 39,2,[wb, .bool bb]⟩).next=h.next+2:=rfl
 --what follows the last call
 have fin:∀(h3:H) (r:AV) (c:Bool) (z:Nat) (Q:AV→H→Prop),h3.wf→h1.le h3→Nf h1.next h3 r z→(∀g:H,g.wf→h.le g→g.gets (h.next+2) 0 2=some [r, .bool (c&&decide (z≠0))]→Nf h.next g r z→Q .junk g)→putK (h3.rows (h.next+2)) (h.next+2) 0 2 [r, .bool (c&&decide (z≠0))] h3 Q:=fun h3 r c z Q hw3 hl3 hr hQ=>
  put2 hw hw3 (H.le_trans hl1 hl3) (by omega) (hl3.2 _ _ r3) rfl fun g hwg hlg hg _ hle=>hQ g hwg hlg hg ((hr.base hl1.1).leeT (hl3.2 _ _ r3) rfl (by decide) hle)
 by_cases hab:ba=bb
 ·subst hab
  rw[sg_add_same] at hk
  simp only[go_sem,hR,hR2,a1,a2,b1,b2,Nat.zero_add,beq_self_eq_true]
  refine lAdd_calls na1 nb1 fun r h2 hw2 hl2 hr=> ?_
  obtain⟨c1,c2,c3⟩:=g2 (hl2.2 _ _ r1)
  simp only[go_sem,hR,hR2,c1,c2,Nat.zero_add]
  refine⟨by simp, ?_⟩
  refine made_calls (hr.nn hxy) fun h3 hw3 hl3=> ?_
  simp only[go_sem,hR,hR2]
  refine⟨rfl,all2 hr.one,fin h3 r ba _ _ hw3 (H.le_trans hl2 hl3) (hr.mono hl3) fun g hwg hlg hg hz=> ?_⟩
  simp only[go_sem,hg]
  exact fun _=>hk _ g hwg hlg (sg_zf hz)
 ·have hbe:(ba==bb)=false:=by simpa using hab
  simp only[go_sem,hR,hR2,a1,a2,b1,b2,Nat.zero_add,hbe]
  refine lSub_calls na1 nb1 (fun hlt _=> ?_) fun hge r h2 hw2 hl2 hr=> ?_
  ·rw[sg_add_lt hab (by omega)] at hk
   simp only[go_sem,hR,hR2,a1,a2,b1,b2,Nat.zero_add]
   refine lSub_calls nb1 na1 (fun h=>absurd h (by omega)) fun _ r h2 hw2 hl2 hr=> ?_
   obtain⟨c1,c2,c3⟩:=g2 (hl2.2 _ _ r2)
   simp only[go_sem,hR,hR2,c1,c2,Nat.zero_add]
   refine made_calls (hr.nn (hy.le (by omega))) fun h3 hw3 hl3=> ?_
   simp only[go_sem,hR,hR2]
   refine⟨rfl,all2 hr.one,fin h3 r bb _ _ hw3 (H.le_trans hl2 hl3) (hr.mono hl3) fun g hwg hlg hg hz=> ?_⟩
   simp only[go_sem,hg]
   exact fun _=>hk _ g hwg hlg (sg_zf hz)
  ·rw[sg_add_ge hab hge] at hk
   obtain⟨c1,c2,c3⟩:=g2 (hl2.2 _ _ r1)
   simp only[go_sem,hR,hR2,c1,c2,Nat.zero_add]
   refine made_calls (hr.nn (hx.le (by omega))) fun h3 hw3 hl3=> ?_
   simp only[go_sem,hR,hR2]
   refine⟨rfl,all2 hr.one,fin h3 r ba _ _ hw3 (H.le_trans hl2 hl3) (hr.mono hl3) fun g hwg hlg hg hz=> ?_⟩
   simp only[go_sem,hg]
   exact fun _=>hk _ g hwg hlg (sg_zf hz)
theorem zrZero_calls (nv:Num 4294967296 h v x) (hk':∀h',h'.wf→h.le h'→K (.bool (decide (x=0))) h'):ACalls Tryz.prog 24 [.agg [v, .bool ba]] h K:=by
 refine in_ref17_Zero (by simp) fun hw=> ?_
 unfold c_ref17_Zero
 simp only[go_sem]
 simp only[AV.cells,List.length_cons,List.length_nil,Nat.zero_add,Nat.reduceAdd]
 refine⟨rfl, ?_⟩
 have r1:=H.rows_new h ⟨some 47,2,[v, .bool ba]⟩
 have hl1:=H.le_new hw (H.le_refl h) ⟨some 47,2,[v, .bool ba]⟩
 obtain⟨a1,a2,a3⟩:=g2 r1
 simp only[go_sem,a1,Nat.zero_add]
 refine rZero_calls (nv.mono hl1) ?_
 simp only[go_sem]
 exact fun hw'=>hk' _ hw' hl1
theorem zrFrom_calls (nv:Nn h wa x) (hk:∀r h',h'.wf→h.le h'→Zr h' r (sg ba x)→K r h'):ACalls Tryz.prog 19 [.agg [wa, .bool ba]] h K:=by
 refine in_ref17_From (by simp) fun hw=> ?_
 unfold c_ref17_From
 simp only[go_sem]
 simp only[AV.cells,List.length_cons,List.length_nil,Nat.zero_add,Nat.reduceAdd]
 refine⟨rfl, ?_⟩
 generalize hh:(h.new ⟨some 39,2,_⟩).new ⟨some 47,2,_⟩=h1
 obtain⟨hl1,hw1,hn1,r1,r2⟩:=new2 hw hh
 obtain⟨a1,a2,a3⟩:=g2 r1
 have hR:(h.new ⟨some 39,2,[wa, .bool ba]⟩).next=h.next+1:=rfl
 simp only[go_sem,hR,a1,a2,Nat.zero_add]
 obtain⟨xs,v1,v2,v3,rfl⟩:=nv.mono hl1
 refine From_calls v1 v2 v3 fun r h2 hw2 hl2 hr=> ?_
 obtain⟨b1,b2,b3⟩:=g2 (hl2.2 _ _ r1)
 simp only[go_sem,hR,b1,b2,Nat.zero_add]
 refine⟨by simp, ?_⟩
 refine rmade_calls hr fun h3 hw3 hl3=> ?_
 have l13:=H.le_trans hl2 hl3
 simp only[go_sem,hR]
 refine⟨rfl,all2 hr.one,put2 hw hw3 (H.le_trans hl1 l13) (by omega) (l13.2 _ _ r2) rfl fun g hwg hlg hg _ hle=> ?_⟩
 simp only[go_sem,hg]
 exact fun _=>hk _ g hwg hlg (sg_zr ((hr.mono hl3).leeT (l13.2 _ _ r2) (by simp) hle))
theorem zrTo_calls (nv:Num 4294967296 h v x) (hx:Big x) (h0:x=0→ba=false) (hk:∀r h',h'.wf→h.le h'→Zf h.next h' r (sg ba x)→K r h'):ACalls Tryz.prog 17 [.agg [v, .bool ba]] h K:=by
 refine in_ref17_To (by simp) fun hw=> ?_
 unfold c_ref17_To
 simp only[go_sem]
 simp only[AV.cells,List.length_cons,List.length_nil,Nat.zero_add,Nat.reduceAdd]
 refine⟨rfl, ?_⟩
 generalize hh:(h.new ⟨some 47,2,_⟩).new ⟨some 39,2,_⟩=h1
 obtain⟨hl1,hw1,hn1,r1,r2⟩:=new2 hw hh
 obtain⟨a1,a2,a3⟩:=g2 r1
 have hR:(h.new ⟨some 47,2,[v, .bool ba]⟩).next=h.next+1:=rfl
 simp only[go_sem,hR,a1,a2,Nat.zero_add]
 refine To_calls (nv.mono hl1) hx fun r h2 hw2 hl2 hr=> ?_
 obtain⟨b1,b2,b3⟩:=g2 (hl2.2 _ _ r1)
 simp only[go_sem,hR,b1,b2,Nat.zero_add]
 refine⟨by simp, ?_⟩
 simp only[go_sem,bldI hr.one,hR]
 refine⟨rfl,all2 hr.one,put2 hw hw2 (H.le_trans hl1 hl2) (by omega) (hl2.2 _ _ r2) rfl fun g hwg hlg hg _ hle=> ?_⟩
 simp only[go_sem,hg]
 exact fun _=>hk _ g hwg hlg ⟨r,ba,x,rfl,(hr.base hl1.1).leeT (hl2.2 _ _ r2) rfl (by decide) hle,h0,rfl⟩
theorem zrAdd_calls (na:Num 4294967296 h wa x) (nb:Num 4294967296 h wb y) (hx:Big x) (hy:Big y) (hk:∀r h',h'.wf→h.le h'→Zr h' r (sg ba x+sg bb y)→K r h'):ACalls Tryz.prog 40 [.agg [wa, .bool ba], .agg [wb, .bool bb]] h K:=by
 refine in_ref17_Add (by simp) fun hw=> ?_
 unfold c_ref17_Add
 simp only[go_sem]
 simp only[AV.cells,List.length_cons,List.length_nil,Nat.zero_add,Nat.reduceAdd]
 refine⟨rfl,rfl, ?_⟩
 generalize hh:((h.new ⟨some 47,2,_⟩).new ⟨some 47,2,_⟩).new ⟨some 47,2,_⟩=h1
 obtain⟨hl1,hw1,hn1,r1,r2,r3⟩:=new3 hw hh
 obtain⟨a1,a2,a3⟩:=g2 r1
 obtain⟨b1,b2,b3⟩:=g2 r2
 have na1:=na.mono hl1
 have nb1:=nb.mono hl1
 have hR:(h.new ⟨some 47,2,[wa, .bool ba]⟩).next=h.next+1:=rfl
 have hR2:((h.new ⟨some 47,2,[wa, .bool ba]⟩).new ⟨some 47,2,[wb, .bool bb]⟩).next=h.next+2:=rfl
 have fin:∀(h3:H) (r:AV) (c:Bool) (z:Nat) (Q:AV→H→Prop),h3.wf→h1.le h3→Num 4294967296 h3 r z→(∀g:H,g.wf→h.le g→g.gets (h.next+2) 0 2=some [r, .bool (c&&decide (z≠0))]→Num 4294967296 g r z→Q .junk g)→putK (h3.rows (h.next+2)) (h.next+2) 0 2 [r, .bool (c&&decide (z≠0))] h3 Q:=fun h3 r c z Q hw3 hl3 hr hQ=>
  put2 hw hw3 (H.le_trans hl1 hl3) (by omega) (hl3.2 _ _ r3) rfl fun g hwg hlg hg _ hle=>hQ g hwg hlg hg (hr.leeT (hl3.2 _ _ r3) (by simp) hle)
 by_cases hab:ba=bb
 ·subst hab
  rw[sg_add_same] at hk
  simp only[go_sem,hR,hR2,a1,a2,b1,b2,Nat.zero_add,beq_self_eq_true]
  refine Add_calls na1 nb1 hx hy fun r h2 hw2 hl2 hr=> ?_
  obtain⟨c1,c2,c3⟩:=g2 (hl2.2 _ _ r1)
  simp only[go_sem,hR,hR2,c1,c2,Nat.zero_add]
  refine⟨by simp, ?_⟩
  refine rmade_calls hr fun h3 hw3 hl3=> ?_
  simp only[go_sem,hR,hR2]
  refine⟨rfl,all2 hr.one,fin h3 r ba _ _ hw3 (H.le_trans hl2 hl3) (hr.mono hl3) fun g hwg hlg hg hz=> ?_⟩
  simp only[go_sem,hg]
  exact fun _=>hk _ g hwg hlg (sg_zr hz)
 ·have hbe:(ba==bb)=false:=by simpa using hab
  simp only[go_sem,hR,hR2,a1,a2,b1,b2,Nat.zero_add,hbe]
  refine Cmp_calls na1 nb1 hx hy ?_
  rcases Nat.lt_or_ge x y with hlt|hge
  ·rw[sg_add_lt hab (by omega)] at hk
   rw[show cmpI x y= -1 by unfold cmpI;rw[if_pos hlt]]
   simp only[go_sem,hR,hR2,a1,a2,b1,b2,Nat.zero_add,show decide ((-1:Int)≥0)=false from rfl]
   refine rSub_calls nb1 na1 hy (by omega) fun r h2 hw2 hl2 hr=> ?_
   obtain⟨c1,c2,c3⟩:=g2 (hl2.2 _ _ r2)
   simp only[go_sem,hR,hR2,c1,c2,Nat.zero_add]
   refine⟨by simp, ?_⟩
   refine rmade_calls hr fun h3 hw3 hl3=> ?_
   simp only[go_sem,hR,hR2]
   refine⟨rfl,all2 hr.one,fin h3 r bb _ _ hw3 (H.le_trans hl2 hl3) (hr.mono hl3) fun g hwg hlg hg hz=> ?_⟩
   simp only[go_sem,hg]
   exact fun _=>hk _ g hwg hlg (sg_zr hz)
  ·rw[sg_add_ge hab hge] at hk
   have hc:decide (cmpI x y≥0)=true:=by
    unfold cmpI
    rw[if_neg (by omega)]
    split<;>rfl
   simp only[go_sem,hR,hR2,a1,a2,b1,b2,Nat.zero_add,hc]
   refine rSub_calls na1 nb1 hx hge fun r h2 hw2 hl2 hr=> ?_
   obtain⟨c1,c2,c3⟩:=g2 (hl2.2 _ _ r1)
   simp only[go_sem,hR,hR2,c1,c2,Nat.zero_add]
   refine⟨by simp, ?_⟩
   refine rmade_calls hr fun h3 hw3 hl3=> ?_
   simp only[go_sem,hR,hR2]
   refine⟨rfl,all2 hr.one,fin h3 r ba _ _ hw3 (H.le_trans hl2 hl3) (hr.mono hl3) fun g hwg hlg hg hz=> ?_⟩
   simp only[go_sem,hg]
   exact fun _=>hk _ g hwg hlg (sg_zr hz)
theorem zrMul_calls (na:Num 4294967296 h wa x) (nb:Num 4294967296 h wb y) (hx:Big x) (hy:Big y) (hk:∀r h',h'.wf→h.le h'→Zr h' r (sg ba x*sg bb y)→K r h'):ACalls Tryz.prog 41 [.agg [wa, .bool ba], .agg [wb, .bool bb]] h K:=by
 refine in_ref17_Mul (by simp) fun hw=> ?_
 unfold c_ref17_Mul
 rw[sg_mul] at hk
 simp only[go_sem]
 simp only[AV.cells,List.length_cons,List.length_nil,Nat.zero_add,Nat.reduceAdd]
 refine⟨rfl,rfl, ?_⟩
 generalize hh:((h.new ⟨some 47,2,_⟩).new ⟨some 47,2,_⟩).new ⟨some 47,2,_⟩=h1
 obtain⟨hl1,hw1,hn1,r1,r2,r3⟩:=new3 hw hh
 obtain⟨a1,a2,a3⟩:=g2 r1
 obtain⟨b1,b2,b3⟩:=g2 r2
 have hR:(h.new ⟨some 47,2,[wa, .bool ba]⟩).next=h.next+1:=rfl
 have hR2:((h.new ⟨some 47,2,[wa, .bool ba]⟩).new ⟨some 47,2,[wb, .bool bb]⟩).next=h.next+2:=rfl
 simp only[go_sem,hR,hR2,a1,a2,b1,b2,Nat.zero_add]
 refine Mul_calls (na.mono hl1) (nb.mono hl1) hx hy fun r h2 hw2 hl2 hr=> ?_
 obtain⟨c1,c2,c3⟩:=g2 (hl2.2 _ _ r1)
 obtain⟨d1,d2,d3⟩:=g2 (hl2.2 _ _ r2)
 simp only[go_sem,hR,hR2,c1,c2,d1,d2,Nat.zero_add]
 refine⟨by simp, ?_⟩
 refine rmade_calls hr fun h3 hw3 hl3=> ?_
 have l13:=H.le_trans hl2 hl3
 simp only[go_sem,hR,hR2]
 refine⟨rfl,all2 hr.one,put2 hw hw3 (H.le_trans hl1 l13) (by omega) (l13.2 _ _ r3) rfl fun g hwg hlg hg _ hle=> ?_⟩
 simp only[go_sem,hg]
 exact fun _=>hk _ g hwg hlg (sg_zr ((hr.mono hl3).leeT (l13.2 _ _ r3) (by simp) hle))
end
end
section
section
variable {c i n x:Nat} {z:Int} {h g:H} {v:AV} {T:TypeId} {l:List AV}
theorem Nn.lee2 (hv:Nn h v x) (hr:h.rows i=some ⟨some T,2,l⟩) (hl:H.lee i h g):Nn g v x:=by
 obtain⟨xs,h1,h2⟩:=hv
 exact⟨xs,IsW.monoE hr (by simp) (by simp) h1 hl,h2⟩
theorem Num.lee2 {B:Nat} (hv:Num B h v n) (hr:h.rows i=some ⟨some T,2,l⟩) (hl:H.lee i h g):Num B g v n:=hv.leeT hr (by simp) hl
theorem Nf.lee2 (hv:Nf c h v x) (hr:h.rows i=some ⟨some T,2,l⟩) (hl:H.lee i h g):Nf c g v x:=by
 obtain⟨xs,⟨id,cc,rfl,h1⟩,h2⟩:=hv
 refine⟨xs,⟨id,cc,rfl, ?_⟩,h2⟩
 rcases h1 with h1|⟨j,q,rfl,hb,hq,hqo,hz,h3⟩
 ·exact .inl h1
 ·refine .inr ⟨j,q,rfl,hb,hl.2 j q ?_ hq,hqo,hz,h3⟩
  rintro rfl
  rw[hr] at hq
  injection hq with hq
  rw[←hq] at hz
  cases hz
theorem Zn.lee2 (hv:Zn h v z) (hr:h.rows i=some ⟨some T,2,l⟩) (hl:H.lee i h g):Zn g v z:=by
 obtain⟨w,b,x,e,h1,h2⟩:=hv
 exact⟨w,b,x,e,h1.lee2 hr hl,h2⟩
theorem Zf.lee2 (hv:Zf c h v z) (hr:h.rows i=some ⟨some T,2,l⟩) (hl:H.lee i h g):Zf c g v z:=by
 obtain⟨w,b,x,e,h1,h2⟩:=hv
 exact⟨w,b,x,e,h1.lee2 hr hl,h2⟩
theorem Zr.lee2 (hv:Zr h v z) (hr:h.rows i=some ⟨some T,2,l⟩) (hl:H.lee i h g):Zr g v z:=by
 obtain⟨w,b,x,e,h1,h2⟩:=hv
 exact⟨w,b,x,e,h1.lee2 hr hl,h2⟩
theorem Zf.two (hv:Zf c h v z):∃a b:AV,v= .agg [a,b]∧a.one=true∧b.one=true:=by
 obtain⟨w,b,x,rfl,h1,_⟩:=hv
 exact⟨w,_,rfl,h1.one,rfl⟩
theorem Zr.two (hv:Zr h v z):∃a b:AV,v= .agg [a,b]∧a.one=true∧b.one=true:=by
 obtain⟨w,b,x,rfl,h1,_⟩:=hv
 exact⟨w,_,rfl,h1.one,rfl⟩
end
theorem all22 {a b:AV} (ha:a.one=true) (hb:b.one=true):([a,b].all fun x=>x.one)=true:=by simp[ha,hb]
section
variable {v u wa wb:AV} {ba bb:Bool} {x y:Nat} {h:H} {K:AV→H→Prop}
theorem zOf_calls {n:Int} (h1: -9223372036854775808≤n) (h2:n<9223372036854775808) (hk:∀r h',h'.wf→h.le h'→Zf h.next h' r n→K r h'):ACalls Tryz.prog 47 [.int .i64 n] h K:=by
 refine in_num_Of (by simp) fun hw=> ?_
 unfold c_num_Of
 have hl1:=H.le_new hw (H.le_refl h) ⟨some 39,2,[.sl none 0 0 none, .bool false]⟩
 have hw1:=H.wf_new hw ⟨some 39,2,[.sl none 0 0 none, .bool false]⟩
 have hr1:=H.rows_new h ⟨some 39,2,[.sl none 0 0 none, .bool false]⟩
 have fin:∀(b:Bool) (k:Nat),n=sg b k→k<18446744073709551616→∀(h3:H) (r:AV) (Q:AV→H→Prop),h3.wf→(h.new ⟨some 39,2,[.sl none 0 0 none, .bool false]⟩).le h3→Nf (h.next+1) h3 r k→(∀g:H,g.wf→h.le g→g.gets h.next 0 2=some [r, .bool (b&&decide (k≠0))]→Zf h.next g (.agg [r, .bool (b&&decide (k≠0))]) n→Q .junk g)→putK (h3.rows h.next) h.next 0 2 [r, .bool (b&&decide (k≠0))] h3 Q:=fun b k hn hk3 h3 r Q hw3 hl3 hr hQ=>
  put2 hw hw3 (H.le_trans hl1 hl3) (Nat.le_refl _) (hl3.2 _ _ hr1) rfl fun g hwg hlg hg _ hle=>hQ g hwg hlg hg (by rw[hn];exact sg_zf ((hr.base (Nat.le_succ _)).lee2 (hl3.2 _ _ hr1) hle))
 by_cases hn:n<0
 ·obtain⟨k,hkn⟩:∃k:Nat,n= -(k:Int):=⟨n.natAbs,by omega⟩
  have e1:IntKind.u64.wrap (0-IntKind.u64.wrap n)=(k:Int):=by
   rw[wUm,wUm,hkn]
   omega
  simp only[go_sem,decide_eq_true hn]
  simp only[List.length_cons,List.length_nil,Nat.zero_add,Nat.reduceAdd]
  simp only[go_sem,e1]
  refine One_calls (x:=k) (by omega) fun r h2 hw2 hl2 hr=> ?_
  simp only[go_sem]
  refine made_calls (hr.nn (word_big (by omega))) fun h3 hw3 hl3=> ?_
  simp only[go_sem]
  refine⟨rfl,all2 hr.one,fin true k (by simp[sg,hkn]) (by omega) h3 r _ hw3 (H.le_trans hl2 hl3) (hr.mono hl3) fun g hwg hlg hg hz=> ?_⟩
  simp only[go_sem,hg]
  exact fun _=>hk _ g hwg hlg hz
 ·obtain⟨k,hkn⟩:∃k:Nat,n=(k:Int):=⟨n.toNat,by omega⟩
  have e1:IntKind.u64.wrap n=(k:Int):=by
   rw[hkn,wU]<;>omega
  simp only[go_sem,decide_eq_false hn]
  simp only[List.length_cons,List.length_nil,Nat.zero_add,Nat.reduceAdd]
  simp only[go_sem,e1]
  refine One_calls (x:=k) (by omega) fun r h2 hw2 hl2 hr=> ?_
  simp only[go_sem]
  refine made_calls (hr.nn (word_big (by omega))) fun h3 hw3 hl3=> ?_
  simp only[go_sem]
  refine⟨rfl,all2 hr.one,fin false k (by simp[sg,hkn]) (by omega) h3 r _ hw3 (H.le_trans hl2 hl3) (hr.mono hl3) fun g hwg hlg hg hz=> ?_⟩
  simp only[go_sem,hg]
  exact fun _=>hk _ g hwg hlg hz
end
end
section
theorem sg_lt0 {b:Bool} {x:Nat} (h:x=0→b=false):b=decide (sg b x<0):=by
 cases b
 ·simp[sg]
 ·have:x≠0:=fun h0=>by cases h h0
  simp[sg];omega
theorem sg_eq0 {b:Bool} {x:Nat}:sg b x=0↔x=0:=by cases b<;>simp[sg]
section
variable {v u wa wb:AV} {ba bb:Bool} {x y:Nat} {h:H} {K:AV→H→Prop}
theorem zrTrunc_calls (na:Num 4294967296 h wa x) (nb:Num 4294967296 h wb y) (hx:Big x) (hy:Big y) (hy0:0<y) (hk:∀q r h',h'.wf→h.le h'→Zr h' q ((sg ba x).tdiv (sg bb y))→Zr h' r ((sg ba x).tmod (sg bb y))→K (.tup [q,r]) h'):ACalls Tryz.prog 57 [.agg [wa, .bool ba], .agg [wb, .bool bb]] h K:=by
 refine in_ref17_Trunc (by simp) fun hw=> ?_
 unfold c_ref17_Trunc
 rw[sg_tdiv,sg_tmod] at hk
 simp only[go_sem]
 simp only[AV.cells,List.length_cons,List.length_nil,Nat.zero_add,Nat.reduceAdd]
 refine⟨rfl,rfl, ?_⟩
 generalize hh2:(h.new ⟨some 47,2,_⟩).new ⟨some 47,2,_⟩=h0
 obtain⟨hl0,hw0,hn0,r1,r2⟩:=new2 hw hh2
 have hR:(h.new ⟨some 47,2,[wa, .bool ba]⟩).next=h.next+1:=rfl
 generalize hh:(h0.new ⟨some 47,2,_⟩).new ⟨some 47,2,_⟩=h1
 obtain⟨hl1,hw1,hn1,r3,r4⟩:=new2 hw0 hh
 have hR3:(h0.new ⟨some 47,2,[.sl none 0 0 none, .bool false]⟩).next=h0.next+1:=rfl
 have l01:=H.le_trans hl0 hl1
 obtain⟨a1,a2,a3⟩:=g2 (hl1.2 _ _ r1)
 obtain⟨b1,b2,b3⟩:=g2 (hl1.2 _ _ r2)
 simp only[go_sem,hR,hR3,a1,b1,Nat.zero_add]
 refine DivMod_calls (na.mono l01) (nb.mono l01) hx hy hy0 fun q r h2 hw2 hl2 hq hr=> ?_
 obtain⟨c1,c2,c3⟩:=g2 (hl2.2 _ _ (hl1.2 _ _ r1))
 obtain⟨d1,d2,d3⟩:=g2 (hl2.2 _ _ (hl1.2 _ _ r2))
 simp only[go_sem,hR,hR3,c2,d2,Nat.zero_add]
 refine rmade_calls hq fun h3 hw3 hl3=> ?_
 obtain⟨e1,e2,e3⟩:=g2 (hl3.2 _ _ (hl2.2 _ _ (hl1.2 _ _ r1)))
 simp only[go_sem,hR,hR3,e2,Nat.zero_add]
 refine⟨by simp, ?_⟩
 refine rmade_calls (hr.mono hl3) fun h4 hw4 hl4=> ?_
 have l14:=(H.le_trans hl2 (H.le_trans hl3 hl4))
 have hb0:=hl0.1
 simp only[go_sem,hR,hR3]
 refine⟨rfl,all2 hq.one,put2 hw hw4 (H.le_trans l01 l14) (by omega) (l14.2 _ _ r3) rfl fun g hwg hlg hg hgr hle=> ?_⟩
 simp only[go_sem,hR3]
 have r4g:g.rows (h0.next+1)=some ⟨some 47,2,[.sl none 0 0 none, .bool false]⟩:=hle.2 _ _ (by omega) (l14.2 _ _ r4)
 refine⟨rfl,all2 hr.one,put2 hw hwg hlg (by omega) r4g rfl fun g2' hwg2 hlg2 hg2 hgr2 hle2=> ?_⟩
 have hgr':=hle2.2 _ _ (by omega) hgr
 simp only[go_sem,hg2,(g2 hgr').2.2]
 refine fun _=>hk _ _ g2' hwg2 hlg2 (sg_zr ?_) (sg_zr ?_)
 ·exact((hq.mono (H.le_trans hl3 hl4)).lee2 (l14.2 _ _ r3) hle).lee2 r4g hle2
 ·exact((hr.mono (H.le_trans hl3 hl4)).lee2 (l14.2 _ _ r3) hle).lee2 r4g hle2
end
end
theorem zr_open {h:H} {v:AV} {z:Int} (hv:Zr h v z):∃w,v= .agg [w, .bool (decide (z<0))]∧Num 4294967296 h w z.natAbs:=by
 obtain⟨w,b,x,rfl,h1,h2,rfl⟩:=hv
 rw[sg_abs,←sg_lt0 h2]
 exact⟨w,rfl,h1⟩
theorem zf_open {c:Nat} {h:H} {v:AV} {z:Int} (hv:Zf c h v z):∃w,v= .agg [w, .bool (decide (z<0))]∧Nf c h w z.natAbs:=by
 obtain⟨w,b,x,rfl,h1,h2,rfl⟩:=hv
 rw[sg_abs,←sg_lt0 h2]
 exact⟨w,rfl,h1⟩
theorem sg_self {z:Int}:sg (decide (z<0)) z.natAbs=z:=by
 unfold sg
 by_cases h:z<0
 ·rw[decide_eq_true h,if_pos rfl];omega
 ·rw[decide_eq_false h,if_neg (by simp)];omega
section
theorem put2E {u:Nat} {h h':H} {R:Nat} {T:TypeId} {a b:AV} {l:List AV} {K:AV→H→Prop} (hw:h.wf) (hw':h'.wf) (hl:H.lee u h h') (hge:h.next≤R) (hr:h'.rows R=some ⟨some T,2,l⟩) (hll:l.length=2)
  (hk:∀g:H,g.wf→H.lee u h g→g.gets R 0 2=some [a,b]→g.rows R=some ⟨some T,2,[a,b]⟩→H.lee R h' g→K .junk g):putK (h'.rows R) R 0 2 [a,b] h' K:=by
 have e:putAt l 0 [a,b]=[a,b]:=by simp[putAt,hll]
 rw[hr]
 refine⟨by simp,by simp[hll], ?_⟩
 show K .junk (h'.set R ⟨some T,2,putAt l 0 [a,b]⟩)
 rw[e]
 exact hk _ (H.wf_set hw' (H.row_lt hw' hr) _) (H.lee_put hw hl hge _) (g2 (H.rows_set _ _ _)).2.2 (H.rows_set _ _ _) (H.lee_set _)
theorem Tune.lee2 {u R m nw dp:Nat} {t:Tb} {h g:H} (ht:Tune h u m nw dp t) (hl:H.lee R h g) (hR:u≠R):Tune g u m nw dp t:=hl.2 _ _ hR ht
theorem zeroI:abuild [.sl none 0 0 none, .bool false] []=some [.sl none 0 0 none, .bool false]:=rfl
theorem Zf.zero (c:Nat) (h:H):Zf c h (.agg [.sl none 0 0 none, .bool false]) 0:=⟨_,_,0,rfl,Nf.nil c h none,fun _=>rfl,rfl⟩
section
variable {wa wb:AV} {ba bb:Bool} {x y e u m nw dp:Nat} {t:Tb} {h:H} {K:AV→H→Prop}
theorem zEven_calls (hT:TbOK t) (he:Eng 10 h e u) (ht:Tune h u m nw dp t) (na:Nn h wa x) (nb:Nn h wb y) (hx:wlen x≤4000) (hy:wlen y≤4000) (hnw:nw≤600000000)
  (hk0:y=0→∀h',h'.wf→h.le h'→K (.tup [.agg [.sl none 0 0 none, .bool false], .int .i64 2]) h')
  (hk1:0<y→(sg ba x).tmod (sg bb y)≠0→∀h' m' dp',h'.wf→H.lee u h h'→Tune h' u m' nw dp' t→K (.tup [.agg [.sl none 0 0 none, .bool false], .int .i64 5]) h')
  (hk:0<y→(sg ba x).tmod (sg bb y)=0→∀q h' m' dp',h'.wf→H.lee u h h'→Tune h' u m' nw dp' t→Zf h.next h' q ((sg ba x).tdiv (sg bb y))→K (.tup [q, .int .i64 0]) h'):
  ACalls Tryz.prog 55 [.ptr (some (e,0)), .agg [wa, .bool ba], .agg [wb, .bool bb]] h K:=by
 refine in_num_Engine_Even (by simp) fun hw=> ?_
 unfold c_num_Engine_Even
 have hub:=H.row_lt hw ht
 rw[sg_tmod] at hk hk1
 rw[sg_tdiv] at hk
 have hz:sg ba (x%y)=0↔x%y=0:=sg_eq0
 simp only[go_sem]
 simp only[AV.cells,List.length_cons,List.length_nil,Nat.zero_add,Nat.reduceAdd]
 refine⟨rfl,rfl, ?_⟩
 generalize hh:((h.new ⟨some 39,2,_⟩).new ⟨some 39,2,_⟩).new ⟨some 39,2,_⟩=h1
 obtain⟨hl1,hw1,hn1,r1,r2,r3⟩:=new3 hw hh
 have hR:(h.new ⟨some 39,2,[wa, .bool ba]⟩).next=h.next+1:=rfl
 have hR2:((h.new ⟨some 39,2,[wa, .bool ba]⟩).new ⟨some 39,2,[wb, .bool bb]⟩).next=h.next+2:=rfl
 have ht1:=ht.mono hl1
 obtain⟨f,rfl,rfl,G,E⟩:=Eng.path ht1 (he.mono hl1)
 simp only[go_sem,hR,hR2,G 0 (by omega) _ ((H.lee_refl _ _)),G 1 (by omega) _ ((H.lee_refl _ _)),G 2 (by omega) _ ((H.lee_refl _ _)),(g2 r1).1,(g2 r2).1,Nat.zero_add]
 refine Exact_calls hT (E 3 (by omega)) ht1 (na.mono hl1) (nb.mono hl1) hx hy hnw (fun hy0 _=> ?_) (fun hy0 hm h2 m2 dp2 hw2 hl2 ht2=> ?_) fun hy0 hm q h2 m2 dp2 hw2 hl2 ht2 hq=> ?_
 ·simp only[go_sem,show((2:Int) !=0)=true from rfl,zeroI]
  refine⟨by trivial,by trivial,put2 hw hw1 hl1 (by omega) r3 rfl fun g1 hwg1 hlg1 hg1 _ e1=> ?_⟩
  simp only[go_sem,hg1]
  exact fun _=>hk0 hy0 g1 hwg1 hlg1
 ·have r3:=hl2.2 _ _ (by omega) r3
  simp only[go_sem,show((5:Int) !=0)=true from rfl,zeroI]
  refine⟨by trivial,by trivial,put2E hw hw2 (hl1.lee.trans hl2) (by omega) r3 rfl fun g1 hwg1 hlg1 hg1 _ e1=> ?_⟩
  simp only[go_sem,hg1]
  exact fun _=>hk1 hy0 (fun h0=>hm (hz.1 h0)) g1 _ _ hwg1 hlg1 (ht2.lee2 e1 (by omega))
 ·have r1:=hl2.2 _ _ (by omega) r1
  have r2:=hl2.2 _ _ (by omega) r2
  have r3:=hl2.2 _ _ (by omega) r3
  simp only[go_sem,show((0:Int) !=0)=false from rfl,(g2 r1).2.1,(g2 r2).2.1,Nat.zero_add]
  refine made_calls (hq.nn ((wbig hx (by omega)).le (Nat.div_le_self _ _))) fun h3 hw3 hl3=> ?_
  have r3:=hl3.2 _ _ r3
  have hq:=(hq.mono hl3).base hl1.1
  simp only[go_sem]
  refine⟨by trivial,all2 hq.one,put2E hw hw3 ((hl1.lee.trans hl2).trans hl3.lee) (by omega) r3 rfl fun g1 hwg1 hlg1 hg1 _ e1=> ?_⟩
  simp only[go_sem,hg1]
  exact fun _=>hk hy0 (hz.2 hm) _ g1 _ _ hwg1 hlg1 ((ht2.mono hl3).lee2 e1 (by omega)) (sg_zf (hq.lee2 r3 e1))
end
end
section
section
variable {t:Tb} {h:H} {K:AV→H→Prop}
theorem roNew_calls (hk:∀e u h',h'.wf→h.le h'→h.next≤u→u<e→Eng 8 h' e u→Tune h' u 0 0 0 (clampT t)→K (.ptr (some (e,0))) h'):ACalls Tryz.prog 27 [t.av] h K:=by
 refine in_root_New (by simp) fun hw=> ?_
 unfold c_root_New
 have hl1:=H.le_new hw (H.le_refl h) ⟨some 23,11,t.cells⟩
 have hn1:h.next<(h.new ⟨some 23,11,t.cells⟩).next:=Nat.lt_succ_self _
 simp only[go_sem,av_held,av_cells,cells_len,true_and,gsT (H.rows_new h _)]
 refine diNew_calls fun e u h1 hw1 hl2 hn2 _ he ht=> ?_
 simp only[go_sem,bldp]
 simp only[AV.held,AV.cells,true_and,go_sem]
 have hl3:=H.le_new hw1 (H.le_refl h1) ⟨some 112,1,[AV.ptr (some (e,0))]⟩
 exact fun hw'=>hk _ u _ hw' (H.le_trans hl1 (H.le_trans hl2 hl3)) (by omega) (H.row_lt hw1 ht) ⟨_,e,H.rows_new _ _,rfl,he.mono hl3⟩ (ht.mono hl3)
theorem raNew_calls (hk:∀e u h',h'.wf→h.le h'→h.next≤u→u<e→Eng 9 h' e u→Tune h' u 0 0 0 (clampT t)→K (.ptr (some (e,0))) h'):ACalls Tryz.prog 141 [t.av] h K:=by
 refine in_radix_New (by simp) fun hw=> ?_
 unfold c_radix_New
 have hl1:=H.le_new hw (H.le_refl h) ⟨some 23,11,t.cells⟩
 have hn1:h.next<(h.new ⟨some 23,11,t.cells⟩).next:=Nat.lt_succ_self _
 simp only[go_sem,av_held,av_cells,cells_len,true_and,gsT (H.rows_new h _)]
 refine roNew_calls fun e u h1 hw1 hl2 hn2 _ he ht=> ?_
 simp only[go_sem,bldp]
 simp only[AV.held,AV.cells,true_and,go_sem]
 have hl3:=H.le_new hw1 (H.le_refl h1) ⟨some 142,1,[AV.ptr (some (e,0))]⟩
 exact fun hw'=>hk _ u _ hw' (H.le_trans hl1 (H.le_trans hl2 hl3)) (by omega) (H.row_lt hw1 ht) ⟨_,e,H.rows_new _ _,rfl,he.mono hl3⟩ (ht.mono hl3)
theorem nuNew_calls (hk:∀e u h',h'.wf→h.le h'→h.next≤u→u<e→Eng 10 h' e u→Tune h' u 0 0 0 (clampT t)→K (.ptr (some (e,0))) h'):ACalls Tryz.prog 125 [t.av] h K:=by
 refine in_num_New (by simp) fun hw=> ?_
 unfold c_num_New
 have hl1:=H.le_new hw (H.le_refl h) ⟨some 23,11,t.cells⟩
 have hn1:h.next<(h.new ⟨some 23,11,t.cells⟩).next:=Nat.lt_succ_self _
 simp only[go_sem,av_held,av_cells,cells_len,true_and,gsT (H.rows_new h _)]
 refine raNew_calls fun e u h1 hw1 hl2 hn2 _ he ht=> ?_
 simp only[go_sem,bldp]
 simp only[AV.held,AV.cells,true_and,go_sem]
 have hl3:=H.le_new hw1 (H.le_refl h1) ⟨some 140,1,[AV.ptr (some (e,0))]⟩
 exact fun hw'=>hk _ u _ hw' (H.le_trans hl1 (H.le_trans hl2 hl3)) (by omega) (H.row_lt hw1 ht) ⟨_,e,H.rows_new _ _,rfl,he.mono hl3⟩ (ht.mono hl3)
end
section
variable {wa wb:AV} {ba bb:Bool} {x y n:Nat} {xs:List Nat} {h:H} {K:AV→H→Prop}
theorem CutInt_calls (ha:IsN h wa xs) (hn:n<9223372036854775808) (hk:∀w h',h'.wf→h.le h'→IsN h' w (xs.take n)→K (.agg [w, .bool ba]) h'):ACalls Tryz.prog 13 [.agg [wa, .bool ba], .int .i64 (n:Int)] h K:=by
 refine in_keep_CutInt (by simp) fun hw=> ?_
 unfold c_keep_CutInt
 simp only[go_sem]
 simp only[AV.cells,List.length_cons,List.length_nil,Nat.zero_add,Nat.reduceAdd]
 refine⟨rfl, ?_⟩
 generalize hh:(h.new ⟨some 39,2,_⟩).new ⟨some 39,2,_⟩=h1
 obtain⟨hl1,hw1,hn1,r1,r2⟩:=new2 hw hh
 have hR:(h.new ⟨some 39,2,[wa, .bool ba]⟩).next=h.next+1:=rfl
 simp only[go_sem,hR,(g2 r1).1,(g2 r1).2.1,Nat.zero_add]
 refine Cut_calls (n:=n) (ha.mono hl1) fun a hca=> ?_
 have hone:a.one=true:=by obtain⟨_,_,_,rfl,_⟩:=hca;rfl
 simp only[go_sem,hR,(g2 r1).2.1,Nat.zero_add]
 refine⟨by simp, ?_⟩
 simp only[go_sem,bldI hone]
 refine⟨by trivial,all2 hone,put2 hw hw1 hl1 (by omega) r2 rfl fun g hwg hlg hg _ e1=> ?_⟩
 simp only[go_sem,hg]
 exact fun _=>hk _ g hwg hlg (IsW.monoE r2 (by simp) (by simp) hca e1)
theorem kInt_calls (na:Nt h wa x) (nb:Nt h wb x) (hx:Big x) (hk:∀h',h'.wf→h.le h'→K (.bool true) h'):ACalls Tryz.prog 16 [.agg [wa, .bool ba], .agg [wb, .bool ba]] h K:=by
 refine in_keep_Int (by simp) fun hw=> ?_
 unfold c_keep_Int
 simp only[go_sem]
 simp only[AV.cells,List.length_cons,List.length_nil,Nat.zero_add,Nat.reduceAdd]
 refine⟨rfl,rfl, ?_⟩
 generalize hh:(h.new ⟨some 39,2,_⟩).new ⟨some 39,2,_⟩=h1
 obtain⟨hl1,hw1,hn1,r1,r2⟩:=new2 hw hh
 have hR:(h.new ⟨some 39,2,[wa, .bool ba]⟩).next=h.next+1:=rfl
 simp only[go_sem,hR,(g2 r1).1,(g2 r1).2.1,(g2 r2).1,(g2 r2).2.1,Nat.zero_add,beq_self_eq_true]
 refine kSameT_calls (na.mono hl1) (nb.mono hl1) hx ?_
 simp only[go_sem]
 exact fun hw'=>hk _ hw' hl1
end
end
theorem cell_bool {t:TypeId} (ht:Tryz.prog.underlying t=some .bool) {h:H} {l:List AV} (r:Reads Tryz.prog h t l):∃b:Bool,l=[.bool b]:=by
 cases r with
 |int ht' hw=>rw[ht] at ht';cases ht'
 |bool ht'=>exact⟨_,rfl⟩
 |str ht'=>rw[ht] at ht';cases ht'
 |snil ht'=>rw[ht] at ht';cases ht'
 |sl ht'=>rw[ht] at ht';cases ht'
 |struct ht'=>rw[ht] at ht';cases ht'
set_option maxRecDepth 100000 in
theorem cell_whole {h:H} {l:List AV} (r:Reads Tryz.prog h 39 l):∃(v:AV) (b:Bool) (xs:List Nat),l=[v, .bool b]∧IsN h v xs∧Dig xs∧xs.length≤maxLen:=by
 have hc:Tryz.prog.cellsOf 39=2:=by kernel_rfl
 have hz:Tryz.prog.cellsOf 37=1:=by kernel_rfl
 have hb:Tryz.prog.cellsOf 4=1:=by kernel_rfl
 cases r with
 |int ht' hw=>rw[Tryz.underlying39] at ht';cases ht'
 |bool ht'=>rw[Tryz.underlying39] at ht';cases ht'
 |str ht'=>rw[Tryz.underlying39] at ht';cases ht'
 |snil ht'=>rw[Tryz.underlying39] at ht';cases ht'
 |sl ht'=>rw[Tryz.underlying39] at ht';cases ht'
 |struct ht' hl hf=>
  rw[Tryz.underlying39] at ht'
  injection ht' with ht'
  injection ht' with ht'
  subst ht'
  rw[hc] at hl
  simp only[List.mem_cons,List.not_mem_nil,or_false,forall_eq_or_imp,forall_eq,hz,hb] at hf
  obtain⟨f0,f1⟩:=hf
  obtain⟨v,xs,g0,h1,h2,h3⟩:=cell_words (by kernel_rfl) f0
  obtain⟨b,g1⟩:=cell_bool (by kernel_rfl) f1
  match l,hl with
  |[x0,x1],_=>
   simp only[List.drop_zero,List.drop_succ_cons,List.take_succ_cons,List.take_zero,List.cons.injEq,and_true] at g0 g1
   exact⟨v,b,xs,by rw[g0,g1],h1,h2,h3⟩
set_option maxRecDepth 100000 in
theorem reads_whole {h:H} {u:AV} (r:ReadsV Tryz.prog h 39 u):∃(v:AV) (b:Bool) (xs:List Nat),u= .agg [v, .bool b]∧IsN h v xs∧Dig xs∧xs.length≤maxLen:=by
 unfold ReadsV at r
 rw[Tryz.underlying39] at r
 obtain⟨l,rfl,r⟩:=r
 obtain⟨v,b,xs,rfl,h1⟩:=cell_whole r
 exact⟨v,b,xs,rfl,h1⟩
section
def IsI (h:H) (l:List AV) (p:Bool×List Nat):Prop:=∃v,l=[v, .bool p.1]∧IsN h v p.2∧Dig p.2∧p.2.length≤maxLen
theorem IsI.grows:Grows IsI:=by
 rintro h h' c x ⟨v,e,h1,h2⟩ hl
 exact⟨v,e,h1.mono hl,h2⟩
theorem H.gets_le {a h:H} (hl:a.le h) {i j n:Nat} {l:List AV} (e:a.gets i j n=some l):h.gets i j n=some l:=by
 unfold H.gets at*
 cases hr:a.rows i with
 |none=>rw[hr] at e;cases e
 |some r=>rw[hr] at e;rw[hl.2 _ _ hr];exact e
section
variable {h:H} {u v:AV} {K:AV→H→Prop}
set_option maxRecDepth 100000 in
theorem reads_wholes (r:ReadsV Tryz.prog h 24 u):∃ps,IsA 2 IsI h u ps∧ps.length≤maxLen:=by
 have hz:Tryz.prog.cellsOf 39=2:=by kernel_rfl
 obtain⟨v,n,cs,e,h1,h2,h3⟩:=cell_slice (e:=39) (by kernel_rfl) (readsV_slice (e:=39) (by kernel_rfl) r)
 injection e with e
 subst e
 rw[hz] at h1 h3
 obtain⟨ps,hn,hxs⟩:=all_of (z:=2) (R:=IsI h) (n:=n) (cs:=cs) h1.1 fun i hi=>by
  obtain⟨v,b,xs,e,q1,q2,q3⟩:=cell_whole (h3 i hi)
  exact⟨(b,xs),v,e,q1,q2,q3⟩
 subst hn
 exact⟨ps,⟨cs,h1,hxs⟩,h2⟩
theorem Cut_all {xs:List Nat} {n:Nat} (hv:IsN h v xs) (hk:∀r,(∀g,IsN g v xs→IsN g r (xs.take n))→r.one=true→K r h):ACalls Tryz.prog 26 [v, .int .i64 (n:Int)] h K:=by
 obtain⟨id,off,c,rfl⟩:=hv.form
 refine in_keep_Cut (by simp) fun hw=> ?_
 unfold c_keep_Cut
 simp only[go_sem,minN]
 refine⟨by omega,by omega,hv.row,fun _=>hk _ (fun g hg=> ?_) rfl⟩
 have:=hg.take (b:=min xs.length n) (c':=c) (by omega)
 rw[take_min] at this
 exact this
theorem CutInt_all {wa:AV} {ba:Bool} {xs:List Nat} {n:Nat} (ha:IsN h wa xs) (hk:∀w h',h'.wf→h.le h'→(∀g,IsN g wa xs→IsN g w (xs.take n))→w.one=true→K (.agg [w, .bool ba]) h'):ACalls Tryz.prog 13 [.agg [wa, .bool ba], .int .i64 (n:Int)] h K:=by
 refine in_keep_CutInt (by simp) fun hw=> ?_
 unfold c_keep_CutInt
 simp only[go_sem]
 simp only[AV.cells,List.length_cons,List.length_nil,Nat.zero_add,Nat.reduceAdd]
 refine⟨rfl, ?_⟩
 generalize hh:(h.new ⟨some 39,2,_⟩).new ⟨some 39,2,_⟩=h1
 obtain⟨hl1,hw1,hn1,r1,r2⟩:=new2 hw hh
 have hR:(h.new ⟨some 39,2,[wa, .bool ba]⟩).next=h.next+1:=rfl
 simp only[go_sem,hR,(g2 r1).1,(g2 r1).2.1,Nat.zero_add]
 refine Cut_all (n:=n) (ha.mono hl1) fun a hca hone=> ?_
 simp only[go_sem,hR,(g2 r1).2.1,Nat.zero_add]
 refine⟨by simp, ?_⟩
 simp only[go_sem,bldI hone]
 refine⟨by trivial,all2 hone,put2 hw hw1 hl1 (by omega) r2 rfl fun g hwg hlg hg _ e1=> ?_⟩
 simp only[go_sem,hg]
 exact fun _=>hk _ g hwg hlg hca hone
end
end
def zI (p:Bool×List Nat):Int:=sg p.1 (val 18446744073709551616 p.2)
def cau (f g:Nat→Nat):Nat→Nat
 |0=>f 0*g 0
 |k+1=>f 0*g (k+1)+cau (fun i=>f (i+1)) g k
def part (f g:Nat→Nat) (i k:Nat):Nat:=match i with
 |0=>0
 |i+1=>part f g i k+(if i≤k then f i*g (k-i) else 0)
def TrimG {α:Type} (z:α) (c:Nat→α) (ys:List α):Prop:=(∀i,ys.getD i z=c i)∧∀y,ys.getLast? =some y→y≠z
theorem getG_out {α:Type} {z:α} {ys:List α} {i:Nat} (h:ys.length≤i):ys.getD i z=z:=by
 rw[List.getD_eq_getElem?_getD,List.getElem?_eq_none h]
 rfl
theorem getG_in {α:Type} {z:α} {ys:List α} {i:Nat} (h:i<ys.length):ys.getD i z=ys[i]:=by
 rw[List.getD_eq_getElem?_getD,List.getElem?_eq_getElem h]
 rfl
theorem TrimG.len {α:Type} {z:α} {c:Nat→α} {ys zs:List α} (hz:∀i,zs.getD i z=c i) (hy:TrimG z c ys):ys.length≤zs.length:=by
 rcases Nat.lt_or_ge zs.length ys.length with h|h
 ·have h1:=hy.1 (ys.length-1)
  rw[←hz,getG_out (ys:=zs) (by omega),getG_in (by omega)] at h1
  have h2:=hy.2 ys[ys.length-1] (by rw[List.getLast?_eq_getElem?,List.getElem?_eq_getElem (by omega)])
  exact absurd h1 h2
 ·exact h
theorem TrimG.uniq {α:Type} {z:α} {c:Nat→α} {ys zs:List α} (hy:TrimG z c ys) (hz:TrimG z c zs):ys=zs:=by
 have h1:=Nat.le_antisymm (hy.len hz.1) (hz.len hy.1)
 refine List.ext_getElem h1 fun i h2 h3=> ?_
 rw[←getG_in (z:=z) h2,←getG_in (z:=z) h3,hy.1,hz.1]
theorem TrimG.congr {α:Type} {z:α} {c d:Nat→α} {ys:List α} (hy:TrimG z c ys) (h:∀i,c i=d i):TrimG z d ys:=⟨fun i=>(hy.1 i).trans (h i),hy.2⟩
theorem TrimG.of {α:Type} {z:α} {xs:List α} {k:Nat} (hz:∀x∈xs.drop k,x=z) (hl:∀y,(xs.take k).getLast? =some y→y≠z):TrimG z (fun i=>xs.getD i z) (xs.take k):=by
 refine⟨fun i=> ?_,hl⟩
 show(xs.take k).getD i z=xs.getD i z
 rcases Nat.lt_or_ge i k with h|h
 ·rw[List.getD_eq_getElem?_getD,List.getD_eq_getElem?_getD,List.getElem?_take,if_pos h]
 ·rw[getG_out (by rw[List.length_take];omega)]
  rcases Nat.lt_or_ge i xs.length with h2|h2
  ·rw[getG_in h2]
   have h3:xs[i]∈xs.drop k:=by
    rw[List.mem_iff_getElem]
    exact⟨i-k,by rw[List.length_drop];omega,by rw[List.getElem_drop];congr 1;omega⟩
   exact(hz _ h3).symm
  ·rw[getG_out h2]
def partI (f g:Nat→Int) (i k:Nat):Int:=match i with
 |0=>0
 |i+1=>partI f g i k+(if i≤k then f i*g (k-i) else 0)
theorem partI_out {f g:Nat→Int} {n:Nat} (hg:∀i,n≤i→g i=0) {k:Nat}:∀{m:Nat},m+n≤k+1→partI f g m k=0
 |0,_=>rfl
 |m+1,h=>by
  have e:partI f g (m+1) k=partI f g m k+(if m≤k then f m*g (k-m) else 0):=rfl
  rw[e,partI_out hg (by omega),hg (k-m) (by omega),Int.mul_zero]
  split<;>rfl
def valI (x:Int):List Int→Int
 |[]=>0
 |a::l=>a+x*valI x l
theorem valI_drop (x:Int) {xs:List Int} {i:Nat} (h:i<xs.length):valI x (xs.drop i)=xs[i]+x*valI x (xs.drop (i+1)):=by
 rw[List.drop_eq_getElem_cons h]
 rfl
theorem valI_zero (x:Int) {xs:List Int} (h:∀y∈xs,y=0):valI x xs=0:=by
 induction xs with
 |nil=>rfl
 |cons a l ih=>rw[valI,h a (by simp),ih fun y hy=>h y (by simp[hy]),Int.mul_zero];rfl
theorem valI_take (x:Int) {xs:List Int} {k:Nat} (hz:∀y∈xs.drop k,y=0):valI x (xs.take k)=valI x xs:=by
 induction xs generalizing k with
 |nil=>simp
 |cons a l ih=>
  rcases k with _|k
  ·rw[List.take_zero,valI_zero x (xs:=a::l) (fun y hy=>hz y (by rw[List.drop_zero];exact hy))]
   rfl
  ·rw[List.take_succ_cons,valI,valI,ih (k:=k) fun y hy=>hz y (by rw[List.drop_succ_cons];exact hy)]
section
section
variable {α:Type} {t:TypeId} {z b n:Nat} {R:H→List AV→α→Prop} {h:H} {xs:List α} {io c c':Option Nat}
theorem H.set_del {h:H} {i:Nat} {r:Row}:(h.set i r).del (some i)=h.del (some i):=by
 unfold H.del H.set
 congr 1
 funext j
 by_cases e:some j=some i
 ·rw[if_pos e,if_pos e]
 ·rw[if_neg e,if_neg e]
  show(if j=i then some r else h.rows j)=h.rows j
  rw[if_neg (fun h=>e (by rw[h]))]
theorem Live.ownz (hv:Live t z b R h (.sl io 0 n c) xs):∀i,io=some i→b≤i∧∃r,h.rows i=some r∧r.own=some t∧r.esz=z:=by
 obtain⟨io',c',cs,e,⟨_,id2,c2,e2,h3⟩,_⟩:=hv
 injection e2 with e2
 subst e2
 rintro j rfl
 rcases h3 with⟨h0,_⟩|⟨i,q,h0,hb,hq,ho,hz,_⟩
 ·cases h0
 ·injection h0 with h0
  subst h0
  exact⟨hb,q,hq,ho,hz⟩
theorem Live.putz (hw:h.wf) (hz:0<z) (hv:Live t z b R h (.sl io 0 n c) xs) {j:Nat} (hj:j<xs.length):∃i r,io=some i∧b≤i∧i<h.next∧h.rows i=some r∧r.own=some t∧r.esz=z∧j*z+z≤r.cells.length∧
  ∀(l:List AV) (x:α),l.length=z→R (h.del (some i)) l x→Live t z b R (h.set i {r with cells:=putAt r.cells (j*z) l}) (.sl io 0 n c) (xs.set j x):=by
 have hown:=hv.ownz
 obtain⟨io',c',cs,e,h1,h2⟩:=hv
 injection e with e1 e2 e3 e4
 subst e1;subst e4;subst e3
 have hl:=chunk_le (z:=z) hj
 obtain⟨i,r,rfl,hb,hlt,hr,_,_,hf,hp⟩:=h1.put hw (k:=j*z) (w:=z) hl hz
 obtain⟨_,r',hr',ho,he⟩:=hown i rfl
 rw[hr] at hr'
 injection hr' with hr'
 subst hr'
 refine⟨i,r,rfl,hb,hlt,hr,ho,he,hf,fun l x hlz hx=>⟨some i,c,putAt cs (j*z) l,by rw[List.length_set], ?_, ?_⟩⟩
 ·rw[List.length_set]
  exact hp l hlz
 ·rw[H.set_del]
  exact h2.set hj hlz hx
theorem Live.cutz (hv:Live t z b R h (.sl io 0 n c) xs) {k:Nat} (hk:k≤xs.length):Live t z b R h (.sl io 0 k c') (xs.take k):=by
 obtain⟨io',c2,cs,e,h1,h2⟩:=hv
 injection e with e1 e2 e3 e4
 subst e1;subst e4;subst e3
 have hl:(xs.take k).length=k:=by rw[List.length_take];omega
 refine⟨io,c',cs.take (k*z),by rw[hl], ?_,h2.take k⟩
 rw[hl]
 exact h1.cut hk
theorem Live.getz (hz:0<z) (hv:Live t z b R h (.sl io 0 n c) xs) {j:Nat} (hj:j<xs.length):∃i l,io=some i∧n=xs.length∧l.length=z∧h.gets i (j*z) z=some l∧(∀k,k<z→h.get i (j*z+k)=l[k]?)∧R (h.del (some i)) l xs[j]:=by
 obtain⟨io',c',cs,e,h1,h2⟩:=hv
 injection e with e1 e2 e3 e4
 subst e1;subst e4;subst e3
 obtain⟨i,l,rfl,e5,hlz,hg,hg1,hR⟩:=IsA.atz (R:=fun _=>R (h.del io)) hz ⟨cs,h1.isC,h2⟩ hj
 rw[Nat.zero_add] at hg
 exact⟨i,l,rfl,rfl,hlz,hg,fun k hk=>by rw[←hg1 k hk,Nat.zero_add],hR⟩
theorem Live.lowz {b':Nat} (hv:Live t z b R h (.sl io 0 n c) xs) (hb:b'≤b):Live t z b' R h (.sl io 0 n c) xs:=by
 obtain⟨io',c',cs,e,h1,h2⟩:=hv
 exact⟨io',c',cs,e,h1.base hb,h2⟩
theorem Live.madez {zero:List AV} {x:α} (hw:h.wf) (hb:b≤h.next) (hz:zero.length=z) (hx:∀g,R g zero x) (n:Nat):Live t z b R (h.new ⟨some t,z,zs zero n⟩) (.sl (some h.next) 0 n (some n)) (List.replicate n x):=by
 refine⟨some h.next,some n,zs zero n,by simp,by simpa using IsCF.made hb hz n,by simpa using zs_len hz,fun j y hy=> ?_⟩
 rw[List.getElem?_replicate] at hy
 split at hy
 ·rename_i hj
  injection hy with hy
  subst hy
  have:((zs zero n).drop (j*z)).take z=zero:=by
   have key:∀(n j:Nat),j<n→(((List.replicate n zero).flatten).drop (j*z)).take z=zero:=by
    intro n
    induction n with
    |zero=>intro j hj;omega
    |succ n ih=>
     intro j hj
     rw[List.replicate_succ,List.flatten_cons]
     rcases j with _|j
     ·rw[Nat.zero_mul,List.drop_zero,List.take_append_of_le_length (by omega),List.take_of_length_le (by omega)]
     ·rw[List.drop_append,List.drop_of_length_le (by rw[Nat.succ_mul];omega),List.nil_append,hz,show(j+1)*z-z=j*z by rw[Nat.succ_mul];omega]
      exact ih j (by omega)
   unfold zs
   split
   ·rename_i z0
    have hk:=key n j hj
    rw[show(List.replicate n [z0]).flatten=List.replicate n z0 by simp] at hk
    exact hk
   ·simpa using key n j hj
  rw[this]
  exact hx _
 ·cases hy
end
section
variable {α β:Type} {z:Nat} {R:H→List AV→α→Prop} {R':H→List AV→β→Prop} {h:H} {v:AV} {xs:List α}
theorem IsA.mapz {f:α→β} (hv:IsA z R h v xs) (hr:∀c x,x∈xs→R h c x→R' h c (f x)):IsA z R' h v (xs.map f):=by
 obtain⟨cs,h1,h2⟩:=hv
 refine⟨cs,by rwa[List.length_map],by rw[List.length_map];exact h2.1,fun j y hy=> ?_⟩
 rw[List.getElem?_map] at hy
 obtain⟨x,hx,rfl⟩:=Option.map_eq_some_iff.1 hy
 exact hr _ x (List.mem_of_getElem? hx) (h2.2 j x hx)
end
section
variable {h:H} {v:AV} {i:Nat} {r:Row}
theorem IsW.delT {k:IntKind} {xs:List Int} (hv:IsW k h v xs) (hr:h.rows i=some r) (h1:r.own≠none) (h2:r.esz≠1):IsW k (h.del (some i)) v xs:=by
 obtain⟨id,off,c,e,h3⟩:=hv
 refine⟨id,off,c,e, ?_⟩
 rcases h3 with h3|⟨j,q,rfl,hq,ho,h4⟩
 ·exact .inl h3
 ·refine .inr ⟨j,q,rfl, ?_,ho,h4⟩
  rw[H.rows_del_ne]
  ·exact hq
  ·rintro rfl
   rw[hr] at hq
   injection hq with hq
   subst hq
   rcases ho with ho|ho
   ·exact h1 ho
   ·exact h2 ho
theorem Nf.delT {c x:Nat} {T:TypeId} (hv:Nf c h v x) (hr:h.rows i=some r) (ho:r.own=some T) (hT:T≠73):Nf c (h.del (some i)) v x:=by
 obtain⟨xs,⟨id,c,rfl,h1⟩,h2⟩:=hv
 refine⟨xs,⟨id,c,rfl, ?_⟩,h2⟩
 rcases h1 with h1|⟨j,q,rfl,hb,hq,hqo,h3⟩
 ·exact .inl h1
 ·refine .inr ⟨j,q,rfl,hb, ?_,hqo,h3⟩
  rw[H.rows_del_ne]
  ·exact hq
  ·rintro rfl
   rw[hr] at hq
   injection hq with hq
   rw[←hq,ho] at hqo
   injection hqo with hqo
   exact hT hqo
theorem Zf.delT {c:Nat} {T:TypeId} {z:Int} (hv:Zf c h v z) (hr:h.rows i=some r) (ho:r.own=some T) (hT:T≠73):Zf c (h.del (some i)) v z:=by
 obtain⟨w,b,x,e,h1,h2⟩:=hv
 exact⟨w,b,x,e,h1.delT hr ho hT,h2⟩
theorem Zr.delT {z:Int} (hv:Zr h v z) (hr:h.rows i=some r) (h1:r.own≠none) (h2:r.esz≠1):Zr (h.del (some i)) v z:=by
 obtain⟨w,b,x,e,⟨xs,h3,h4⟩,h5⟩:=hv
 exact⟨w,b,x,e,⟨xs,h3.delT hr h1 h2,h4⟩,h5⟩
end
def Wz (k:Nat) (z:Int):Prop:=wlen z.natAbs≤k
theorem Wz.big {k:Nat} {z:Int} (h:Wz k z) (hk:k≤400000):Big z.natAbs:=wbig h hk
theorem Wz.le {k k':Nat} {z:Int} (h:Wz k z) (hk:k≤k'):Wz k' z:=Nat.le_trans h hk
theorem Wz.zero (k:Nat):Wz k 0:=by
 unfold Wz
 rw[show(0:Int).natAbs=0 from rfl,wlen_zero]
 omega
theorem Wz.lt {k:Nat} {z:Int}:Wz k z↔z.natAbs<18446744073709551616^k:=wlen_le
theorem Wz.add {k:Nat} {a b:Int} (ha:Wz k a) (hb:Wz k b):Wz (k+1) (a+b):=by
 rw[Wz.lt] at*
 have h3:18446744073709551616^(k+1)=18446744073709551616^k*18446744073709551616:=Nat.pow_succ ..
 omega
theorem Wz.mul {j k:Nat} {a b:Int} (ha:Wz j a) (hb:Wz k b):Wz (j+k) (a*b):=by
 rw[Wz.lt] at*
 rw[Int.natAbs_mul,Nat.pow_add]
 exact Nat.mul_lt_mul'' ha hb
theorem Wz.bigs {k:Nat} {a b:Int} (ha:Wz k a) (hb:Wz k b) (hk:k≤399999):Big (a.natAbs+b.natAbs):=by
 rw[Wz.lt] at*
 refine lt_bigW (k:=k+1) ?_ (by omega)
 have h3:18446744073709551616^(k+1)=18446744073709551616^k*18446744073709551616:=Nat.pow_succ ..
 omega
theorem zn_open {h:H} {v:AV} {z:Int} (hv:Zn h v z):∃w b x,v= .agg [w, .bool b]∧Nn h w x∧z=sg b x∧z.natAbs=x∧w.one=true:=by
 obtain⟨w,b,x,e,h1,h2⟩:=hv
 exact⟨w,b,x,e,h1,h2,by rw[h2,sg_abs],h1.one⟩
theorem Zr.zero (h:H):Zr h (.agg [.sl none 0 0 none, .bool false]) 0:=⟨_,_,0,rfl,⟨[],IsN.nil _ _,by simp,by simp,rfl⟩,fun _=>rfl,rfl⟩
end
section
section
variable {α:Type} {F G:Nat→α} {n k:Nat} {v z:α}
def rowF (F:Nat→α) (n:Nat):List α:=(List.range n).map F
theorem rowF_len:(rowF F n).length=n:=by simp[rowF]
theorem rowF_get (h:k<n):(rowF F n)[k]'(by rw[rowF_len];exact h)=F k:=by simp[rowF]
theorem rowF_getD:(rowF F n).getD k z=if k<n then F k else z:=by
 rw[List.getD_eq_getElem?_getD]
 split
 ·rename_i h
  rw[List.getElem?_eq_getElem (by rw[rowF_len];exact h),rowF_get h]
  rfl
 ·rename_i h
  rw[List.getElem?_eq_none (by rw[rowF_len];omega)]
  rfl
theorem rowF_ext (h:∀i,i<n→F i=G i):rowF F n=rowF G n:=by
 refine List.ext_getElem (by rw[rowF_len,rowF_len]) fun i h1 h2=> ?_
 rw[rowF_len] at h1
 rw[rowF_get h1,rowF_get h1,h i h1]
theorem rowF_set (hv:G k=v) (h:∀i,i<n→i≠k→G i=F i):(rowF F n).set k v=rowF G n:=by
 refine List.ext_getElem (by rw[List.length_set,rowF_len,rowF_len]) fun i h1 h2=> ?_
 rw[rowF_len] at h2
 rw[List.getElem_set]
 split
 ·rename_i e
  subst e
  rw[rowF_get h2]
  exact hv.symm
 ·rename_i e
  rw[rowF_get h2,rowF_get h2,h i h2 (Ne.symm e)]
theorem rowF_rep:rowF (fun _=>v) n=List.replicate n v:=by
 refine List.ext_getElem (by rw[rowF_len,List.length_replicate]) fun i h1 h2=> ?_
 rw[rowF_len] at h1
 rw[rowF_get h1,List.getElem_replicate]
theorem rowF_snoc {α:Type} {F:Nat→α} {n:Nat}:rowF F n++[F n]=rowF F (n+1):=by
 unfold rowF
 rw[List.range_succ,List.map_append]
 rfl
def upF (F:Nat→α) (z:α) (j i:Nat):α:=if i<j then F i else z
theorem upF_zero:rowF (upF F z 0) n=List.replicate n z:=by
 rw[←rowF_rep]
 exact rowF_ext fun i _=>if_neg (by omega)
theorem upF_step {j:Nat}:(rowF (upF F z j) n).set j (F j)=rowF (upF F z (j+1)) n:=by
 refine rowF_set (if_pos (by omega)) fun i _ hi=> ?_
 unfold upF
 by_cases h:i<j
 ·rw[if_pos h,if_pos (by omega)]
 ·rw[if_neg h,if_neg (by omega)]
theorem upF_all:rowF (upF F z n) n=rowF F n:=rowF_ext fun i hi=>if_pos hi
end
end
section
def ZwL (W:Nat) (h:H) (l:List AV) (z:Int):Prop:=Zn h (.agg l) z∧Wz W z
def ZbL (c W:Nat) (h:H) (l:List AV) (z:Int):Prop:=Zf c h (.agg l) z∧Wz W z
def ZtL (h:H) (l:List AV) (z:Int):Prop:=∃w,l=[w, .bool (decide (z<0))]∧Nt h w z.natAbs
def ZqL (W:Nat) (h:H) (l:List AV) (z:Int):Prop:=Zr h (.agg l) z∧Wz W z
theorem ZwL.grows {W:Nat}:Grows (ZwL W):=fun _ _ _ _ h1 h2=>⟨h1.1.mono h2,h1.2⟩
theorem ZbL.grows {c W:Nat}:Grows (ZbL c W):=fun _ _ _ _ h1 h2=>⟨h1.1.mono h2,h1.2⟩
theorem ZqL.grows {W:Nat}:Grows (ZqL W):=fun _ _ _ _ h1 h2=>⟨h1.1.mono h2,h1.2⟩
theorem ZbL.zw {c W:Nat} (hW:W≤400000) {h:H} {l:List AV} {z:Int} (hv:ZbL c W h l z):ZwL W h l z:=⟨hv.1.zn (hv.2.big hW),hv.2⟩
theorem ZbL.zt {c W:Nat} {h:H} {l:List AV} {z:Int} (hv:ZbL c W h l z):ZtL h l z:=by
 obtain⟨w,e,h1⟩:=zf_open hv.1
 injection e with e
 exact⟨w,e,h1.nt⟩
theorem zw_open {W:Nat} {h:H} {l:List AV} {z:Int} (hv:ZwL W h l z):∃w b x,l=[w, .bool b]∧Nn h w x∧z=sg b x∧z.natAbs=x∧w.one=true:=by
 obtain⟨w,b,x,e,h1,h2,h3,h4⟩:=zn_open hv.1
 injection e with e
 exact⟨w,b,x,e,h1,h2,h3,h4⟩
theorem zq_open {W:Nat} {h:H} {l:List AV} {z:Int} (hv:ZqL W h l z):∃w,l=[w, .bool (decide (z<0))]∧Num 4294967296 h w z.natAbs∧w.one=true:=by
 obtain⟨w,e,h1⟩:=zr_open hv.1
 injection e with e
 exact⟨w,e,h1,h1.one⟩
theorem H.del_nil {h:H}:h.le (h.del none):=⟨Nat.le_refl _,fun i r e=>by
 simp only[H.del]
 rw[if_neg (by intro x;cases x)]
 exact e⟩
section
variable {α:Type} {T:TypeId} {b n W:Nat} {R:H→List AV→α→Prop} {h:H} {xs:List α} {io c:Option Nat} {v:AV} {z:Int}
theorem Zf.off {d:Nat} (hs:Live T 2 b R h (.sl io 0 n c) xs) (hT:T≠73) (hv:Zf d h v z):Zf d (h.del io) v z:=by
 cases io with
 |none=>exact hv.mono H.del_nil
 |some i=>
  obtain⟨_,r,hr,ho,_⟩:=hs.ownz i rfl
  exact hv.delT hr ho hT
theorem Zr.off (hs:Live T 2 b R h (.sl io 0 n c) xs) (hv:Zr h v z):Zr (h.del io) v z:=by
 cases io with
 |none=>exact hv.mono H.del_nil
 |some i=>
  obtain⟨_,r,hr,ho,hz⟩:=hs.ownz i rfl
  exact hv.delT hr (by rw[ho];simp) (by rw[hz];decide)
end
def Since (b:Nat) (v:AV):Prop:=∀i off n c,v= .sl (some i) off n c→b≤i
theorem Live.since {α:Type} {T:TypeId} {z b:Nat} {R:H→List AV→α→Prop} {h:H} {v:AV} {xs:List α} (hv:Live T z b R h v xs):Since b v:=by
 obtain⟨io,c,e⟩:=hv.form
 subst e
 intro i off n c' e
 injection e with e1
 exact(hv.ownz i e1).1
theorem bldZ {w b:AV} (hw:w.one=true) (hb:b.one=true):abuild (zs [.sl none 0 0 none, .bool false] 1) [(0,2, .agg [w,b])]=some [w,b]:=by
 simp[abuild,zs,putAt,AV.held,AV.cells,hw,hb]
theorem all2b {w b:AV} (hw:w.one=true) (hb:b.one=true):([w,b].all fun x=>x.one)=true:=by simp[hw,hb]
theorem natAbs_eq0 {z:Int}:decide (z.natAbs=0)=decide (z=0):=by
 by_cases h:z=0
 ·rw[decide_eq_true h,decide_eq_true (by omega)]
 ·rw[decide_eq_false h,decide_eq_false (by omega)]
theorem take_last {α:Type} {xs:List α} {k:Nat} (h0:0<k) (hk:k≤xs.length):(xs.take k).getLast? =some (xs[k-1]'(by omega)):=by
 rw[List.getLast?_eq_getElem?,List.length_take,Nat.min_eq_left hk,List.getElem?_take,if_pos (by omega),List.getElem?_eq_getElem (by omega)]
theorem drop_cons {α:Type} {p:α→Prop} {xs:List α} {k:Nat} (h0:0<k) (hk:k≤xs.length) (h1:p (xs[k-1]'(by omega))) (h2:∀x∈xs.drop k,p x):∀x∈xs.drop (k-1),p x:=by
 intro x hm
 rw[List.drop_eq_getElem_cons (by omega)] at hm
 rcases List.mem_cons.1 hm with rfl|hm
 ·exact h1
 ·exact h2 x (by rwa[show k-1+1=k from by omega] at hm)
section
variable {W:Nat} {v va vb:AV} {zs ys:List Int} {h:H} {K:AV→H→Prop}
theorem ztrim_calls (hW:W≤400000) (hv:IsA 2 (ZwL W) h v zs) (hl:zs.length≤1000000) (hk:∀id off c k,v= .sl id off zs.length c→k≤zs.length→(∀z∈zs.drop k,z=0)→(∀y,(zs.take k).getLast? =some y→y≠0)→K (.sl id off k c) h):ACalls Tryz.prog 43 [v] h K:=by
 obtain⟨id,off,c,rfl⟩:=hv.form
 refine in_polyz_trim (by simp) fun hw=> ?_
 unfold c_polyz_trim
 simp only[go_sem]
 refine⟨fun k ρ h2=>h2=h∧ρ 0= .sl id off k c∧k≤zs.length∧(∀x∈zs.drop k,x=0),zs.length,⟨rfl,by first|rfl|trivial|assumption,Nat.le_refl _,by simp⟩, ?_⟩
 rintro k ρ h2 ⟨rfl,q0,hk1,hz⟩
 have fin:(∀x,(zs.take k).getLast? =some x→x≠0)→K (.sl id off k c) h2:=fun hl=>hk _ _ _ _ rfl hk1 hz hl
 rcases Nat.eq_zero_or_pos k with h0|h0
 ·subst h0
  simp only[go_sem,q0,show decide ((0:Int)<((0:Nat):Int))=false from rfl]
  exact fun _=>fin (by simp)
 ·obtain⟨i,l,e7,_,_,_,hg1,hR⟩:=hv.atz (by omega) (j:=k-1) (by omega)
  subst e7
  obtain⟨w,b,x,rfl,nw,_,hxz,_⟩:=zw_open hR
  have hg:=hg1 0 (by omega)
  rw[Nat.add_zero] at hg
  have e1:IntKind.i64.wrap ((k:Int)-1)=((k-1:Nat):Int):=by rw[wI]<;>omega
  simp only[go_sem,q0,show decide ((0:Int)<(k:Int))=true from decide_eq_true (by omega),e1]
  refine⟨by omega,by omega, ?_⟩
  simp only[go_sem,hg,List.getElem?_cons_zero,Int.toNat_natCast,Nat.add_zero]
  refine Zero_calls nw ?_
  rw[←hxz,natAbs_eq0]
  by_cases hx:zs[k-1]=0
  ·simp only[go_sem,decide_eq_true hx,q0,e1]
   refine⟨by omega, .inl (by omega),hv.row, ?_⟩
   exact⟨k-1,by omega,by first|rfl|trivial|assumption,by first|rfl|trivial|assumption,by omega,drop_cons h0 hk1 hx hz⟩
  ·simp only[go_sem,decide_eq_false hx,q0]
   refine fun _=>fin fun x hl=> ?_
   rw[take_last h0 hk1] at hl
   injection hl with hl
   rw[←hl]
   exact hx
theorem ztrim_live {b:Nat} {R:H→List AV→Int→Prop} {T:TypeId} (hW:W≤400000) (hv:Live T 2 b R h v zs) (hR:∀g l z,R g l z→ZwL W g l z) (hl:zs.length≤1000000) (hk:∀r ys,Live T 2 b R h r ys→TrimG 0 (fun i=>zs.getD i 0) ys→ys.length≤zs.length→K r h):ACalls Tryz.prog 43 [v] h K:=by
 obtain⟨io,c,rfl⟩:=hv.form
 have hA:IsA 2 (ZwL W) h (.sl io 0 zs.length c) zs:=by
  obtain⟨io',c',cs,e,h1,h2⟩:=hv
  exact⟨cs,h1.isC,h2.mono fun l x hx=>ZwL.grows (hR _ _ _ hx) (H.del_le io')⟩
 refine ztrim_calls hW hA hl fun id off c' k e hk1 hz hlast=> ?_
 injection e with e1 e2 e3 e4
 subst e1;subst e2;subst e4
 exact hk _ _ (hv.cutz hk1) (TrimG.of hz hlast) (by rw[List.length_take];omega)
theorem zDeg_calls (hW:W≤400000) (hv:IsA 2 (ZwL W) h v zs) (hl:zs.length≤1000000) (hk:∀ys,TrimG 0 (fun i=>zs.getD i 0) ys→K (.int .i64 ((ys.length:Int)-1)) h):ACalls Tryz.prog 48 [v] h K:=by
 refine in_polyz_Deg (by simp) fun hw=> ?_
 unfold c_polyz_Deg
 simp only[go_sem]
 refine ztrim_calls hW hv hl fun id off c' k e hk1 hz hlast=> ?_
 simp only[go_sem,show IntKind.i64.wrap ((k:Int)-1)=(k:Int)-1 by rw[wI]<;>omega]
 have:=hk _ (TrimG.of hz hlast)
 rw[List.length_take,Nat.min_eq_left hk1] at this
 exact fun _=>this
theorem zrnorm_calls (hv:IsA 2 (ZqL W) h v zs) (hl:zs.length≤1000000) (hk:∀r ys h',h'.wf→h.le h'→IsA 2 (ZqL W) h' r ys→TrimG 0 (fun i=>zs.getD i 0) ys→ys.length≤zs.length→(∀b,Since b v→Since b r)→K r h'):ACalls Tryz.prog 42 [v] h K:=by
 obtain⟨id,off,c,rfl⟩:=hv.form
 refine in_ref28_norm (by simp) fun hw=> ?_
 unfold c_ref28_norm
 simp only[go_sem]
 refine loop_cut (fun ρ h2=>h2.wf∧h.le h2∧ρ 0= .sl id off zs.length c∧∃k,ρ 3= .int .i64 ((k:Nat):Int)∧k≤zs.length∧(∀x∈zs.drop k,x=0)∧(∀y,(zs.take k).getLast? =some y→y≠0)) ?_ ?_
 ·refine⟨fun k ρ h2=>h2.wf∧h.le h2∧ρ 0= .sl id off zs.length c∧ρ 3= .int .i64 (k:Int)∧k≤zs.length∧(∀x∈zs.drop k,x=0),zs.length,⟨hw,H.le_refl _,by first|rfl|trivial|assumption,by first|rfl|trivial|assumption,Nat.le_refl _,by simp⟩, ?_⟩
  rintro k ρ h2 ⟨hw2,hle,q0,q3,hk1,hz⟩
  rcases Nat.eq_zero_or_pos k with h0|h0
  ·subst h0
   simp only[go_sem,q3,show decide ((0:Int)<((0:Nat):Int))=false from rfl]
   exact⟨hw2,hle,q0,0,by first|rfl|trivial|assumption,Nat.zero_le _,hz,by simp⟩
  ·obtain⟨i,l,e7,_,_,hg,_,hR⟩:=hv.atz (by omega) (j:=k-1) (by omega)
   subst e7
   obtain⟨w,rfl,nw,_⟩:=zq_open hR
   have hg:=H.gets_le hle hg
   have e1:IntKind.i64.wrap ((k:Int)-1)=((k-1:Nat):Int):=by rw[wI]<;>omega
   simp only[go_sem,q0,q3,show decide ((0:Int)<(k:Int))=true from decide_eq_true (by omega),e1]
   refine⟨by omega,by omega, ?_⟩
   simp only[go_sem,hg,q0,q3]
   refine zrZero_calls (nw.mono hle) fun h3 hw3 hl3=> ?_
   rw[natAbs_eq0]
   by_cases hx:zs[k-1]=0
   ·simp only[go_sem,decide_eq_true hx,q0,q3,e1]
    exact⟨k-1,by omega,hw3,H.le_trans hle hl3,by first|rfl|trivial|assumption,by first|rfl|trivial|assumption,by omega,drop_cons h0 hk1 hx hz⟩
   ·simp only[go_sem,decide_eq_false hx,q0,q3]
    refine⟨hw3,H.le_trans hle hl3,by first|rfl|trivial|assumption,k,by first|rfl|trivial|assumption,hk1,hz,fun x hl=> ?_⟩
    rw[take_last h0 hk1] at hl
    injection hl with hl
    rw[←hl]
    exact hx
 rintro ρ h2 ⟨hw2,hle,q0,k,q3,hk1,hz,hlast⟩
 simp only[go_sem,q0,q3,Int.toNat_natCast]
 have hc:=(hv.mono ZqL.grows hle).cut (c':=c) (a:=0) (b:=k) (Nat.zero_le _) hk1
 rw[Nat.zero_mul,Nat.add_zero,Nat.sub_zero,List.drop_zero] at hc
 exact⟨by omega, .inl hk1,(hv.mono ZqL.grows hle).row,fun _=>hk _ _ h2 hw2 hle hc (TrimG.of hz hlast) (by rw[List.length_take];omega) (fun b hb i o n c' e=>by
  injection e with e1
  exact hb i _ _ _ (by rw[e1]))⟩
theorem zrFromL_calls (hW:W≤400000) (hv:IsA 2 (ZwL W) h v zs) (hl:zs.length≤1000000) (hk:∀r ys h',h'.wf→h.le h'→IsA 2 (ZqL W) h' r ys→TrimG 0 (fun i=>zs.getD i 0) ys→ys.length≤zs.length→Since h.next r→K r h'):ACalls Tryz.prog 37 [v] h K:=by
 obtain⟨id,off,c,rfl⟩:=hv.form
 refine in_ref28_From (by simp) fun hw=> ?_
 unfold c_ref28_From
 simp only[go_sem]
 refine loop_cut (fun ρ h2=>h2.wf∧h.le h2∧Live 47 2 h.next (ZqL W) h2 (ρ 3) zs) ?_ ?_
 ·refine for_rule (fun j ρ h2=>j≤zs.length∧h2.wf∧h.le h2∧ρ 0= .sl id off zs.length c∧ρ 4= .int .i64 (j:Int)∧Live 47 2 h.next (ZqL W) h2 (ρ 3) (zs.take j)) zs.length
   ⟨by omega,hw,H.le_refl _,by first|rfl|trivial|assumption,by first|rfl|trivial|assumption,Live.nil _ _ _ _ _ _⟩ (fun i ρ h hI=>hI.1) ?_
  rintro j ρ h2 ⟨hj,hw2,hle,q0,q4,hs⟩
  rcases Nat.lt_or_ge j zs.length with h3|h3
  ·obtain⟨i,l,rfl,_,_,hg,_,hR⟩:=hv.atz (by omega) h3
   have hWz:=hR.2
   obtain⟨w,b,x,rfl,nw,hzx,hxz,_⟩:=zw_open hR
   have hg:=H.gets_le hle hg
   obtain⟨io,co,q3⟩:=hs.form
   have hlen:(zs.take j).length=j:=by rw[List.length_take];omega
   rw[hlen] at q3
   rw[q3] at hs
   simp only[go_sem,q0,q3,q4,ltT h3]
   refine⟨by omega,by omega, ?_⟩
   simp only[go_sem,hg,q0,q3,q4]
   refine zrFrom_calls (nw.mono hle) fun o h4 hw4 hl4 ho=> ?_
   rw[←hzx] at ho
   have hs4:=hs.mono ZqL.grows hl4
   have hof:=ho.off hs4
   obtain⟨o0,o1,rfl,oo0,oo1⟩:=ho.two
   have hle4:=H.le_trans hle hl4
   simp only[go_sem,q0,q3,q4,bldZ oo0 oo1]
   refine hs4.app ZqL.grows (by omega) hw hw4 hle4 hlen.symm (y:=zs[j]) ⟨hof,hWz⟩ rfl (all2b oo0 oo1) (by omega) (by omega) rfl fun v5 h5 hw5 hl5 hs5=> ?_
   simp only[go_sem,q0,q4,incI (i:=j) (by omega)]
   refine⟨by omega,hw5,hl5,by first|rfl|trivial|assumption,by first|rfl|trivial|assumption, ?_⟩
   rw[List.take_succ_eq_append_getElem h3]
   exact hs5
  ·obtain rfl:j=zs.length:=by omega
   rw[List.take_length] at hs
   simp only[go_sem,q0,q4,ltF (Nat.le_refl zs.length)]
   exact⟨hw2,hle,hs⟩
 rintro ρ h2 ⟨hw2,hle,hs⟩
 simp only[go_sem]
 refine zrnorm_calls (hs.isA ZqL.grows) hl fun r ys h3 hw3 hl3 hr ht hyl hsi=> ?_
 simp only[go_sem]
 exact fun hw'=>hk r ys h3 hw' (H.le_trans hle hl3) hr ht hyl (hsi _ hs.since)
theorem zrToL_calls (hW:W≤400000) (hv:IsA 2 (ZqL W) h v zs) (hl:zs.length≤1000000) (hk:∀r h',h'.wf→h.le h'→Live 39 2 h.next (ZbL h.next W) h' r zs→K r h'):ACalls Tryz.prog 22 [v] h K:=by
 obtain⟨id,off,c,rfl⟩:=hv.form
 refine in_ref28_To (by simp) fun hw=> ?_
 unfold c_ref28_To
 simp only[go_sem]
 refine for_rule (fun j ρ h2=>j≤zs.length∧h2.wf∧h.le h2∧ρ 0= .sl id off zs.length c∧ρ 4= .int .i64 (j:Int)∧Live 39 2 h.next (ZbL h.next W) h2 (ρ 3) (zs.take j)) zs.length
  ⟨by omega,hw,H.le_refl _,by first|rfl|trivial|assumption,by first|rfl|trivial|assumption,Live.nil _ _ _ _ _ _⟩ (fun i ρ h hI=>hI.1) ?_
 rintro j ρ h2 ⟨hj,hw2,hle,q0,q4,hs⟩
 rcases Nat.lt_or_ge j zs.length with h3|h3
 ·obtain⟨i,l,rfl,_,_,hg,_,hR⟩:=hv.atz (by omega) h3
  have hWz:=hR.2
  obtain⟨w,rfl,nw,_⟩:=zq_open hR
  have hg:=H.gets_le hle hg
  obtain⟨io,co,q3⟩:=hs.form
  have hlen:(zs.take j).length=j:=by rw[List.length_take];omega
  rw[hlen] at q3
  rw[q3] at hs
  simp only[go_sem,q0,q3,q4,ltT h3]
  refine⟨by omega,by omega, ?_⟩
  simp only[go_sem,hg,q0,q3,q4]
  refine zrTo_calls (nw.mono hle) (hWz.big hW) (fun h0=>by simp;omega) fun o h4 hw4 hl4 ho=> ?_
  rw[sg_self] at ho
  have hs4:=hs.mono ZbL.grows hl4
  have hle4:=H.le_trans hle hl4
  have hof:=(ho.base (d:=h.next) hle.1).off hs4 (by decide)
  obtain⟨o0,o1,rfl,oo0,oo1⟩:=ho.two
  simp only[go_sem,q0,q3,q4,bldZ oo0 oo1]
  refine hs4.app ZbL.grows (by omega) hw hw4 hle4 hlen.symm (y:=zs[j]) ⟨hof,hWz⟩ rfl (all2b oo0 oo1) (by omega) (by omega) rfl fun v5 h5 hw5 hl5 hs5=> ?_
  simp only[go_sem,q0,q4,incI (i:=j) (by omega)]
  refine⟨by omega,hw5,hl5,by first|rfl|trivial|assumption,by first|rfl|trivial|assumption, ?_⟩
  rw[List.take_succ_eq_append_getElem h3]
  exact hs5
 ·obtain rfl:j=zs.length:=by omega
  rw[List.take_length] at hs
  simp only[go_sem,q0,q4,ltF (Nat.le_refl zs.length)]
  exact fun _=>hk _ h2 hw2 hle hs
theorem zSame28_calls (hW:W≤400000) (ha:IsA 2 (ZqL W) h va zs) (hb:IsA 2 ZtL h vb zs) (hl:zs.length≤1000000) (hk:∀h',h'.wf→h.le h'→K (.bool true) h'):ACalls Tryz.prog 9 [va,vb] h K:=by
 obtain⟨ida,offa,ca,rfl⟩:=ha.form
 obtain⟨idb,offb,cb,rfl⟩:=hb.form
 refine in_ref28_Same (by simp) fun hw=> ?_
 unfold c_ref28_Same
 simp only[go_sem]
 refine zrToL_calls hW ha hl fun r h1 hw1 hl1 hr=> ?_
 obtain⟨ir,cr,rfl⟩:=hr.form
 have hrA:=(hr.isA ZbL.grows)
 simp only[go_sem,neF (show(zs.length:Int)=zs.length from rfl)]
 refine for_rule (fun j ρ h2=>j≤zs.length∧h2.wf∧h1.le h2∧ρ 0= .sl ida offa zs.length ca∧ρ 1= .sl idb offb zs.length cb∧ρ 5= .sl ir 0 zs.length cr∧ρ 6= .int .i64 (j:Int)) zs.length
  ⟨by omega,hw1,H.le_refl _,by first|rfl|trivial|assumption,by first|rfl|trivial|assumption,by first|rfl|trivial|assumption,by first|rfl|trivial|assumption⟩ (fun i ρ h hI=>hI.1) ?_
 rintro j ρ h2 ⟨hj,hw2,hle,q0,q1,q5,q6⟩
 rcases Nat.lt_or_ge j zs.length with h3|h3
 ·obtain⟨i1,l1,rfl,_,_,_,hg1,hR1⟩:=hrA.atz (by omega) h3
  obtain⟨i2,l2,rfl,_,_,_,hg2,hR2⟩:=hb.atz (by omega) h3
  obtain⟨i3,l3,rfl,_,_,_,hg3,hR3⟩:=ha.atz (by omega) h3
  have hWz:=hR3.2
  obtain⟨w1,rfl,nt1⟩:=hR1.zt
  obtain⟨w2,rfl,nt2⟩:=hR2
  obtain⟨w3,rfl,nt3,_⟩:=zq_open hR3
  have g1:=H.get_le hle (hg1 1 (by omega))
  have g2a:=H.get_le (H.le_trans hl1 hle) (hg2 0 (by omega))
  have g2b:=H.get_le (H.le_trans hl1 hle) (hg2 1 (by omega))
  have g3:=H.get_le (H.le_trans hl1 hle) (hg3 0 (by omega))
  rw[Nat.zero_add] at g1
  rw[Nat.add_zero] at g2a g3
  simp only[go_sem,q0,q1,q5,q6,ltT h3]
  refine⟨by omega,by omega, ?_⟩
  simp only[go_sem,g1,List.getElem?_cons_succ,List.getElem?_cons_zero,q0,q1,q5,q6]
  refine⟨by omega,by omega, ?_⟩
  simp only[go_sem,g2b,List.getElem?_cons_succ,List.getElem?_cons_zero,bne_self_eq_false,q0,q1,q5,q6]
  refine⟨by omega,by omega, ?_⟩
  simp only[go_sem,g3,Nat.add_zero,List.getElem?_cons_succ,List.getElem?_cons_zero,q0,q1,q5,q6]
  refine⟨by omega,by omega, ?_⟩
  simp only[go_sem,g2a,Nat.add_zero,List.getElem?_cons_succ,List.getElem?_cons_zero,q0,q1,q5,q6]
  refine rSame_calls (nt3.mono (H.le_trans hl1 hle)) (hWz.big hW) (nt2.mono (H.le_trans hl1 hle)) fun h4 hw4 hl4=> ?_
  simp only[go_sem,Bool.not_true,q0,q1,q5,q6,incI (i:=j) (by omega)]
  exact⟨by omega,hw4,H.le_trans hle hl4,by first|rfl|trivial|assumption,by first|rfl|trivial|assumption,by first|rfl|trivial|assumption,by first|rfl|trivial|assumption⟩
 ·obtain rfl:j=zs.length:=by omega
  simp only[go_sem,q5,q6,ltF (Nat.le_refl zs.length)]
  exact fun hw'=>hk h2 hw' (H.le_trans hl1 hle)
end
end
section
section
variable {e u m nw dp a x k n i:Nat} {t:Tb} {va vx:AV} {h:H} {K:AV→H→Prop}
theorem poNew_calls (hk:∀e u h',h'.wf→h.le h'→h.next≤u→u<e→Eng 11 h' e u→Tune h' u 0 0 0 (clampT t)→K (.ptr (some (e,0))) h'):ACalls Tryz.prog 110 [t.av] h K:=by
 refine in_power_New (by simp) fun hw=> ?_
 unfold c_power_New
 have hl1:=H.le_new hw (H.le_refl h) ⟨some 23,11,t.cells⟩
 have hn1:h.next<(h.new ⟨some 23,11,t.cells⟩).next:=Nat.lt_succ_self _
 simp only[go_sem,av_held,av_cells,cells_len,true_and,gsT (H.rows_new h _)]
 refine nuNew_calls fun e u h1 hw1 hl2 hn2 _ he ht=> ?_
 simp only[go_sem,bldp]
 simp only[AV.held,AV.cells,true_and,go_sem]
 have hl3:=H.le_new hw1 (H.le_refl h1) ⟨some 105,1,[AV.ptr (some (e,0))]⟩
 exact fun hw'=>hk _ u _ hw' (H.le_trans hl1 (H.le_trans hl2 hl3)) (by omega) (H.row_lt hw1 ht) ⟨_,e,H.rows_new _ _,rfl,he.mono hl3⟩ (ht.mono hl3)
end
end
section
section
variable {t:Tb} {h:H} {K:AV→H→Prop}
theorem gcNew_calls (hk:∀e u h',h'.wf→h.le h'→h.next≤u→u<e→Eng 12 h' e u→Tune h' u 0 0 0 (clampT t)→K (.ptr (some (e,0))) h'):ACalls Tryz.prog 92 [t.av] h K:=by
 refine in_gcd_New (by simp) fun hw=> ?_
 unfold c_gcd_New
 have hl1:=H.le_new hw (H.le_refl h) ⟨some 23,11,t.cells⟩
 have hn1:h.next<(h.new ⟨some 23,11,t.cells⟩).next:=Nat.lt_succ_self _
 simp only[go_sem,av_held,av_cells,cells_len,true_and,gsT (H.rows_new h _)]
 refine poNew_calls fun e u h1 hw1 hl2 hn2 _ he ht=> ?_
 simp only[go_sem,bldp]
 simp only[AV.held,AV.cells,true_and,go_sem]
 have hl3:=H.le_new hw1 (H.le_refl h1) ⟨some 102,1,[AV.ptr (some (e,0))]⟩
 exact fun hw'=>hk _ u _ hw' (H.le_trans hl1 (H.le_trans hl2 hl3)) (by omega) (H.row_lt hw1 ht) ⟨_,e,H.rows_new _ _,rfl,he.mono hl3⟩ (ht.mono hl3)
theorem hgNew_calls (hk:∀e u h',h'.wf→h.le h'→h.next≤u→u<e→Eng 13 h' e u→Tune h' u 0 0 0 (clampT t)→K (.ptr (some (e,0))) h'):ACalls Tryz.prog 72 [t.av] h K:=by
 refine in_hgcd_New (by simp) fun hw=> ?_
 unfold c_hgcd_New
 have hl1:=H.le_new hw (H.le_refl h) ⟨some 23,11,t.cells⟩
 have hn1:h.next<(h.new ⟨some 23,11,t.cells⟩).next:=Nat.lt_succ_self _
 simp only[go_sem,av_held,av_cells,cells_len,true_and,gsT (H.rows_new h _)]
 refine gcNew_calls fun e u h1 hw1 hl2 hn2 _ he ht=> ?_
 simp only[go_sem,bldp]
 simp only[AV.held,AV.cells,true_and,go_sem]
 have hl3:=H.le_new hw1 (H.le_refl h1) ⟨some 99,1,[AV.ptr (some (e,0))]⟩
 exact fun hw'=>hk _ u _ hw' (H.le_trans hl1 (H.le_trans hl2 hl3)) (by omega) (H.row_lt hw1 ht) ⟨_,e,H.rows_new _ _,rfl,he.mono hl3⟩ (ht.mono hl3)
theorem mdNew_calls (hk:∀e u h',h'.wf→h.le h'→h.next≤u→u<e→Eng 14 h' e u→Tune h' u 0 0 0 (clampT t)→K (.ptr (some (e,0))) h'):ACalls Tryz.prog 38 [t.av] h K:=by
 refine in_modn_New (by simp) fun hw=> ?_
 unfold c_modn_New
 have hl1:=H.le_new hw (H.le_refl h) ⟨some 23,11,t.cells⟩
 have hn1:h.next<(h.new ⟨some 23,11,t.cells⟩).next:=Nat.lt_succ_self _
 simp only[go_sem,av_held,av_cells,cells_len,true_and,gsT (H.rows_new h _)]
 refine hgNew_calls fun e u h1 hw1 hl2 hn2 _ he ht=> ?_
 simp only[go_sem,bldp]
 simp only[AV.held,AV.cells,true_and,go_sem]
 have hl3:=H.le_new hw1 (H.le_refl h1) ⟨some 96,1,[AV.ptr (some (e,0))]⟩
 exact fun hw'=>hk _ u _ hw' (H.le_trans hl1 (H.le_trans hl2 hl3)) (by omega) (H.row_lt hw1 ht) ⟨_,e,H.rows_new _ _,rfl,he.mono hl3⟩ (ht.mono hl3)
theorem pzNew_calls (hk:∀e u h',h'.wf→h.le h'→h.next≤u→u<e→Eng 15 h' e u→Tune h' u 0 0 0 (clampT t)→K (.ptr (some (e,0))) h'):ACalls Tryz.prog 8 [t.av] h K:=by
 refine in_polyz_New (by simp) fun hw=> ?_
 unfold c_polyz_New
 have hl1:=H.le_new hw (H.le_refl h) ⟨some 23,11,t.cells⟩
 have hn1:h.next<(h.new ⟨some 23,11,t.cells⟩).next:=Nat.lt_succ_self _
 simp only[go_sem,av_held,av_cells,cells_len,true_and,gsT (H.rows_new h _)]
 refine mdNew_calls fun e u h1 hw1 hl2 hn2 _ he ht=> ?_
 simp only[go_sem,bldp]
 simp only[AV.held,AV.cells,true_and,go_sem]
 have hl3:=H.le_new hw1 (H.le_refl h1) ⟨some 79,1,[AV.ptr (some (e,0))]⟩
 exact fun hw'=>hk _ u _ hw' (H.le_trans hl1 (H.le_trans hl2 hl3)) (by omega) (H.row_lt hw1 ht) ⟨_,e,H.rows_new _ _,rfl,he.mono hl3⟩ (ht.mono hl3)
end
def hgt (zs:List Int):Nat:=zs.foldl (fun n z=>max n (blen z.natAbs)) 0
theorem hgt_succ {zs:List Int} {j:Nat} (h:j<zs.length):hgt (zs.take (j+1))=max (hgt (zs.take j)) (blen zs[j].natAbs):=by
 unfold hgt
 rw[List.take_succ_eq_append_getElem h,List.foldl_append]
 rfl
theorem wz_digs {W:Nat} {p:Bool×List Nat} (hd:Dig p.2) (hl:p.2.length≤W):Wz W (zI p):=by
 unfold Wz zI
 rw[sg_abs]
 exact Nat.le_trans (wlen_len hd) hl
theorem IsI.zw {W:Nat} {h:H} {l:List AV} {p:Bool×List Nat} (hv:IsI h l p) (hl:p.2.length≤W) (hW:W≤400000):ZwL W h l (zI p):=by
 obtain⟨w,rfl,h1,h2,h3⟩:=hv
 exact⟨⟨w,p.1,_,rfl,h1.nn h2 (by omega),rfl⟩,wz_digs h2 hl⟩
section
variable {W:Nat} {v va vb:AV} {zs ys:List Int} {h:H} {K:AV→H→Prop}
theorem zHeight_calls (hW:W≤400000) (hv:IsA 2 (ZwL W) h v zs) (hl:zs.length≤1000000) (hk:∀h',h'.wf→h.le h'→K (.int .i64 (hgt zs:Nat)) h'):ACalls Tryz.prog 46 [v] h K:=by
 obtain⟨id,off,c,rfl⟩:=hv.form
 refine in_polyz_Height (by simp) fun hw=> ?_
 unfold c_polyz_Height
 simp only[go_sem]
 refine for_rule (fun j ρ h2=>j≤zs.length∧h2.wf∧h.le h2∧ρ 3= .int .i64 (hgt (zs.take j):Nat)∧ρ 6= .sl id off zs.length c∧ρ 7= .int .i64 (zs.length:Int)∧ρ 8= .int .i64 (j:Int)) zs.length
  ⟨by omega,hw,H.le_refl _,by first|rfl|trivial|assumption,by first|rfl|trivial|assumption,by first|rfl|trivial|assumption,by first|rfl|trivial|assumption⟩ (fun i ρ h hI=>hI.1) ?_
 rintro j ρ h2 ⟨hj,hw2,hle,q3,q6,q7,q8⟩
 rcases Nat.lt_or_ge j zs.length with h3|h3
 ·obtain⟨i,l,rfl,_,_,hg,_,hR⟩:=hv.atz (by omega) h3
  obtain⟨w,b,x,rfl,nw,hzx,hxz,hone⟩:=zw_open hR
  have hg:=H.gets_le hle hg
  have nw:=nw.mono hle
  simp only[go_sem,q3,q6,q7,q8,ltT h3]
  refine⟨by omega,by omega, ?_⟩
  simp only[go_sem,hg,q3,q6,q7,q8]
  have r3:=H.rows_new h2 ⟨some 39,2,[.sl none 0 0 none, .bool false]⟩
  have hl4:=H.le_new hw2 (H.le_refl h2) ⟨some 39,2,[.sl none 0 0 none, .bool false]⟩
  have hw4:=H.wf_new hw2 ⟨some 39,2,[.sl none 0 0 none, .bool false]⟩
  simp only[List.length_cons,List.length_nil,Nat.zero_add,Nat.reduceAdd]
  have hn3:=hle.1
  generalize hR3:h2.next=R3 at*
  generalize h2.new ⟨some 39,2,[.sl none 0 0 none, .bool false]⟩=h4 at*
  refine⟨by trivial,all2 hone,put2 hw hw4 (H.le_trans hle hl4) (by omega) r3 rfl fun g3 hwg3 hlg3 hg3 r3n e3=> ?_⟩
  have nw:=(nw.mono hl4).lee2 r3 e3
  simp only[go_sem,q3,q6,q7,q8,(g2 r3n).1]
  refine nBits_calls nw ?_
  rw[←hxz]
  simp only[go_sem,q3,q6,q7,q8,maxN,incI (i:=j) (by omega)]
  rw[hgt_succ h3]
  exact⟨by omega,hwg3,hlg3,by first|rfl|trivial|assumption,by first|rfl|trivial|assumption,by first|rfl|trivial|assumption,by first|rfl|trivial|assumption⟩
 ·obtain rfl:j=zs.length:=by omega
  rw[List.take_length] at q3
  simp only[go_sem,q3,q7,q8,ltF (Nat.le_refl zs.length)]
  exact fun hw'=>hk h2 hw' hle
theorem bldZ2 {w b w' b':AV} (hw:w.one=true) (hb:b.one=true) (hw':w'.one=true) (hb':b'.one=true):abuild (Ab.zs [.sl none 0 0 none, .bool false] 2) [(0,2, .agg [w,b]),(2,2, .agg [w',b'])]=some [w,b,w',b']:=by
 simp[abuild,Ab.zs,putAt,AV.held,AV.cells,hw,hb,hw',hb']
theorem Zf.lit2 {c W:Nat} {T:TypeId} {a b a' b':AV} {z z':Int} (hw:h.wf) (h1:Zf c h (.agg [a,b]) z) (h2:Zf c h (.agg [a',b']) z') (w1:Wz W z) (w2:Wz W z') (hW:W≤400000):IsA 2 (ZwL W) (h.new ⟨some T,2,[a,b,a',b']⟩) (.sl (some h.next) 0 2 (some 2)) [z,z']:=by
 have hl:=H.le_new hw (H.le_refl h) ⟨some T,2,[a,b,a',b']⟩
 refine⟨[a,b,a',b'],⟨rfl,some h.next,0,some 2,rfl, .inr ⟨h.next,_,rfl,H.rows_new _ _, .inr rfl,by simp,rfl⟩⟩,rfl,fun j x hx=> ?_⟩
 rcases j with _|_|j
 ·simp at hx
  subst hx
  exact⟨(h1.mono hl).zn (w1.big hW),w1⟩
 ·simp at hx
  subst hx
  exact⟨(h2.mono hl).zn (w2.big hW),w2⟩
 ·simp at hx
theorem wakes28_calls (hk:∀h',h'.wf→h.le h'→K (.bool true) h'):ACalls Tryz.prog 12 [] h K:=by
 refine in_law28_wakes (by simp) fun hw=> ?_
 unfold c_law28_wakes
 have e1:∀l:List AV,abuild l []=some l:=fun l=>by simp[abuild]
 simp only[go_sem,e1]
 refine pzNew_calls (t:=⟨0,0,0,0,0,0,0,0,0,0,0⟩) fun e u h1 hw1 hl1 hn1 hue he ht=> ?_
 simp only[go_sem,Option.isNone,Bool.true_bne,Bool.not_false]
 refine zOf_calls (n:=3) (by decide) (by decide) fun a h2 hw2 hl2 ha=> ?_
 obtain⟨a0,a1,rfl,oa0,oa1⟩:=ha.two
 simp only[go_sem]
 refine zOf_calls (n:= -4) (by decide) (by decide) fun b h3 hw3 hl3 hb=> ?_
 obtain⟨b0,b1,rfl,ob0,ob1⟩:=hb.two
 simp only[go_sem,bldZ2 oa0 oa1 ob0 ob1]
 have hl4:=H.le_new hw3 (H.le_refl h3) ⟨some 39,2,[a0,a1,b0,b1]⟩
 refine zHeight_calls (W:=1) (by omega) (Zf.lit2 hw3 (ha.mono hl3) (hb.base hl2.1) (by unfold Wz;decide) (by unfold Wz;decide) (by omega)) (by simp) fun h5 hw5 hl5=> ?_
 simp only[go_sem,show(((hgt [3,-4]:Nat):Int)==3)=true by decide,true_and]
 refine zDeg_calls (W:=1) (by omega) (IsA.nil _ _ _ _) (by simp) fun ys hy=> ?_
 have ey:ys=[]:=hy.uniq ⟨fun i=>rfl,by simp⟩
 subst ey
 simp only[go_sem,show((((([]:List Int).length:Nat):Int)-1)== -1)=true from rfl]
 exact fun hw'=>hk h5 hw' (H.le_trans hl1 (H.le_trans hl2 (H.le_trans hl3 (H.le_trans hl4 hl5))))
theorem CutIntsS_calls {ps:List (Bool×List Nat)} {k n:Nat} (hv:IsA 2 IsI h v ps) (hlen:ps.length≤9223372036854775807) (hk9:k≤1000000) (hk:∀r h',h'.wf→h.le h'→IsA 2 IsI h' r ((ps.take k).map fun p=>(p.1,p.2.take n))→Since h.next r→K r h'):ACalls Tryz.prog 14 [v, .int .i64 (k:Int), .int .i64 (n:Int)] h K:=by
 obtain⟨id,off,c,rfl⟩:=hv.form
 refine in_keep_CutInts (by simp) fun hw=> ?_
 unfold c_keep_CutInts
 simp only[go_sem]
 have hlt:(ps.take k).length=min k ps.length:=List.length_take
 refine for_rule (fun i ρ h2=>i≤(ps.take k).length∧h2.wf∧h.le h2∧ρ 0= .sl id off ps.length c∧ρ 1= .int .i64 (k:Int)∧ρ 2= .int .i64 (n:Int)∧ρ 8= .int .i64 (i:Int)∧Live 39 2 h.next (fun _=>IsI h) h2 (ρ 7) (((ps.take k).take i).map fun p=>(p.1,p.2.take n))) (ps.take k).length
  ⟨by omega,hw,H.le_refl _,by first|rfl|trivial|assumption,by first|rfl|trivial|assumption,by first|rfl|trivial|assumption,by first|rfl|trivial|assumption,Live.nil _ _ _ _ _ _⟩ (fun i ρ h hI=>hI.1) ?_
 rintro i ρ h2 ⟨hi,hw2,hle,q0,q1,q2,q8,hs⟩
 rcases Nat.lt_or_ge i (ps.take k).length with h1|h1
 ·have hip:i<ps.length:=by omega
  have hik:i<k:=by omega
  obtain⟨ii,l,rfl,_,hlz,hg,_,w,rfl,hIw,hDw,hLw⟩:=hv.atz (by omega) hip
  have hg2:=H.gets_le hle hg
  obtain⟨io,co,q7⟩:=hs.form
  have hlen:(((ps.take k).take i).map fun p=>(p.1,p.2.take n)).length=i:=by simp;omega
  rw[hlen] at q7
  rw[q7] at hs
  simp only[go_sem,q0,q1,q2,q7,q8,ltT hip,ltT hik]
  refine⟨by omega,by omega, ?_⟩
  simp only[go_sem,hg2,q0,q1,q2]
  refine CutInt_all (n:=n) ((show IsN h w _ from hIw).mono hle) fun w2 h3 hw3 hl3 hall hone=> ?_
  have hle3:=H.le_trans hle hl3
  have hs3:=hs.mono (fun _ _ _ _ hx _=>hx) hl3
  have lit:abuild (zs [.sl none 0 0 none, .bool false] 1) [(0*2,2, .agg [w2, .bool ps[i].1])]=some [w2, .bool ps[i].1]:=by
   simp[abuild,zs,putAt,AV.held,AV.cells,hone]
  simp only[go_sem,q0,q1,q2,q7,q8,lit]
  refine hs3.app (K:=_) (fun _ _ _ _ hx _=>hx) (by omega) hw hw3 hle3 hlen.symm (y:=(ps[i].1,ps[i].2.take n)) ⟨_,rfl,hall _ hIw,Dig.take hDw n,by simp;omega⟩ rfl (all2 hone) (by omega) (by omega) rfl fun v2 h4 hw4 hle4 hs4=> ?_
  simp only[go_sem,q0,q1,q2,q8,incI (i:=i) (by omega)]
  refine⟨by omega,hw4,hle4,by first|rfl|trivial|assumption,by first|rfl|trivial|assumption,by first|rfl|trivial|assumption,by first|rfl|trivial|assumption, ?_⟩
  have e9:(ps.take k)[i]=ps[i]:=List.getElem_take
  rw[List.take_succ_eq_append_getElem h1,List.map_append,e9]
  exact hs4
 ·rw[List.take_of_length_le h1] at hs
  have hi2:i=(ps.take k).length:=by omega
  have fin:K (ρ 7) h2:=hk _ h2 hw2 hle (by
   obtain⟨io,co,cs,e,h3,h4⟩:=hs
   exact⟨cs,h3.isC,h4.mono fun l x hx=>IsI.grows hx hle⟩) hs.since
  by_cases h3:i<ps.length
  ·simp only[go_sem,q0,q1,q2,q8,ltT h3,ltF (show k≤i by omega)]
   exact fun _=>fin
  ·simp only[go_sem,q0,q1,q2,q8,ltF (show ps.length≤i by omega)]
   exact fun _=>fin
theorem cut28_calls {ps:List (Bool×List Nat)} {k n:Nat} (hv:IsA 2 IsI h v ps) (hlen:ps.length≤9223372036854775807) (hk9:k≤100000) (hn:n≤1000)
  (hk:∀a x qs ys h',h'.wf→h.le h'→qs=(ps.take k).map (fun p=>(p.1,p.2.take n))→qs.length≤k→IsA 2 IsI h' a qs→IsA 2 (ZwL n) h' a (qs.map zI)→IsA 2 (ZqL n) h' x ys→TrimG 0 (fun i=>(qs.map zI).getD i 0) ys→ys.length≤qs.length→Since h.next a→Since h.next x→K (.tup [a,x]) h'):ACalls Tryz.prog 7 [v, .int .i64 (k:Int), .int .i64 (n:Int)] h K:=by
 refine in_law28_cut (by simp) fun hw=> ?_
 unfold c_law28_cut
 simp only[go_sem]
 refine CutIntsS_calls hv hlen (by omega) fun a h1 hw1 hl1 ha hsa=> ?_
 have hqn:∀p∈(ps.take k).map fun p=>(p.1,p.2.take n),p.2.length≤n:=by
  intro p hm
  obtain⟨q,hq,rfl⟩:=List.mem_map.1 hm
  simp
  omega
 have hql:((ps.take k).map fun p=>(p.1,p.2.take n)).length≤k:=by simp;omega
 generalize hqs:((ps.take k).map fun p=>(p.1,p.2.take n))=qs at*
 have haw:IsA 2 (ZwL n) h1 a (qs.map zI):=ha.mapz fun c x hx hi=>hi.zw (hqn x hx) (by omega)
 simp only[go_sem]
 refine zrFromL_calls (by omega) haw (by rw[List.length_map];omega) fun x ys h2 hw2 hl2 hx ht hyl hsx=> ?_
 simp only[go_sem]
 rw[List.length_map] at hyl
 exact fun hw'=>hk a x qs ys h2 hw' (H.le_trans hl1 hl2) rfl hql (ha.mono IsI.grows hl2) (haw.mono ZwL.grows hl2) hx ht hyl hsa (fun i o n c e=>Nat.le_trans hl1.1 (hsx i o n c e))
end
end
section
structure ES (h g:H) (u nw:Nat) (t:Tb):Prop where
 wf:g.wf
 lee:H.lee u h g
 tn:∃m dp,Tune g u m nw dp t
section
variable {u nw m dp:Nat} {t:Tb} {h g g':H} {K:AV→H→Prop}
theorem ES.refl (hw:h.wf) (ht:Tune h u m nw dp t):ES h h u nw t:=⟨hw,H.lee_refl _ _,m,dp,ht⟩
theorem ES.mono (s:ES h g u nw t) (hw:g'.wf) (hl:g.le g'):ES h g' u nw t:=by
 obtain⟨m,dp,ht⟩:=s.tn
 exact⟨hw,s.lee.trans hl.lee,m,dp,ht.mono hl⟩
theorem ES.over {m' dp':Nat} (s:ES h g u nw t) (hw:g'.wf) (hl:H.lee u g g') (ht:Tune g' u m' nw dp' t):ES h g' u nw t:=⟨hw,s.lee.trans hl,m',dp',ht⟩
theorem ES.box {R:Nat} {T:TypeId} {a b:AV} {l:List AV} (s:ES h g u nw t) (hw:h.wf) (hu:u<h.next) (hR:h.next≤R) (hr:g.rows R=some ⟨some T,2,l⟩) (hll:l.length=2)
  (hk:∀g':H,ES h g' u nw t→g'.gets R 0 2=some [a,b]→g'.rows R=some ⟨some T,2,[a,b]⟩→H.lee R g g'→K .junk g'):putK (g.rows R) R 0 2 [a,b] g K:=by
 obtain⟨m,dp,ht⟩:=s.tn
 exact put2E hw s.wf s.lee hR hr hll fun g' hwg hlg hg hrg e=>hk g' ⟨hwg,hlg,m,dp,ht.lee2 e (by omega)⟩ hg hrg e
theorem ES.set {i:Nat} {r:Row} (s:ES h g u nw t) (hw:h.wf) (hu:u<h.next) (hi:h.next≤i) (hin:i<g.next):ES h (g.set i r) u nw t:=by
 obtain⟨m,dp,ht⟩:=s.tn
 exact⟨H.wf_set s.wf hin _,H.lee_put hw s.lee hi _,m,dp,ht.lee2 (H.lee_set _) (by omega)⟩
theorem ES.eng {d e:Nat} (s:ES h g u nw t) (ht:Tune h u m nw dp t) (he:Eng d h e u):Eng d g e u:=he.monoE ht s.lee
theorem ZwL.monoE {W:Nat} (ht:Tune h u m nw dp t) (hl:H.lee u h g) {c:List AV} {z:Int} (hv:ZwL W h c z):ZwL W g c z:=⟨hv.1.monoE ht hl,hv.2⟩
theorem ZqL.monoE {W:Nat} (ht:Tune h u m nw dp t) (hl:H.lee u h g) {c:List AV} {z:Int} (hv:ZqL W h c z):ZqL W g c z:=⟨hv.1.monoE ht hl,hv.2⟩
theorem ES.zw {W:Nat} {v:AV} {zs:List Int} (s:ES h g u nw t) (ht:Tune h u m nw dp t) (hv:IsA 2 (ZwL W) h v zs):IsA 2 (ZwL W) g v zs:=hv.monoE (fun hx=>ZwL.monoE ht s.lee hx) ht (by decide) s.lee
theorem ES.zq {W:Nat} {v:AV} {zs:List Int} (s:ES h g u nw t) (ht:Tune h u m nw dp t) (hv:IsA 2 (ZqL W) h v zs):IsA 2 (ZqL W) g v zs:=hv.monoE (fun hx=>ZqL.monoE ht s.lee hx) ht (by decide) s.lee
end
section
variable {α:Type} {T:TypeId} {z b n i u:Nat} {R:H→List AV→α→Prop} {h g:H} {xs:List α} {io c:Option Nat}
theorem Live.other (hv:Live T z b R h (.sl io 0 n c) xs) (hi:io≠some i) (hR:∀l x,R (h.del io) l x→R (g.del io) l x) (hl:H.lee i h g):Live T z b R g (.sl io 0 n c) xs:=by
 obtain⟨io',c',cs,e,⟨h1,id,c2,e2,h3⟩,h4⟩:=hv
 injection e with e1 e2' e3 e4
 subst e1;subst e4;subst e3
 injection e2 with f1 f2 f3 f4
 subst f1;subst f4
 refine⟨io,c,cs,rfl,⟨h1,io,c,rfl, ?_⟩,h4.mono hR⟩
 rcases h3 with h3|⟨j,q,h0,hb,hq,hrest⟩
 ·exact .inl h3
 ·refine .inr ⟨j,q,h0,hb,hl.2 j q ?_ hq,hrest⟩
  rintro rfl
  exact hi h0
theorem lee_del (hi:io≠some i) {r:Row} (hr:h.rows i=some r) (hl:H.lee i h g):(h.del io).rows i=some r∧H.lee i (h.del io) (g.del io):=by
 refine⟨?_,hl.1,fun j q hj hq=> ?_⟩
 ·simp only[H.del]
  rw[if_neg (fun e=>hi e.symm)]
  exact hr
 ·simp only[H.del] at hq⊢
  split at hq
  ·cases hq
  ·rename_i hn
   rw[if_neg hn]
   exact hl.2 j q hj hq
end
section
variable {T T':TypeId} {b n i u c W:Nat} {h g:H} {zs:List Int} {io co:Option Nat} {l:List AV}
theorem Live.boxZ (hv:Live T 2 b (ZbL c W) h (.sl io 0 n co) zs) (hi:io≠some i) (hr:h.rows i=some ⟨some T',2,l⟩) (hl:H.lee i h g):Live T 2 b (ZbL c W) g (.sl io 0 n co) zs:=by
 obtain⟨h1,h2⟩:=lee_del hi hr hl
 exact hv.other hi (fun l x hx=>⟨hx.1.lee2 h1 h2,hx.2⟩) hl
theorem Live.engZ (hub:u<b) (huc:u<c) (hv:Live T 2 b (ZbL c W) h (.sl io 0 n co) zs) (hl:H.lee u h g):Live T 2 b (ZbL c W) g (.sl io 0 n co) zs:=
 hv.monoE (fun hx hl=>⟨hx.1.monoE huc hl,hx.2⟩) hub hl
end
section
variable {wa wb:AV} {ba bb:Bool} {x y e u m nw dp W Wc:Nat} {t:Tb} {v:AV} {zs:List Int} {h:H} {K:AV→H→Prop}
theorem zprod_calls (he:Eng 15 h e u) (ht:Tune h u m nw dp t) (na:Nn h wa x) (nb:Nn h wb y) (hx:wlen x≤16384) (hy:wlen y≤16384) (hnw:nw≤900000000)
  (hk:∀r h' m' dp',h'.wf→H.lee u h h'→Tune h' u m' nw dp' t→Zf h.next h' r (sg ba x*sg bb y)→K r h'):
  ACalls Tryz.prog 45 [.ptr (some (e,0)), .agg [wa, .bool ba], .agg [wb, .bool bb]] h K:=by
 refine in_polyz_Engine_product (by simp) fun hw=> ?_
 unfold c_polyz_Engine_product
 have hub:=H.row_lt hw ht
 rw[sg_mul] at hk
 simp only[go_sem]
 simp only[AV.cells,List.length_cons,List.length_nil,Nat.zero_add,Nat.reduceAdd]
 refine⟨rfl,rfl, ?_⟩
 generalize hh:((h.new ⟨some 39,2,_⟩).new ⟨some 39,2,_⟩).new ⟨some 39,2,_⟩=h1
 obtain⟨hl1,hw1,hn1,r1,r2,r3⟩:=new3 hw hh
 have hR:(h.new ⟨some 39,2,[wa, .bool ba]⟩).next=h.next+1:=rfl
 have hR2:((h.new ⟨some 39,2,[wa, .bool ba]⟩).new ⟨some 39,2,[wb, .bool bb]⟩).next=h.next+2:=rfl
 have ht1:=ht.mono hl1
 obtain⟨f,rfl,rfl,G,E⟩:=Eng.path ht1 (he.mono hl1)
 obtain⟨a1,a2,a3⟩:=g2 r1
 obtain⟨b1,b2,b3⟩:=g2 r2
 simp only[go_sem,hR,hR2,G 0 (by omega) _ ((H.lee_refl _ _)),G 1 (by omega) _ ((H.lee_refl _ _)),G 2 (by omega) _ ((H.lee_refl _ _)),G 3 (by omega) _ ((H.lee_refl _ _)),G 4 (by omega) _ ((H.lee_refl _ _)),G 5 (by omega) _ ((H.lee_refl _ _)),G 6 (by omega) _ ((H.lee_refl _ _)),G 7 (by omega) _ ((H.lee_refl _ _)),G 8 (by omega) _ ((H.lee_refl _ _)),G 9 (by omega) _ ((H.lee_refl _ _)),G 10 (by omega) _ ((H.lee_refl _ _)),a1,a2,b1,b2,Nat.zero_add]
 refine Mul2_calls (E 11 (by omega)) ht1 (na.mono hl1) (nb.mono hl1) hx hy hnw fun r h2 m2 dp2 hw2 hl2 ht2 _ hr=> ?_
 have r1:=hl2.2 _ _ (by omega) r1
 have r2:=hl2.2 _ _ (by omega) r2
 have r3:=hl2.2 _ _ (by omega) r3
 have l03:=hl1.lee.trans hl2
 have hrb:Big (x*y):=mul_big hx hy (by omega)
 by_cases hab:ba=bb
 ·subst hab
  rw[show(ba !=ba)=false from bne_self_eq_false ba] at hk
  simp only[go_sem,hR,hR2,(g2 r1).2.1,(g2 r2).2.1,Nat.zero_add,bne_self_eq_false,bldI hr.one]
  refine⟨by trivial,all2 hr.one,put2E hw hw2 l03 (by omega) r3 rfl fun g hwg hlg hg _ e1=> ?_⟩
  simp only[go_sem,hg]
  have:=sg_zf (b:=false) ((hr.base (b':=h.next) (by omega)).lee2 r3 e1)
  rw[Bool.false_and] at this
  exact fun _=>hk _ g _ _ hwg hlg (ht2.lee2 e1 (by omega)) this
 ·have hbe:(ba !=bb)=true:=by simpa using hab
  rw[hbe] at hk
  simp only[go_sem,hR,hR2,(g2 r1).2.1,(g2 r2).2.1,Nat.zero_add,hbe]
  refine Zero_calls (hr.nn hrb) ?_
  have e1:(!decide (x*y=0))=decide (x*y≠0):=by simp
  simp only[go_sem,e1,bldI hr.one]
  refine⟨by trivial,all2 hr.one,put2E hw hw2 l03 (by omega) r3 rfl fun g hwg hlg hg _ e1=> ?_⟩
  simp only[go_sem,hg]
  have:=sg_zf (b:=true) ((hr.base (b':=h.next) (by omega)).lee2 r3 e1)
  rw[Bool.true_and] at this
  exact fun _=>hk _ g _ _ hwg hlg (ht2.lee2 e1 (by omega)) this
set_option maxHeartbeats 1000000 in
theorem zScale_calls {wc:AV} {bc:Bool} {xc:Nat} (he:Eng 15 h e u) (ht:Tune h u m nw dp t) (hv:IsA 2 (ZwL W) h v zs) (hl:zs.length≤100000) (nc:Nn h wc xc) (hWc:Wz Wc (sg bc xc)) (hW:W+Wc≤16000) (hnw:nw≤900000000)
  (hk:∀r ys h',ES h h' u nw t→Live 39 2 h.next (ZbL h.next (W+Wc)) h' r ys→TrimG 0 (fun i=>zs.getD i 0*sg bc xc) ys→ys.length≤zs.length→K r h'):
  ACalls Tryz.prog 21 [.ptr (some (e,0)),v, .agg [wc, .bool bc]] h K:=by
 obtain⟨id,off,c,rfl⟩:=hv.form
 refine in_polyz_Engine_Scale (by simp) fun hw=> ?_
 unfold c_polyz_Engine_Scale
 have hub:=H.row_lt hw ht
 simp only[go_sem]
 simp only[AV.cells,List.length_cons,List.length_nil,Nat.zero_add,Nat.reduceAdd]
 refine⟨rfl,by omega,by omega,by omega, ?_⟩
 generalize hh:(h.new ⟨some 39,2,[wc, .bool bc]⟩)=h1
 have r1:h1.rows h.next=some ⟨some 39,2,[wc, .bool bc]⟩:=by rw[←hh];exact H.rows_new _ _
 have hl1:h.le h1:=by rw[←hh];exact H.le_new hw (H.le_refl h) _
 have hw1:h1.wf:=by rw[←hh];exact H.wf_new hw _
 have hn1:h1.next=h.next+1:=by rw[←hh];rfl
 clear hh
 have hl2:=H.le_new hw1 hl1 ⟨some 39,2,Ab.zs [AV.sl none 0 0 none,AV.bool false] zs.length⟩
 have hw2:=H.wf_new hw1 ⟨some 39,2,Ab.zs [AV.sl none 0 0 none,AV.bool false] zs.length⟩
 have hs0:Live 39 2 h.next (ZbL h.next (W+Wc)) (h1.new ⟨some 39,2,Ab.zs [AV.sl none 0 0 none,AV.bool false] zs.length⟩) (.sl (some h1.next) 0 zs.length (some zs.length)) (List.replicate zs.length 0):=Live.madez (b:=h.next) (R:=ZbL h.next (W+Wc)) (x:=0) hw1 (by omega) rfl (fun g=>⟨Zf.zero _ _,Wz.zero _⟩) _
 have r2:=(H.le_new hw1 (H.le_refl h1) ⟨some 39,2,Ab.zs [AV.sl none 0 0 none,AV.bool false] zs.length⟩).2 _ _ r1
 have s2:ES h (h1.new ⟨some 39,2,Ab.zs [AV.sl none 0 0 none,AV.bool false] zs.length⟩) u nw t:=(ES.refl hw ht).mono hw2 hl2
 rw[hn1] at hs0⊢
 generalize h1.new ⟨some 39,2,Ab.zs [AV.sl none 0 0 none,AV.bool false] zs.length⟩=h2 at*
 clear r1 hl1 hw1 hn1 hl2 hw2 h1
 obtain⟨F,hF⟩:∃F:Nat→Int,F=fun i=>zs.getD i 0*sg bc xc:=⟨_,rfl⟩
 refine loop_cut (fun ρ h'=>ES h h' u nw t∧Live 39 2 h.next (ZbL h.next (W+Wc)) h' (ρ 7) (rowF F zs.length)) ?_ ?_
 ·refine for_rule (fun j ρ h'=>j≤zs.length∧ES h h' u nw t∧ρ 0= .ptr (some (e,0))∧ρ 5= .ptr (some (h.next,0))∧ρ 7= .sl (some (h.next+1)) 0 zs.length (some zs.length)∧ρ 13= .sl id off zs.length c∧ρ 14= .int .i64 (zs.length:Int)∧ρ 15= .int .i64 (j:Int)∧h'.rows h.next=some ⟨some 39,2,[wc, .bool bc]⟩∧Live 39 2 h.next (ZbL h.next (W+Wc)) h' (.sl (some (h.next+1)) 0 zs.length (some zs.length)) (rowF (upF F 0 j) zs.length)) zs.length
   ⟨by omega,s2,by first|rfl|trivial|assumption,by first|rfl|trivial|assumption,by first|rfl|trivial|assumption,by first|rfl|trivial|assumption,by first|rfl|trivial|assumption,by first|rfl|trivial|assumption,r2,by rw[upF_zero];exact hs0⟩ (fun i ρ h hI=>hI.1) ?_
  clear hs0 r2 s2 h2
  rintro j ρ g ⟨hj,s,q0,q5,q7,q13,q14,q15,r5,hs⟩
  rcases Nat.lt_or_ge j zs.length with h3|h3
  ·obtain⟨ii,l,rfl,_,_,hg,_,hR⟩:=(s.zw ht hv).atz (by omega) h3
   have hWz:=hR.2
   obtain⟨w,bz,x,rfl,nwz,hzx,hxz,hone⟩:=zw_open hR
   have hFj:F j=zs[j]*sg bc xc:=by rw[hF];show zs.getD j 0*_=_;rw[getG_in h3]
   simp only[go_sem,q0,q5,q7,q13,q14,q15,ltT h3]
   refine⟨by omega,by omega, ?_⟩
   simp only[go_sem,hg,q0,q5,q7,q13,q14,q15]
   have r3:=H.rows_new g ⟨some 39,2,[.sl none 0 0 none, .bool false]⟩
   have hl4:=H.le_new s.wf (H.le_refl g) ⟨some 39,2,[.sl none 0 0 none, .bool false]⟩
   have s4:=s.mono (H.wf_new s.wf ⟨some 39,2,[.sl none 0 0 none, .bool false]⟩) hl4
   simp only[List.length_cons,List.length_nil,Nat.zero_add,Nat.reduceAdd]
   have hn3:=s.lee.1
   have hio:=hs.io_lt s.wf _ rfl
   generalize hR3:g.next=R3 at*
   generalize g.new ⟨some 39,2,[.sl none 0 0 none, .bool false]⟩=g4 at*
   refine⟨by trivial,all2 hone,s4.box hw hub (by omega) r3 rfl fun g5 s5 hg5 r3n e5=> ?_⟩
   have nwz:=(nwz.mono hl4).lee2 r3 e5
   have hs5:=(hs.mono ZbL.grows hl4).boxZ (by intro e;injection e;omega) r3 e5
   have r55:=e5.2 _ _ (by omega) (hl4.2 _ _ r5)
   have nc5:=nc.monoE ht s5.lee
   obtain⟨m5,dp5,t5⟩:=s5.tn
   simp only[go_sem,q0,q5,q7,q13,q14,q15,(g2 r3n).2.2,(g2 r55).2.2]
   have wx:wlen x≤W:=by have h5:=hWz;unfold Wz at h5;rwa[hxz] at h5
   have wc:wlen xc≤Wc:=by have h5:=hWc;unfold Wz at h5;rwa[sg_abs] at h5
   refine zprod_calls (s5.eng ht he) t5 nwz nc5 (by omega) (by omega) hnw fun r g6 m6 dp6 hw6 hl6 t6 hr=> ?_
   rw[←hzx,←hFj] at hr
   have hs6:=hs5.engZ hub hub hl6
   have r56:=hl6.2 _ _ (by omega) r55
   have s6:=s5.over hw6 hl6 t6
   have hWr:Wz (W+Wc) (F j):=by rw[hFj];exact hWz.mul hWc
   have hof:=(hr.base (d:=h.next) s5.lee.1).off hs6 (by decide)
   obtain⟨a0,a1,rfl,oa0,oa1⟩:=hr.two
   obtain⟨io',rr,e0',hbi,hin,hrr,ho,hz,hcl,hput⟩:=hs6.putz hw6 (by omega) (j:=j) (by rw[rowF_len];exact h3)
   injection e0' with e0'
   subst e0'
   have hput:=hput [a0,a1] (F j) rfl ⟨hof,hWr⟩
   rw[upF_step] at hput
   simp only[go_sem,q0,q5,q7,q13,q14,q15]
   refine⟨by omega,by omega, ?_⟩
   simp only[go_sem,hrr,q0,q5,q7,q13,q14,q15]
   refine⟨by trivial,all2b oa0 oa1,by rw[ho];simp,hcl, ?_⟩
   simp only[go_sem,q0,q5,q7,q13,q14,q15,incI (i:=j) (by omega)]
   exact⟨by omega,s6.set hw hub hbi hin,by first|rfl|trivial|assumption,by first|rfl|trivial|assumption,by first|rfl|trivial|assumption,by first|rfl|trivial|assumption,by first|rfl|trivial|assumption,by first|rfl|trivial|assumption,by rw[H.rows_set_ne (by omega)];exact r56,hput⟩
  ·obtain rfl:j=zs.length:=by omega
   simp only[go_sem,q7,q14,q15,ltF (Nat.le_refl zs.length)]
   rw[upF_all] at hs
   exact⟨s,hs⟩
 rintro ρ g ⟨s,hs⟩
 simp only[go_sem]
 refine ztrim_live (by omega) hs (fun g l z hx=>hx.zw (by omega)) (by rw[rowF_len];omega) fun r ys hy hty hyl=> ?_
 simp only[go_sem]
 rw[rowF_len] at hyl
 refine fun _=>hk r ys g s hy (hty.congr fun i=> ?_) hyl
 rw[rowF_getD,hF]
 split
 ·rfl
 ·rw[getG_out (by omega),Int.zero_mul]
end
end
section
section
variable {f g:Nat→Int} {i j k n:Nat}
def partIJ (f g:Nat→Int) (i j k:Nat):Int:=partI f g i k+(if i≤k∧k<i+j then f i*g (k-i) else 0)
theorem partIJ_zero:partIJ f g i 0 k=partI f g i k:=by
 unfold partIJ
 rw[if_neg (by omega),Int.add_zero]
theorem partIJ_full (hg:∀i,n≤i→g i=0):partIJ f g i n k=partI f g (i+1) k:=by
 unfold partIJ
 show _=partI f g i k+(if i≤k then f i*g (k-i) else 0)
 by_cases h:i≤k
 ·rw[if_pos h]
  by_cases h2:k<i+n
  ·rw[if_pos ⟨h,h2⟩]
  ·rw[if_neg (fun x=>h2 x.2),hg (k-i) (by omega),Int.mul_zero]
 ·rw[if_neg (fun x=>h x.1),if_neg h]
theorem partIJ_here:partIJ f g i (j+1) (i+j)=partIJ f g i j (i+j)+f i*g j:=by
 unfold partIJ
 rw[if_pos ⟨by omega,by omega⟩,if_neg (by omega),Int.add_zero,Nat.add_sub_cancel_left]
theorem partIJ_other (h:k≠i+j):partIJ f g i (j+1) k=partIJ f g i j k:=by
 unfold partIJ
 by_cases h1:i≤k∧k<i+j
 ·rw[if_pos h1,if_pos ⟨h1.1,by omega⟩]
 ·rw[if_neg h1,if_neg (by omega)]
theorem partI_le {M:Nat} (hm:∀a b,(f a*g b).natAbs≤M) (k:Nat):∀i,(partI f g i k).natAbs≤i*M
 |0=>by simp[partI]
 |i+1=>by
  have h1:=partI_le hm k i
  show(partI f g i k+(if i≤k then f i*g (k-i) else 0)).natAbs≤(i+1)*M
  rw[Nat.succ_mul]
  split
  ·have:=hm i (k-i)
   omega
  ·omega
theorem partIJ_le {M:Nat} (hm:∀a b,(f a*g b).natAbs≤M) (i j k:Nat):(partIJ f g i j k).natAbs≤(i+1)*M:=by
 have h1:=partI_le hm k i
 unfold partIJ
 rw[Nat.succ_mul]
 split
 ·have:=hm i (k-i)
  omega
 ·omega
theorem partIJ_wz {Wa Wb:Nat} (hf:∀a,Wz Wa (f a)) (hg:∀b,Wz Wb (g b)) (hi:i<1000000):Wz (Wa+Wb+1) (partIJ f g i j k):=by
 have h1:=partIJ_le (M:=18446744073709551616^(Wa+Wb)) (fun a b=>Nat.le_of_lt (Wz.lt.1 ((hf a).mul (hg b)))) i j k
 rw[Wz.lt,Nat.pow_succ]
 have h2:0<18446744073709551616^(Wa+Wb):=Nat.pow_pos (by omega)
 refine Nat.lt_of_le_of_lt h1 ?_
 rw[Nat.mul_comm]
 exact Nat.mul_lt_mul_of_pos_left (by omega) h2
end
theorem IsA.wz {W:Nat} {h:H} {v:AV} {zs:List Int} (hv:IsA 2 (ZwL W) h v zs):∀i,Wz W (zs.getD i 0):=by
 intro i
 rcases Nat.lt_or_ge i zs.length with hi|hi
 ·obtain⟨id,off,c,rfl⟩:=hv.form
  obtain⟨_,_,_,_,_,_,_,hR⟩:=hv.atz (by omega) hi
  rw[getG_in hi]
  exact hR.2
 ·rw[getG_out hi]
  exact Wz.zero _
theorem IsA.wq {W:Nat} {h:H} {v:AV} {zs:List Int} (hv:IsA 2 (ZqL W) h v zs):∀i,Wz W (zs.getD i 0):=by
 intro i
 rcases Nat.lt_or_ge i zs.length with hi|hi
 ·obtain⟨id,off,c,rfl⟩:=hv.form
  obtain⟨_,_,_,_,_,_,_,hR⟩:=hv.atz (by omega) hi
  rw[getG_in hi]
  exact hR.2
 ·rw[getG_out hi]
  exact Wz.zero _
theorem H.gets_lee {u i j n:Nat} {h g:H} {l:List AV} (hl:H.lee u h g) (hi:i≠u) (e:h.gets i j n=some l):g.gets i j n=some l:=by
 unfold H.gets at*
 cases hr:h.rows i with
 |none=>rw[hr] at e;cases e
 |some r=>rw[hr] at e;rw[hl.2 _ _ hi hr];exact e
theorem ES.app {u nw:Nat} {t:Tb} {h g g':H} {io:Option Nat} (s:ES h g u nw t) (hw:h.wf) (hu:u<h.next) (hio:∀i,io=some i→h.next≤i) (hw':g'.wf) (hl:(g.del io).le g'):ES h g' u nw t:=by
 have key:∀i r,i<h.next→g.rows i=some r→g'.rows i=some r:=fun i r hi hr=>by
  refine hl.2 i r ?_
  simp only[H.del]
  rw[if_neg (fun e=>by have:=hio i e.symm;omega)]
  exact hr
 obtain⟨m,dp,ht⟩:=s.tn
 exact⟨hw',⟨Nat.le_trans s.lee.1 hl.1,fun i r hi hr=>key i r (H.row_lt hw hr) (s.lee.2 i r hi hr)⟩,m,dp,key u _ hu ht⟩
theorem zf_zw {c W:Nat} {h:H} {v:AV} {z:Int} (hv:Zf c h v z) (hw:Wz W z) (hW:W≤400000):∃w b x,v= .agg [w, .bool b]∧Nn h w x∧z=sg b x∧z.natAbs=x∧w.one=true:=zn_open (hv.zn (hw.big hW))
section
variable {wx:AV} {bx:Bool} {x e u m nw dp W Wx Wb:Nat} {t:Tb} {v vb:AV} {zs ys:List Int} {h:H} {K:AV→H→Prop}
set_option maxHeartbeats 1000000 in
theorem zvalue_calls (he:Eng 15 h e u) (ht:Tune h u m nw dp t) (hv:IsA 2 (ZwL W) h v zs) (hl:zs.length≤1000) (nx:Nn h wx x) (hWx:Wz Wx (sg bx x)) (hW:W+zs.length*(Wx+1)≤16000) (hWx2:Wx≤16000) (hnw:nw≤900000000)
  (hk:∀r h',ES h h' u nw t→Zf h.next h' r (valI (sg bx x) zs)→Wz (W+zs.length*(Wx+1)) (valI (sg bx x) zs)→K r h'):
  ACalls Tryz.prog 49 [.ptr (some (e,0)),v, .agg [wx, .bool bx]] h K:=by
 obtain⟨id,off,c,rfl⟩:=hv.form
 refine in_polyz_Engine_value (by simp) fun hw=> ?_
 unfold c_polyz_Engine_value
 have hub:=H.row_lt hw ht
 simp only[go_sem,zeroI]
 simp only[AV.cells,List.length_cons,List.length_nil,Nat.zero_add,Nat.reduceAdd]
 refine⟨rfl, ?_⟩
 generalize hh:((h.new ⟨some 39,2,[wx, .bool bx]⟩).new ⟨some 39,2,[.sl none 0 0 none, .bool false]⟩).new ⟨some 39,2,[.sl none 0 0 none, .bool false]⟩=h1
 obtain⟨hl1,hw1,hn1,r1,r2,r3⟩:=new3 hw hh
 have hR:(h.new ⟨some 39,2,[wx, .bool bx]⟩).next=h.next+1:=rfl
 have hR2:((h.new ⟨some 39,2,[wx, .bool bx]⟩).new ⟨some 39,2,[.sl none 0 0 none, .bool false]⟩).next=h.next+2:=rfl
 rw[hR,hR2]
 clear hh hR hR2
 have s1:=(ES.refl hw ht).mono hw1 hl1
 have e0:IntKind.i64.wrap ((zs.length:Int)-1)=(zs.length:Int)-1:=wI (by omega) (by omega)
 refine⟨by trivial,by trivial,s1.box hw hub (by omega) r3 rfl fun g1 sg1 _ r3n e1=> ?_⟩
 have r1:=e1.2 _ _ (by omega) r1
 have r2:=e1.2 _ _ (by omega) r2
 simp only[go_sem,e0]
 refine loop_cut (fun ρ g=>ES h g u nw t∧ρ 6= .ptr (some (h.next+1,0))∧ρ 7= .ptr (some (h.next+2,0))∧g.rows (h.next+1)=some ⟨some 39,2,[.sl none 0 0 none, .bool false]⟩∧∃s0 s1,g.rows (h.next+2)=some ⟨some 39,2,[s0,s1]⟩∧Zf h.next g (.agg [s0,s1]) (valI (sg bx x) zs)∧Wz (W+zs.length*(Wx+1)) (valI (sg bx x) zs)) ?_ ?_
 ·refine for_rule (fun j ρ g=>j≤zs.length∧ES h g u nw t∧ρ 0= .ptr (some (e,0))∧ρ 1= .sl id off zs.length c∧ρ 5= .ptr (some (h.next,0))∧ρ 6= .ptr (some (h.next+1,0))∧ρ 7= .ptr (some (h.next+2,0))∧ρ 8= .int .i64 ((zs.length:Int)-1-(j:Int))∧g.rows h.next=some ⟨some 39,2,[wx, .bool bx]⟩∧g.rows (h.next+1)=some ⟨some 39,2,[.sl none 0 0 none, .bool false]⟩∧∃s0 s1,g.rows (h.next+2)=some ⟨some 39,2,[s0,s1]⟩∧Zf h.next g (.agg [s0,s1]) (valI (sg bx x) (zs.drop (zs.length-j)))∧Wz (W+j*(Wx+1)) (valI (sg bx x) (zs.drop (zs.length-j)))) zs.length
   ⟨by omega,sg1,by first|rfl|trivial|assumption,by first|rfl|trivial|assumption,by first|rfl|trivial|assumption,by first|rfl|trivial|assumption,by first|rfl|trivial|assumption,by rw[show(zs.length:Int)-1-((0:Nat):Int)=(zs.length:Int)-1 by omega];rfl,r1,r2,_,_,r3n,by rw[Nat.sub_zero,List.drop_length];exact Zf.zero _ _,by rw[Nat.sub_zero,List.drop_length];exact Wz.zero _⟩ (fun i ρ h hI=>hI.1) ?_
  rintro j ρ g ⟨hj,s,q0,q1,q5,q6,q7,q8,r1,r2,s0,s1,r3,hs,hWs⟩
  rcases Nat.lt_or_ge j zs.length with h3|h3
  ·obtain⟨k,hkk⟩:∃k,k=zs.length-1-j:=⟨_,rfl⟩
   rw[show(zs.length:Int)-1-(j:Int)=(k:Int) by omega] at q8
   rw[show zs.length-j=k+1 by omega] at hs hWs
   have hkl:k<zs.length:=by omega
   have hv0:=valI_drop (sg bx x) hkl
   have hd2:zs.length-(j+1)=k:=by omega
   have e6:IntKind.i64.wrap ((k:Int)-1)=(zs.length:Int)-1-((j+1:Nat):Int):=by rw[wI]<;>omega
   obtain⟨ii,l,rfl,_,_,hg,_,hR⟩:=(s.zw ht hv).atz (by omega) hkl
   have hiu:ii≠u:=by
    rintro rfl
    obtain⟨r,hr,ho⟩:=hv.row _ rfl
    rw[ht] at hr
    injection hr with hr
    subst hr
    rcases ho with ho|ho<;>simp[tuneRow] at ho
   have hWz:=hR.2
   obtain⟨w,bz,xz,rfl,nwz,hzx,hxz,hone⟩:=zw_open hR
   have hjW:j*(Wx+1)+(Wx+1)≤zs.length*(Wx+1):=by rw[←Nat.succ_mul];exact Nat.mul_le_mul_right _ h3
   obtain⟨ws,bs,xs_,es,nws,hys,hxs,_⟩:=zf_zw hs hWs (by omega)
   injection es with es
   injection es with es1 es2
   injection es2 with es2
   subst es1 es2
   generalize valI (sg bx x) (zs.drop (k+1))=y at*
   have nx1:=nx.monoE ht s.lee
   obtain⟨m1,dp1,t1⟩:=s.tn
   have wy:wlen xs_≤W+j*(Wx+1):=by have h5:=hWs;unfold Wz at h5;rwa[hxs] at h5
   have wx':wlen x≤Wx:=by have h5:=hWx;unfold Wz at h5;rwa[sg_abs] at h5
   simp only[go_sem,q0,q1,q5,q6,q7,q8,show decide ((0:Int)≤(k:Int))=true from decide_eq_true (by omega),(g2 r3).2.2,(g2 r1).2.2]
   refine⟨by omega,by omega, ?_⟩
   simp only[go_sem,hg,q0,q1,q5,q6,q7,q8]
   refine zprod_calls (s.eng ht he) t1 nws nx1 (by omega) (by omega) hnw fun r g6 m6 dp6 hw6 hl6 t6 hr=> ?_
   rw[←hys] at hr
   have s6:=s.over hw6 hl6 t6
   have hg6:=H.gets_lee hl6 hiu hg
   have nwz6:=nwz.monoE t1 hl6
   have r1:=hl6.2 _ _ (by omega) r1
   have r2:=hl6.2 _ _ (by omega) r2
   have r3:=hl6.2 _ _ (by omega) r3
   have hWp:Wz (W+j*(Wx+1)+Wx) (y*sg bx x):=hWs.mul hWx
   obtain⟨wp,bp,xp,rfl,nwp,hyp,hxp,_⟩:=zf_zw hr hWp (by omega)
   have hBp:=hWp.big (by omega)
   have hBz:=hWz.big (by omega)
   have hWz2:Wz (W+j*(Wx+1)+Wx) zs[k]:=hWz.le (by omega)
   have hBB:=hWp.bigs hWz2 (by omega)
   rw[hxp] at hBp
   rw[hxz] at hBz
   rw[hxp,hxz] at hBB
   simp only[go_sem,hg6,true_and,q0,q1,q5,q6,q7,q8]
   refine zAdd_calls nwp nwz6 hBp hBz hBB fun r g7 hw7 hl7 hr7=> ?_
   rw[←hyp,←hzx] at hr7
   have hnew:y*sg bx x+zs[k]=valI (sg bx x) (zs.drop k):=by rw[hv0,Int.add_comm,Int.mul_comm]
   have hWn:Wz (W+(j+1)*(Wx+1)) (valI (sg bx x) (zs.drop k)):=by
    rw[←hnew]
    exact(hWp.add hWz2).le (by rw[Nat.succ_mul];omega)
   rw[hnew] at hr7
   have s7:=s6.mono hw7 hl7
   have r1:=hl7.2 _ _ r1
   have r2:=hl7.2 _ _ r2
   have r3:=hl7.2 _ _ r3
   have hr7:=hr7.base (d:=h.next) s6.lee.1
   obtain⟨t0,t1,rfl,ot0,ot1⟩:=hr7.two
   simp only[go_sem,q0,q1,q5,q6,q7,q8]
   refine⟨by trivial,all22 ot0 ot1,s7.box hw hub (by omega) r3 rfl fun g8 s8 hg8 r3n e8=> ?_⟩
   have hr8:=hr7.lee2 r3 e8
   have r1:=e8.2 _ _ (by omega) r1
   have r2:=e8.2 _ _ (by omega) r2
   simp only[go_sem,q0,q1,q5,q6,q7,q8,e6]
   exact⟨by omega,s8,by first|rfl|trivial|assumption,by first|rfl|trivial|assumption,by first|rfl|trivial|assumption,by first|rfl|trivial|assumption,by first|rfl|trivial|assumption,by first|rfl|trivial|assumption,r1,r2,_,_,r3n,by rw[hd2];exact hr8,by rw[hd2];exact hWn⟩
  ·obtain rfl:j=zs.length:=by omega
   rw[Nat.sub_self,List.drop_zero] at hs hWs
   simp only[go_sem,q8,show decide ((0:Int)≤(zs.length:Int)-1-(zs.length:Int))=false from decide_eq_false (by omega)]
   exact⟨s,q6,q7,r2,s0,s1,r3,hs,hWs⟩
 rintro ρ g ⟨s,q6,q7,r2,s0,s1,r3,hs,hWs⟩
 obtain⟨ws,bs,xs_,es,nws,hys,hxs,_⟩:=zf_zw hs hWs (by omega)
 injection es with es
 injection es with es1 es2
 injection es2 with es2
 subst es1 es2
 have hB:=hWs.big (by omega)
 rw[hxs] at hB
 simp only[go_sem,q6,q7,(g2 r3).2.2]
 refine zNorm_calls nws hB fun r g7 hw7 hl7 hr7=> ?_
 rw[←hys] at hr7
 have s7:=s.mono hw7 hl7
 have r2:=hl7.2 _ _ r2
 have hr7:=hr7.base (d:=h.next) s.lee.1
 obtain⟨t0,t1,rfl,ot0,ot1⟩:=hr7.two
 simp only[go_sem,q6,q7]
 refine⟨by trivial,all22 ot0 ot1,s7.box hw hub (by omega) r2 rfl fun g8 s8 hg8 r2n e8=> ?_⟩
 simp only[go_sem,q6,hg8]
 exact fun _=>hk _ g8 s8 (hr7.lee2 r2 e8) hWs
set_option maxHeartbeats 1000000 in
theorem zAt_calls (he:Eng 15 h e u) (ht:Tune h u m nw dp t) (hv:IsA 2 (ZwL W) h v zs) (hl:zs.length≤1000) (hu:IsA 2 (ZwL Wx) h vb ys) (hly:ys.length≤1000) (hW:W+zs.length*(Wx+1)≤16000) (hWx2:Wx≤16000) (hnw:nw≤900000000)
  (hk:∀r h',ES h h' u nw t→Live 39 2 h.next (ZbL h.next (W+zs.length*(Wx+1))) h' r (ys.map fun x=>valI x zs)→K r h'):
  ACalls Tryz.prog 15 [.ptr (some (e,0)),v,vb] h K:=by
 obtain⟨id,off,c,rfl⟩:=hv.form
 obtain⟨id2,off2,c2,rfl⟩:=hu.form
 refine in_polyz_Engine_At (by simp) fun hw=> ?_
 unfold c_polyz_Engine_At
 have hub:=H.row_lt hw ht
 simp only[go_sem]
 refine for_rule (fun j ρ g=>j≤ys.length∧ES h g u nw t∧ρ 0= .ptr (some (e,0))∧ρ 1= .sl id off zs.length c∧ρ 10= .sl id2 off2 ys.length c2∧ρ 11= .int .i64 (ys.length:Int)∧ρ 12= .int .i64 (j:Int)∧Live 39 2 h.next (ZbL h.next (W+zs.length*(Wx+1))) g (ρ 7) ((ys.take j).map fun x=>valI x zs)) ys.length
  ⟨by omega,ES.refl hw ht,by first|rfl|trivial|assumption,by first|rfl|trivial|assumption,by first|rfl|trivial|assumption,by first|rfl|trivial|assumption,by first|rfl|trivial|assumption,Live.nil _ _ _ _ _ _⟩ (fun i ρ h hI=>hI.1) ?_
 rintro j ρ g ⟨hj,s,q0,q1,q10,q11,q12,hs⟩
 rcases Nat.lt_or_ge j ys.length with h3|h3
 ·obtain⟨ii,l,rfl,_,_,hg,_,hR⟩:=(s.zw ht hu).atz (by omega) h3
  have hWz:=hR.2
  obtain⟨w,bz,xz,rfl,nwz,hzx,hxz,hone⟩:=zw_open hR
  obtain⟨io,co,q7⟩:=hs.form
  have hlen:((ys.take j).map fun x=>valI x zs).length=j:=by simp;omega
  rw[hlen] at q7
  rw[q7] at hs
  simp only[go_sem,q0,q1,q7,q10,q11,q12,ltT h3]
  refine⟨by omega,by omega, ?_⟩
  simp only[go_sem,hg,q0,q1,q7,q10,q11,q12]
  have r3:=H.rows_new g ⟨some 39,2,[.sl none 0 0 none, .bool false]⟩
  have hl4:=H.le_new s.wf (H.le_refl g) ⟨some 39,2,[.sl none 0 0 none, .bool false]⟩
  have s4:=s.mono (H.wf_new s.wf ⟨some 39,2,[.sl none 0 0 none, .bool false]⟩) hl4
  simp only[List.length_cons,List.length_nil,Nat.zero_add,Nat.reduceAdd]
  have hn3:=s.lee.1
  have hio:=hs.io_lt s.wf
  generalize hR3:g.next=R3 at*
  generalize g.new ⟨some 39,2,[.sl none 0 0 none, .bool false]⟩=g4 at*
  refine⟨by trivial,all2 hone,s4.box hw hub (by omega) r3 rfl fun g5 s5 hg5 r3n e5=> ?_⟩
  have nwz:=(nwz.mono hl4).lee2 r3 e5
  have hs5:=(hs.mono ZbL.grows hl4).boxZ (by intro e;have:=hio _ e;omega) r3 e5
  obtain⟨m5,dp5,t5⟩:=s5.tn
  simp only[go_sem,q0,q1,q7,q10,q11,q12,(g2 r3n).2.2]
  rw[hzx] at hWz
  refine zvalue_calls (s5.eng ht he) t5 (s5.zw ht hv) hl nwz hWz hW hWx2 hnw fun r g6 s56 hr hWr=> ?_
  rw[←hzx] at hr hWr
  have s6:ES h g6 u nw t:=⟨s56.wf,s5.lee.trans s56.lee,s56.tn⟩
  have hs6:=hs5.engZ hub hub s56.lee
  have hof:=(hr.base (d:=h.next) s5.lee.1).off hs6 (by decide)
  obtain⟨a0,a1,rfl,oa0,oa1⟩:=hr.two
  have hioge:∀i,io=some i→h.next≤i:=fun i e=>(hs6.ownz i e).1
  simp only[go_sem,q0,q1,q7,q10,q11,q12,bldZ oa0 oa1]
  refine hs6.app2 ZbL.grows (by omega) s6.wf s6.lee.1 hlen.symm (y:=valI ys[j] zs) ⟨hof,hWr⟩ rfl (all2b oa0 oa1) (by omega) (by omega) rfl fun v7 g7 hw7 hl7 hs7=> ?_
  simp only[go_sem,q0,q1,q10,q11,q12,incI (i:=j) (by omega)]
  refine⟨by omega,s6.app hw hub hioge hw7 hl7,by first|rfl|trivial|assumption,by first|rfl|trivial|assumption,by first|rfl|trivial|assumption,by first|rfl|trivial|assumption,by first|rfl|trivial|assumption, ?_⟩
  rw[List.take_succ_eq_append_getElem h3,List.map_append]
  exact hs7
 ·obtain rfl:j=ys.length:=by omega
  rw[List.take_length] at hs
  simp only[go_sem,q11,q12,ltF (Nat.le_refl ys.length)]
  exact fun _=>hk _ g s hs
end
end
end Ab
end Go.Proofs.YtkbglkjpdndkiaaGreatDoor
