/- Joined texts: I2 I3 I4 I5 I6 I8 I10 I15 I16 N2 N3 X1 X20 X2 W7 X3 X12. No condition. -/
import Derived.Test.YtkbglkjpdndkiaaZ7
import Derived.Test.YtkbglkjpdndkiaaProg
import Derived.KernelRfl
namespace Go.Proofs.Ytkbglkjpdndkiaa
namespace Ab
open Go Go.RowKit
set_option linter.unusedSimpArgs false
set_option linter.unusedVariables false
attribute [local go_sem ↓] x_mv x_pick x_bin x_beq x_peq x_seq x_cat x_aeq x_idxS x_idxV x_un x_cvI x_bts x_idx x_idxA x_fld x_ld x_st x_nn x_prt x_slc x_mk x_bsl x_bld x_box x_alloc x_len x_capo x_mnx x_app x_cpy x_mkf x_ext x_call x_callV x_bad s_none s_some s_nil s_cons s_chks w_skip w_reg tP_fin tP_no tP_alt w_seq w_cond w_block w_exit w_ret t_normal t_exit t_ret b_normal b_ret b_exit n_normal n_exit n_ret p_normal p_ret f_nil f_t f_c k_ops k_chk k_fin
attribute [local go_sem] e_t e_c e_f u_some u_none u_at env_at k_v k_pick k_add k_sub k_mul k_quo k_rem k_and k_or k_xor k_shl k_shr k_eql k_neq k_lss k_leq k_gtr k_geq k_beq k_peqn k_peqs k_neg k_not k_com k_cvI k_idxS k_idxV1 k_idxVn k_idx k_idxA k_idxG k_ldG k_gld k_seq k_cat k_aeq k_eqs k_fld k_ld1 k_ldn k_get k_gets k_sti k_stb k_stp k_sts k_stf k_sta k_put k_nn k_prt1 k_prtn k_slc_a k_slc_b k_slc_c k_mk k_agg k_bsl k_box k_len k_lenS k_cap k_max k_min k_ext k_callV k_true k_false k_gtt k_gtf k_gft k_gsk k_gff k_lit1i k_lit2i k_lit3i k_c0 k_c1 k_ck List.getElem?_cons_zero List.getElem?_cons_succ List.getElem?_nil Option.getD_some Option.getD_none tupOf List.map_cons List.map_nil Option.map_some Option.map_none List.nil_append List.cons_append List.append_nil Nat.mul_one Int.toNat_natCast Nat.zero_add
attribute [local go_sem] e_t e_c e_f u_some u_none u_at env_at k_v k_pick k_add k_sub k_mul k_quo k_rem k_and k_or k_xor k_shl k_shr k_eql k_neq k_lss k_leq k_gtr k_geq k_beq k_peqn k_peqs k_neg k_not k_com k_cvI k_idxS k_idxV1 k_idxVn k_idx k_idxA k_idxG k_ldG k_gld k_seq k_cat k_aeq k_eqs k_fld k_ld1 k_ldn k_get k_gets k_sti k_stb k_stp k_sts k_stf k_sta k_put k_nn k_prt1 k_prtn k_slc_a k_slc_b k_slc_c k_mk k_agg k_bsl k_box k_len k_lenS k_cap k_max k_min k_ext k_callV k_true k_false k_gtt k_gtf k_gft k_gsk k_gff k_lit1i k_lit2i k_lit3i k_c0 k_c1 k_ck List.getElem?_cons_zero List.getElem?_cons_succ List.getElem?_nil Option.getD_some Option.getD_none tupOf List.map_cons List.map_nil Option.map_some Option.map_none List.nil_append List.cons_append List.append_nil Nat.mul_one Int.toNat_natCast Nat.zero_add
--what a store into a cell of two leaves
attribute [local go_sem_proc] Nat.reduceEqDiff Nat.reduceAdd Int.reduceToNat
attribute [local go_sem_proc ↓] reduceIte
attribute [local go_sem] Bool.false_eq_true
section
section
variable {v u wa wb:AV} {ba bb:Bool} {x y:Nat} {h:H} {K:AV→H→Prop}
theorem zAdd_calls (na:Nn h wa x) (nb:Nn h wb y) (hx:Big x) (hy:Big y) (hxy:Big (x+y)) (hk:∀r h',h'.wf→h.le h'→Zf h.next h' r (sg ba x+sg bb y)→K r h'):ACalls Try.prog 34 [.agg [wa, .bool ba], .agg [wb, .bool bb]] h K:=by
 refine in_num_Add (by simp) fun hw=> ?_
 unfold c_num_Add
 simp only[go_sem]
 simp only[AV.cells,List.length_cons,List.length_nil,Nat.zero_add,Nat.reduceAdd]
 refine⟨rfl,rfl, ?_⟩
 generalize hh:((h.new ⟨some 45,2,_⟩).new ⟨some 45,2,_⟩).new ⟨some 45,2,_⟩=h1
 obtain⟨hl1,hw1,hn1,r1,r2,r3⟩:=new3 hw hh
 obtain⟨a1,a2,a3⟩:=g2 r1
 obtain⟨b1,b2,b3⟩:=g2 r2
 have na1:=na.mono hl1
 have nb1:=nb.mono hl1
 change∀r h',h'.wf→h.le h'→Zf h.next h' r (sg ba x+sg bb y)→K r h' at hk
 have hR:(h.new ⟨some 45,2,[wa, .bool ba]⟩).next=h.next+1:=rfl
 have hR2:((h.new ⟨some 45,2,[wa, .bool ba]⟩).new ⟨some 45,2,[wb, .bool bb]⟩).next=h.next+2:=rfl
 --what follows the last call
 have fin:∀(h3:H) (r:AV) (c:Bool) (z:Nat) (Q:AV→H→Prop),h3.wf→h1.le h3→Nf h1.next h3 r z→(∀g:H,g.wf→h.le g→g.gets (h.next+2) 0 2=some [r, .bool (c&&decide (z≠0))]→Nf h.next g r z→Q .junk g)→putK (h3.rows (h.next+2)) (h.next+2) 0 2 [r, .bool (c&&decide (z≠0))] h3 Q:=fun h3 r c z Q hw3 hl3 hr hQ=>
  put2 hw hw3 (H.le_trans hl1 hl3) (by omega) (hl3.2 _ _ r3) rfl fun g hwg hlg hg _ hle=>hQ g hwg hlg hg ((hr.base hl1.1).leeT (hl3.2 _ _ r3) rfl (by decide) hle)
 by_cases hab:ba=bb
 ·subst hab
  rw[sg_add_same] at hk
  simp only[go_sem,hR,hR2,a1,a2,b1,b2,Nat.zero_add,beq_self_eq_true]
  refine lAdd_calls na1 nb1 fun r h2 hw2 hl2 hr=> ?_
  obtain⟨c1,c2,c3⟩:=g2 (hl2.2 _ _ r1)
  simp only[go_sem,hR,hR2,c1,c2,Nat.zero_add]
  refine⟨by simp, ?_⟩
  refine made_calls (hr.nn hxy) fun h3 hw3 hl3=> ?_
  simp only[go_sem,hR,hR2]
  refine⟨rfl,all2 hr.one,fin h3 r ba _ _ hw3 (H.le_trans hl2 hl3) (hr.mono hl3) fun g hwg hlg hg hz=> ?_⟩
  simp only[go_sem,hg]
  exact fun _=>hk _ g hwg hlg (sg_zf hz)
 ·have hbe:(ba==bb)=false:=by simpa using hab
  simp only[go_sem,hR,hR2,a1,a2,b1,b2,Nat.zero_add,hbe]
  refine lSub_calls na1 nb1 (fun hlt _=> ?_) fun hge r h2 hw2 hl2 hr=> ?_
  ·rw[sg_add_lt hab (by omega)] at hk
   simp only[go_sem,hR,hR2,a1,a2,b1,b2,Nat.zero_add]
   refine lSub_calls nb1 na1 (fun h=>absurd h (by omega)) fun _ r h2 hw2 hl2 hr=> ?_
   obtain⟨c1,c2,c3⟩:=g2 (hl2.2 _ _ r2)
   simp only[go_sem,hR,hR2,c1,c2,Nat.zero_add]
   refine made_calls (hr.nn (hy.le (by omega))) fun h3 hw3 hl3=> ?_
   simp only[go_sem,hR,hR2]
   refine⟨rfl,all2 hr.one,fin h3 r bb _ _ hw3 (H.le_trans hl2 hl3) (hr.mono hl3) fun g hwg hlg hg hz=> ?_⟩
   simp only[go_sem,hg]
   exact fun _=>hk _ g hwg hlg (sg_zf hz)
  ·rw[sg_add_ge hab hge] at hk
   obtain⟨c1,c2,c3⟩:=g2 (hl2.2 _ _ r1)
   simp only[go_sem,hR,hR2,c1,c2,Nat.zero_add]
   refine made_calls (hr.nn (hx.le (by omega))) fun h3 hw3 hl3=> ?_
   simp only[go_sem,hR,hR2]
   refine⟨rfl,all2 hr.one,fin h3 r ba _ _ hw3 (H.le_trans hl2 hl3) (hr.mono hl3) fun g hwg hlg hg hz=> ?_⟩
   simp only[go_sem,hg]
   exact fun _=>hk _ g hwg hlg (sg_zf hz)
theorem zrZero_calls (nv:Num 4294967296 h v x) (hk':∀h',h'.wf→h.le h'→K (.bool (decide (x=0))) h'):ACalls Try.prog 70 [.agg [v, .bool ba]] h K:=by
 refine in_ref17_Zero (by simp) fun hw=> ?_
 unfold c_ref17_Zero
 simp only[go_sem]
 simp only[AV.cells,List.length_cons,List.length_nil,Nat.zero_add,Nat.reduceAdd]
 refine⟨rfl, ?_⟩
 have r1:=H.rows_new h ⟨some 61,2,[v, .bool ba]⟩
 have hl1:=H.le_new hw (H.le_refl h) ⟨some 61,2,[v, .bool ba]⟩
 obtain⟨a1,a2,a3⟩:=g2 r1
 simp only[go_sem,a1,Nat.zero_add]
 refine rZero_calls (nv.mono hl1) ?_
 simp only[go_sem]
 exact fun hw'=>hk' _ hw' hl1
theorem zrFrom_calls (nv:Nn h wa x) (hk:∀r h',h'.wf→h.le h'→Zr h' r (sg ba x)→K r h'):ACalls Try.prog 53 [.agg [wa, .bool ba]] h K:=by
 refine in_ref17_From (by simp) fun hw=> ?_
 unfold c_ref17_From
 simp only[go_sem]
 simp only[AV.cells,List.length_cons,List.length_nil,Nat.zero_add,Nat.reduceAdd]
 refine⟨rfl, ?_⟩
 generalize hh:(h.new ⟨some 45,2,_⟩).new ⟨some 61,2,_⟩=h1
 obtain⟨hl1,hw1,hn1,r1,r2⟩:=new2 hw hh
 obtain⟨a1,a2,a3⟩:=g2 r1
 have hR:(h.new ⟨some 45,2,[wa, .bool ba]⟩).next=h.next+1:=rfl
 simp only[go_sem,hR,a1,a2,Nat.zero_add]
 obtain⟨xs,v1,v2,v3,rfl⟩:=nv.mono hl1
 refine From_calls v1 v2 v3 fun r h2 hw2 hl2 hr=> ?_
 obtain⟨b1,b2,b3⟩:=g2 (hl2.2 _ _ r1)
 simp only[go_sem,hR,b1,b2,Nat.zero_add]
 refine⟨by simp, ?_⟩
 refine rmade_calls hr fun h3 hw3 hl3=> ?_
 have l13:=H.le_trans hl2 hl3
 simp only[go_sem,hR]
 refine⟨rfl,all2 hr.one,put2 hw hw3 (H.le_trans hl1 l13) (by omega) (l13.2 _ _ r2) rfl fun g hwg hlg hg _ hle=> ?_⟩
 simp only[go_sem,hg]
 exact fun _=>hk _ g hwg hlg (sg_zr ((hr.mono hl3).leeT (l13.2 _ _ r2) (by simp) hle))
theorem zrTo_calls (nv:Num 4294967296 h v x) (hx:Big x) (h0:x=0→ba=false) (hk:∀r h',h'.wf→h.le h'→Zf h.next h' r (sg ba x)→K r h'):ACalls Try.prog 65 [.agg [v, .bool ba]] h K:=by
 refine in_ref17_To (by simp) fun hw=> ?_
 unfold c_ref17_To
 simp only[go_sem]
 simp only[AV.cells,List.length_cons,List.length_nil,Nat.zero_add,Nat.reduceAdd]
 refine⟨rfl, ?_⟩
 generalize hh:(h.new ⟨some 61,2,_⟩).new ⟨some 45,2,_⟩=h1
 obtain⟨hl1,hw1,hn1,r1,r2⟩:=new2 hw hh
 obtain⟨a1,a2,a3⟩:=g2 r1
 have hR:(h.new ⟨some 61,2,[v, .bool ba]⟩).next=h.next+1:=rfl
 simp only[go_sem,hR,a1,a2,Nat.zero_add]
 refine To_calls (nv.mono hl1) hx fun r h2 hw2 hl2 hr=> ?_
 obtain⟨b1,b2,b3⟩:=g2 (hl2.2 _ _ r1)
 simp only[go_sem,hR,b1,b2,Nat.zero_add]
 refine⟨by simp, ?_⟩
 simp only[go_sem,bldI hr.one,hR]
 refine⟨rfl,all2 hr.one,put2 hw hw2 (H.le_trans hl1 hl2) (by omega) (hl2.2 _ _ r2) rfl fun g hwg hlg hg _ hle=> ?_⟩
 simp only[go_sem,hg]
 exact fun _=>hk _ g hwg hlg ⟨r,ba,x,rfl,(hr.base hl1.1).leeT (hl2.2 _ _ r2) rfl (by decide) hle,h0,rfl⟩
theorem zrAdd_calls (na:Num 4294967296 h wa x) (nb:Num 4294967296 h wb y) (hx:Big x) (hy:Big y) (hk:∀r h',h'.wf→h.le h'→Zr h' r (sg ba x+sg bb y)→K r h'):ACalls Try.prog 38 [.agg [wa, .bool ba], .agg [wb, .bool bb]] h K:=by
 refine in_ref17_Add (by simp) fun hw=> ?_
 unfold c_ref17_Add
 simp only[go_sem]
 simp only[AV.cells,List.length_cons,List.length_nil,Nat.zero_add,Nat.reduceAdd]
 refine⟨rfl,rfl, ?_⟩
 generalize hh:((h.new ⟨some 61,2,_⟩).new ⟨some 61,2,_⟩).new ⟨some 61,2,_⟩=h1
 obtain⟨hl1,hw1,hn1,r1,r2,r3⟩:=new3 hw hh
 obtain⟨a1,a2,a3⟩:=g2 r1
 obtain⟨b1,b2,b3⟩:=g2 r2
 have na1:=na.mono hl1
 have nb1:=nb.mono hl1
 have hR:(h.new ⟨some 61,2,[wa, .bool ba]⟩).next=h.next+1:=rfl
 have hR2:((h.new ⟨some 61,2,[wa, .bool ba]⟩).new ⟨some 61,2,[wb, .bool bb]⟩).next=h.next+2:=rfl
 have fin:∀(h3:H) (r:AV) (c:Bool) (z:Nat) (Q:AV→H→Prop),h3.wf→h1.le h3→Num 4294967296 h3 r z→(∀g:H,g.wf→h.le g→g.gets (h.next+2) 0 2=some [r, .bool (c&&decide (z≠0))]→Num 4294967296 g r z→Q .junk g)→putK (h3.rows (h.next+2)) (h.next+2) 0 2 [r, .bool (c&&decide (z≠0))] h3 Q:=fun h3 r c z Q hw3 hl3 hr hQ=>
  put2 hw hw3 (H.le_trans hl1 hl3) (by omega) (hl3.2 _ _ r3) rfl fun g hwg hlg hg _ hle=>hQ g hwg hlg hg (hr.leeT (hl3.2 _ _ r3) (by simp) hle)
 by_cases hab:ba=bb
 ·subst hab
  rw[sg_add_same] at hk
  simp only[go_sem,hR,hR2,a1,a2,b1,b2,Nat.zero_add,beq_self_eq_true]
  refine Add_calls na1 nb1 hx hy fun r h2 hw2 hl2 hr=> ?_
  obtain⟨c1,c2,c3⟩:=g2 (hl2.2 _ _ r1)
  simp only[go_sem,hR,hR2,c1,c2,Nat.zero_add]
  refine⟨by simp, ?_⟩
  refine rmade_calls hr fun h3 hw3 hl3=> ?_
  simp only[go_sem,hR,hR2]
  refine⟨rfl,all2 hr.one,fin h3 r ba _ _ hw3 (H.le_trans hl2 hl3) (hr.mono hl3) fun g hwg hlg hg hz=> ?_⟩
  simp only[go_sem,hg]
  exact fun _=>hk _ g hwg hlg (sg_zr hz)
 ·have hbe:(ba==bb)=false:=by simpa using hab
  simp only[go_sem,hR,hR2,a1,a2,b1,b2,Nat.zero_add,hbe]
  refine Cmp_calls na1 nb1 hx hy ?_
  rcases Nat.lt_or_ge x y with hlt|hge
  ·rw[sg_add_lt hab (by omega)] at hk
   rw[show cmpI x y= -1 by unfold cmpI;rw[if_pos hlt]]
   simp only[go_sem,hR,hR2,a1,a2,b1,b2,Nat.zero_add,show decide ((-1:Int)≥0)=false from rfl]
   refine rSub_calls nb1 na1 hy (by omega) fun r h2 hw2 hl2 hr=> ?_
   obtain⟨c1,c2,c3⟩:=g2 (hl2.2 _ _ r2)
   simp only[go_sem,hR,hR2,c1,c2,Nat.zero_add]
   refine⟨by simp, ?_⟩
   refine rmade_calls hr fun h3 hw3 hl3=> ?_
   simp only[go_sem,hR,hR2]
   refine⟨rfl,all2 hr.one,fin h3 r bb _ _ hw3 (H.le_trans hl2 hl3) (hr.mono hl3) fun g hwg hlg hg hz=> ?_⟩
   simp only[go_sem,hg]
   exact fun _=>hk _ g hwg hlg (sg_zr hz)
  ·rw[sg_add_ge hab hge] at hk
   have hc:decide (cmpI x y≥0)=true:=by
    unfold cmpI
    rw[if_neg (by omega)]
    split<;>rfl
   simp only[go_sem,hR,hR2,a1,a2,b1,b2,Nat.zero_add,hc]
   refine rSub_calls na1 nb1 hx hge fun r h2 hw2 hl2 hr=> ?_
   obtain⟨c1,c2,c3⟩:=g2 (hl2.2 _ _ r1)
   simp only[go_sem,hR,hR2,c1,c2,Nat.zero_add]
   refine⟨by simp, ?_⟩
   refine rmade_calls hr fun h3 hw3 hl3=> ?_
   simp only[go_sem,hR,hR2]
   refine⟨rfl,all2 hr.one,fin h3 r ba _ _ hw3 (H.le_trans hl2 hl3) (hr.mono hl3) fun g hwg hlg hg hz=> ?_⟩
   simp only[go_sem,hg]
   exact fun _=>hk _ g hwg hlg (sg_zr hz)
theorem zrMul_calls (na:Num 4294967296 h wa x) (nb:Num 4294967296 h wb y) (hx:Big x) (hy:Big y) (hk:∀r h',h'.wf→h.le h'→Zr h' r (sg ba x*sg bb y)→K r h'):ACalls Try.prog 45 [.agg [wa, .bool ba], .agg [wb, .bool bb]] h K:=by
 refine in_ref17_Mul (by simp) fun hw=> ?_
 unfold c_ref17_Mul
 rw[sg_mul] at hk
 simp only[go_sem]
 simp only[AV.cells,List.length_cons,List.length_nil,Nat.zero_add,Nat.reduceAdd]
 refine⟨rfl,rfl, ?_⟩
 generalize hh:((h.new ⟨some 61,2,_⟩).new ⟨some 61,2,_⟩).new ⟨some 61,2,_⟩=h1
 obtain⟨hl1,hw1,hn1,r1,r2,r3⟩:=new3 hw hh
 obtain⟨a1,a2,a3⟩:=g2 r1
 obtain⟨b1,b2,b3⟩:=g2 r2
 have hR:(h.new ⟨some 61,2,[wa, .bool ba]⟩).next=h.next+1:=rfl
 have hR2:((h.new ⟨some 61,2,[wa, .bool ba]⟩).new ⟨some 61,2,[wb, .bool bb]⟩).next=h.next+2:=rfl
 simp only[go_sem,hR,hR2,a1,a2,b1,b2,Nat.zero_add]
 refine Mul_calls (na.mono hl1) (nb.mono hl1) hx hy fun r h2 hw2 hl2 hr=> ?_
 obtain⟨c1,c2,c3⟩:=g2 (hl2.2 _ _ r1)
 obtain⟨d1,d2,d3⟩:=g2 (hl2.2 _ _ r2)
 simp only[go_sem,hR,hR2,c1,c2,d1,d2,Nat.zero_add]
 refine⟨by simp, ?_⟩
 refine rmade_calls hr fun h3 hw3 hl3=> ?_
 have l13:=H.le_trans hl2 hl3
 simp only[go_sem,hR,hR2]
 refine⟨rfl,all2 hr.one,put2 hw hw3 (H.le_trans hl1 l13) (by omega) (l13.2 _ _ r3) rfl fun g hwg hlg hg _ hle=> ?_⟩
 simp only[go_sem,hg]
 exact fun _=>hk _ g hwg hlg (sg_zr ((hr.mono hl3).leeT (l13.2 _ _ r3) (by simp) hle))
end
end
section
section
variable {c i n x:Nat} {z:Int} {h g:H} {v:AV} {T:TypeId} {l:List AV}
theorem Nn.lee2 (hv:Nn h v x) (hr:h.rows i=some ⟨some T,2,l⟩) (hl:H.lee i h g):Nn g v x:=by
 obtain⟨xs,h1,h2⟩:=hv
 exact⟨xs,IsW.monoE hr (by simp) (by simp) h1 hl,h2⟩
theorem Num.lee2 {B:Nat} (hv:Num B h v n) (hr:h.rows i=some ⟨some T,2,l⟩) (hl:H.lee i h g):Num B g v n:=hv.leeT hr (by simp) hl
theorem Nf.lee2 (hv:Nf c h v x) (hr:h.rows i=some ⟨some T,2,l⟩) (hl:H.lee i h g):Nf c g v x:=by
 obtain⟨xs,⟨id,cc,rfl,h1⟩,h2⟩:=hv
 refine⟨xs,⟨id,cc,rfl, ?_⟩,h2⟩
 rcases h1 with h1|⟨j,q,rfl,hb,hq,hqo,hz,h3⟩
 ·exact .inl h1
 ·refine .inr ⟨j,q,rfl,hb,hl.2 j q ?_ hq,hqo,hz,h3⟩
  rintro rfl
  rw[hr] at hq
  injection hq with hq
  rw[←hq] at hz
  cases hz
theorem Zf.lee2 (hv:Zf c h v z) (hr:h.rows i=some ⟨some T,2,l⟩) (hl:H.lee i h g):Zf c g v z:=by
 obtain⟨w,b,x,e,h1,h2⟩:=hv
 exact⟨w,b,x,e,h1.lee2 hr hl,h2⟩
theorem Zr.lee2 (hv:Zr h v z) (hr:h.rows i=some ⟨some T,2,l⟩) (hl:H.lee i h g):Zr g v z:=by
 obtain⟨w,b,x,e,h1,h2⟩:=hv
 exact⟨w,b,x,e,h1.lee2 hr hl,h2⟩
theorem Zf.two (hv:Zf c h v z):∃a b:AV,v= .agg [a,b]∧a.one=true∧b.one=true:=by
 obtain⟨w,b,x,rfl,h1,_⟩:=hv
 exact⟨w,_,rfl,h1.one,rfl⟩
theorem Zr.two (hv:Zr h v z):∃a b:AV,v= .agg [a,b]∧a.one=true∧b.one=true:=by
 obtain⟨w,b,x,rfl,h1,_⟩:=hv
 exact⟨w,_,rfl,h1.one,rfl⟩
end
theorem all22 {a b:AV} (ha:a.one=true) (hb:b.one=true):([a,b].all fun x=>x.one)=true:=by simp[ha,hb]
theorem sg_neg {b:Bool} {x:Nat}:sg (!b) x= -sg b x:=by cases b<;>simp[sg]
theorem sg_false {x:Nat}:sg false x=x:=rfl
theorem sg_sign {b:Bool} {x:Nat}:(sg b x).sign=if x=0 then 0 else if b=true then-1 else 1:=by
 by_cases h:x=0
 ·subst h;rw[sg_zero];rfl
 ·rw[if_neg h]
  cases b
  ·simp only[sg]
   exact Int.sign_eq_one_of_pos (by simp;omega)
  ·simp only[sg]
   exact Int.sign_eq_neg_one_of_neg (by simp;omega)
def cmpZ (a b:Int):Int:=if a<b then-1 else if a=b then 0 else 1
section
variable {v u wa wb:AV} {ba bb:Bool} {x y:Nat} {h:H} {K:AV→H→Prop}
theorem zSign_calls (na:Nn h wa x) (hk:∀h',h'.wf→h.le h'→K (.int .i64 (sg ba x).sign) h'):ACalls Try.prog 75 [.agg [wa, .bool ba]] h K:=by
 refine in_api_Int_Sign (by simp) fun hw=> ?_
 unfold c_api_Int_Sign
 rw[sg_sign] at hk
 simp only[go_sem]
 simp only[AV.cells,List.length_cons,List.length_nil,Nat.zero_add,Nat.reduceAdd]
 refine⟨rfl, ?_⟩
 have r1:=H.rows_new h ⟨some 45,2,[wa, .bool ba]⟩
 have hl1:=H.le_new hw (H.le_refl h) ⟨some 45,2,[wa, .bool ba]⟩
 obtain⟨a1,a2,a3⟩:=g2 r1
 simp only[go_sem,a1,Nat.zero_add]
 refine Zero_calls (na.mono hl1) ?_
 by_cases h0:x=0
 ·rw[if_pos h0] at hk
  simp only[go_sem,decide_eq_true h0]
  exact fun hw'=>hk _ hw' hl1
 ·rw[if_neg h0] at hk
  simp only[go_sem,decide_eq_false h0,a2,Nat.zero_add]
  cases ba
  ·simp only[go_sem]
   exact fun hw'=>hk _ hw' hl1
  ·simp only[go_sem]
   exact fun hw'=>hk _ hw' hl1
theorem zSub_calls (na:Nn h wa x) (nb:Nn h wb y) (hx:Big x) (hy:Big y) (hxy:Big (x+y)) (hk:∀r h',h'.wf→h.le h'→Zf h.next h' r (sg ba x-sg bb y)→K r h'):ACalls Try.prog 42 [.agg [wa, .bool ba], .agg [wb, .bool bb]] h K:=by
 refine in_num_Sub (by simp) fun hw=> ?_
 unfold c_num_Sub
 simp only[go_sem]
 simp only[AV.cells,List.length_cons,List.length_nil,Nat.zero_add,Nat.reduceAdd]
 refine⟨rfl,rfl, ?_⟩
 generalize hh:((h.new ⟨some 45,2,_⟩).new ⟨some 45,2,_⟩).new ⟨some 45,2,_⟩=h1
 obtain⟨hl1,hw1,hn1,r1,r2,r3⟩:=new3 hw hh
 obtain⟨a1,a2,a3⟩:=g2 r1
 obtain⟨b1,b2,b3⟩:=g2 r2
 have hR:(h.new ⟨some 45,2,[wa, .bool ba]⟩).next=h.next+1:=rfl
 have hR2:((h.new ⟨some 45,2,[wa, .bool ba]⟩).new ⟨some 45,2,[wb, .bool bb]⟩).next=h.next+2:=rfl
 simp only[go_sem,hR,hR2,a3,b1,b2,Nat.zero_add,bldI nb.one]
 refine zAdd_calls (na.mono hl1) (nb.mono hl1) hx hy hxy fun r h2 hw2 hl2 hr=> ?_
 rw[sg_neg] at hr
 obtain⟨c1,c2,rfl,o1,o2⟩:=hr.two
 simp only[go_sem,hR,hR2]
 refine⟨rfl,all22 o1 o2,put2 hw hw2 (H.le_trans hl1 hl2) (by omega) (hl2.2 _ _ r3) rfl fun g hwg hlg hg _ hle=> ?_⟩
 simp only[go_sem,hg]
 exact fun _=>hk _ g hwg hlg ((hr.base hl1.1).lee2 (hl2.2 _ _ r3) hle)
theorem zCmp_calls (na:Nn h wa x) (nb:Nn h wb y) (hk:∀h',h'.wf→h.le h'→K (.int .i64 (cmpZ (sg ba x) (sg bb y))) h'):ACalls Try.prog 48 [.agg [wa, .bool ba], .agg [wb, .bool bb]] h K:=by
 refine in_num_Cmp (by simp) fun hw=> ?_
 unfold c_num_Cmp
 simp only[go_sem]
 simp only[AV.cells,List.length_cons,List.length_nil,Nat.zero_add,Nat.reduceAdd]
 refine⟨rfl,rfl, ?_⟩
 generalize hh:(h.new ⟨some 45,2,_⟩).new ⟨some 45,2,_⟩=h1
 obtain⟨hl1,hw1,hn1,r1,r2⟩:=new2 hw hh
 obtain⟨a1,a2,a3⟩:=g2 r1
 obtain⟨b1,b2,b3⟩:=g2 r2
 have hR:(h.new ⟨some 45,2,[wa, .bool ba]⟩).next=h.next+1:=rfl
 simp only[go_sem,hR,a3,b3]
 refine zSign_calls (na.mono hl1) fun h2 hw2 hl2=> ?_
 obtain⟨c1,c2,c3⟩:=g2 (hl2.2 _ _ r1)
 obtain⟨d1,d2,d3⟩:=g2 (hl2.2 _ _ r2)
 simp only[go_sem,hR,c3,d3]
 refine⟨by simp, ?_⟩
 refine zSign_calls ((nb.mono hl1).mono hl2) fun h3 hw3 hl3=> ?_
 obtain⟨e1,e2,e3⟩:=g2 (hl3.2 _ _ (hl2.2 _ _ r1))
 obtain⟨f1,f2,f3⟩:=g2 (hl3.2 _ _ (hl2.2 _ _ r2))
 have l03:=(H.le_trans hl1 (H.le_trans hl2 hl3))
 have sx:(sg ba x).sign= -1∨(sg ba x).sign=0∨(sg ba x).sign=1:=by
  rw[sg_sign];split
  ·simp
  ·split<;>simp
 have sy:(sg bb y).sign= -1∨(sg bb y).sign=0∨(sg bb y).sign=1:=by
  rw[sg_sign];split
  ·simp
  ·split<;>simp
 have kx:=Int.sign_eq_neg_one_iff_neg (a:=sg ba x)
 have kx1:=Int.sign_eq_one_iff_pos (a:=sg ba x)
 have kx0:=Int.sign_eq_zero_iff_zero (a:=sg ba x)
 have ky:=Int.sign_eq_neg_one_iff_neg (a:=sg bb y)
 have ky1:=Int.sign_eq_one_iff_pos (a:=sg bb y)
 have ky0:=Int.sign_eq_zero_iff_zero (a:=sg bb y)
 by_cases hne:(sg ba x).sign=(sg bb y).sign
 ·simp only[go_sem,neF hne,e1,f1,hR,Nat.zero_add]
  refine lCmp_calls (na.mono l03) (nb.mono l03) ?_
  by_cases hneg:(sg ba x).sign<0
  ·have h1:=kx.1 (by omega)
   have h2:=ky.1 (by omega)
   have e:IntKind.i64.wrap (0-cmpI x y)=cmpZ (sg ba x) (sg bb y):=by
    have hba:ba=true:=by cases ba;(simp[sg] at h1;omega);rfl
    have hbb:bb=true:=by cases bb;(simp[sg] at h2;omega);rfl
    subst hba hbb
    unfold cmpI cmpZ sg
    simp only[if_true]
    split
    ·rw[if_neg (by omega),if_neg (by omega)];rfl
    ·split
     ·rw[if_neg (by omega),if_pos (by omega)];rfl
     ·rw[if_pos (by omega)];rfl
   simp only[go_sem,decide_eq_true hneg,e]
   exact fun hw'=>hk _ hw' l03
  ·have e:cmpI x y=cmpZ (sg ba x) (sg bb y):=by
    have h1:¬sg ba x<0:=fun h=>by have:=kx.2 h;omega
    have h2:¬sg bb y<0:=fun h=>by have:=ky.2 h;omega
    have hx':sg ba x=(x:Int):=by cases ba<;>simp[sg] at h1⊢<;>omega
    have hy':sg bb y=(y:Int):=by cases bb<;>simp[sg] at h2⊢<;>omega
    rw[hx',hy']
    unfold cmpI cmpZ
    split
    ·rw[if_pos (by omega)]
    ·split
     ·rw[if_neg (by omega),if_pos (by omega)]
     ·rw[if_neg (by omega),if_neg (by omega)]
   simp only[go_sem,decide_eq_false hneg,e]
   exact fun hw'=>hk _ hw' l03
 ·by_cases hlt:(sg ba x).sign<(sg bb y).sign
  ·have e:cmpZ (sg ba x) (sg bb y)= -1:=by
    unfold cmpZ
    rw[if_pos (by omega)]
   rw[e] at hk
   simp only[go_sem,neT hne,decide_eq_true hlt]
   exact fun hw'=>hk _ hw' l03
  ·have e:cmpZ (sg ba x) (sg bb y)=1:=by
    unfold cmpZ
    rw[if_neg (by omega),if_neg (by omega)]
   rw[e] at hk
   simp only[go_sem,neT hne,decide_eq_false hlt]
   exact fun hw'=>hk _ hw' l03
theorem zOf_calls {n:Int} (h1: -9223372036854775808≤n) (h2:n<9223372036854775808) (hk:∀r h',h'.wf→h.le h'→Zf h.next h' r n→K r h'):ACalls Try.prog 29 [.int .i64 n] h K:=by
 refine in_num_Of (by simp) fun hw=> ?_
 unfold c_num_Of
 have hl1:=H.le_new hw (H.le_refl h) ⟨some 45,2,[.sl none 0 0 none, .bool false]⟩
 have hw1:=H.wf_new hw ⟨some 45,2,[.sl none 0 0 none, .bool false]⟩
 have hr1:=H.rows_new h ⟨some 45,2,[.sl none 0 0 none, .bool false]⟩
 have fin:∀(b:Bool) (k:Nat),n=sg b k→k<18446744073709551616→∀(h3:H) (r:AV) (Q:AV→H→Prop),h3.wf→(h.new ⟨some 45,2,[.sl none 0 0 none, .bool false]⟩).le h3→Nf (h.next+1) h3 r k→(∀g:H,g.wf→h.le g→g.gets h.next 0 2=some [r, .bool (b&&decide (k≠0))]→Zf h.next g (.agg [r, .bool (b&&decide (k≠0))]) n→Q .junk g)→putK (h3.rows h.next) h.next 0 2 [r, .bool (b&&decide (k≠0))] h3 Q:=fun b k hn hk3 h3 r Q hw3 hl3 hr hQ=>
  put2 hw hw3 (H.le_trans hl1 hl3) (Nat.le_refl _) (hl3.2 _ _ hr1) rfl fun g hwg hlg hg _ hle=>hQ g hwg hlg hg (by rw[hn];exact sg_zf ((hr.base (Nat.le_succ _)).lee2 (hl3.2 _ _ hr1) hle))
 by_cases hn:n<0
 ·obtain⟨k,hkn⟩:∃k:Nat,n= -(k:Int):=⟨n.natAbs,by omega⟩
  have e1:IntKind.u64.wrap (0-IntKind.u64.wrap n)=(k:Int):=by
   rw[wUm,wUm,hkn]
   omega
  simp only[go_sem,decide_eq_true hn]
  simp only[List.length_cons,List.length_nil,Nat.zero_add,Nat.reduceAdd]
  simp only[go_sem,e1]
  refine One_calls (x:=k) (by omega) fun r h2 hw2 hl2 hr=> ?_
  simp only[go_sem]
  refine made_calls (hr.nn (word_big (by omega))) fun h3 hw3 hl3=> ?_
  simp only[go_sem]
  refine⟨rfl,all2 hr.one,fin true k (by simp[sg,hkn]) (by omega) h3 r _ hw3 (H.le_trans hl2 hl3) (hr.mono hl3) fun g hwg hlg hg hz=> ?_⟩
  simp only[go_sem,hg]
  exact fun _=>hk _ g hwg hlg hz
 ·obtain⟨k,hkn⟩:∃k:Nat,n=(k:Int):=⟨n.toNat,by omega⟩
  have e1:IntKind.u64.wrap n=(k:Int):=by
   rw[hkn,wU]<;>omega
  simp only[go_sem,decide_eq_false hn]
  simp only[List.length_cons,List.length_nil,Nat.zero_add,Nat.reduceAdd]
  simp only[go_sem,e1]
  refine One_calls (x:=k) (by omega) fun r h2 hw2 hl2 hr=> ?_
  simp only[go_sem]
  refine made_calls (hr.nn (word_big (by omega))) fun h3 hw3 hl3=> ?_
  simp only[go_sem]
  refine⟨rfl,all2 hr.one,fin false k (by simp[sg,hkn]) (by omega) h3 r _ hw3 (H.le_trans hl2 hl3) (hr.mono hl3) fun g hwg hlg hg hz=> ?_⟩
  simp only[go_sem,hg]
  exact fun _=>hk _ g hwg hlg hz
end
end
section
def eucQ (a b:Int):Int:=if a.tmod b<0 then(if b<0 then a.tdiv b+1 else a.tdiv b-1) else a.tdiv b
def eucR (a b:Int):Int:=if a.tmod b<0 then(if b<0 then a.tmod b-b else a.tmod b+b) else a.tmod b
theorem sg_lt0 {b:Bool} {x:Nat} (h:x=0→b=false):b=decide (sg b x<0):=by
 cases b
 ·simp[sg]
 ·have:x≠0:=fun h0=>by cases h h0
  simp[sg];omega
section
variable {v u wa wb:AV} {ba bb:Bool} {x y:Nat} {h:H} {K:AV→H→Prop}
theorem zrNeg_calls (nv:Num 4294967296 h wa x) (hk:∀r h',h'.wf→h.le h'→Zr h' r (-sg ba x)→K r h'):ACalls Try.prog 71 [.agg [wa, .bool ba]] h K:=by
 refine in_ref17_Neg (by simp) fun hw=> ?_
 unfold c_ref17_Neg
 rw[←sg_neg] at hk
 simp only[go_sem]
 simp only[AV.cells,List.length_cons,List.length_nil,Nat.zero_add,Nat.reduceAdd]
 refine⟨rfl, ?_⟩
 generalize hh:(h.new ⟨some 61,2,_⟩).new ⟨some 61,2,_⟩=h1
 obtain⟨hl1,hw1,hn1,r1,r2⟩:=new2 hw hh
 obtain⟨a1,a2,a3⟩:=g2 r1
 have hR:(h.new ⟨some 61,2,[wa, .bool ba]⟩).next=h.next+1:=rfl
 simp only[go_sem,hR,a1,a2,Nat.zero_add]
 refine rmade_calls (nv.mono hl1) fun h3 hw3 hl3=> ?_
 simp only[go_sem,hR]
 refine⟨rfl,all2 nv.one,put2 hw hw3 (H.le_trans hl1 hl3) (by omega) (hl3.2 _ _ r2) rfl fun g hwg hlg hg _ hle=> ?_⟩
 simp only[go_sem,hg]
 exact fun _=>hk _ g hwg hlg (sg_zr ((nv.mono (H.le_trans hl1 hl3)).lee2 (hl3.2 _ _ r2) hle))
theorem zrSub_calls (na:Num 4294967296 h wa x) (nb:Num 4294967296 h wb y) (hx:Big x) (hy:Big y) (hk:∀r h',h'.wf→h.le h'→Zr h' r (sg ba x-sg bb y)→K r h'):ACalls Try.prog 41 [.agg [wa, .bool ba], .agg [wb, .bool bb]] h K:=by
 refine in_ref17_Sub (by simp) fun hw=> ?_
 unfold c_ref17_Sub
 simp only[go_sem]
 simp only[AV.cells,List.length_cons,List.length_nil,Nat.zero_add,Nat.reduceAdd]
 refine⟨rfl,rfl, ?_⟩
 generalize hh:((h.new ⟨some 61,2,_⟩).new ⟨some 61,2,_⟩).new ⟨some 61,2,_⟩=h1
 obtain⟨hl1,hw1,hn1,r1,r2,r3⟩:=new3 hw hh
 obtain⟨a1,a2,a3⟩:=g2 r1
 obtain⟨b1,b2,b3⟩:=g2 r2
 have hR:(h.new ⟨some 61,2,[wa, .bool ba]⟩).next=h.next+1:=rfl
 have hR2:((h.new ⟨some 61,2,[wa, .bool ba]⟩).new ⟨some 61,2,[wb, .bool bb]⟩).next=h.next+2:=rfl
 simp only[go_sem,hR,hR2,a3,b3]
 refine zrNeg_calls (nb.mono hl1) fun r h2 hw2 hl2 hr=> ?_
 obtain⟨c1,c2,c3⟩:=g2 (hl2.2 _ _ r1)
 obtain⟨w,b,z,rfl,nz,hz0,hz⟩:=hr
 have hzy:z=y:=by have:=congrArg Int.natAbs hz;rw[Int.natAbs_neg,sg_abs,sg_abs] at this;exact this.symm
 subst hzy
 simp only[go_sem,hR,hR2,c3]
 refine⟨by simp, ?_⟩
 refine zrAdd_calls ((na.mono hl1).mono hl2) nz hx hy fun r h3 hw3 hl3 hr=> ?_
 rw[←hz,←Int.sub_eq_add_neg] at hr
 obtain⟨e1,e2,rfl,o1,o2⟩:=hr.two
 have l23:=H.le_trans hl2 hl3
 simp only[go_sem,hR,hR2]
 refine⟨rfl,all22 o1 o2,put2 hw hw3 (H.le_trans hl1 l23) (by omega) (l23.2 _ _ r3) rfl fun g hwg hlg hg _ hle=> ?_⟩
 simp only[go_sem,hg]
 exact fun _=>hk _ g hwg hlg (hr.lee2 (l23.2 _ _ r3) hle)
theorem zrSmall_calls {n:Int} (h1: -9223372036854775808<n) (h2:n<9223372036854775808) (hk:∀r h',h'.wf→h.le h'→Zr h' r n→K r h'):ACalls Try.prog 46 [.int .i64 n] h K:=by
 refine in_ref17_Small (by simp) fun hw=> ?_
 unfold c_ref17_Small
 have hl1:=H.le_new hw (H.le_refl h) ⟨some 61,2,[.sl none 0 0 none, .bool false]⟩
 have hw1:=H.wf_new hw ⟨some 61,2,[.sl none 0 0 none, .bool false]⟩
 have hr1:=H.rows_new h ⟨some 61,2,[.sl none 0 0 none, .bool false]⟩
 have fin:∀(b:Bool) (k:Nat),n=sg b k→∀(h3:H) (r:AV) (Q:AV→H→Prop),h3.wf→(h.new ⟨some 61,2,[.sl none 0 0 none, .bool false]⟩).le h3→Num 4294967296 h3 r k→(∀g:H,g.wf→h.le g→g.gets h.next 0 2=some [r, .bool (b&&decide (k≠0))]→Zr g (.agg [r, .bool (b&&decide (k≠0))]) n→Q .junk g)→putK (h3.rows h.next) h.next 0 2 [r, .bool (b&&decide (k≠0))] h3 Q:=fun b k hn h3 r Q hw3 hl3 hr hQ=>
  put2 hw hw3 (H.le_trans hl1 hl3) (Nat.le_refl _) (hl3.2 _ _ hr1) rfl fun g hwg hlg hg _ hle=>hQ g hwg hlg hg (by rw[hn];exact sg_zr (hr.lee2 (hl3.2 _ _ hr1) hle))
 by_cases hn:n<0
 ·obtain⟨k,hkn⟩:∃k:Nat,n= -(k:Int):=⟨n.natAbs,by omega⟩
  have e0:IntKind.i64.wrap (0-n)=(k:Int):=(wI (by omega) (by omega)).trans (by omega)
  have e1:IntKind.u64.wrap (k:Int)=(k:Int):=wUn (by omega)
  simp only[go_sem,decide_eq_true hn]
  simp only[List.length_cons,List.length_nil,Nat.zero_add,Nat.reduceAdd]
  simp only[go_sem,e0,e1]
  refine Small_calls (x:=k) (by omega) fun r h2 hw2 hl2 hr=> ?_
  simp only[go_sem]
  refine rmade_calls hr fun h3 hw3 hl3=> ?_
  simp only[go_sem]
  refine⟨rfl,all2 hr.one,fin true k (by simp[sg,hkn]) h3 r _ hw3 (H.le_trans hl2 hl3) (hr.mono hl3) fun g hwg hlg hg hz=> ?_⟩
  simp only[go_sem,hg]
  exact fun _=>hk _ g hwg hlg hz
 ·obtain⟨k,hkn⟩:∃k:Nat,n=(k:Int):=⟨n.toNat,by omega⟩
  have e1:IntKind.u64.wrap n=(k:Int):=by
   rw[hkn,wU]<;>omega
  simp only[go_sem,decide_eq_false hn]
  simp only[List.length_cons,List.length_nil,Nat.zero_add,Nat.reduceAdd]
  simp only[go_sem,e1]
  refine Small_calls (x:=k) (by omega) fun r h2 hw2 hl2 hr=> ?_
  simp only[go_sem]
  refine rmade_calls hr fun h3 hw3 hl3=> ?_
  simp only[go_sem]
  refine⟨rfl,all2 hr.one,fin false k (by simp[sg,hkn]) h3 r _ hw3 (H.le_trans hl2 hl3) (hr.mono hl3) fun g hwg hlg hg hz=> ?_⟩
  simp only[go_sem,hg]
  exact fun _=>hk _ g hwg hlg hz
theorem zrTrunc_calls (na:Num 4294967296 h wa x) (nb:Num 4294967296 h wb y) (hx:Big x) (hy:Big y) (hy0:0<y) (hk:∀q r h',h'.wf→h.le h'→Zr h' q ((sg ba x).tdiv (sg bb y))→Zr h' r ((sg ba x).tmod (sg bb y))→K (.tup [q,r]) h'):ACalls Try.prog 83 [.agg [wa, .bool ba], .agg [wb, .bool bb]] h K:=by
 refine in_ref17_Trunc (by simp) fun hw=> ?_
 unfold c_ref17_Trunc
 rw[sg_tdiv,sg_tmod] at hk
 simp only[go_sem]
 simp only[AV.cells,List.length_cons,List.length_nil,Nat.zero_add,Nat.reduceAdd]
 refine⟨rfl,rfl, ?_⟩
 generalize hh2:(h.new ⟨some 61,2,_⟩).new ⟨some 61,2,_⟩=h0
 obtain⟨hl0,hw0,hn0,r1,r2⟩:=new2 hw hh2
 have hR:(h.new ⟨some 61,2,[wa, .bool ba]⟩).next=h.next+1:=rfl
 generalize hh:(h0.new ⟨some 61,2,_⟩).new ⟨some 61,2,_⟩=h1
 obtain⟨hl1,hw1,hn1,r3,r4⟩:=new2 hw0 hh
 have hR3:(h0.new ⟨some 61,2,[.sl none 0 0 none, .bool false]⟩).next=h0.next+1:=rfl
 have l01:=H.le_trans hl0 hl1
 obtain⟨a1,a2,a3⟩:=g2 (hl1.2 _ _ r1)
 obtain⟨b1,b2,b3⟩:=g2 (hl1.2 _ _ r2)
 simp only[go_sem,hR,hR3,a1,b1,Nat.zero_add]
 refine DivMod_calls (na.mono l01) (nb.mono l01) hx hy hy0 fun q r h2 hw2 hl2 hq hr=> ?_
 obtain⟨c1,c2,c3⟩:=g2 (hl2.2 _ _ (hl1.2 _ _ r1))
 obtain⟨d1,d2,d3⟩:=g2 (hl2.2 _ _ (hl1.2 _ _ r2))
 simp only[go_sem,hR,hR3,c2,d2,Nat.zero_add]
 refine rmade_calls hq fun h3 hw3 hl3=> ?_
 obtain⟨e1,e2,e3⟩:=g2 (hl3.2 _ _ (hl2.2 _ _ (hl1.2 _ _ r1)))
 simp only[go_sem,hR,hR3,e2,Nat.zero_add]
 refine⟨by simp, ?_⟩
 refine rmade_calls (hr.mono hl3) fun h4 hw4 hl4=> ?_
 have l14:=(H.le_trans hl2 (H.le_trans hl3 hl4))
 have hb0:=hl0.1
 simp only[go_sem,hR,hR3]
 refine⟨rfl,all2 hq.one,put2 hw hw4 (H.le_trans l01 l14) (by omega) (l14.2 _ _ r3) rfl fun g hwg hlg hg hgr hle=> ?_⟩
 simp only[go_sem,hR3]
 have r4g:g.rows (h0.next+1)=some ⟨some 61,2,[.sl none 0 0 none, .bool false]⟩:=hle.2 _ _ (by omega) (l14.2 _ _ r4)
 refine⟨rfl,all2 hr.one,put2 hw hwg hlg (by omega) r4g rfl fun g2' hwg2 hlg2 hg2 hgr2 hle2=> ?_⟩
 have hgr':=hle2.2 _ _ (by omega) hgr
 simp only[go_sem,hg2,(g2 hgr').2.2]
 refine fun _=>hk _ _ g2' hwg2 hlg2 (sg_zr ?_) (sg_zr ?_)
 ·exact((hq.mono (H.le_trans hl3 hl4)).lee2 (l14.2 _ _ r3) hle).lee2 r4g hle2
 ·exact((hr.mono (H.le_trans hl3 hl4)).lee2 (l14.2 _ _ r3) hle).lee2 r4g hle2
end
end
section
theorem sg_lt0' {b:Bool} {x:Nat} (h:0<x):b=decide (sg b x<0):=sg_lt0 (fun h0=>by omega)
theorem zr_open {h:H} {v:AV} {z:Int} (hv:Zr h v z):∃w,v= .agg [w, .bool (decide (z<0))]∧Num 4294967296 h w z.natAbs:=by
 obtain⟨w,b,x,rfl,h1,h2,rfl⟩:=hv
 rw[sg_abs,←sg_lt0 h2]
 exact⟨w,rfl,h1⟩
theorem zf_open {c:Nat} {h:H} {v:AV} {z:Int} (hv:Zf c h v z):∃w,v= .agg [w, .bool (decide (z<0))]∧Nf c h w z.natAbs:=by
 obtain⟨w,b,x,rfl,h1,h2,rfl⟩:=hv
 rw[sg_abs,←sg_lt0 h2]
 exact⟨w,rfl,h1⟩
theorem sg_self {z:Int}:sg (decide (z<0)) z.natAbs=z:=by
 unfold sg
 by_cases h:z<0
 ·rw[decide_eq_true h,if_pos rfl];omega
 ·rw[decide_eq_false h,if_neg (by simp)];omega
section
variable {v u wa wb:AV} {ba bb:Bool} {x y:Nat} {h:H} {K:AV→H→Prop}
theorem zrEuclid_calls (na:Num 4294967296 h wa x) (nb:Num 4294967296 h wb y) (hx:Big x) (hy:Big y) (hy0:0<y) (hk:∀q r h',h'.wf→h.le h'→Zr h' q (eucQ (sg ba x) (sg bb y))→Zr h' r (eucR (sg ba x) (sg bb y))→K (.tup [q,r]) h'):ACalls Try.prog 58 [.agg [wa, .bool ba], .agg [wb, .bool bb]] h K:=by
 refine in_ref17_Euclid (by simp) fun hw=> ?_
 unfold c_ref17_Euclid
 simp only[go_sem]
 simp only[AV.cells,List.length_cons,List.length_nil,Nat.zero_add,Nat.reduceAdd]
 refine⟨rfl,rfl, ?_⟩
 generalize hh2:(h.new ⟨some 61,2,_⟩).new ⟨some 61,2,_⟩=h0
 obtain⟨hl0,hw0,hn0,r1,r2⟩:=new2 hw hh2
 have hR:(h.new ⟨some 61,2,[wa, .bool ba]⟩).next=h.next+1:=rfl
 generalize hh:(h0.new ⟨some 61,2,_⟩).new ⟨some 61,2,_⟩=h1
 obtain⟨hl1,hw1,hn1,r3,r4⟩:=new2 hw0 hh
 have hR3:(h0.new ⟨some 61,2,[.sl none 0 0 none, .bool false]⟩).next=h0.next+1:=rfl
 have l01:=H.le_trans hl0 hl1
 have r1:=hl1.2 _ _ r1
 have r2:=hl1.2 _ _ r2
 simp only[go_sem,hR,hR3,(g2 r1).2.2,(g2 r2).2.2]
 refine zrTrunc_calls (na.mono l01) (nb.mono l01) hx hy hy0 fun q r h2 hw2 hl2 hq hr=> ?_
 have tm:(sg ba x).tmod (sg bb y)=sg ba (x%y):=sg_tmod
 have tq:(sg ba x).tdiv (sg bb y)=sg (ba !=bb) (x/y):=sg_tdiv
 have hbr:((sg ba x).tmod (sg bb y)).natAbs≤x:=by rw[tm,sg_abs];exact Nat.mod_le _ _
 have hbq:((sg ba x).tdiv (sg bb y)).natAbs≤x:=by rw[tq,sg_abs];exact Nat.div_le_self _ _
 have hbb:bb=decide (sg bb y<0):=sg_lt0' hy0
 have hyy:sg bb y=sg bb y:=rfl
 unfold eucQ eucR at hk
 obtain⟨vq,rfl,nq⟩:=zr_open hq
 obtain⟨vr,rfl,nr⟩:=zr_open hr
 generalize (sg ba x).tmod (sg bb y)=zr at*
 generalize (sg ba x).tdiv (sg bb y)=zq at*
 have r1:=hl2.2 _ _ r1
 have r2:=hl2.2 _ _ r2
 have r3:=hl2.2 _ _ r3
 have r4:=hl2.2 _ _ r4
 have nb2:=(nb.mono l01).mono hl2
 simp only[go_sem]
 generalize hh5:(h2.new ⟨some 61,_,_⟩).new ⟨some 61,_,_⟩=h3
 simp only[List.length_cons,List.length_nil,Nat.zero_add,Nat.reduceAdd] at hh5
 obtain⟨hl3,hw3,hn3,r5,r6⟩:=new2 hw2 hh5
 have hR5:(h2.new ⟨some 61,2,[.sl none 0 0 none, .bool false]⟩).next=h2.next+1:=rfl
 have l02:=(H.le_trans l01 (H.le_trans hl2 hl3))
 have l12:=H.le_trans l01 hl2
 have hb1:=l12.1
 have hb0:=hl0.1
 simp only[List.length_cons,List.length_nil,Nat.zero_add,Nat.reduceAdd,hR5]
 have r1:=hl3.2 _ _ r1
 have r2:=hl3.2 _ _ r2
 have r3:=hl3.2 _ _ r3
 have r4:=hl3.2 _ _ r4
 have hlt2:=H.row_lt hw3 r2
 have hb2:h0.next+1<h2.next:=by
  have:=hl1.1;have:=hl2.1;omega
 refine⟨by trivial,all2 nq.one,put2 hw hw3 l02 (by omega) r5 rfl fun g1 hwg1 hlg1 _ hg1 e1=> ?_⟩
 have nq:=(nq.mono hl3).lee2 r5 e1
 have nr:=(nr.mono hl3).lee2 r5 e1
 have nb3:=(nb2.mono hl3).lee2 r5 e1
 have r6:=e1.2 _ _ (by omega) r6
 have r1:=e1.2 _ _ (by omega) r1
 have r2:=e1.2 _ _ (by omega) r2
 have r3:=e1.2 _ _ (by omega) r3
 have r4:=e1.2 _ _ (by omega) r4
 simp only[go_sem]
 refine⟨by trivial,all2 nr.one,put2 hw hwg1 hlg1 (by omega) r6 rfl fun g3 hwg3 hlg3 _ hg3 e3=> ?_⟩
 have nq:=nq.lee2 r6 e3
 have nr:=nr.lee2 r6 e3
 have nb3:=nb3.lee2 r6 e3
 have hg1:=e3.2 _ _ (by omega) hg1
 have r1:=e3.2 _ _ (by omega) r1
 have r2:=e3.2 _ _ (by omega) r2
 have r3:=e3.2 _ _ (by omega) r3
 have r4:=e3.2 _ _ (by omega) r4
 simp only[go_sem,(g2 hg3).2.1,Nat.zero_add]
 by_cases hz:zr<0
 ·rw[if_pos hz] at hk
  rw[if_pos hz] at hk
  rw[decide_eq_true hz]
  simp only[go_sem,Bool.not_true,(g2 r2).2.1,Nat.zero_add]
  rw[hbb]
  by_cases hs:sg bb y<0
  ·rw[if_pos hs] at hk
   rw[if_pos hs] at hk
   rw[decide_eq_true hs]
   simp only[go_sem,(g2 hg1).2.2,(g2 hg3).2.2,(g2 r2).2.2]
   refine zrSmall_calls (n:=1) (by decide) (by decide) fun o g5 hwg5 hl5 ho=> ?_
   obtain⟨vo,rfl,no⟩:=zr_open ho
   have r2:=hl5.2 _ _ r2
   have r3:=hl5.2 _ _ r3
   have r4:=hl5.2 _ _ r4
   have hg1:=hl5.2 _ _ hg1
   have hg3:=hl5.2 _ _ hg3
   have nq:=nq.mono hl5
   have nr:=nr.mono hl5
   have nb4:=nb3.mono hl5
   simp only[go_sem,(g2 hg1).2.2,(g2 hg3).2.2,(g2 r2).2.2]
   refine⟨by simp, ?_⟩
   refine zrAdd_calls nq no (hx.le hbq) (Big.w1 (by decide)) fun s1 g6 hwg6 hl6 hs1=> ?_
   have r2:=hl6.2 _ _ r2
   have r3:=hl6.2 _ _ r3
   have r4:=hl6.2 _ _ r4
   have hg1:=hl6.2 _ _ hg1
   have hg3:=hl6.2 _ _ hg3
   have nr:=nr.mono hl6
   have nb4:=nb4.mono hl6
   simp only[go_sem,(g2 hg3).2.2,(g2 r2).2.2]
   refine⟨by simp, ?_⟩
   refine zrSub_calls nr nb4 (hx.le hbr) hy fun s2 g7 hwg7 hl7 hs2=> ?_
   have r3:=hl7.2 _ _ r3
   have r4:=hl7.2 _ _ r4
   have hs1:=hs1.mono hl7
   rw[sg_self] at hs1 hs2
   obtain⟨v1,rfl,n1⟩:=zr_open hs1
   obtain⟨v2,rfl,n2⟩:=zr_open hs2
   have l07:=(H.le_trans hlg3 (H.le_trans hl5 (H.le_trans hl6 hl7)))
   simp only[go_sem]
   refine⟨by trivial,all2 n1.one,put2 hw hwg7 l07 (by omega) r3 rfl fun g8 hwg8 hlg8 hg8 r3' e8=> ?_⟩
   have hs1:=hs1.lee2 r3 e8
   have hs2:=hs2.lee2 r3 e8
   have r4:=e8.2 _ _ (by omega) r4
   simp only[go_sem]
   refine⟨by trivial,all2 n2.one,put2 hw hwg8 hlg8 (by omega) r4 rfl fun g9 hwg9 hlg9 hg9 _ e9=> ?_⟩
   have r3':=e9.2 _ _ (by omega) r3'
   simp only[go_sem,hg9,(g2 r3').2.2]
   exact fun _=>hk _ _ g9 hwg9 hlg9 (hs1.lee2 r4 e9) (hs2.lee2 r4 e9)
  ·rw[if_neg hs] at hk
   rw[if_neg hs] at hk
   rw[decide_eq_false hs]
   simp only[go_sem,(g2 hg1).2.2,(g2 hg3).2.2,(g2 r2).2.2]
   refine zrSmall_calls (n:=1) (by decide) (by decide) fun o g5 hwg5 hl5 ho=> ?_
   obtain⟨vo,rfl,no⟩:=zr_open ho
   have r2:=hl5.2 _ _ r2
   have r3:=hl5.2 _ _ r3
   have r4:=hl5.2 _ _ r4
   have hg1:=hl5.2 _ _ hg1
   have hg3:=hl5.2 _ _ hg3
   have nq:=nq.mono hl5
   have nr:=nr.mono hl5
   have nb4:=nb3.mono hl5
   simp only[go_sem,(g2 hg1).2.2,(g2 hg3).2.2,(g2 r2).2.2]
   refine⟨by simp, ?_⟩
   refine zrSub_calls nq no (hx.le hbq) (Big.w1 (by decide)) fun s1 g6 hwg6 hl6 hs1=> ?_
   have r2:=hl6.2 _ _ r2
   have r3:=hl6.2 _ _ r3
   have r4:=hl6.2 _ _ r4
   have hg1:=hl6.2 _ _ hg1
   have hg3:=hl6.2 _ _ hg3
   have nr:=nr.mono hl6
   have nb4:=nb4.mono hl6
   simp only[go_sem,(g2 hg3).2.2,(g2 r2).2.2]
   refine⟨by simp, ?_⟩
   refine zrAdd_calls nr nb4 (hx.le hbr) hy fun s2 g7 hwg7 hl7 hs2=> ?_
   have r3:=hl7.2 _ _ r3
   have r4:=hl7.2 _ _ r4
   have hs1:=hs1.mono hl7
   rw[sg_self] at hs1 hs2
   obtain⟨v1,rfl,n1⟩:=zr_open hs1
   obtain⟨v2,rfl,n2⟩:=zr_open hs2
   have l07:=(H.le_trans hlg3 (H.le_trans hl5 (H.le_trans hl6 hl7)))
   simp only[go_sem]
   refine⟨by trivial,all2 n1.one,put2 hw hwg7 l07 (by omega) r3 rfl fun g8 hwg8 hlg8 hg8 r3' e8=> ?_⟩
   have hs1:=hs1.lee2 r3 e8
   have hs2:=hs2.lee2 r3 e8
   have r4:=e8.2 _ _ (by omega) r4
   simp only[go_sem]
   refine⟨by trivial,all2 n2.one,put2 hw hwg8 hlg8 (by omega) r4 rfl fun g9 hwg9 hlg9 hg9 _ e9=> ?_⟩
   have r3':=e9.2 _ _ (by omega) r3'
   simp only[go_sem,hg9,(g2 r3').2.2]
   exact fun _=>hk _ _ g9 hwg9 hlg9 (hs1.lee2 r4 e9) (hs2.lee2 r4 e9)
 ·rw[if_neg hz] at hk
  rw[if_neg hz] at hk
  simp only[go_sem,decide_eq_false hz,Bool.not_false,(g2 hg1).2.2,(g2 hg3).2.2]
  refine⟨by trivial,all2 nq.one,put2 hw hwg3 hlg3 (by omega) r3 rfl fun g5 hwg5 hlg5 hg5 r3' e5=> ?_⟩
  have nq:=nq.lee2 r3 e5
  have nr:=nr.lee2 r3 e5
  have hg3:=e5.2 _ _ (by omega) hg3
  have r4:=e5.2 _ _ (by omega) r4
  simp only[go_sem,(g2 hg3).2.2]
  refine⟨by(simp;omega),by trivial,all2 nr.one,put2 hw hwg5 hlg5 (by omega) r4 rfl fun g6 hwg6 hlg6 hg6 _ e6=> ?_⟩
  have r3':=e6.2 _ _ (by omega) r3'
  simp only[go_sem,hg6,(g2 r3').2.2]
  exact fun _=>hk _ _ g6 hwg6 hlg6 ⟨_,_,_,rfl,nq.lee2 r4 e6,fun h0=>by simp;omega,sg_self.symm⟩ ⟨_,_,_,rfl,nr.lee2 r4 e6,fun _=>rfl,by rw[sg_false];omega⟩
end
end
theorem zeroI:abuild [.sl none 0 0 none, .bool false] []=some [.sl none 0 0 none, .bool false]:=rfl
theorem Zf.zero (c:Nat) (h:H):Zf c h (.agg [.sl none 0 0 none, .bool false]) 0:=⟨_,_,0,rfl,Nf.nil c h none,fun _=>rfl,rfl⟩
section
section
variable {t:Tb} {h:H} {K:AV→H→Prop}
theorem roNew_calls (hk:∀e u h',h'.wf→h.le h'→h.next≤u→u<e→Eng 8 h' e u→Tune h' u 0 0 0 (clampT t)→K (.ptr (some (e,0))) h'):ACalls Try.prog 98 [t.av] h K:=by
 refine in_root_New (by simp) fun hw=> ?_
 unfold c_root_New
 have hl1:=H.le_new hw (H.le_refl h) ⟨some 55,11,t.cells⟩
 have hn1:h.next<(h.new ⟨some 55,11,t.cells⟩).next:=Nat.lt_succ_self _
 simp only[go_sem,av_held,av_cells,cells_len,true_and,gsT (H.rows_new h _)]
 refine diNew_calls fun e u h1 hw1 hl2 hn2 _ he ht=> ?_
 simp only[go_sem,bldp]
 simp only[AV.held,AV.cells,true_and,go_sem]
 have hl3:=H.le_new hw1 (H.le_refl h1) ⟨some 146,1,[AV.ptr (some (e,0))]⟩
 exact fun hw'=>hk _ u _ hw' (H.le_trans hl1 (H.le_trans hl2 hl3)) (by omega) (H.row_lt hw1 ht) ⟨_,e,H.rows_new _ _,rfl,he.mono hl3⟩ (ht.mono hl3)
theorem raNew_calls (hk:∀e u h',h'.wf→h.le h'→h.next≤u→u<e→Eng 9 h' e u→Tune h' u 0 0 0 (clampT t)→K (.ptr (some (e,0))) h'):ACalls Try.prog 97 [t.av] h K:=by
 refine in_radix_New (by simp) fun hw=> ?_
 unfold c_radix_New
 have hl1:=H.le_new hw (H.le_refl h) ⟨some 55,11,t.cells⟩
 have hn1:h.next<(h.new ⟨some 55,11,t.cells⟩).next:=Nat.lt_succ_self _
 simp only[go_sem,av_held,av_cells,cells_len,true_and,gsT (H.rows_new h _)]
 refine roNew_calls fun e u h1 hw1 hl2 hn2 _ he ht=> ?_
 simp only[go_sem,bldp]
 simp only[AV.held,AV.cells,true_and,go_sem]
 have hl3:=H.le_new hw1 (H.le_refl h1) ⟨some 142,1,[AV.ptr (some (e,0))]⟩
 exact fun hw'=>hk _ u _ hw' (H.le_trans hl1 (H.le_trans hl2 hl3)) (by omega) (H.row_lt hw1 ht) ⟨_,e,H.rows_new _ _,rfl,he.mono hl3⟩ (ht.mono hl3)
theorem nuNew_calls (hk:∀e u h',h'.wf→h.le h'→h.next≤u→u<e→Eng 10 h' e u→Tune h' u 0 0 0 (clampT t)→K (.ptr (some (e,0))) h'):ACalls Try.prog 96 [t.av] h K:=by
 refine in_num_New (by simp) fun hw=> ?_
 unfold c_num_New
 have hl1:=H.le_new hw (H.le_refl h) ⟨some 55,11,t.cells⟩
 have hn1:h.next<(h.new ⟨some 55,11,t.cells⟩).next:=Nat.lt_succ_self _
 simp only[go_sem,av_held,av_cells,cells_len,true_and,gsT (H.rows_new h _)]
 refine raNew_calls fun e u h1 hw1 hl2 hn2 _ he ht=> ?_
 simp only[go_sem,bldp]
 simp only[AV.held,AV.cells,true_and,go_sem]
 have hl3:=H.le_new hw1 (H.le_refl h1) ⟨some 138,1,[AV.ptr (some (e,0))]⟩
 exact fun hw'=>hk _ u _ hw' (H.le_trans hl1 (H.le_trans hl2 hl3)) (by omega) (H.row_lt hw1 ht) ⟨_,e,H.rows_new _ _,rfl,he.mono hl3⟩ (ht.mono hl3)
end
end
theorem cell_bool {t:TypeId} (ht:Try.prog.underlying t=some .bool) {h:H} {l:List AV} (r:Reads Try.prog h t l):∃b:Bool,l=[.bool b]:=by
 cases r with
 |int ht' hw=>rw[ht] at ht';cases ht'
 |bool ht'=>exact⟨_,rfl⟩
 |str ht'=>rw[ht] at ht';cases ht'
 |snil ht'=>rw[ht] at ht';cases ht'
 |sl ht'=>rw[ht] at ht';cases ht'
 |struct ht'=>rw[ht] at ht';cases ht'
set_option maxRecDepth 100000 in
theorem cell_whole {h:H} {l:List AV} (r:Reads Try.prog h 45 l):∃(v:AV) (b:Bool) (xs:List Nat),l=[v, .bool b]∧IsN h v xs∧Dig xs∧xs.length≤maxLen:=by
 have hc:Try.prog.cellsOf 45=2:=by kernel_rfl
 have hz:Try.prog.cellsOf 43=1:=by kernel_rfl
 have hb:Try.prog.cellsOf 4=1:=by kernel_rfl
 cases r with
 |int ht' hw=>rw[Try.underlying45] at ht';cases ht'
 |bool ht'=>rw[Try.underlying45] at ht';cases ht'
 |str ht'=>rw[Try.underlying45] at ht';cases ht'
 |snil ht'=>rw[Try.underlying45] at ht';cases ht'
 |sl ht'=>rw[Try.underlying45] at ht';cases ht'
 |struct ht' hl hf=>
  rw[Try.underlying45] at ht'
  injection ht' with ht'
  injection ht' with ht'
  subst ht'
  rw[hc] at hl
  simp only[List.mem_cons,List.not_mem_nil,or_false,forall_eq_or_imp,forall_eq,hz,hb] at hf
  obtain⟨f0,f1⟩:=hf
  obtain⟨v,xs,g0,h1,h2,h3⟩:=cell_words (by kernel_rfl) f0
  obtain⟨b,g1⟩:=cell_bool (by kernel_rfl) f1
  match l,hl with
  |[x0,x1],_=>
   simp only[List.drop_zero,List.drop_succ_cons,List.take_succ_cons,List.take_zero,List.cons.injEq,and_true] at g0 g1
   exact⟨v,b,xs,by rw[g0,g1],h1,h2,h3⟩
section
def IsI (h:H) (l:List AV) (p:Bool×List Nat):Prop:=∃v,l=[v, .bool p.1]∧IsN h v p.2∧Dig p.2∧p.2.length≤maxLen
theorem IsI.grows:Grows IsI:=by
 rintro h h' c x ⟨v,e,h1,h2⟩ hl
 exact⟨v,e,h1.mono hl,h2⟩
theorem H.gets_le {a h:H} (hl:a.le h) {i j n:Nat} {l:List AV} (e:a.gets i j n=some l):h.gets i j n=some l:=by
 unfold H.gets at*
 cases hr:a.rows i with
 |none=>rw[hr] at e;cases e
 |some r=>rw[hr] at e;rw[hl.2 _ _ hr];exact e
section
variable {h:H} {u v:AV} {K:AV→H→Prop}
set_option maxRecDepth 100000 in
theorem reads_wholes (r:ReadsV Try.prog h 22 u):∃ps,IsA 2 IsI h u ps∧ps.length≤maxLen:=by
 have hz:Try.prog.cellsOf 45=2:=by kernel_rfl
 obtain⟨v,n,cs,e,h1,h2,h3⟩:=cell_slice (e:=45) (by kernel_rfl) (readsV_slice (e:=45) (by kernel_rfl) r)
 injection e with e
 subst e
 rw[hz] at h1 h3
 obtain⟨ps,hn,hxs⟩:=all_of (z:=2) (R:=IsI h) (n:=n) (cs:=cs) h1.1 fun i hi=>by
  obtain⟨v,b,xs,e,q1,q2,q3⟩:=cell_whole (h3 i hi)
  exact⟨(b,xs),v,e,q1,q2,q3⟩
 subst hn
 exact⟨ps,⟨cs,h1,hxs⟩,h2⟩
theorem Cut_all {xs:List Nat} {n:Nat} (hv:IsN h v xs) (hk:∀r,(∀g,IsN g v xs→IsN g r (xs.take n))→r.one=true→K r h):ACalls Try.prog 79 [v, .int .i64 (n:Int)] h K:=by
 obtain⟨id,off,c,rfl⟩:=hv.form
 refine in_keep_Cut (by simp) fun hw=> ?_
 unfold c_keep_Cut
 simp only[go_sem,minN]
 refine⟨by omega,by omega,hv.row,fun _=>hk _ (fun g hg=> ?_) rfl⟩
 have:=hg.take (b:=min xs.length n) (c':=c) (by omega)
 rw[take_min] at this
 exact this
theorem CutInt_all {wa:AV} {ba:Bool} {xs:List Nat} {n:Nat} (ha:IsN h wa xs) (hk:∀w h',h'.wf→h.le h'→(∀g,IsN g wa xs→IsN g w (xs.take n))→w.one=true→K (.agg [w, .bool ba]) h'):ACalls Try.prog 52 [.agg [wa, .bool ba], .int .i64 (n:Int)] h K:=by
 refine in_keep_CutInt (by simp) fun hw=> ?_
 unfold c_keep_CutInt
 simp only[go_sem]
 simp only[AV.cells,List.length_cons,List.length_nil,Nat.zero_add,Nat.reduceAdd]
 refine⟨rfl, ?_⟩
 generalize hh:(h.new ⟨some 45,2,_⟩).new ⟨some 45,2,_⟩=h1
 obtain⟨hl1,hw1,hn1,r1,r2⟩:=new2 hw hh
 have hR:(h.new ⟨some 45,2,[wa, .bool ba]⟩).next=h.next+1:=rfl
 simp only[go_sem,hR,(g2 r1).1,(g2 r1).2.1,Nat.zero_add]
 refine Cut_all (n:=n) (ha.mono hl1) fun a hca hone=> ?_
 simp only[go_sem,hR,(g2 r1).2.1,Nat.zero_add]
 refine⟨by simp, ?_⟩
 simp only[go_sem,bldI hone]
 refine⟨by trivial,all2 hone,put2 hw hw1 hl1 (by omega) r2 rfl fun g hwg hlg hg _ e1=> ?_⟩
 simp only[go_sem,hg]
 exact fun _=>hk _ g hwg hlg hca hone
end
end
def zI (p:Bool×List Nat):Int:=sg p.1 (val 18446744073709551616 p.2)
def TrimF (c:Nat→Nat) (ys:List Nat):Prop:=(∀i,ys.getD i 0=c i)∧∀y,ys.getLast? =some y→y≠0
theorem getD_out {ys:List Nat} {i:Nat} (h:ys.length≤i):ys.getD i 0=0:=by
 rw[List.getD_eq_getElem?_getD,List.getElem?_eq_none h]
 rfl
theorem getD_in {ys:List Nat} {i:Nat} (h:i<ys.length):ys.getD i 0=ys[i]:=by
 rw[List.getD_eq_getElem?_getD,List.getElem?_eq_getElem h]
 rfl
theorem TrimF.len {c:Nat→Nat} {ys zs:List Nat} (hz:∀i,zs.getD i 0=c i) (hy:TrimF c ys):ys.length≤zs.length:=by
 rcases Nat.lt_or_ge zs.length ys.length with h|h
 ·have h1:=hy.1 (ys.length-1)
  rw[←hz,getD_out (ys:=zs) (by omega),getD_in (by omega)] at h1
  have h2:=hy.2 ys[ys.length-1] (by rw[List.getLast?_eq_getElem?,List.getElem?_eq_getElem (by omega)])
  exact absurd h1 h2
 ·exact h
theorem TrimF.uniq {c:Nat→Nat} {ys zs:List Nat} (hy:TrimF c ys) (hz:TrimF c zs):ys=zs:=by
 have h1:=Nat.le_antisymm (hy.len hz.1) (hz.len hy.1)
 refine List.ext_getElem h1 fun i h2 h3=> ?_
 rw[←getD_in h2,←getD_in h3,hy.1,hz.1]
theorem TrimF.congr {c d:Nat→Nat} {ys:List Nat} (hy:TrimF c ys) (h:∀i,c i=d i):TrimF d ys:=⟨fun i=>(hy.1 i).trans (h i),hy.2⟩
def cau (f g:Nat→Nat):Nat→Nat
 |0=>f 0*g 0
 |k+1=>f 0*g (k+1)+cau (fun i=>f (i+1)) g k
def part (f g:Nat→Nat) (i k:Nat):Nat:=match i with
 |0=>0
 |i+1=>part f g i k+(if i≤k then f i*g (k-i) else 0)
def TrimG {α:Type} (z:α) (c:Nat→α) (ys:List α):Prop:=(∀i,ys.getD i z=c i)∧∀y,ys.getLast? =some y→y≠z
theorem getG_out {α:Type} {z:α} {ys:List α} {i:Nat} (h:ys.length≤i):ys.getD i z=z:=by
 rw[List.getD_eq_getElem?_getD,List.getElem?_eq_none h]
 rfl
theorem getG_in {α:Type} {z:α} {ys:List α} {i:Nat} (h:i<ys.length):ys.getD i z=ys[i]:=by
 rw[List.getD_eq_getElem?_getD,List.getElem?_eq_getElem h]
 rfl
theorem TrimG.len {α:Type} {z:α} {c:Nat→α} {ys zs:List α} (hz:∀i,zs.getD i z=c i) (hy:TrimG z c ys):ys.length≤zs.length:=by
 rcases Nat.lt_or_ge zs.length ys.length with h|h
 ·have h1:=hy.1 (ys.length-1)
  rw[←hz,getG_out (ys:=zs) (by omega),getG_in (by omega)] at h1
  have h2:=hy.2 ys[ys.length-1] (by rw[List.getLast?_eq_getElem?,List.getElem?_eq_getElem (by omega)])
  exact absurd h1 h2
 ·exact h
theorem TrimG.uniq {α:Type} {z:α} {c:Nat→α} {ys zs:List α} (hy:TrimG z c ys) (hz:TrimG z c zs):ys=zs:=by
 have h1:=Nat.le_antisymm (hy.len hz.1) (hz.len hy.1)
 refine List.ext_getElem h1 fun i h2 h3=> ?_
 rw[←getG_in (z:=z) h2,←getG_in (z:=z) h3,hy.1,hz.1]
theorem TrimG.congr {α:Type} {z:α} {c d:Nat→α} {ys:List α} (hy:TrimG z c ys) (h:∀i,c i=d i):TrimG z d ys:=⟨fun i=>(hy.1 i).trans (h i),hy.2⟩
theorem TrimG.of {α:Type} {z:α} {xs:List α} {k:Nat} (hz:∀x∈xs.drop k,x=z) (hl:∀y,(xs.take k).getLast? =some y→y≠z):TrimG z (fun i=>xs.getD i z) (xs.take k):=by
 refine⟨fun i=> ?_,hl⟩
 show(xs.take k).getD i z=xs.getD i z
 rcases Nat.lt_or_ge i k with h|h
 ·rw[List.getD_eq_getElem?_getD,List.getD_eq_getElem?_getD,List.getElem?_take,if_pos h]
 ·rw[getG_out (by rw[List.length_take];omega)]
  rcases Nat.lt_or_ge i xs.length with h2|h2
  ·rw[getG_in h2]
   have h3:xs[i]∈xs.drop k:=by
    rw[List.mem_iff_getElem]
    exact⟨i-k,by rw[List.length_drop];omega,by rw[List.getElem_drop];congr 1;omega⟩
   exact(hz _ h3).symm
  ·rw[getG_out h2]
def drvI (f:Nat→Int) (i:Nat):Int:=((i+1:Nat):Int)*f (i+1)
section
section
variable {α:Type} {t:TypeId} {z b n:Nat} {R:H→List AV→α→Prop} {h:H} {xs:List α} {io c c':Option Nat}
theorem H.set_del {h:H} {i:Nat} {r:Row}:(h.set i r).del (some i)=h.del (some i):=by
 unfold H.del H.set
 congr 1
 funext j
 by_cases e:some j=some i
 ·rw[if_pos e,if_pos e]
 ·rw[if_neg e,if_neg e]
  show(if j=i then some r else h.rows j)=h.rows j
  rw[if_neg (fun h=>e (by rw[h]))]
theorem Live.ownz (hv:Live t z b R h (.sl io 0 n c) xs):∀i,io=some i→b≤i∧∃r,h.rows i=some r∧r.own=some t∧r.esz=z:=by
 obtain⟨io',c',cs,e,⟨_,id2,c2,e2,h3⟩,_⟩:=hv
 injection e2 with e2
 subst e2
 rintro j rfl
 rcases h3 with⟨h0,_⟩|⟨i,q,h0,hb,hq,ho,hz,_⟩
 ·cases h0
 ·injection h0 with h0
  subst h0
  exact⟨hb,q,hq,ho,hz⟩
theorem Live.putz (hw:h.wf) (hz:0<z) (hv:Live t z b R h (.sl io 0 n c) xs) {j:Nat} (hj:j<xs.length):∃i r,io=some i∧b≤i∧i<h.next∧h.rows i=some r∧r.own=some t∧r.esz=z∧j*z+z≤r.cells.length∧
  ∀(l:List AV) (x:α),l.length=z→R (h.del (some i)) l x→Live t z b R (h.set i {r with cells:=putAt r.cells (j*z) l}) (.sl io 0 n c) (xs.set j x):=by
 have hown:=hv.ownz
 obtain⟨io',c',cs,e,h1,h2⟩:=hv
 injection e with e1 e2 e3 e4
 subst e1;subst e4;subst e3
 have hl:=chunk_le (z:=z) hj
 obtain⟨i,r,rfl,hb,hlt,hr,_,_,hf,hp⟩:=h1.put hw (k:=j*z) (w:=z) hl hz
 obtain⟨_,r',hr',ho,he⟩:=hown i rfl
 rw[hr] at hr'
 injection hr' with hr'
 subst hr'
 refine⟨i,r,rfl,hb,hlt,hr,ho,he,hf,fun l x hlz hx=>⟨some i,c,putAt cs (j*z) l,by rw[List.length_set], ?_, ?_⟩⟩
 ·rw[List.length_set]
  exact hp l hlz
 ·rw[H.set_del]
  exact h2.set hj hlz hx
theorem Live.cutz (hv:Live t z b R h (.sl io 0 n c) xs) {k:Nat} (hk:k≤xs.length):Live t z b R h (.sl io 0 k c') (xs.take k):=by
 obtain⟨io',c2,cs,e,h1,h2⟩:=hv
 injection e with e1 e2 e3 e4
 subst e1;subst e4;subst e3
 have hl:(xs.take k).length=k:=by rw[List.length_take];omega
 refine⟨io,c',cs.take (k*z),by rw[hl], ?_,h2.take k⟩
 rw[hl]
 exact h1.cut hk
theorem Live.getz (hz:0<z) (hv:Live t z b R h (.sl io 0 n c) xs) {j:Nat} (hj:j<xs.length):∃i l,io=some i∧n=xs.length∧l.length=z∧h.gets i (j*z) z=some l∧(∀k,k<z→h.get i (j*z+k)=l[k]?)∧R (h.del (some i)) l xs[j]:=by
 obtain⟨io',c',cs,e,h1,h2⟩:=hv
 injection e with e1 e2 e3 e4
 subst e1;subst e4;subst e3
 obtain⟨i,l,rfl,e5,hlz,hg,hg1,hR⟩:=IsA.atz (R:=fun _=>R (h.del io)) hz ⟨cs,h1.isC,h2⟩ hj
 rw[Nat.zero_add] at hg
 exact⟨i,l,rfl,rfl,hlz,hg,fun k hk=>by rw[←hg1 k hk,Nat.zero_add],hR⟩
theorem Live.madez {zero:List AV} {x:α} (hw:h.wf) (hb:b≤h.next) (hz:zero.length=z) (hx:∀g,R g zero x) (n:Nat):Live t z b R (h.new ⟨some t,z,zs zero n⟩) (.sl (some h.next) 0 n (some n)) (List.replicate n x):=by
 refine⟨some h.next,some n,zs zero n,by simp,by simpa using IsCF.made hb hz n,by simpa using zs_len hz,fun j y hy=> ?_⟩
 rw[List.getElem?_replicate] at hy
 split at hy
 ·rename_i hj
  injection hy with hy
  subst hy
  have:((zs zero n).drop (j*z)).take z=zero:=by
   have key:∀(n j:Nat),j<n→(((List.replicate n zero).flatten).drop (j*z)).take z=zero:=by
    intro n
    induction n with
    |zero=>intro j hj;omega
    |succ n ih=>
     intro j hj
     rw[List.replicate_succ,List.flatten_cons]
     rcases j with _|j
     ·rw[Nat.zero_mul,List.drop_zero,List.take_append_of_le_length (by omega),List.take_of_length_le (by omega)]
     ·rw[List.drop_append,List.drop_of_length_le (by rw[Nat.succ_mul];omega),List.nil_append,hz,show(j+1)*z-z=j*z by rw[Nat.succ_mul];omega]
      exact ih j (by omega)
   unfold zs
   split
   ·rename_i z0
    have hk:=key n j hj
    rw[show(List.replicate n [z0]).flatten=List.replicate n z0 by simp] at hk
    exact hk
   ·simpa using key n j hj
  rw[this]
  exact hx _
 ·cases hy
end
section
variable {α β:Type} {z:Nat} {R:H→List AV→α→Prop} {R':H→List AV→β→Prop} {h:H} {v:AV} {xs:List α}
theorem IsA.mapz {f:α→β} (hv:IsA z R h v xs) (hr:∀c x,x∈xs→R h c x→R' h c (f x)):IsA z R' h v (xs.map f):=by
 obtain⟨cs,h1,h2⟩:=hv
 refine⟨cs,by rwa[List.length_map],by rw[List.length_map];exact h2.1,fun j y hy=> ?_⟩
 rw[List.getElem?_map] at hy
 obtain⟨x,hx,rfl⟩:=Option.map_eq_some_iff.1 hy
 exact hr _ x (List.mem_of_getElem? hx) (h2.2 j x hx)
end
section
variable {h:H} {v:AV} {i:Nat} {r:Row}
theorem IsW.delT {k:IntKind} {xs:List Int} (hv:IsW k h v xs) (hr:h.rows i=some r) (h1:r.own≠none) (h2:r.esz≠1):IsW k (h.del (some i)) v xs:=by
 obtain⟨id,off,c,e,h3⟩:=hv
 refine⟨id,off,c,e, ?_⟩
 rcases h3 with h3|⟨j,q,rfl,hq,ho,h4⟩
 ·exact .inl h3
 ·refine .inr ⟨j,q,rfl, ?_,ho,h4⟩
  rw[H.rows_del_ne]
  ·exact hq
  ·rintro rfl
   rw[hr] at hq
   injection hq with hq
   subst hq
   rcases ho with ho|ho
   ·exact h1 ho
   ·exact h2 ho
theorem Nf.delT {c x:Nat} {T:TypeId} (hv:Nf c h v x) (hr:h.rows i=some r) (ho:r.own=some T) (hT:T≠23):Nf c (h.del (some i)) v x:=by
 obtain⟨xs,⟨id,c,rfl,h1⟩,h2⟩:=hv
 refine⟨xs,⟨id,c,rfl, ?_⟩,h2⟩
 rcases h1 with h1|⟨j,q,rfl,hb,hq,hqo,h3⟩
 ·exact .inl h1
 ·refine .inr ⟨j,q,rfl,hb, ?_,hqo,h3⟩
  rw[H.rows_del_ne]
  ·exact hq
  ·rintro rfl
   rw[hr] at hq
   injection hq with hq
   rw[←hq,ho] at hqo
   injection hqo with hqo
   exact hT hqo
theorem Zf.delT {c:Nat} {T:TypeId} {z:Int} (hv:Zf c h v z) (hr:h.rows i=some r) (ho:r.own=some T) (hT:T≠23):Zf c (h.del (some i)) v z:=by
 obtain⟨w,b,x,e,h1,h2⟩:=hv
 exact⟨w,b,x,e,h1.delT hr ho hT,h2⟩
theorem Zr.delT {z:Int} (hv:Zr h v z) (hr:h.rows i=some r) (h1:r.own≠none) (h2:r.esz≠1):Zr (h.del (some i)) v z:=by
 obtain⟨w,b,x,e,⟨xs,h3,h4⟩,h5⟩:=hv
 exact⟨w,b,x,e,⟨xs,h3.delT hr h1 h2,h4⟩,h5⟩
end
def Wz (k:Nat) (z:Int):Prop:=wlen z.natAbs≤k
theorem Wz.big {k:Nat} {z:Int} (h:Wz k z) (hk:k≤400000):Big z.natAbs:=wbig h hk
theorem Wz.le {k k':Nat} {z:Int} (h:Wz k z) (hk:k≤k'):Wz k' z:=Nat.le_trans h hk
theorem Wz.zero (k:Nat):Wz k 0:=by
 unfold Wz
 rw[show(0:Int).natAbs=0 from rfl,wlen_zero]
 omega
theorem Wz.lt {k:Nat} {z:Int}:Wz k z↔z.natAbs<18446744073709551616^k:=wlen_le
theorem Wz.add {k:Nat} {a b:Int} (ha:Wz k a) (hb:Wz k b):Wz (k+1) (a+b):=by
 rw[Wz.lt] at*
 have h3:18446744073709551616^(k+1)=18446744073709551616^k*18446744073709551616:=Nat.pow_succ ..
 omega
theorem Wz.neg {k:Nat} {a:Int} (ha:Wz k a):Wz k (-a):=by
 unfold Wz at*
 rwa[Int.natAbs_neg]
theorem Wz.sub {k:Nat} {a b:Int} (ha:Wz k a) (hb:Wz k b):Wz (k+1) (a-b):=by
 rw[Int.sub_eq_add_neg]
 exact ha.add hb.neg
theorem Wz.mul {j k:Nat} {a b:Int} (ha:Wz j a) (hb:Wz k b):Wz (j+k) (a*b):=by
 rw[Wz.lt] at*
 rw[Int.natAbs_mul,Nat.pow_add]
 exact Nat.mul_lt_mul'' ha hb
theorem Wz.bigs {k:Nat} {a b:Int} (ha:Wz k a) (hb:Wz k b) (hk:k≤399999):Big (a.natAbs+b.natAbs):=by
 rw[Wz.lt] at*
 refine lt_bigW (k:=k+1) ?_ (by omega)
 have h3:18446744073709551616^(k+1)=18446744073709551616^k*18446744073709551616:=Nat.pow_succ ..
 omega
theorem zn_open {h:H} {v:AV} {z:Int} (hv:Zn h v z):∃w b x,v= .agg [w, .bool b]∧Nn h w x∧z=sg b x∧z.natAbs=x∧w.one=true:=by
 obtain⟨w,b,x,e,h1,h2⟩:=hv
 exact⟨w,b,x,e,h1,h2,by rw[h2,sg_abs],h1.one⟩
end
section
section
variable {α:Type} {F G:Nat→α} {n k:Nat} {v z:α}
def rowF (F:Nat→α) (n:Nat):List α:=(List.range n).map F
theorem rowF_len:(rowF F n).length=n:=by simp[rowF]
theorem rowF_get (h:k<n):(rowF F n)[k]'(by rw[rowF_len];exact h)=F k:=by simp[rowF]
theorem rowF_getD:(rowF F n).getD k z=if k<n then F k else z:=by
 rw[List.getD_eq_getElem?_getD]
 split
 ·rename_i h
  rw[List.getElem?_eq_getElem (by rw[rowF_len];exact h),rowF_get h]
  rfl
 ·rename_i h
  rw[List.getElem?_eq_none (by rw[rowF_len];omega)]
  rfl
theorem rowF_ext (h:∀i,i<n→F i=G i):rowF F n=rowF G n:=by
 refine List.ext_getElem (by rw[rowF_len,rowF_len]) fun i h1 h2=> ?_
 rw[rowF_len] at h1
 rw[rowF_get h1,rowF_get h1,h i h1]
theorem rowF_set (hv:G k=v) (h:∀i,i<n→i≠k→G i=F i):(rowF F n).set k v=rowF G n:=by
 refine List.ext_getElem (by rw[List.length_set,rowF_len,rowF_len]) fun i h1 h2=> ?_
 rw[rowF_len] at h2
 rw[List.getElem_set]
 split
 ·rename_i e
  subst e
  rw[rowF_get h2]
  exact hv.symm
 ·rename_i e
  rw[rowF_get h2,rowF_get h2,h i h2 (Ne.symm e)]
theorem rowF_rep:rowF (fun _=>v) n=List.replicate n v:=by
 refine List.ext_getElem (by rw[rowF_len,List.length_replicate]) fun i h1 h2=> ?_
 rw[rowF_len] at h1
 rw[rowF_get h1,List.getElem_replicate]
theorem rowF_snoc {α:Type} {F:Nat→α} {n:Nat}:rowF F n++[F n]=rowF F (n+1):=by
 unfold rowF
 rw[List.range_succ,List.map_append]
 rfl
def upF (F:Nat→α) (z:α) (j i:Nat):α:=if i<j then F i else z
theorem upF_zero:rowF (upF F z 0) n=List.replicate n z:=by
 rw[←rowF_rep]
 exact rowF_ext fun i _=>if_neg (by omega)
theorem upF_step {j:Nat}:(rowF (upF F z j) n).set j (F j)=rowF (upF F z (j+1)) n:=by
 refine rowF_set (if_pos (by omega)) fun i _ hi=> ?_
 unfold upF
 by_cases h:i<j
 ·rw[if_pos h,if_pos (by omega)]
 ·rw[if_neg h,if_neg (by omega)]
theorem upF_all:rowF (upF F z n) n=rowF F n:=rowF_ext fun i hi=>if_pos hi
end
theorem IsG.cut0 {b:Nat} {h:H} {io c c':Option Nat} {n:Nat} {xs:List Nat} (hv:IsG b h (.sl io 0 n c) xs) {k:Nat} (hk:k≤xs.length):IsG b h (.sl io 0 k c') (xs.take k):=by
 unfold IsG at*
 rw[List.map_take]
 exact hv.cut (by rw[List.length_map];exact hk)
theorem bldn (l:List AV):abuild l []=some l:=by simp[abuild]
end
section
def ZwL (W:Nat) (h:H) (l:List AV) (z:Int):Prop:=Zn h (.agg l) z∧Wz W z
def ZbL (c W:Nat) (h:H) (l:List AV) (z:Int):Prop:=Zf c h (.agg l) z∧Wz W z
def ZtL (h:H) (l:List AV) (z:Int):Prop:=∃w,l=[w, .bool (decide (z<0))]∧Nt h w z.natAbs
def ZqL (W:Nat) (h:H) (l:List AV) (z:Int):Prop:=Zr h (.agg l) z∧Wz W z
theorem ZwL.grows {W:Nat}:Grows (ZwL W):=fun _ _ _ _ h1 h2=>⟨h1.1.mono h2,h1.2⟩
theorem ZbL.grows {c W:Nat}:Grows (ZbL c W):=fun _ _ _ _ h1 h2=>⟨h1.1.mono h2,h1.2⟩
theorem ZqL.grows {W:Nat}:Grows (ZqL W):=fun _ _ _ _ h1 h2=>⟨h1.1.mono h2,h1.2⟩
theorem ZbL.zw {c W:Nat} (hW:W≤400000) {h:H} {l:List AV} {z:Int} (hv:ZbL c W h l z):ZwL W h l z:=⟨hv.1.zn (hv.2.big hW),hv.2⟩
theorem ZbL.zt {c W:Nat} {h:H} {l:List AV} {z:Int} (hv:ZbL c W h l z):ZtL h l z:=by
 obtain⟨w,e,h1⟩:=zf_open hv.1
 injection e with e
 exact⟨w,e,h1.nt⟩
theorem zw_open {W:Nat} {h:H} {l:List AV} {z:Int} (hv:ZwL W h l z):∃w b x,l=[w, .bool b]∧Nn h w x∧z=sg b x∧z.natAbs=x∧w.one=true:=by
 obtain⟨w,b,x,e,h1,h2,h3,h4⟩:=zn_open hv.1
 injection e with e
 exact⟨w,b,x,e,h1,h2,h3,h4⟩
theorem zq_open {W:Nat} {h:H} {l:List AV} {z:Int} (hv:ZqL W h l z):∃w,l=[w, .bool (decide (z<0))]∧Num 4294967296 h w z.natAbs∧w.one=true:=by
 obtain⟨w,e,h1⟩:=zr_open hv.1
 injection e with e
 exact⟨w,e,h1,h1.one⟩
theorem H.del_nil {h:H}:h.le (h.del none):=⟨Nat.le_refl _,fun i r e=>by
 simp only[H.del]
 rw[if_neg (by intro x;cases x)]
 exact e⟩
section
variable {α:Type} {T:TypeId} {b n W:Nat} {R:H→List AV→α→Prop} {h:H} {xs:List α} {io c:Option Nat} {v:AV} {z:Int}
theorem Zf.off {d:Nat} (hs:Live T 2 b R h (.sl io 0 n c) xs) (hT:T≠23) (hv:Zf d h v z):Zf d (h.del io) v z:=by
 cases io with
 |none=>exact hv.mono H.del_nil
 |some i=>
  obtain⟨_,r,hr,ho,_⟩:=hs.ownz i rfl
  exact hv.delT hr ho hT
theorem Zr.off (hs:Live T 2 b R h (.sl io 0 n c) xs) (hv:Zr h v z):Zr (h.del io) v z:=by
 cases io with
 |none=>exact hv.mono H.del_nil
 |some i=>
  obtain⟨_,r,hr,ho,hz⟩:=hs.ownz i rfl
  exact hv.delT hr (by rw[ho];simp) (by rw[hz];decide)
end
def Since (b:Nat) (v:AV):Prop:=∀i off n c,v= .sl (some i) off n c→b≤i
theorem Live.since {α:Type} {T:TypeId} {z b:Nat} {R:H→List AV→α→Prop} {h:H} {v:AV} {xs:List α} (hv:Live T z b R h v xs):Since b v:=by
 obtain⟨io,c,e⟩:=hv.form
 subst e
 intro i off n c' e
 injection e with e1
 exact(hv.ownz i e1).1
theorem bldZ {w b:AV} (hw:w.one=true) (hb:b.one=true):abuild (zs [.sl none 0 0 none, .bool false] 1) [(0,2, .agg [w,b])]=some [w,b]:=by
 simp[abuild,zs,putAt,AV.held,AV.cells,hw,hb]
theorem all2b {w b:AV} (hw:w.one=true) (hb:b.one=true):([w,b].all fun x=>x.one)=true:=by simp[hw,hb]
theorem natAbs_eq0 {z:Int}:decide (z.natAbs=0)=decide (z=0):=by
 by_cases h:z=0
 ·rw[decide_eq_true h,decide_eq_true (by omega)]
 ·rw[decide_eq_false h,decide_eq_false (by omega)]
theorem take_last {α:Type} {xs:List α} {k:Nat} (h0:0<k) (hk:k≤xs.length):(xs.take k).getLast? =some (xs[k-1]'(by omega)):=by
 rw[List.getLast?_eq_getElem?,List.length_take,Nat.min_eq_left hk,List.getElem?_take,if_pos (by omega),List.getElem?_eq_getElem (by omega)]
theorem drop_cons {α:Type} {p:α→Prop} {xs:List α} {k:Nat} (h0:0<k) (hk:k≤xs.length) (h1:p (xs[k-1]'(by omega))) (h2:∀x∈xs.drop k,p x):∀x∈xs.drop (k-1),p x:=by
 intro x hm
 rw[List.drop_eq_getElem_cons (by omega)] at hm
 rcases List.mem_cons.1 hm with rfl|hm
 ·exact h1
 ·exact h2 x (by rwa[show k-1+1=k from by omega] at hm)
section
variable {W:Nat} {v va vb:AV} {zs ys:List Int} {h:H} {K:AV→H→Prop}
theorem ztrim_calls (hW:W≤400000) (hv:IsA 2 (ZwL W) h v zs) (hl:zs.length≤1000000) (hk:∀id off c k,v= .sl id off zs.length c→k≤zs.length→(∀z∈zs.drop k,z=0)→(∀y,(zs.take k).getLast? =some y→y≠0)→K (.sl id off k c) h):ACalls Try.prog 35 [v] h K:=by
 obtain⟨id,off,c,rfl⟩:=hv.form
 refine in_polyz_trim (by simp) fun hw=> ?_
 unfold c_polyz_trim
 simp only[go_sem]
 refine⟨fun k ρ h2=>h2=h∧ρ 0= .sl id off k c∧k≤zs.length∧(∀x∈zs.drop k,x=0),zs.length,⟨rfl,by first|rfl|trivial|assumption,Nat.le_refl _,by simp⟩, ?_⟩
 rintro k ρ h2 ⟨rfl,q0,hk1,hz⟩
 have fin:(∀x,(zs.take k).getLast? =some x→x≠0)→K (.sl id off k c) h2:=fun hl=>hk _ _ _ _ rfl hk1 hz hl
 rcases Nat.eq_zero_or_pos k with h0|h0
 ·subst h0
  simp only[go_sem,q0,show decide ((0:Int)<((0:Nat):Int))=false from rfl]
  exact fun _=>fin (by simp)
 ·obtain⟨i,l,e7,_,_,_,hg1,hR⟩:=hv.atz (by omega) (j:=k-1) (by omega)
  subst e7
  obtain⟨w,b,x,rfl,nw,_,hxz,_⟩:=zw_open hR
  have hg:=hg1 0 (by omega)
  rw[Nat.add_zero] at hg
  have e1:IntKind.i64.wrap ((k:Int)-1)=((k-1:Nat):Int):=by rw[wI]<;>omega
  simp only[go_sem,q0,show decide ((0:Int)<(k:Int))=true from decide_eq_true (by omega),e1]
  refine⟨by omega,by omega, ?_⟩
  simp only[go_sem,hg,List.getElem?_cons_zero,Int.toNat_natCast,Nat.add_zero]
  refine Zero_calls nw ?_
  rw[←hxz,natAbs_eq0]
  by_cases hx:zs[k-1]=0
  ·simp only[go_sem,decide_eq_true hx,q0,e1]
   refine⟨by omega, .inl (by omega),hv.row, ?_⟩
   exact⟨k-1,by omega,by first|rfl|trivial|assumption,by first|rfl|trivial|assumption,by omega,drop_cons h0 hk1 hx hz⟩
  ·simp only[go_sem,decide_eq_false hx,q0]
   refine fun _=>fin fun x hl=> ?_
   rw[take_last h0 hk1] at hl
   injection hl with hl
   rw[←hl]
   exact hx
theorem ztrim_live {b:Nat} {R:H→List AV→Int→Prop} {T:TypeId} (hW:W≤400000) (hv:Live T 2 b R h v zs) (hR:∀g l z,R g l z→ZwL W g l z) (hl:zs.length≤1000000) (hk:∀r ys,Live T 2 b R h r ys→TrimG 0 (fun i=>zs.getD i 0) ys→ys.length≤zs.length→K r h):ACalls Try.prog 35 [v] h K:=by
 obtain⟨io,c,rfl⟩:=hv.form
 have hA:IsA 2 (ZwL W) h (.sl io 0 zs.length c) zs:=by
  obtain⟨io',c',cs,e,h1,h2⟩:=hv
  exact⟨cs,h1.isC,h2.mono fun l x hx=>ZwL.grows (hR _ _ _ hx) (H.del_le io')⟩
 refine ztrim_calls hW hA hl fun id off c' k e hk1 hz hlast=> ?_
 injection e with e1 e2 e3 e4
 subst e1;subst e2;subst e4
 exact hk _ _ (hv.cutz hk1) (TrimG.of hz hlast) (by rw[List.length_take];omega)
theorem zDeg_calls (hW:W≤400000) (hv:IsA 2 (ZwL W) h v zs) (hl:zs.length≤1000000) (hk:∀ys,TrimG 0 (fun i=>zs.getD i 0) ys→K (.int .i64 ((ys.length:Int)-1)) h):ACalls Try.prog 20 [v] h K:=by
 refine in_polyz_Deg (by simp) fun hw=> ?_
 unfold c_polyz_Deg
 simp only[go_sem]
 refine ztrim_calls hW hv hl fun id off c' k e hk1 hz hlast=> ?_
 simp only[go_sem,show IntKind.i64.wrap ((k:Int)-1)=(k:Int)-1 by rw[wI]<;>omega]
 have:=hk _ (TrimG.of hz hlast)
 rw[List.length_take,Nat.min_eq_left hk1] at this
 exact fun _=>this
theorem zrnorm_calls (hv:IsA 2 (ZqL W) h v zs) (hl:zs.length≤1000000) (hk:∀r ys h',h'.wf→h.le h'→IsA 2 (ZqL W) h' r ys→TrimG 0 (fun i=>zs.getD i 0) ys→ys.length≤zs.length→(∀b,Since b v→Since b r)→K r h'):ACalls Try.prog 40 [v] h K:=by
 obtain⟨id,off,c,rfl⟩:=hv.form
 refine in_ref28_norm (by simp) fun hw=> ?_
 unfold c_ref28_norm
 simp only[go_sem]
 refine loop_cut (fun ρ h2=>h2.wf∧h.le h2∧ρ 0= .sl id off zs.length c∧∃k,ρ 3= .int .i64 ((k:Nat):Int)∧k≤zs.length∧(∀x∈zs.drop k,x=0)∧(∀y,(zs.take k).getLast? =some y→y≠0)) ?_ ?_
 ·refine⟨fun k ρ h2=>h2.wf∧h.le h2∧ρ 0= .sl id off zs.length c∧ρ 3= .int .i64 (k:Int)∧k≤zs.length∧(∀x∈zs.drop k,x=0),zs.length,⟨hw,H.le_refl _,by first|rfl|trivial|assumption,by first|rfl|trivial|assumption,Nat.le_refl _,by simp⟩, ?_⟩
  rintro k ρ h2 ⟨hw2,hle,q0,q3,hk1,hz⟩
  rcases Nat.eq_zero_or_pos k with h0|h0
  ·subst h0
   simp only[go_sem,q3,show decide ((0:Int)<((0:Nat):Int))=false from rfl]
   exact⟨hw2,hle,q0,0,by first|rfl|trivial|assumption,Nat.zero_le _,hz,by simp⟩
  ·obtain⟨i,l,e7,_,_,hg,_,hR⟩:=hv.atz (by omega) (j:=k-1) (by omega)
   subst e7
   obtain⟨w,rfl,nw,_⟩:=zq_open hR
   have hg:=H.gets_le hle hg
   have e1:IntKind.i64.wrap ((k:Int)-1)=((k-1:Nat):Int):=by rw[wI]<;>omega
   simp only[go_sem,q0,q3,show decide ((0:Int)<(k:Int))=true from decide_eq_true (by omega),e1]
   refine⟨by omega,by omega, ?_⟩
   simp only[go_sem,hg,q0,q3]
   refine zrZero_calls (nw.mono hle) fun h3 hw3 hl3=> ?_
   rw[natAbs_eq0]
   by_cases hx:zs[k-1]=0
   ·simp only[go_sem,decide_eq_true hx,q0,q3,e1]
    exact⟨k-1,by omega,hw3,H.le_trans hle hl3,by first|rfl|trivial|assumption,by first|rfl|trivial|assumption,by omega,drop_cons h0 hk1 hx hz⟩
   ·simp only[go_sem,decide_eq_false hx,q0,q3]
    refine⟨hw3,H.le_trans hle hl3,by first|rfl|trivial|assumption,k,by first|rfl|trivial|assumption,hk1,hz,fun x hl=> ?_⟩
    rw[take_last h0 hk1] at hl
    injection hl with hl
    rw[←hl]
    exact hx
 rintro ρ h2 ⟨hw2,hle,q0,k,q3,hk1,hz,hlast⟩
 simp only[go_sem,q0,q3,Int.toNat_natCast]
 have hc:=(hv.mono ZqL.grows hle).cut (c':=c) (a:=0) (b:=k) (Nat.zero_le _) hk1
 rw[Nat.zero_mul,Nat.add_zero,Nat.sub_zero,List.drop_zero] at hc
 exact⟨by omega, .inl hk1,(hv.mono ZqL.grows hle).row,fun _=>hk _ _ h2 hw2 hle hc (TrimG.of hz hlast) (by rw[List.length_take];omega) (fun b hb i o n c' e=>by
  injection e with e1
  exact hb i _ _ _ (by rw[e1]))⟩
theorem zrFromL_calls (hW:W≤400000) (hv:IsA 2 (ZwL W) h v zs) (hl:zs.length≤1000000) (hk:∀r ys h',h'.wf→h.le h'→IsA 2 (ZqL W) h' r ys→TrimG 0 (fun i=>zs.getD i 0) ys→ys.length≤zs.length→Since h.next r→K r h'):ACalls Try.prog 26 [v] h K:=by
 obtain⟨id,off,c,rfl⟩:=hv.form
 refine in_ref28_From (by simp) fun hw=> ?_
 unfold c_ref28_From
 simp only[go_sem]
 refine loop_cut (fun ρ h2=>h2.wf∧h.le h2∧Live 61 2 h.next (ZqL W) h2 (ρ 3) zs) ?_ ?_
 ·refine for_rule (fun j ρ h2=>j≤zs.length∧h2.wf∧h.le h2∧ρ 0= .sl id off zs.length c∧ρ 4= .int .i64 (j:Int)∧Live 61 2 h.next (ZqL W) h2 (ρ 3) (zs.take j)) zs.length
   ⟨by omega,hw,H.le_refl _,by first|rfl|trivial|assumption,by first|rfl|trivial|assumption,Live.nil _ _ _ _ _ _⟩ (fun i ρ h hI=>hI.1) ?_
  rintro j ρ h2 ⟨hj,hw2,hle,q0,q4,hs⟩
  rcases Nat.lt_or_ge j zs.length with h3|h3
  ·obtain⟨i,l,rfl,_,_,hg,_,hR⟩:=hv.atz (by omega) h3
   have hWz:=hR.2
   obtain⟨w,b,x,rfl,nw,hzx,hxz,_⟩:=zw_open hR
   have hg:=H.gets_le hle hg
   obtain⟨io,co,q3⟩:=hs.form
   have hlen:(zs.take j).length=j:=by rw[List.length_take];omega
   rw[hlen] at q3
   rw[q3] at hs
   simp only[go_sem,q0,q3,q4,ltT h3]
   refine⟨by omega,by omega, ?_⟩
   simp only[go_sem,hg,q0,q3,q4]
   refine zrFrom_calls (nw.mono hle) fun o h4 hw4 hl4 ho=> ?_
   rw[←hzx] at ho
   have hs4:=hs.mono ZqL.grows hl4
   have hof:=ho.off hs4
   obtain⟨o0,o1,rfl,oo0,oo1⟩:=ho.two
   have hle4:=H.le_trans hle hl4
   simp only[go_sem,q0,q3,q4,bldZ oo0 oo1]
   refine hs4.app ZqL.grows (by omega) hw hw4 hle4 hlen.symm (y:=zs[j]) ⟨hof,hWz⟩ rfl (all2b oo0 oo1) (by omega) (by omega) rfl fun v5 h5 hw5 hl5 hs5=> ?_
   simp only[go_sem,q0,q4,incI (i:=j) (by omega)]
   refine⟨by omega,hw5,hl5,by first|rfl|trivial|assumption,by first|rfl|trivial|assumption, ?_⟩
   rw[List.take_succ_eq_append_getElem h3]
   exact hs5
  ·obtain rfl:j=zs.length:=by omega
   rw[List.take_length] at hs
   simp only[go_sem,q0,q4,ltF (Nat.le_refl zs.length)]
   exact⟨hw2,hle,hs⟩
 rintro ρ h2 ⟨hw2,hle,hs⟩
 simp only[go_sem]
 refine zrnorm_calls (hs.isA ZqL.grows) hl fun r ys h3 hw3 hl3 hr ht hyl hsi=> ?_
 simp only[go_sem]
 exact fun hw'=>hk r ys h3 hw' (H.le_trans hle hl3) hr ht hyl (hsi _ hs.since)
theorem zrToL_calls (hW:W≤400000) (hv:IsA 2 (ZqL W) h v zs) (hl:zs.length≤1000000) (hk:∀r h',h'.wf→h.le h'→Live 45 2 h.next (ZbL h.next W) h' r zs→K r h'):ACalls Try.prog 36 [v] h K:=by
 obtain⟨id,off,c,rfl⟩:=hv.form
 refine in_ref28_To (by simp) fun hw=> ?_
 unfold c_ref28_To
 simp only[go_sem]
 refine for_rule (fun j ρ h2=>j≤zs.length∧h2.wf∧h.le h2∧ρ 0= .sl id off zs.length c∧ρ 4= .int .i64 (j:Int)∧Live 45 2 h.next (ZbL h.next W) h2 (ρ 3) (zs.take j)) zs.length
  ⟨by omega,hw,H.le_refl _,by first|rfl|trivial|assumption,by first|rfl|trivial|assumption,Live.nil _ _ _ _ _ _⟩ (fun i ρ h hI=>hI.1) ?_
 rintro j ρ h2 ⟨hj,hw2,hle,q0,q4,hs⟩
 rcases Nat.lt_or_ge j zs.length with h3|h3
 ·obtain⟨i,l,rfl,_,_,hg,_,hR⟩:=hv.atz (by omega) h3
  have hWz:=hR.2
  obtain⟨w,rfl,nw,_⟩:=zq_open hR
  have hg:=H.gets_le hle hg
  obtain⟨io,co,q3⟩:=hs.form
  have hlen:(zs.take j).length=j:=by rw[List.length_take];omega
  rw[hlen] at q3
  rw[q3] at hs
  simp only[go_sem,q0,q3,q4,ltT h3]
  refine⟨by omega,by omega, ?_⟩
  simp only[go_sem,hg,q0,q3,q4]
  refine zrTo_calls (nw.mono hle) (hWz.big hW) (fun h0=>by simp;omega) fun o h4 hw4 hl4 ho=> ?_
  rw[sg_self] at ho
  have hs4:=hs.mono ZbL.grows hl4
  have hle4:=H.le_trans hle hl4
  have hof:=(ho.base (d:=h.next) hle.1).off hs4 (by decide)
  obtain⟨o0,o1,rfl,oo0,oo1⟩:=ho.two
  simp only[go_sem,q0,q3,q4,bldZ oo0 oo1]
  refine hs4.app ZbL.grows (by omega) hw hw4 hle4 hlen.symm (y:=zs[j]) ⟨hof,hWz⟩ rfl (all2b oo0 oo1) (by omega) (by omega) rfl fun v5 h5 hw5 hl5 hs5=> ?_
  simp only[go_sem,q0,q4,incI (i:=j) (by omega)]
  refine⟨by omega,hw5,hl5,by first|rfl|trivial|assumption,by first|rfl|trivial|assumption, ?_⟩
  rw[List.take_succ_eq_append_getElem h3]
  exact hs5
 ·obtain rfl:j=zs.length:=by omega
  rw[List.take_length] at hs
  simp only[go_sem,q0,q4,ltF (Nat.le_refl zs.length)]
  exact fun _=>hk _ h2 hw2 hle hs
theorem zSame28_calls (hW:W≤400000) (ha:IsA 2 (ZqL W) h va zs) (hb:IsA 2 ZtL h vb zs) (hl:zs.length≤1000000) (hk:∀h',h'.wf→h.le h'→K (.bool true) h'):ACalls Try.prog 12 [va,vb] h K:=by
 obtain⟨ida,offa,ca,rfl⟩:=ha.form
 obtain⟨idb,offb,cb,rfl⟩:=hb.form
 refine in_ref28_Same (by simp) fun hw=> ?_
 unfold c_ref28_Same
 simp only[go_sem]
 refine zrToL_calls hW ha hl fun r h1 hw1 hl1 hr=> ?_
 obtain⟨ir,cr,rfl⟩:=hr.form
 have hrA:=(hr.isA ZbL.grows)
 simp only[go_sem,neF (show(zs.length:Int)=zs.length from rfl)]
 refine for_rule (fun j ρ h2=>j≤zs.length∧h2.wf∧h1.le h2∧ρ 0= .sl ida offa zs.length ca∧ρ 1= .sl idb offb zs.length cb∧ρ 5= .sl ir 0 zs.length cr∧ρ 6= .int .i64 (j:Int)) zs.length
  ⟨by omega,hw1,H.le_refl _,by first|rfl|trivial|assumption,by first|rfl|trivial|assumption,by first|rfl|trivial|assumption,by first|rfl|trivial|assumption⟩ (fun i ρ h hI=>hI.1) ?_
 rintro j ρ h2 ⟨hj,hw2,hle,q0,q1,q5,q6⟩
 rcases Nat.lt_or_ge j zs.length with h3|h3
 ·obtain⟨i1,l1,rfl,_,_,_,hg1,hR1⟩:=hrA.atz (by omega) h3
  obtain⟨i2,l2,rfl,_,_,_,hg2,hR2⟩:=hb.atz (by omega) h3
  obtain⟨i3,l3,rfl,_,_,_,hg3,hR3⟩:=ha.atz (by omega) h3
  have hWz:=hR3.2
  obtain⟨w1,rfl,nt1⟩:=hR1.zt
  obtain⟨w2,rfl,nt2⟩:=hR2
  obtain⟨w3,rfl,nt3,_⟩:=zq_open hR3
  have g1:=H.get_le hle (hg1 1 (by omega))
  have g2a:=H.get_le (H.le_trans hl1 hle) (hg2 0 (by omega))
  have g2b:=H.get_le (H.le_trans hl1 hle) (hg2 1 (by omega))
  have g3:=H.get_le (H.le_trans hl1 hle) (hg3 0 (by omega))
  rw[Nat.zero_add] at g1
  rw[Nat.add_zero] at g2a g3
  simp only[go_sem,q0,q1,q5,q6,ltT h3]
  refine⟨by omega,by omega, ?_⟩
  simp only[go_sem,g1,List.getElem?_cons_succ,List.getElem?_cons_zero,q0,q1,q5,q6]
  refine⟨by omega,by omega, ?_⟩
  simp only[go_sem,g2b,List.getElem?_cons_succ,List.getElem?_cons_zero,bne_self_eq_false,q0,q1,q5,q6]
  refine⟨by omega,by omega, ?_⟩
  simp only[go_sem,g3,Nat.add_zero,List.getElem?_cons_succ,List.getElem?_cons_zero,q0,q1,q5,q6]
  refine⟨by omega,by omega, ?_⟩
  simp only[go_sem,g2a,Nat.add_zero,List.getElem?_cons_succ,List.getElem?_cons_zero,q0,q1,q5,q6]
  refine rSame_calls (nt3.mono (H.le_trans hl1 hle)) (hWz.big hW) (nt2.mono (H.le_trans hl1 hle)) fun h4 hw4 hl4=> ?_
  simp only[go_sem,Bool.not_true,q0,q1,q5,q6,incI (i:=j) (by omega)]
  exact⟨by omega,hw4,H.le_trans hle hl4,by first|rfl|trivial|assumption,by first|rfl|trivial|assumption,by first|rfl|trivial|assumption,by first|rfl|trivial|assumption⟩
 ·obtain rfl:j=zs.length:=by omega
  simp only[go_sem,q5,q6,ltF (Nat.le_refl zs.length)]
  exact fun hw'=>hk h2 hw' (H.le_trans hl1 hle)
end
end
section
section
variable {e u m nw dp a x k n i:Nat} {t:Tb} {va vx:AV} {h:H} {K:AV→H→Prop}
theorem poNew_calls (hk:∀e u h',h'.wf→h.le h'→h.next≤u→u<e→Eng 11 h' e u→Tune h' u 0 0 0 (clampT t)→K (.ptr (some (e,0))) h'):ACalls Try.prog 93 [t.av] h K:=by
 refine in_power_New (by simp) fun hw=> ?_
 unfold c_power_New
 have hl1:=H.le_new hw (H.le_refl h) ⟨some 55,11,t.cells⟩
 have hn1:h.next<(h.new ⟨some 55,11,t.cells⟩).next:=Nat.lt_succ_self _
 simp only[go_sem,av_held,av_cells,cells_len,true_and,gsT (H.rows_new h _)]
 refine nuNew_calls fun e u h1 hw1 hl2 hn2 _ he ht=> ?_
 simp only[go_sem,bldp]
 simp only[AV.held,AV.cells,true_and,go_sem]
 have hl3:=H.le_new hw1 (H.le_refl h1) ⟨some 134,1,[AV.ptr (some (e,0))]⟩
 exact fun hw'=>hk _ u _ hw' (H.le_trans hl1 (H.le_trans hl2 hl3)) (by omega) (H.row_lt hw1 ht) ⟨_,e,H.rows_new _ _,rfl,he.mono hl3⟩ (ht.mono hl3)
end
end
section
section
variable {t:Tb} {h:H} {K:AV→H→Prop}
theorem gcNew_calls (hk:∀e u h',h'.wf→h.le h'→h.next≤u→u<e→Eng 12 h' e u→Tune h' u 0 0 0 (clampT t)→K (.ptr (some (e,0))) h'):ACalls Try.prog 90 [t.av] h K:=by
 refine in_gcd_New (by simp) fun hw=> ?_
 unfold c_gcd_New
 have hl1:=H.le_new hw (H.le_refl h) ⟨some 55,11,t.cells⟩
 have hn1:h.next<(h.new ⟨some 55,11,t.cells⟩).next:=Nat.lt_succ_self _
 simp only[go_sem,av_held,av_cells,cells_len,true_and,gsT (H.rows_new h _)]
 refine poNew_calls fun e u h1 hw1 hl2 hn2 _ he ht=> ?_
 simp only[go_sem,bldp]
 simp only[AV.held,AV.cells,true_and,go_sem]
 have hl3:=H.le_new hw1 (H.le_refl h1) ⟨some 128,1,[AV.ptr (some (e,0))]⟩
 exact fun hw'=>hk _ u _ hw' (H.le_trans hl1 (H.le_trans hl2 hl3)) (by omega) (H.row_lt hw1 ht) ⟨_,e,H.rows_new _ _,rfl,he.mono hl3⟩ (ht.mono hl3)
theorem hgNew_calls (hk:∀e u h',h'.wf→h.le h'→h.next≤u→u<e→Eng 13 h' e u→Tune h' u 0 0 0 (clampT t)→K (.ptr (some (e,0))) h'):ACalls Try.prog 82 [t.av] h K:=by
 refine in_hgcd_New (by simp) fun hw=> ?_
 unfold c_hgcd_New
 have hl1:=H.le_new hw (H.le_refl h) ⟨some 55,11,t.cells⟩
 have hn1:h.next<(h.new ⟨some 55,11,t.cells⟩).next:=Nat.lt_succ_self _
 simp only[go_sem,av_held,av_cells,cells_len,true_and,gsT (H.rows_new h _)]
 refine gcNew_calls fun e u h1 hw1 hl2 hn2 _ he ht=> ?_
 simp only[go_sem,bldp]
 simp only[AV.held,AV.cells,true_and,go_sem]
 have hl3:=H.le_new hw1 (H.le_refl h1) ⟨some 121,1,[AV.ptr (some (e,0))]⟩
 exact fun hw'=>hk _ u _ hw' (H.le_trans hl1 (H.le_trans hl2 hl3)) (by omega) (H.row_lt hw1 ht) ⟨_,e,H.rows_new _ _,rfl,he.mono hl3⟩ (ht.mono hl3)
theorem mdNew_calls (hk:∀e u h',h'.wf→h.le h'→h.next≤u→u<e→Eng 14 h' e u→Tune h' u 0 0 0 (clampT t)→K (.ptr (some (e,0))) h'):ACalls Try.prog 55 [t.av] h K:=by
 refine in_modn_New (by simp) fun hw=> ?_
 unfold c_modn_New
 have hl1:=H.le_new hw (H.le_refl h) ⟨some 55,11,t.cells⟩
 have hn1:h.next<(h.new ⟨some 55,11,t.cells⟩).next:=Nat.lt_succ_self _
 simp only[go_sem,av_held,av_cells,cells_len,true_and,gsT (H.rows_new h _)]
 refine hgNew_calls fun e u h1 hw1 hl2 hn2 _ he ht=> ?_
 simp only[go_sem,bldp]
 simp only[AV.held,AV.cells,true_and,go_sem]
 have hl3:=H.le_new hw1 (H.le_refl h1) ⟨some 111,1,[AV.ptr (some (e,0))]⟩
 exact fun hw'=>hk _ u _ hw' (H.le_trans hl1 (H.le_trans hl2 hl3)) (by omega) (H.row_lt hw1 ht) ⟨_,e,H.rows_new _ _,rfl,he.mono hl3⟩ (ht.mono hl3)
theorem pzNew_calls (hk:∀e u h',h'.wf→h.le h'→h.next≤u→u<e→Eng 15 h' e u→Tune h' u 0 0 0 (clampT t)→K (.ptr (some (e,0))) h'):ACalls Try.prog 28 [t.av] h K:=by
 refine in_polyz_New (by simp) fun hw=> ?_
 unfold c_polyz_New
 have hl1:=H.le_new hw (H.le_refl h) ⟨some 55,11,t.cells⟩
 have hn1:h.next<(h.new ⟨some 55,11,t.cells⟩).next:=Nat.lt_succ_self _
 simp only[go_sem,av_held,av_cells,cells_len,true_and,gsT (H.rows_new h _)]
 refine mdNew_calls fun e u h1 hw1 hl2 hn2 _ he ht=> ?_
 simp only[go_sem,bldp]
 simp only[AV.held,AV.cells,true_and,go_sem]
 have hl3:=H.le_new hw1 (H.le_refl h1) ⟨some 84,1,[AV.ptr (some (e,0))]⟩
 exact fun hw'=>hk _ u _ hw' (H.le_trans hl1 (H.le_trans hl2 hl3)) (by omega) (H.row_lt hw1 ht) ⟨_,e,H.rows_new _ _,rfl,he.mono hl3⟩ (ht.mono hl3)
end
def hgt (zs:List Int):Nat:=zs.foldl (fun n z=>max n (blen z.natAbs)) 0
theorem hgt_succ {zs:List Int} {j:Nat} (h:j<zs.length):hgt (zs.take (j+1))=max (hgt (zs.take j)) (blen zs[j].natAbs):=by
 unfold hgt
 rw[List.take_succ_eq_append_getElem h,List.foldl_append]
 rfl
theorem hgt_fold:∀(zs:List Int) (n:Nat),(∀z∈zs,z=0)→zs.foldl (fun n z=>max n (blen z.natAbs)) n=n
 |[],_,_=>rfl
 |z::zs,n,h=>by
  rw[List.foldl_cons,h z (by simp),show blen (0:Int).natAbs=0 from rfl,Nat.max_zero]
  exact hgt_fold zs n fun y hy=>h y (by simp[hy])
theorem hgt_take {zs:List Int} {k:Nat} (h:∀z∈zs.drop k,z=0):hgt (zs.take k)=hgt zs:=by
 have e:hgt zs=hgt (zs.take k++zs.drop k):=by rw[List.take_append_drop]
 rw[e]
 unfold hgt
 rw[List.foldl_append,hgt_fold _ _ h]
theorem hgt_trim {zs ys:List Int} (h:TrimG 0 (fun i=>zs.getD i 0) ys):hgt ys=hgt zs:=by
 have hl:=TrimG.len (zs:=zs) (fun i=>rfl) h
 have e:ys=zs.take ys.length:=by
  refine List.ext_getElem (by rw[List.length_take];omega) fun i h1 h2=> ?_
  rw[List.getElem_take,←getG_in (z:=0) h1,h.1]
  exact getG_in (by omega)
 rw[e]
 refine hgt_take fun z hz=> ?_
 obtain⟨i,hi,rfl⟩:=List.getElem_of_mem hz
 rw[List.getElem_drop]
 have h5:ys.getD (ys.length+i) 0=zs.getD (ys.length+i) 0:=h.1 (ys.length+i)
 rw[getG_out (by omega),getG_in (by rw[List.length_drop] at hi;omega)] at h5
 exact h5.symm
theorem wz_digs {W:Nat} {p:Bool×List Nat} (hd:Dig p.2) (hl:p.2.length≤W):Wz W (zI p):=by
 unfold Wz zI
 rw[sg_abs]
 exact Nat.le_trans (wlen_len hd) hl
theorem IsI.zw {W:Nat} {h:H} {l:List AV} {p:Bool×List Nat} (hv:IsI h l p) (hl:p.2.length≤W) (hW:W≤400000):ZwL W h l (zI p):=by
 obtain⟨w,rfl,h1,h2,h3⟩:=hv
 exact⟨⟨w,p.1,_,rfl,h1.nn h2 (by omega),rfl⟩,wz_digs h2 hl⟩
section
variable {W:Nat} {v va vb:AV} {zs ys:List Int} {h:H} {K:AV→H→Prop}
theorem zHeight_calls (hW:W≤400000) (hv:IsA 2 (ZwL W) h v zs) (hl:zs.length≤1000000) (hk:∀h',h'.wf→h.le h'→K (.int .i64 (hgt zs:Nat)) h'):ACalls Try.prog 22 [v] h K:=by
 obtain⟨id,off,c,rfl⟩:=hv.form
 refine in_polyz_Height (by simp) fun hw=> ?_
 unfold c_polyz_Height
 simp only[go_sem]
 refine for_rule (fun j ρ h2=>j≤zs.length∧h2.wf∧h.le h2∧ρ 3= .int .i64 (hgt (zs.take j):Nat)∧ρ 6= .sl id off zs.length c∧ρ 7= .int .i64 (zs.length:Int)∧ρ 8= .int .i64 (j:Int)) zs.length
  ⟨by omega,hw,H.le_refl _,by first|rfl|trivial|assumption,by first|rfl|trivial|assumption,by first|rfl|trivial|assumption,by first|rfl|trivial|assumption⟩ (fun i ρ h hI=>hI.1) ?_
 rintro j ρ h2 ⟨hj,hw2,hle,q3,q6,q7,q8⟩
 rcases Nat.lt_or_ge j zs.length with h3|h3
 ·obtain⟨i,l,rfl,_,_,hg,_,hR⟩:=hv.atz (by omega) h3
  obtain⟨w,b,x,rfl,nw,hzx,hxz,hone⟩:=zw_open hR
  have hg:=H.gets_le hle hg
  have nw:=nw.mono hle
  simp only[go_sem,q3,q6,q7,q8,ltT h3]
  refine⟨by omega,by omega, ?_⟩
  simp only[go_sem,hg,q3,q6,q7,q8]
  have r3:=H.rows_new h2 ⟨some 45,2,[.sl none 0 0 none, .bool false]⟩
  have hl4:=H.le_new hw2 (H.le_refl h2) ⟨some 45,2,[.sl none 0 0 none, .bool false]⟩
  have hw4:=H.wf_new hw2 ⟨some 45,2,[.sl none 0 0 none, .bool false]⟩
  simp only[List.length_cons,List.length_nil,Nat.zero_add,Nat.reduceAdd]
  have hn3:=hle.1
  generalize hR3:h2.next=R3 at*
  generalize h2.new ⟨some 45,2,[.sl none 0 0 none, .bool false]⟩=h4 at*
  refine⟨by trivial,all2 hone,put2 hw hw4 (H.le_trans hle hl4) (by omega) r3 rfl fun g3 hwg3 hlg3 hg3 r3n e3=> ?_⟩
  have nw:=(nw.mono hl4).lee2 r3 e3
  simp only[go_sem,q3,q6,q7,q8,(g2 r3n).1]
  refine nBits_calls nw ?_
  rw[←hxz]
  simp only[go_sem,q3,q6,q7,q8,maxN,incI (i:=j) (by omega)]
  rw[hgt_succ h3]
  exact⟨by omega,hwg3,hlg3,by first|rfl|trivial|assumption,by first|rfl|trivial|assumption,by first|rfl|trivial|assumption,by first|rfl|trivial|assumption⟩
 ·obtain rfl:j=zs.length:=by omega
  rw[List.take_length] at q3
  simp only[go_sem,q3,q7,q8,ltF (Nat.le_refl zs.length)]
  exact fun hw'=>hk h2 hw' hle
theorem bldZ2 {w b w' b':AV} (hw:w.one=true) (hb:b.one=true) (hw':w'.one=true) (hb':b'.one=true):abuild (Ab.zs [.sl none 0 0 none, .bool false] 2) [(0,2, .agg [w,b]),(2,2, .agg [w',b'])]=some [w,b,w',b']:=by
 simp[abuild,Ab.zs,putAt,AV.held,AV.cells,hw,hb,hw',hb']
theorem Zf.lit2 {c W:Nat} {T:TypeId} {a b a' b':AV} {z z':Int} (hw:h.wf) (h1:Zf c h (.agg [a,b]) z) (h2:Zf c h (.agg [a',b']) z') (w1:Wz W z) (w2:Wz W z') (hW:W≤400000):IsA 2 (ZwL W) (h.new ⟨some T,2,[a,b,a',b']⟩) (.sl (some h.next) 0 2 (some 2)) [z,z']:=by
 have hl:=H.le_new hw (H.le_refl h) ⟨some T,2,[a,b,a',b']⟩
 refine⟨[a,b,a',b'],⟨rfl,some h.next,0,some 2,rfl, .inr ⟨h.next,_,rfl,H.rows_new _ _, .inr rfl,by simp,rfl⟩⟩,rfl,fun j x hx=> ?_⟩
 rcases j with _|_|j
 ·simp at hx
  subst hx
  exact⟨(h1.mono hl).zn (w1.big hW),w1⟩
 ·simp at hx
  subst hx
  exact⟨(h2.mono hl).zn (w2.big hW),w2⟩
 ·simp at hx
theorem wakes28_calls (hk:∀h',h'.wf→h.le h'→K (.bool true) h'):ACalls Try.prog 7 [] h K:=by
 refine in_law28_wakes (by simp) fun hw=> ?_
 unfold c_law28_wakes
 have e1:∀l:List AV,abuild l []=some l:=fun l=>by simp[abuild]
 simp only[go_sem,e1]
 refine pzNew_calls (t:=⟨0,0,0,0,0,0,0,0,0,0,0⟩) fun e u h1 hw1 hl1 hn1 hue he ht=> ?_
 simp only[go_sem,Option.isNone,Bool.true_bne,Bool.not_false]
 refine zOf_calls (n:=3) (by decide) (by decide) fun a h2 hw2 hl2 ha=> ?_
 obtain⟨a0,a1,rfl,oa0,oa1⟩:=ha.two
 simp only[go_sem]
 refine zOf_calls (n:= -4) (by decide) (by decide) fun b h3 hw3 hl3 hb=> ?_
 obtain⟨b0,b1,rfl,ob0,ob1⟩:=hb.two
 simp only[go_sem,bldZ2 oa0 oa1 ob0 ob1]
 have hl4:=H.le_new hw3 (H.le_refl h3) ⟨some 45,2,[a0,a1,b0,b1]⟩
 refine zHeight_calls (W:=1) (by omega) (Zf.lit2 hw3 (ha.mono hl3) (hb.base hl2.1) (by unfold Wz;decide) (by unfold Wz;decide) (by omega)) (by simp) fun h5 hw5 hl5=> ?_
 simp only[go_sem,show(((hgt [3,-4]:Nat):Int)==3)=true by decide,true_and]
 refine zDeg_calls (W:=1) (by omega) (IsA.nil _ _ _ _) (by simp) fun ys hy=> ?_
 have ey:ys=[]:=hy.uniq ⟨fun i=>rfl,by simp⟩
 subst ey
 simp only[go_sem,show((((([]:List Int).length:Nat):Int)-1)== -1)=true from rfl]
 exact fun hw'=>hk h5 hw' (H.le_trans hl1 (H.le_trans hl2 (H.le_trans hl3 (H.le_trans hl4 hl5))))
theorem CutIntsS_calls {ps:List (Bool×List Nat)} {k n:Nat} (hv:IsA 2 IsI h v ps) (hlen:ps.length≤9223372036854775807) (hk9:k≤1000000) (hk:∀r h',h'.wf→h.le h'→IsA 2 IsI h' r ((ps.take k).map fun p=>(p.1,p.2.take n))→Since h.next r→K r h'):ACalls Try.prog 25 [v, .int .i64 (k:Int), .int .i64 (n:Int)] h K:=by
 obtain⟨id,off,c,rfl⟩:=hv.form
 refine in_keep_CutInts (by simp) fun hw=> ?_
 unfold c_keep_CutInts
 simp only[go_sem]
 have hlt:(ps.take k).length=min k ps.length:=List.length_take
 refine for_rule (fun i ρ h2=>i≤(ps.take k).length∧h2.wf∧h.le h2∧ρ 0= .sl id off ps.length c∧ρ 1= .int .i64 (k:Int)∧ρ 2= .int .i64 (n:Int)∧ρ 8= .int .i64 (i:Int)∧Live 45 2 h.next (fun _=>IsI h) h2 (ρ 7) (((ps.take k).take i).map fun p=>(p.1,p.2.take n))) (ps.take k).length
  ⟨by omega,hw,H.le_refl _,by first|rfl|trivial|assumption,by first|rfl|trivial|assumption,by first|rfl|trivial|assumption,by first|rfl|trivial|assumption,Live.nil _ _ _ _ _ _⟩ (fun i ρ h hI=>hI.1) ?_
 rintro i ρ h2 ⟨hi,hw2,hle,q0,q1,q2,q8,hs⟩
 rcases Nat.lt_or_ge i (ps.take k).length with h1|h1
 ·have hip:i<ps.length:=by omega
  have hik:i<k:=by omega
  obtain⟨ii,l,rfl,_,hlz,hg,_,w,rfl,hIw,hDw,hLw⟩:=hv.atz (by omega) hip
  have hg2:=H.gets_le hle hg
  obtain⟨io,co,q7⟩:=hs.form
  have hlen:(((ps.take k).take i).map fun p=>(p.1,p.2.take n)).length=i:=by simp;omega
  rw[hlen] at q7
  rw[q7] at hs
  simp only[go_sem,q0,q1,q2,q7,q8,ltT hip,ltT hik]
  refine⟨by omega,by omega, ?_⟩
  simp only[go_sem,hg2,q0,q1,q2]
  refine CutInt_all (n:=n) ((show IsN h w _ from hIw).mono hle) fun w2 h3 hw3 hl3 hall hone=> ?_
  have hle3:=H.le_trans hle hl3
  have hs3:=hs.mono (fun _ _ _ _ hx _=>hx) hl3
  have lit:abuild (zs [.sl none 0 0 none, .bool false] 1) [(0*2,2, .agg [w2, .bool ps[i].1])]=some [w2, .bool ps[i].1]:=by
   simp[abuild,zs,putAt,AV.held,AV.cells,hone]
  simp only[go_sem,q0,q1,q2,q7,q8,lit]
  refine hs3.app (K:=_) (fun _ _ _ _ hx _=>hx) (by omega) hw hw3 hle3 hlen.symm (y:=(ps[i].1,ps[i].2.take n)) ⟨_,rfl,hall _ hIw,Dig.take hDw n,by simp;omega⟩ rfl (all2 hone) (by omega) (by omega) rfl fun v2 h4 hw4 hle4 hs4=> ?_
  simp only[go_sem,q0,q1,q2,q8,incI (i:=i) (by omega)]
  refine⟨by omega,hw4,hle4,by first|rfl|trivial|assumption,by first|rfl|trivial|assumption,by first|rfl|trivial|assumption,by first|rfl|trivial|assumption, ?_⟩
  have e9:(ps.take k)[i]=ps[i]:=List.getElem_take
  rw[List.take_succ_eq_append_getElem h1,List.map_append,e9]
  exact hs4
 ·rw[List.take_of_length_le h1] at hs
  have hi2:i=(ps.take k).length:=by omega
  have fin:K (ρ 7) h2:=hk _ h2 hw2 hle (by
   obtain⟨io,co,cs,e,h3,h4⟩:=hs
   exact⟨cs,h3.isC,h4.mono fun l x hx=>IsI.grows hx hle⟩) hs.since
  by_cases h3:i<ps.length
  ·simp only[go_sem,q0,q1,q2,q8,ltT h3,ltF (show k≤i by omega)]
   exact fun _=>fin
  ·simp only[go_sem,q0,q1,q2,q8,ltF (show ps.length≤i by omega)]
   exact fun _=>fin
theorem cut28_calls {ps:List (Bool×List Nat)} {k n:Nat} (hv:IsA 2 IsI h v ps) (hlen:ps.length≤9223372036854775807) (hk9:k≤100000) (hn:n≤1000)
  (hk:∀a x qs ys h',h'.wf→h.le h'→qs=(ps.take k).map (fun p=>(p.1,p.2.take n))→qs.length≤k→IsA 2 IsI h' a qs→IsA 2 (ZwL n) h' a (qs.map zI)→IsA 2 (ZqL n) h' x ys→TrimG 0 (fun i=>(qs.map zI).getD i 0) ys→ys.length≤qs.length→Since h.next a→Since h.next x→K (.tup [a,x]) h'):ACalls Try.prog 5 [v, .int .i64 (k:Int), .int .i64 (n:Int)] h K:=by
 refine in_law28_cut (by simp) fun hw=> ?_
 unfold c_law28_cut
 simp only[go_sem]
 refine CutIntsS_calls hv hlen (by omega) fun a h1 hw1 hl1 ha hsa=> ?_
 have hqn:∀p∈(ps.take k).map fun p=>(p.1,p.2.take n),p.2.length≤n:=by
  intro p hm
  obtain⟨q,hq,rfl⟩:=List.mem_map.1 hm
  simp
  omega
 have hql:((ps.take k).map fun p=>(p.1,p.2.take n)).length≤k:=by simp;omega
 generalize hqs:((ps.take k).map fun p=>(p.1,p.2.take n))=qs at*
 have haw:IsA 2 (ZwL n) h1 a (qs.map zI):=ha.mapz fun c x hx hi=>hi.zw (hqn x hx) (by omega)
 simp only[go_sem]
 refine zrFromL_calls (by omega) haw (by rw[List.length_map];omega) fun x ys h2 hw2 hl2 hx ht hyl hsx=> ?_
 simp only[go_sem]
 rw[List.length_map] at hyl
 exact fun hw'=>hk a x qs ys h2 hw' (H.le_trans hl1 hl2) rfl hql (ha.mono IsI.grows hl2) (haw.mono ZwL.grows hl2) hx ht hyl hsa (fun i o n c e=>Nat.le_trans hl1.1 (hsx i o n c e))
end
end
section
section
variable {T T':TypeId} {b n i c W:Nat} {h g:H} {zs:List Int} {io co:Option Nat} {l:List AV}
theorem lee_delB {io:Option Nat} (hi:io≠some i) {r:Row} (hr:h.rows i=some r) (hl:H.lee i h g):(h.del io).rows i=some r∧H.lee i (h.del io) (g.del io):=by
 refine⟨?_,hl.1,fun j q hj hq=> ?_⟩
 ·simp only[H.del]
  rw[if_neg (fun e=>hi e.symm)]
  exact hr
 ·simp only[H.del] at hq⊢
  split at hq
  ·cases hq
  ·rename_i hn
   rw[if_neg hn]
   exact hl.2 j q hj hq
theorem Live.otherB {α:Type} {z:Nat} {R:H→List AV→α→Prop} {xs:List α} (hv:Live T z b R h (.sl io 0 n co) xs) (hi:io≠some i) (hR:∀l x,R (h.del io) l x→R (g.del io) l x) (hl:H.lee i h g):Live T z b R g (.sl io 0 n co) xs:=by
 obtain⟨io',c',cs,e,⟨h1,id,c2,e2,h3⟩,h4⟩:=hv
 injection e with e1 e2' e3 e4
 subst e1;subst e4;subst e3
 injection e2 with f1 f2 f3 f4
 subst f1;subst f4
 refine⟨io,co,cs,rfl,⟨h1,io,co,rfl, ?_⟩,h4.mono hR⟩
 rcases h3 with h3|⟨j,q,h0,hb,hq,hrest⟩
 ·exact .inl h3
 ·refine .inr ⟨j,q,h0,hb,hl.2 j q ?_ hq,hrest⟩
  rintro rfl
  exact hi h0
theorem Live.boxB (hv:Live T 2 b (ZbL c W) h (.sl io 0 n co) zs) (hi:io≠some i) (hr:h.rows i=some ⟨some T',2,l⟩) (hl:H.lee i h g):Live T 2 b (ZbL c W) g (.sl io 0 n co) zs:=by
 obtain⟨h1,h2⟩:=lee_delB hi hr hl
 exact hv.otherB hi (fun l x hx=>⟨hx.1.lee2 h1 h2,hx.2⟩) hl
end
theorem cmpZ_zero {a b:Int}:cmpZ a b=0↔a=b:=by
 unfold cmpZ
 repeat' split
 all_goals omega
theorem zf_zwB {c W:Nat} {h:H} {v:AV} {z:Int} (hv:Zf c h v z) (hw:Wz W z) (hW:W≤400000):∃w b x,v= .agg [w, .bool b]∧Nn h w x∧z=sg b x∧z.natAbs=x∧w.one=true:=zn_open (hv.zn (hw.big hW))
def IsZl (W:Nat) (h:H) (l:List AV) (zs:List Int):Prop:=∃v,l=[v]∧IsA 2 (ZwL W) h v zs
section
variable {W Wb j:Nat} {v va vb w:AV} {b:Bool} {x:Nat} {zs ys:List Int} {h:H} {K:AV→H→Prop}
set_option maxHeartbeats 1000000 in
theorem znormL_calls (hW:W≤400000) (hv:IsA 2 (ZwL W) h v zs) (hl:zs.length≤100000) (hk:∀r ys h',h'.wf→h.le h'→Live 45 2 h.next (ZbL h.next W) h' r ys→TrimG 0 (fun i=>zs.getD i 0) ys→ys.length≤zs.length→K r h'):ACalls Try.prog 16 [v] h K:=by
 obtain⟨id,off,c,rfl⟩:=hv.form
 refine in_polyz_Norm (by simp) fun hw=> ?_
 unfold c_polyz_Norm
 simp only[go_sem,Int.toNat_natCast]
 refine⟨by omega,by omega,by omega, ?_⟩
 have hl2:=H.le_new hw (H.le_refl h) ⟨some 45,2,Ab.zs [AV.sl none 0 0 none,AV.bool false] zs.length⟩
 have hw2:=H.wf_new hw ⟨some 45,2,Ab.zs [AV.sl none 0 0 none,AV.bool false] zs.length⟩
 have hs0:Live 45 2 h.next (ZbL h.next W) (h.new ⟨some 45,2,Ab.zs [AV.sl none 0 0 none,AV.bool false] zs.length⟩) (.sl (some h.next) 0 zs.length (some zs.length)) (List.replicate zs.length 0):=Live.madez (b:=h.next) (R:=ZbL h.next W) (x:=0) hw (Nat.le_refl _) rfl (fun g=>⟨Zf.zero _ _,Wz.zero _⟩) _
 generalize h.new ⟨some 45,2,Ab.zs [AV.sl none 0 0 none,AV.bool false] zs.length⟩=h2 at*
 obtain⟨F,hF⟩:∃F:Nat→Int,F=fun i=>zs.getD i 0:=⟨_,rfl⟩
 refine loop_cut (fun ρ g=>g.wf∧h.le g∧Live 45 2 h.next (ZbL h.next W) g (ρ 3) (rowF F zs.length)) ?_ ?_
 ·refine for_rule (fun j ρ g=>j≤zs.length∧g.wf∧h.le g∧ρ 3= .sl (some h.next) 0 zs.length (some zs.length)∧ρ 9= .sl id off zs.length c∧ρ 10= .int .i64 (zs.length:Int)∧ρ 11= .int .i64 (j:Int)∧Live 45 2 h.next (ZbL h.next W) g (.sl (some h.next) 0 zs.length (some zs.length)) (rowF (upF F 0 j) zs.length)) zs.length
   ⟨by omega,hw2,hl2,by first|rfl|trivial|assumption,by first|rfl|trivial|assumption,by first|rfl|trivial|assumption,by first|rfl|trivial|assumption,by rw[upF_zero];exact hs0⟩ (fun i ρ h hI=>hI.1) ?_
  rintro j ρ g ⟨hj,hwg,hle,q3,q9,q10,q11,hs⟩
  rcases Nat.lt_or_ge j zs.length with h3|h3
  ·obtain⟨ii,l,rfl,_,_,hg,_,hR⟩:=hv.atz (by omega) h3
   have hWz:=hR.2
   obtain⟨w,bz,x,rfl,nwz,hzx,hxz,hone⟩:=zw_open hR
   have hg:=H.gets_le hle hg
   have nwz:=nwz.mono hle
   have hFj:F j=zs[j]:=by rw[hF];exact getG_in h3
   rw[←hFj] at hzx hxz hWz
   simp only[go_sem,q3,q9,q10,q11,ltT h3]
   refine⟨by omega,by omega, ?_⟩
   simp only[go_sem,hg,q3,q9,q10,q11]
   have r3:=H.rows_new g ⟨some 45,2,[.sl none 0 0 none, .bool false]⟩
   have hl4:=H.le_new hwg (H.le_refl g) ⟨some 45,2,[.sl none 0 0 none, .bool false]⟩
   have hw4:=H.wf_new hwg ⟨some 45,2,[.sl none 0 0 none, .bool false]⟩
   simp only[List.length_cons,List.length_nil,Nat.zero_add,Nat.reduceAdd]
   have hn3:=hle.1
   have hio:=hs.io_lt hwg _ rfl
   generalize hR3:g.next=R3 at*
   generalize g.new ⟨some 45,2,[.sl none 0 0 none, .bool false]⟩=g4 at*
   refine⟨by trivial,all2 hone,put2 hw hw4 (H.le_trans hle hl4) (by omega) r3 rfl fun g5 hw5 hl5 hg5 r3n e5=> ?_⟩
   have nwz:=(nwz.mono hl4).lee2 r3 e5
   have hs5:=(hs.mono ZbL.grows hl4).boxB (by intro e;injection e;omega) r3 e5
   simp only[go_sem,q3,q9,q10,q11,(g2 r3n).2.2]
   have hB:=hWz.big hW
   rw[hxz] at hB
   refine zNorm_calls nwz hB fun r g6 hw6 hl6 hr=> ?_
   rw[←hzx] at hr
   have hs6:=hs5.mono ZbL.grows hl6
   have hof:=(hr.base (d:=h.next) hl5.1).off hs6 (by decide)
   obtain⟨a0,a1,rfl,oa0,oa1⟩:=hr.two
   obtain⟨io',rr,e0',hbi,hin,hrr,ho,hz,hcl,hput⟩:=hs6.putz hw6 (by omega) (j:=j) (by rw[rowF_len];exact h3)
   injection e0' with e0'
   subst e0'
   have hput:=hput [a0,a1] (F j) rfl ⟨hof,hWz⟩
   rw[upF_step] at hput
   simp only[go_sem,q3,q9,q10,q11]
   refine⟨by omega,by omega, ?_⟩
   simp only[go_sem,hrr,q3,q9,q10,q11]
   refine⟨by trivial,all2b oa0 oa1,by rw[ho];simp,hcl, ?_⟩
   simp only[go_sem,q3,q9,q10,q11,incI (i:=j) (by omega)]
   exact⟨by omega,H.wf_set hw6 hin _,H.le_set hw (H.le_trans hl5 hl6) hbi _,by first|rfl|trivial|assumption,by first|rfl|trivial|assumption,by first|rfl|trivial|assumption,by first|rfl|trivial|assumption,hput⟩
  ·obtain rfl:j=zs.length:=by omega
   simp only[go_sem,q3,q10,q11,ltF (Nat.le_refl zs.length)]
   rw[upF_all] at hs
   exact⟨hwg,hle,hs⟩
 rintro ρ g ⟨hwg,hle,hs⟩
 simp only[go_sem]
 refine ztrim_live hW hs (fun g l z hx=>hx.zw hW) (by rw[rowF_len];omega) fun r ys hy hty hyl=> ?_
 simp only[go_sem]
 rw[rowF_len] at hyl
 refine fun hw'=>hk r ys g hw' hle hy (hty.congr fun i=> ?_) hyl
 rw[rowF_getD,hF]
 split
 ·rfl
 ·rw[getG_out (by omega)]
theorem zat_calls (hv:IsA 2 (ZwL W) h v zs) (hk:∀w b x h',h'.wf→h.le h'→Nn h' w x→zs.getD j 0=sg b x→Wz W (zs.getD j 0)→K (.agg [w, .bool b]) h'):ACalls Try.prog 43 [v, .int .i64 (j:Int)] h K:=by
 obtain⟨id,off,c,rfl⟩:=hv.form
 refine in_polyz_at (by simp) fun hw=> ?_
 unfold c_polyz_at
 have r3:=H.rows_new h ⟨some 45,2,[.sl none 0 0 none, .bool false]⟩
 have hl4:=H.le_new hw (H.le_refl h) ⟨some 45,2,[.sl none 0 0 none, .bool false]⟩
 have hw4:=H.wf_new hw ⟨some 45,2,[.sl none 0 0 none, .bool false]⟩
 rcases Nat.lt_or_ge j zs.length with h1|h1
 ·obtain⟨ii,l,rfl,_,_,hg,_,hR⟩:=hv.atz (by omega) h1
  have hWz:=hR.2
  obtain⟨w,bz,x,rfl,nwz,hzx,hxz,hone⟩:=zw_open hR
  have hg:=H.gets_le hl4 hg
  simp only[go_sem,ltT h1]
  simp only[List.length_cons,List.length_nil,Nat.zero_add,Nat.reduceAdd]
  generalize hR3:h.next=R3 at*
  generalize h.new ⟨some 45,2,[.sl none 0 0 none, .bool false]⟩=g4 at*
  refine⟨by omega,by omega, ?_⟩
  simp only[go_sem,hg]
  refine⟨by trivial,all2 hone,put2 hw hw4 hl4 (by omega) r3 rfl fun g5 hw5 hl5 hg5 r3n e5=> ?_⟩
  simp only[go_sem,hg5]
  rw[←getG_in (z:=0) h1] at hzx hWz
  exact fun hw'=>hk w bz x g5 hw' hl5 ((nwz.mono hl4).lee2 r3 e5) hzx hWz
 ·simp only[go_sem,ltF h1,bldn]
  simp only[List.length_cons,List.length_nil,Nat.zero_add,Nat.reduceAdd]
  generalize hR3:h.next=R3 at*
  generalize h.new ⟨some 45,2,[.sl none 0 0 none, .bool false]⟩=g4 at*
  refine⟨by trivial,by trivial,put2 hw hw4 hl4 (by omega) r3 rfl fun g5 hw5 hl5 hg5 r3n e5=> ?_⟩
  simp only[go_sem,hg5]
  have hz:=getG_out (z:=(0:Int)) h1
  exact fun hw'=>hk _ false 0 g5 hw' hl5 ⟨[],IsN.nil _ _,(fun x hx=>by cases hx),by simp,rfl⟩ (by rw[hz];rfl) (by rw[hz];exact Wz.zero _)
theorem zSame_calls (hW:W≤400000) (ha:IsA 2 (ZwL W) h va zs) (hb:IsA 2 (ZwL Wb) h vb ys) (hla:zs.length≤100000) (hlb:ys.length≤100000) (hk:∀(s:Bool) h',h'.wf→h.le h'→(s=true↔∀i,zs.getD i 0=ys.getD i 0)→K (.bool s) h'):ACalls Try.prog 21 [va,vb] h K:=by
 obtain⟨id,off,c,rfl⟩:=ha.form
 obtain⟨id2,off2,c2,rfl⟩:=hb.form
 refine in_polyz_Same (by simp) fun hw=> ?_
 unfold c_polyz_Same
 simp only[go_sem]
 refine for_rule (fun j ρ g=>j≤max zs.length ys.length∧g.wf∧h.le g∧ρ 0= .sl id off zs.length c∧ρ 1= .sl id2 off2 ys.length c2∧ρ 5= .int .i64 (j:Int)∧∀i,i<j→zs.getD i 0=ys.getD i 0) (max zs.length ys.length) ⟨by omega,hw,H.le_refl _,by first|rfl|trivial|assumption,by first|rfl|trivial|assumption,by first|rfl|trivial|assumption,fun i hi=>by omega⟩ (fun i ρ h hI=>hI.1) ?_
 rintro j ρ g ⟨hj,hwg,hle,q0,q1,q5,hs⟩
 have fin:¬j<zs.length→¬j<ys.length→∀i,zs.getD i 0=ys.getD i 0:=fun h1 h2 i=>by
  rcases Nat.lt_or_ge i j with h3|h3
  ·exact hs i h3
  ·rw[getG_out (by omega),getG_out (by omega)]
 rcases Nat.lt_or_ge j zs.length with h1|h1
 ·simp only[go_sem,q0,q1,q5,ltT h1]
  refine zat_calls (ha.mono ZwL.grows hle) fun w b x g1 hw1 hl1 nw e1 _=> ?_
  simp only[go_sem,q0,q1,q5]
  refine zat_calls (hb.mono ZwL.grows (H.le_trans hle hl1)) fun w2 b2 x2 g2 hw2 hl2 nw2 e2 _=> ?_
  simp only[go_sem,q0,q1,q5]
  refine zCmp_calls (nw.mono hl2) nw2 fun g3 hw3 hl3=> ?_
  rw[←e1,←e2]
  have l3:=(H.le_trans hle (H.le_trans hl1 (H.le_trans hl2 hl3)))
  by_cases he:zs.getD j 0=ys.getD j 0
  ·simp only[go_sem,q0,q1,q5,neF (cmpZ_zero.2 he),incI (i:=j) (by omega)]
   exact⟨by omega,hw3,l3,by first|rfl|trivial|assumption,by first|rfl|trivial|assumption,by first|rfl|trivial|assumption,fun i hi=>by
    rcases Nat.lt_or_ge i j with h3|h3
    ·exact hs i h3
    ·obtain rfl:i=j:=by omega
     exact he⟩
  ·simp only[go_sem,q0,q1,q5,neT (fun h=>he (cmpZ_zero.1 h))]
   exact fun hw'=>hk false g3 hw' l3 ⟨(fun h=>by cases h),fun h=>absurd (h j) he⟩
 rcases Nat.lt_or_ge j ys.length with h2|h2
 ·simp only[go_sem,q0,q1,q5,ltF h1,ltT h2]
  refine zat_calls (ha.mono ZwL.grows hle) fun w b x g1 hw1 hl1 nw e1 _=> ?_
  simp only[go_sem,q0,q1,q5]
  refine zat_calls (hb.mono ZwL.grows (H.le_trans hle hl1)) fun w2 b2 x2 g2 hw2 hl2 nw2 e2 _=> ?_
  simp only[go_sem,q0,q1,q5]
  refine zCmp_calls (nw.mono hl2) nw2 fun g3 hw3 hl3=> ?_
  rw[←e1,←e2]
  have l3:=(H.le_trans hle (H.le_trans hl1 (H.le_trans hl2 hl3)))
  by_cases he:zs.getD j 0=ys.getD j 0
  ·simp only[go_sem,q0,q1,q5,neF (cmpZ_zero.2 he),incI (i:=j) (by omega)]
   exact⟨by omega,hw3,l3,by first|rfl|trivial|assumption,by first|rfl|trivial|assumption,by first|rfl|trivial|assumption,fun i hi=>by
    rcases Nat.lt_or_ge i j with h3|h3
    ·exact hs i h3
    ·obtain rfl:i=j:=by omega
     exact he⟩
  ·simp only[go_sem,q0,q1,q5,neT (fun h=>he (cmpZ_zero.1 h))]
   exact fun hw'=>hk false g3 hw' l3 ⟨(fun h=>by cases h),fun h=>absurd (h j) he⟩
 ·simp only[go_sem,q0,q1,q5,ltF h1,ltF h2]
  exact fun hw'=>hk true g hw' hle ⟨fun _=>fin (by omega) (by omega),fun _=>rfl⟩
set_option maxHeartbeats 1000000 in
theorem zMinus_calls (hW:W≤300000) (ha:IsA 2 (ZwL W) h va zs) (hb:IsA 2 (ZwL W) h vb ys) (hla:zs.length≤100000) (hlb:ys.length≤100000) (hk:∀r ws h',h'.wf→h.le h'→Live 45 2 h.next (ZbL h.next (W+1)) h' r ws→TrimG 0 (fun i=>zs.getD i 0-ys.getD i 0) ws→ws.length≤max zs.length ys.length→K r h'):ACalls Try.prog 15 [va,vb] h K:=by
 obtain⟨id,off,c,rfl⟩:=ha.form
 obtain⟨id2,off2,c2,rfl⟩:=hb.form
 refine in_polyz_Minus (by simp) fun hw=> ?_
 unfold c_polyz_Minus
 obtain⟨n,hn⟩:∃n,n=max zs.length ys.length:=⟨_,rfl⟩
 simp only[go_sem,maxN,←hn,Int.toNat_natCast]
 refine⟨by omega,by omega,by omega, ?_⟩
 have hl2:=H.le_new hw (H.le_refl h) ⟨some 45,2,Ab.zs [AV.sl none 0 0 none,AV.bool false] n⟩
 have hw2:=H.wf_new hw ⟨some 45,2,Ab.zs [AV.sl none 0 0 none,AV.bool false] n⟩
 have hs0:Live 45 2 h.next (ZbL h.next (W+1)) (h.new ⟨some 45,2,Ab.zs [AV.sl none 0 0 none,AV.bool false] n⟩) (.sl (some h.next) 0 n (some n)) (List.replicate n 0):=Live.madez (b:=h.next) (R:=ZbL h.next (W+1)) (x:=0) hw (Nat.le_refl _) rfl (fun g=>⟨Zf.zero _ _,Wz.zero _⟩) _
 generalize h.new ⟨some 45,2,Ab.zs [AV.sl none 0 0 none,AV.bool false] n⟩=h2 at*
 obtain⟨F,hF⟩:∃F:Nat→Int,F=fun i=>zs.getD i 0-ys.getD i 0:=⟨_,rfl⟩
 refine loop_cut (fun ρ g=>g.wf∧h.le g∧Live 45 2 h.next (ZbL h.next (W+1)) g (ρ 5) (rowF F n)) ?_ ?_
 ·refine for_rule (fun j ρ g=>j≤n∧g.wf∧h.le g∧ρ 0= .sl id off zs.length c∧ρ 1= .sl id2 off2 ys.length c2∧ρ 5= .sl (some h.next) 0 n (some n)∧ρ 14= .int .i64 (n:Int)∧ρ 15= .int .i64 (j:Int)∧Live 45 2 h.next (ZbL h.next (W+1)) g (.sl (some h.next) 0 n (some n)) (rowF (upF F 0 j) n)) n
   ⟨by omega,hw2,hl2,by first|rfl|trivial|assumption,by first|rfl|trivial|assumption,by first|rfl|trivial|assumption,by first|rfl|trivial|assumption,by first|rfl|trivial|assumption,by rw[upF_zero];exact hs0⟩ (fun i ρ h hI=>hI.1) ?_
  rintro j ρ g ⟨hj,hwg,hle,q0,q1,q5,q14,q15,hs⟩
  rcases Nat.lt_or_ge j n with h3|h3
  ·simp only[go_sem,q0,q1,q5,q14,q15,ltT h3]
   refine zat_calls (ha.mono ZwL.grows hle) fun w b x g1 hw1 hl1 nw e1 wz1=> ?_
   simp only[go_sem,q0,q1,q5,q14,q15]
   refine zat_calls (hb.mono ZwL.grows (H.le_trans hle hl1)) fun w2 b2 x2 g2 hw2 hl2 nw2 e2 wz2=> ?_
   have ex1:(zs.getD j 0).natAbs=x:=by rw[e1,sg_abs]
   have ex2:(ys.getD j 0).natAbs=x2:=by rw[e2,sg_abs]
   have hB1:=wz1.big (by omega)
   have hB2:=wz2.big (by omega)
   have hB3:=wz1.bigs wz2 (by omega)
   rw[ex1] at hB1
   rw[ex2] at hB2
   rw[ex1,ex2] at hB3
   simp only[go_sem,q0,q1,q5,q14,q15]
   refine zSub_calls (nw.mono hl2) nw2 hB1 hB2 hB3 fun r g3 hw3 hl3 hr=> ?_
   rw[←e1,←e2] at hr
   have l3:=(H.le_trans hle (H.le_trans hl1 hl2))
   have hs3:=hs.mono ZbL.grows ((H.le_trans hl1 (H.le_trans hl2 hl3)))
   rw[show zs.getD j 0-ys.getD j 0=F j by rw[hF]] at hr
   have hof:=(hr.base (d:=h.next) l3.1).off hs3 (by decide)
   have hWz:Wz (W+1) (F j):=by rw[hF];exact wz1.sub wz2
   obtain⟨a0,a1,rfl,oa0,oa1⟩:=hr.two
   obtain⟨io',rr,e0',hbi,hin,hrr,ho,hz,hcl,hput⟩:=hs3.putz hw3 (by omega) (j:=j) (by rw[rowF_len];exact h3)
   injection e0' with e0'
   subst e0'
   have hput:=hput [a0,a1] (F j) rfl ⟨hof,hWz⟩
   rw[upF_step] at hput
   simp only[go_sem,q0,q1,q5,q14,q15]
   refine⟨by omega,by omega, ?_⟩
   simp only[go_sem,hrr,q0,q1,q5,q14,q15]
   refine⟨by trivial,all2b oa0 oa1,by rw[ho];simp,hcl, ?_⟩
   simp only[go_sem,q0,q1,q5,q14,q15,incI (i:=j) (by omega)]
   exact⟨by omega,H.wf_set hw3 hin _,H.le_set hw (H.le_trans l3 hl3) hbi _,by first|rfl|trivial|assumption,by first|rfl|trivial|assumption,by first|rfl|trivial|assumption,by first|rfl|trivial|assumption,by first|rfl|trivial|assumption,hput⟩
  ·obtain rfl:j=n:=by omega
   simp only[go_sem,q5,q14,q15,ltF (Nat.le_refl j)]
   rw[upF_all] at hs
   exact⟨hwg,hle,hs⟩
 rintro ρ g ⟨hwg,hle,hs⟩
 simp only[go_sem]
 refine ztrim_live (by omega) hs (fun g l z hx=>hx.zw (by omega)) (by rw[rowF_len];omega) fun r ws hy hty hyl=> ?_
 simp only[go_sem]
 rw[rowF_len] at hyl
 refine fun hw'=>hk r ws g hw' hle hy (hty.congr fun i=> ?_) (by omega)
 rw[rowF_getD,hF]
 split
 ·rfl
 ·rw[getG_out (by omega),getG_out (by omega)]
  rfl
theorem zsmall_calls {k:Nat} (nw:Nn h w x) (hx:wlen x≤100000) (hk64:k<18446744073709551616) (hk:∀r h',h'.wf→h.le h'→Zf h.next h' r (sg b x*(k:Int))→K r h'):ACalls Try.prog 47 [.agg [w, .bool b], .int .u64 (k:Int)] h K:=by
 refine in_polyz_small (by simp) fun hw=> ?_
 unfold c_polyz_small
 have hsg:sg b x*(k:Int)=sg b (x*k):=by
  cases b<;>simp[sg,Int.neg_mul]
 rw[hsg] at hk
 simp only[go_sem]
 simp only[AV.cells,List.length_cons,List.length_nil,Nat.zero_add,Nat.reduceAdd]
 refine⟨rfl, ?_⟩
 generalize hh:(h.new ⟨some 45,2,_⟩).new ⟨some 45,2,_⟩=h1
 obtain⟨hl1,hw1,hn1,r1,r2⟩:=new2 hw hh
 have hR:(h.new ⟨some 45,2,[w, .bool b]⟩).next=h.next+1:=rfl
 have hBk:Big (x*k):=by
  have h5:Wz (100000+1) ((x:Int)*(k:Int)):=Wz.mul hx (wlen_le.2 (by rw[Nat.pow_one];exact hk64))
  have h6:=h5.big (by omega)
  rw[Int.natAbs_mul] at h6
  exact h6
 simp only[go_sem,hR,(g2 r1).1,Nat.add_zero]
 refine lMulWord_calls (nw.mono hl1) hk64 fun r h2 hw2 hl2 hr=> ?_
 have r1:=hl2.2 _ _ r1
 have r2:=hl2.2 _ _ r2
 have l02:=H.le_trans hl1 hl2
 cases b
 ·simp only[go_sem,hR,(g2 r1).2.1,Nat.zero_add,bldI hr.one]
  refine⟨by trivial,all2 hr.one,put2 hw hw2 l02 (by omega) r2 rfl fun g hwg hlg hg _ e1=> ?_⟩
  simp only[go_sem,hg]
  have:=sg_zf (b:=false) ((hr.base (b':=h.next) hl1.1).lee2 r2 e1)
  rw[Bool.false_and] at this
  exact fun _=>hk _ g hwg hlg this
 ·simp only[go_sem,hR,(g2 r1).2.1,Nat.zero_add]
  refine Zero_calls (hr.nn hBk) ?_
  have e1:(!decide (x*k=0))=decide (x*k≠0):=by simp
  simp only[go_sem,e1,bldI hr.one]
  refine⟨by trivial,all2 hr.one,put2 hw hw2 l02 (by omega) r2 rfl fun g hwg hlg hg _ e1=> ?_⟩
  simp only[go_sem,hg]
  have:=sg_zf (b:=true) ((hr.base (b':=h.next) hl1.1).lee2 r2 e1)
  rw[Bool.true_and] at this
  exact fun _=>hk _ g hwg hlg this
end
end
end Ab
end Go.Proofs.Ytkbglkjpdndkiaa
