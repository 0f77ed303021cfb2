/- Joined texts: I1 I2 I3 I4 I5 I6 I7 I8 I9 I10 I14 I15 I16 I17. No condition. -/
import Derived.Test.YtnlkbdmmoplkoaaGreatDoorZ12
import Derived.Test.YtnlkbdmmoplkoaaGreatDoorProg
import Derived.KernelRfl
namespace Go.Proofs.YtnlkbdmmoplkoaaGreatDoor
namespace Ab
open Go Go.RowKit
set_option linter.unusedSimpArgs false
set_option linter.unusedVariables false
attribute [local go_sem ↓] x_mv x_pick x_bin x_beq x_peq x_seq x_cat x_aeq x_idxS x_idxV x_un x_cvI x_bts x_idx x_idxA x_fld x_ld x_st x_nn x_prt x_slc x_mk x_bsl x_bld x_box x_alloc x_len x_capo x_mnx x_app x_cpy x_mkf x_ext x_call x_callV x_bad s_none s_some s_nil s_cons s_chks w_skip w_reg tP_fin tP_no tP_alt w_seq w_cond w_block w_exit w_ret t_normal t_exit t_ret b_normal b_ret b_exit n_normal n_exit n_ret p_normal p_ret f_nil f_t f_c k_ops k_chk k_fin
attribute [local go_sem] e_t e_c e_f u_some u_none u_at env_at k_v k_pick k_add k_sub k_mul k_quo k_rem k_and k_or k_xor k_shl k_shr k_eql k_neq k_lss k_leq k_gtr k_geq k_beq k_peqn k_peqs k_neg k_not k_com k_cvI k_idxS k_idxV1 k_idxVn k_idx k_idxA k_idxG k_ldG k_gld k_seq k_cat k_aeq k_eqs k_fld k_ld1 k_ldn k_get k_gets k_sti k_stb k_stp k_sts k_stf k_sta k_put k_nn k_prt1 k_prtn k_slc_a k_slc_b k_slc_c k_mk k_agg k_bsl k_box k_len k_lenS k_cap k_max k_min k_ext k_callV k_true k_false k_gtt k_gtf k_gft k_gsk k_gff k_lit1i k_lit2i k_lit3i k_c0 k_c1 k_ck List.getElem?_cons_zero List.getElem?_cons_succ List.getElem?_nil Option.getD_some Option.getD_none tupOf List.map_cons List.map_nil Option.map_some Option.map_none List.nil_append List.cons_append List.append_nil Nat.mul_one Int.toNat_natCast Nat.zero_add
attribute [local go_sem] e_t e_c e_f u_some u_none u_at env_at k_v k_pick k_add k_sub k_mul k_quo k_rem k_and k_or k_xor k_shl k_shr k_eql k_neq k_lss k_leq k_gtr k_geq k_beq k_peqn k_peqs k_neg k_not k_com k_cvI k_idxS k_idxV1 k_idxVn k_idx k_idxA k_idxG k_ldG k_gld k_seq k_cat k_aeq k_eqs k_fld k_ld1 k_ldn k_get k_gets k_sti k_stb k_stp k_sts k_stf k_sta k_put k_nn k_prt1 k_prtn k_slc_a k_slc_b k_slc_c k_mk k_agg k_bsl k_box k_len k_lenS k_cap k_max k_min k_ext k_callV k_true k_false k_gtt k_gtf k_gft k_gsk k_gff k_lit1i k_lit2i k_lit3i k_c0 k_c1 k_ck List.getElem?_cons_zero List.getElem?_cons_succ List.getElem?_nil Option.getD_some Option.getD_none tupOf List.map_cons List.map_nil Option.map_some Option.map_none List.nil_append List.cons_append List.append_nil Nat.mul_one Int.toNat_natCast Nat.zero_add
--what a store into a cell of two leaves
attribute [local go_sem_proc] Nat.reduceEqDiff Nat.reduceAdd Int.reduceToNat
attribute [local go_sem_proc ↓] reduceIte
attribute [local go_sem] Bool.false_eq_true
section
def sg (b:Bool) (x:Nat):Int:=if b=true then-(x:Int) else(x:Int)
theorem sg_abs (b:Bool) (x:Nat):(sg b x).natAbs=x:=by cases b<;>simp[sg]
theorem sg_zero (b:Bool):sg b 0=0:=by cases b<;>rfl
theorem sg_made {b:Bool} {x:Nat}:sg (b&&decide (x≠0)) x=sg b x:=by
 by_cases h:x=0
 ·subst h;rw[sg_zero,sg_zero]
 ·rw[decide_eq_true h,Bool.and_true]
theorem sg_tdiv {a b:Bool} {x y:Nat}:(sg a x).tdiv (sg b y)=sg (a !=b) (x/y):=by
 cases a<;>cases b<;>simp[sg,Int.neg_tdiv,Int.tdiv_neg,tdivN]
theorem sg_tmod {a b:Bool} {x y:Nat}:(sg a x).tmod (sg b y)=sg a (x%y):=by
 cases a<;>cases b<;>simp[sg,Int.neg_tmod,Int.tmod_neg,tmodN]
def Zf (c:Nat) (h:H) (v:AV) (z:Int):Prop:=∃w b x,v= .agg [w, .bool b]∧Nf c h w x∧(x=0→b=false)∧z=sg b x
def Zr (h:H) (v:AV) (z:Int):Prop:=∃w b x,v= .agg [w, .bool b]∧Num 4294967296 h w x∧(x=0→b=false)∧z=sg b x
theorem Zf.mono {c:Nat} {h h':H} {v:AV} {z:Int} (hv:Zf c h v z) (hl:h.le h'):Zf c h' v z:=by
 obtain⟨w,b,x,e,h1,h2⟩:=hv
 exact⟨w,b,x,e,h1.mono hl,h2⟩
theorem Zr.mono {h h':H} {v:AV} {z:Int} (hv:Zr h v z) (hl:h.le h'):Zr h' v z:=by
 obtain⟨w,b,x,e,h1,h2⟩:=hv
 exact⟨w,b,x,e,h1.mono hl,h2⟩
theorem Zf.base {c d:Nat} {h:H} {v:AV} {z:Int} (hv:Zf c h v z) (hd:d≤c):Zf d h v z:=by
 obtain⟨w,b,x,e,h1,h2⟩:=hv
 exact⟨w,b,x,e,h1.base hd,h2⟩
theorem Nf.leeT {b i x:Nat} {h g:H} {v:AV} {r:Row} {T:TypeId} (hv:Nf b h v x) (hr:h.rows i=some r) (ho:r.own=some T) (hT:T≠54) (hl:H.lee i h g):Nf b g v x:=by
 obtain⟨xs,⟨id,c,rfl,h1⟩,h2⟩:=hv
 refine⟨xs,⟨id,c,rfl, ?_⟩,h2⟩
 rcases h1 with h1|⟨j,q,rfl,hb,hq,hqo,h3⟩
 ·exact .inl h1
 ·refine .inr ⟨j,q,rfl,hb,hl.2 j q ?_ hq,hqo,h3⟩
  rintro rfl
  rw[hr] at hq
  injection hq with hq
  rw[←hq,ho] at hqo
  injection hqo with hqo
  exact hT hqo
theorem Num.leeT {B i n:Nat} {h g:H} {v:AV} {r:Row} (hv:Num B h v n) (hr:h.rows i=some r) (ho:r.own≠none∧r.esz≠1) (hl:H.lee i h g):Num B g v n:=by
 obtain⟨xs,h1,h2⟩:=hv
 exact⟨xs,IsW.monoE hr ho.1 ho.2 h1 hl,h2⟩
--rows made
theorem new2 {h h':H} {r1 r2:Row} (hw:h.wf) (hh:(h.new r1).new r2=h'):h.le h'∧h'.wf∧h'.next=h.next+2∧h'.rows h.next=some r1∧h'.rows (h.next+1)=some r2:=by
 subst hh
 have hw1:=H.wf_new hw r1
 refine⟨H.le_new hw1 (H.le_new hw (H.le_refl h) r1) r2,H.wf_new hw1 r2,rfl, ?_,H.rows_new _ _⟩
 rw[H.rows_new_ne (by simp[H.new]),H.rows_new]
theorem new3 {h h':H} {r1 r2 r3:Row} (hw:h.wf) (hh:((h.new r1).new r2).new r3=h'):h.le h'∧h'.wf∧h'.next=h.next+3∧h'.rows h.next=some r1∧h'.rows (h.next+1)=some r2∧h'.rows (h.next+2)=some r3:=by
 subst hh
 obtain⟨a1,a2,a3,a4,a5⟩:=new2 (r1:=r1) (r2:=r2) hw rfl
 have l:=H.le_new a2 (H.le_refl _) r3
 exact⟨H.le_trans a1 l,H.wf_new a2 r3,rfl,l.2 _ _ a4,l.2 _ _ a5,H.rows_new _ _⟩
theorem g2 {h:H} {i:Nat} {T:Option TypeId} {a b:AV} (hr:h.rows i=some ⟨T,2,[a,b]⟩):h.get i 0=some a∧h.get i 1=some b∧h.gets i 0 2=some [a,b]:=by
 rw[H.get_of hr,H.get_of hr,H.gets_of hr (by simp)]
 exact⟨rfl,rfl,rfl⟩
theorem bldI {s:AV} {b:Bool} (hs:s.one=true):abuild [.sl none 0 0 none, .bool false] [(0,1,s),(1,1, .bool b)]=some [s, .bool b]:=by
 cases s<;>first|rfl|simp[AV.one] at hs
theorem all2 {s:AV} {b:Bool} (hs:s.one=true):([s, .bool b].all fun x=>x.one)=true:=by
 simp only[List.all_cons,List.all_nil,hs,Bool.true_and,Bool.and_true]
 rfl
theorem put2 {h h':H} {R:Nat} {T:TypeId} {a b:AV} {l:List AV} {K:AV→H→Prop} (hw:h.wf) (hw':h'.wf) (hl:h.le h') (hge:h.next≤R) (hr:h'.rows R=some ⟨some T,2,l⟩) (hll:l.length=2)
  (hk:∀g:H,g.wf→h.le g→g.gets R 0 2=some [a,b]→g.rows R=some ⟨some T,2,[a,b]⟩→H.lee R h' g→K .junk g):putK (h'.rows R) R 0 2 [a,b] h' K:=by
 have e:putAt l 0 [a,b]=[a,b]:=by simp[putAt,hll]
 rw[hr]
 refine⟨by simp,by simp[hll], ?_⟩
 show K .junk (h'.set R ⟨some T,2,putAt l 0 [a,b]⟩)
 rw[e]
 exact hk _ (H.wf_set hw' (H.row_lt hw' hr) _) (H.le_set hw hl hge _) (g2 (H.rows_set _ _ _)).2.2 (H.rows_set _ _ _) (H.lee_set _)
section
variable {v u wa wb:AV} {ba bb:Bool} {x y:Nat} {h:H} {K:AV→H→Prop}
theorem made_calls (nv:Nn h v x) (hk:∀h',h'.wf→h.le h'→K (.agg [v, .bool (ba&&decide (x≠0))]) h'):ACalls Tryz.prog 103 [v, .bool ba] h K:=by
 refine in_num_made (by simp) fun hw=> ?_
 unfold c_num_made
 have hl1:=H.le_new hw (H.le_refl h) ⟨some 27,2,[.sl none 0 0 none, .bool false]⟩
 have hw1:=H.wf_new hw ⟨some 27,2,[.sl none 0 0 none, .bool false]⟩
 have hr1:=H.rows_new h ⟨some 27,2,[.sl none 0 0 none, .bool false]⟩
 have e1:(!decide (x=0))=decide (x≠0):=by simp
 cases ba
 ·simp only[go_sem,bldI nv.one]
  simp only[List.length_cons,List.length_nil,Nat.zero_add,Nat.reduceAdd]
  refine⟨trivial,all2 nv.one,put2 hw hw1 hl1 (Nat.le_refl _) hr1 rfl fun g hwg hlg hg _ _=> ?_⟩
  simp only[go_sem,hg]
  exact fun _=>hk g hwg hlg
 ·simp only[go_sem]
  simp only[List.length_cons,List.length_nil,Nat.zero_add,Nat.reduceAdd]
  refine Zero_calls (nv.mono hl1) ?_
  simp only[go_sem,bldI nv.one]
  simp only[List.length_cons,List.length_nil,Nat.zero_add,Nat.reduceAdd]
  refine⟨trivial,all2 nv.one,put2 hw hw1 hl1 (Nat.le_refl _) hr1 rfl fun g hwg hlg hg _ _=> ?_⟩
  simp only[go_sem,hg,e1]
  exact fun _=>hk g hwg hlg
theorem Num.one {B n:Nat} {h:H} {v:AV} (hv:Num B h v n):v.one=true:=by
 obtain⟨xs,h1,_⟩:=hv
 obtain⟨i,o,c,rfl⟩:=h1.form
 rfl
theorem rZero_calls (nv:Num 4294967296 h v x) (hk:K (.bool (decide (x=0))) h):ACalls Tryz.prog 108 [v] h K:=by
 obtain⟨xs,h1,h2,h3,rfl⟩:=nv
 obtain⟨id,off,c,rfl⟩:=h1.form
 refine in_ref02_Zero (by simp) fun hw=> ?_
 unfold c_ref02_Zero
 have e:((xs.length:Int)==0)=decide (val 4294967296 xs=0):=by
  rw[Bool.eq_iff_iff]
  simp only[beq_iff_eq,decide_eq_true_eq]
  constructor
  ·intro h0
   have:xs=[]:=List.eq_nil_of_length_eq_zero (by omega)
   subst this
   rfl
  ·intro h0
   rcases Nat.eq_zero_or_pos xs.length with h|h
   ·omega
   ·exfalso
    have h4:xs≠ []:=by intro e;subst e;simp at h
    have h5:=val_ge 4294967296 xs h3 h4
    have h6:0<4294967296^(xs.length-1):=Nat.pow_pos (by omega)
    omega
 simp only[go_sem,e]
 exact fun _=>hk
theorem rmade_calls (nv:Num 4294967296 h v x) (hk:∀h',h'.wf→h.le h'→K (.agg [v, .bool (ba&&decide (x≠0))]) h'):ACalls Tryz.prog 99 [v, .bool ba] h K:=by
 refine in_ref17_made (by simp) fun hw=> ?_
 unfold c_ref17_made
 have hl1:=H.le_new hw (H.le_refl h) ⟨some 38,2,[.sl none 0 0 none, .bool false]⟩
 have hw1:=H.wf_new hw ⟨some 38,2,[.sl none 0 0 none, .bool false]⟩
 have hr1:=H.rows_new h ⟨some 38,2,[.sl none 0 0 none, .bool false]⟩
 have e1:(!decide (x=0))=decide (x≠0):=by simp
 have nv1:=nv.one
 cases ba
 ·simp only[go_sem,bldI nv1]
  simp only[List.length_cons,List.length_nil,Nat.zero_add,Nat.reduceAdd]
  refine⟨trivial,all2 nv1,put2 hw hw1 hl1 (Nat.le_refl _) hr1 rfl fun g hwg hlg hg _ _=> ?_⟩
  simp only[go_sem,hg]
  exact fun _=>hk g hwg hlg
 ·simp only[go_sem]
  simp only[List.length_cons,List.length_nil,Nat.zero_add,Nat.reduceAdd]
  refine rZero_calls (nv.mono hl1) ?_
  simp only[go_sem,bldI nv1]
  simp only[List.length_cons,List.length_nil,Nat.zero_add,Nat.reduceAdd]
  refine⟨trivial,all2 nv1,put2 hw hw1 hl1 (Nat.le_refl _) hr1 rfl fun g hwg hlg hg _ _=> ?_⟩
  simp only[go_sem,hg,e1]
  exact fun _=>hk g hwg hlg
theorem sg_zf {c:Nat} {w:AV} {b:Bool} (hw:Nf c h w x):Zf c h (.agg [w, .bool (b&&decide (x≠0))]) (sg b x):=
 ⟨w,_,x,rfl,hw,fun h0=>by simp[h0],sg_made.symm⟩
theorem sg_zr {w:AV} {b:Bool} (hw:Num 4294967296 h w x):Zr h (.agg [w, .bool (b&&decide (x≠0))]) (sg b x):=
 ⟨w,_,x,rfl,hw,fun h0=>by simp[h0],sg_made.symm⟩
theorem sg_add_same {a:Bool} {x y:Nat}:sg a x+sg a y=sg a (x+y):=by
 cases a<;>simp[sg]<;>omega
theorem sg_add_ge {a b:Bool} {x y:Nat} (h:a≠b) (hy:y≤x):sg a x+sg b y=sg a (x-y):=by
 cases a<;>cases b<;>simp[sg] at h⊢<;>omega
theorem sg_add_lt {a b:Bool} {x y:Nat} (h:a≠b) (hy:x≤y):sg a x+sg b y=sg b (y-x):=by
 cases a<;>cases b<;>simp[sg] at h⊢<;>omega
end
end
section
section
variable {v u wa wb:AV} {ba bb:Bool} {x y:Nat} {h:H} {K:AV→H→Prop}
theorem zAdd_calls (na:Nn h wa x) (nb:Nn h wb y) (hx:Big x) (hy:Big y) (hxy:Big (x+y)) (hk:∀r h',h'.wf→h.le h'→Zf h.next h' r (sg ba x+sg bb y)→K r h'):ACalls Tryz.prog 63 [.agg [wa, .bool ba], .agg [wb, .bool bb]] h K:=by
 refine in_num_Add (by simp) fun hw=> ?_
 unfold c_num_Add
 simp only[go_sem]
 simp only[AV.cells,List.length_cons,List.length_nil,Nat.zero_add,Nat.reduceAdd]
 refine⟨rfl,rfl, ?_⟩
 generalize hh:((h.new ⟨some 27,2,_⟩).new ⟨some 27,2,_⟩).new ⟨some 27,2,_⟩=h1
 obtain⟨hl1,hw1,hn1,r1,r2,r3⟩:=new3 hw hh
 obtain⟨a1,a2,a3⟩:=g2 r1
 obtain⟨b1,b2,b3⟩:=g2 r2
 have na1:=na.mono hl1
 have nb1:=nb.mono hl1
 change∀r h',h'.wf→h.le h'→Zf h.next h' r (sg ba x+sg bb y)→K r h' at hk
 have hR:(h.new ⟨some 27,2,[wa, .bool ba]⟩).next=h.next+1:=rfl
 have hR2:((h.new ⟨some 27,2,[wa, .bool ba]⟩).new ⟨some 27,2,[wb, .bool bb]⟩).next=h.next+2:=rfl
 --what follows the last call
 have fin:∀(h3:H) (r:AV) (c:Bool) (z:Nat) (Q:AV→H→Prop),h3.wf→h1.le h3→Nf h1.next h3 r z→(∀g:H,g.wf→h.le g→g.gets (h.next+2) 0 2=some [r, .bool (c&&decide (z≠0))]→Nf h.next g r z→Q .junk g)→putK (h3.rows (h.next+2)) (h.next+2) 0 2 [r, .bool (c&&decide (z≠0))] h3 Q:=fun h3 r c z Q hw3 hl3 hr hQ=>
  put2 hw hw3 (H.le_trans hl1 hl3) (by omega) (hl3.2 _ _ r3) rfl fun g hwg hlg hg _ hle=>hQ g hwg hlg hg ((hr.base hl1.1).leeT (hl3.2 _ _ r3) rfl (by decide) hle)
 by_cases hab:ba=bb
 ·subst hab
  rw[sg_add_same] at hk
  simp only[go_sem,hR,hR2,a1,a2,b1,b2,Nat.zero_add,beq_self_eq_true]
  refine lAdd_calls na1 nb1 fun r h2 hw2 hl2 hr=> ?_
  obtain⟨c1,c2,c3⟩:=g2 (hl2.2 _ _ r1)
  simp only[go_sem,hR,hR2,c1,c2,Nat.zero_add]
  refine⟨by simp, ?_⟩
  refine made_calls (hr.nn hxy) fun h3 hw3 hl3=> ?_
  simp only[go_sem,hR,hR2]
  refine⟨rfl,all2 hr.one,fin h3 r ba _ _ hw3 (H.le_trans hl2 hl3) (hr.mono hl3) fun g hwg hlg hg hz=> ?_⟩
  simp only[go_sem,hg]
  exact fun _=>hk _ g hwg hlg (sg_zf hz)
 ·have hbe:(ba==bb)=false:=by simpa using hab
  simp only[go_sem,hR,hR2,a1,a2,b1,b2,Nat.zero_add,hbe]
  refine lSub_calls na1 nb1 (fun hlt _=> ?_) fun hge r h2 hw2 hl2 hr=> ?_
  ·rw[sg_add_lt hab (by omega)] at hk
   simp only[go_sem,hR,hR2,a1,a2,b1,b2,Nat.zero_add]
   refine lSub_calls nb1 na1 (fun h=>absurd h (by omega)) fun _ r h2 hw2 hl2 hr=> ?_
   obtain⟨c1,c2,c3⟩:=g2 (hl2.2 _ _ r2)
   simp only[go_sem,hR,hR2,c1,c2,Nat.zero_add]
   refine made_calls (hr.nn (hy.le (by omega))) fun h3 hw3 hl3=> ?_
   simp only[go_sem,hR,hR2]
   refine⟨rfl,all2 hr.one,fin h3 r bb _ _ hw3 (H.le_trans hl2 hl3) (hr.mono hl3) fun g hwg hlg hg hz=> ?_⟩
   simp only[go_sem,hg]
   exact fun _=>hk _ g hwg hlg (sg_zf hz)
  ·rw[sg_add_ge hab hge] at hk
   obtain⟨c1,c2,c3⟩:=g2 (hl2.2 _ _ r1)
   simp only[go_sem,hR,hR2,c1,c2,Nat.zero_add]
   refine made_calls (hr.nn (hx.le (by omega))) fun h3 hw3 hl3=> ?_
   simp only[go_sem,hR,hR2]
   refine⟨rfl,all2 hr.one,fin h3 r ba _ _ hw3 (H.le_trans hl2 hl3) (hr.mono hl3) fun g hwg hlg hg hz=> ?_⟩
   simp only[go_sem,hg]
   exact fun _=>hk _ g hwg hlg (sg_zf hz)
theorem zrFrom_calls (nv:Nn h wa x) (hk:∀r h',h'.wf→h.le h'→Zr h' r (sg ba x)→K r h'):ACalls Tryz.prog 28 [.agg [wa, .bool ba]] h K:=by
 refine in_ref17_From (by simp) fun hw=> ?_
 unfold c_ref17_From
 simp only[go_sem]
 simp only[AV.cells,List.length_cons,List.length_nil,Nat.zero_add,Nat.reduceAdd]
 refine⟨rfl, ?_⟩
 generalize hh:(h.new ⟨some 27,2,_⟩).new ⟨some 38,2,_⟩=h1
 obtain⟨hl1,hw1,hn1,r1,r2⟩:=new2 hw hh
 obtain⟨a1,a2,a3⟩:=g2 r1
 have hR:(h.new ⟨some 27,2,[wa, .bool ba]⟩).next=h.next+1:=rfl
 simp only[go_sem,hR,a1,a2,Nat.zero_add]
 obtain⟨xs,v1,v2,v3,rfl⟩:=nv.mono hl1
 refine From_calls v1 v2 v3 fun r h2 hw2 hl2 hr=> ?_
 obtain⟨b1,b2,b3⟩:=g2 (hl2.2 _ _ r1)
 simp only[go_sem,hR,b1,b2,Nat.zero_add]
 refine⟨by simp, ?_⟩
 refine rmade_calls hr fun h3 hw3 hl3=> ?_
 have l13:=H.le_trans hl2 hl3
 simp only[go_sem,hR]
 refine⟨rfl,all2 hr.one,put2 hw hw3 (H.le_trans hl1 l13) (by omega) (l13.2 _ _ r2) rfl fun g hwg hlg hg _ hle=> ?_⟩
 simp only[go_sem,hg]
 exact fun _=>hk _ g hwg hlg (sg_zr ((hr.mono hl3).leeT (l13.2 _ _ r2) (by simp) hle))
theorem zrTo_calls (nv:Num 4294967296 h v x) (hx:Big x) (h0:x=0→ba=false) (hk:∀r h',h'.wf→h.le h'→Zf h.next h' r (sg ba x)→K r h'):ACalls Tryz.prog 30 [.agg [v, .bool ba]] h K:=by
 refine in_ref17_To (by simp) fun hw=> ?_
 unfold c_ref17_To
 simp only[go_sem]
 simp only[AV.cells,List.length_cons,List.length_nil,Nat.zero_add,Nat.reduceAdd]
 refine⟨rfl, ?_⟩
 generalize hh:(h.new ⟨some 38,2,_⟩).new ⟨some 27,2,_⟩=h1
 obtain⟨hl1,hw1,hn1,r1,r2⟩:=new2 hw hh
 obtain⟨a1,a2,a3⟩:=g2 r1
 have hR:(h.new ⟨some 38,2,[v, .bool ba]⟩).next=h.next+1:=rfl
 simp only[go_sem,hR,a1,a2,Nat.zero_add]
 refine To_calls (nv.mono hl1) hx fun r h2 hw2 hl2 hr=> ?_
 obtain⟨b1,b2,b3⟩:=g2 (hl2.2 _ _ r1)
 simp only[go_sem,hR,b1,b2,Nat.zero_add]
 refine⟨by simp, ?_⟩
 simp only[go_sem,bldI hr.one,hR]
 refine⟨rfl,all2 hr.one,put2 hw hw2 (H.le_trans hl1 hl2) (by omega) (hl2.2 _ _ r2) rfl fun g hwg hlg hg _ hle=> ?_⟩
 simp only[go_sem,hg]
 exact fun _=>hk _ g hwg hlg ⟨r,ba,x,rfl,(hr.base hl1.1).leeT (hl2.2 _ _ r2) rfl (by decide) hle,h0,rfl⟩
theorem zrAdd_calls (na:Num 4294967296 h wa x) (nb:Num 4294967296 h wb y) (hx:Big x) (hy:Big y) (hk:∀r h',h'.wf→h.le h'→Zr h' r (sg ba x+sg bb y)→K r h'):ACalls Tryz.prog 46 [.agg [wa, .bool ba], .agg [wb, .bool bb]] h K:=by
 refine in_ref17_Add (by simp) fun hw=> ?_
 unfold c_ref17_Add
 simp only[go_sem]
 simp only[AV.cells,List.length_cons,List.length_nil,Nat.zero_add,Nat.reduceAdd]
 refine⟨rfl,rfl, ?_⟩
 generalize hh:((h.new ⟨some 38,2,_⟩).new ⟨some 38,2,_⟩).new ⟨some 38,2,_⟩=h1
 obtain⟨hl1,hw1,hn1,r1,r2,r3⟩:=new3 hw hh
 obtain⟨a1,a2,a3⟩:=g2 r1
 obtain⟨b1,b2,b3⟩:=g2 r2
 have na1:=na.mono hl1
 have nb1:=nb.mono hl1
 have hR:(h.new ⟨some 38,2,[wa, .bool ba]⟩).next=h.next+1:=rfl
 have hR2:((h.new ⟨some 38,2,[wa, .bool ba]⟩).new ⟨some 38,2,[wb, .bool bb]⟩).next=h.next+2:=rfl
 have fin:∀(h3:H) (r:AV) (c:Bool) (z:Nat) (Q:AV→H→Prop),h3.wf→h1.le h3→Num 4294967296 h3 r z→(∀g:H,g.wf→h.le g→g.gets (h.next+2) 0 2=some [r, .bool (c&&decide (z≠0))]→Num 4294967296 g r z→Q .junk g)→putK (h3.rows (h.next+2)) (h.next+2) 0 2 [r, .bool (c&&decide (z≠0))] h3 Q:=fun h3 r c z Q hw3 hl3 hr hQ=>
  put2 hw hw3 (H.le_trans hl1 hl3) (by omega) (hl3.2 _ _ r3) rfl fun g hwg hlg hg _ hle=>hQ g hwg hlg hg (hr.leeT (hl3.2 _ _ r3) (by simp) hle)
 by_cases hab:ba=bb
 ·subst hab
  rw[sg_add_same] at hk
  simp only[go_sem,hR,hR2,a1,a2,b1,b2,Nat.zero_add,beq_self_eq_true]
  refine Add_calls na1 nb1 hx hy fun r h2 hw2 hl2 hr=> ?_
  obtain⟨c1,c2,c3⟩:=g2 (hl2.2 _ _ r1)
  simp only[go_sem,hR,hR2,c1,c2,Nat.zero_add]
  refine⟨by simp, ?_⟩
  refine rmade_calls hr fun h3 hw3 hl3=> ?_
  simp only[go_sem,hR,hR2]
  refine⟨rfl,all2 hr.one,fin h3 r ba _ _ hw3 (H.le_trans hl2 hl3) (hr.mono hl3) fun g hwg hlg hg hz=> ?_⟩
  simp only[go_sem,hg]
  exact fun _=>hk _ g hwg hlg (sg_zr hz)
 ·have hbe:(ba==bb)=false:=by simpa using hab
  simp only[go_sem,hR,hR2,a1,a2,b1,b2,Nat.zero_add,hbe]
  refine Cmp_calls na1 nb1 hx hy ?_
  rcases Nat.lt_or_ge x y with hlt|hge
  ·rw[sg_add_lt hab (by omega)] at hk
   rw[show cmpI x y= -1 by unfold cmpI;rw[if_pos hlt]]
   simp only[go_sem,hR,hR2,a1,a2,b1,b2,Nat.zero_add,show decide ((-1:Int)≥0)=false from rfl]
   refine rSub_calls nb1 na1 hy (by omega) fun r h2 hw2 hl2 hr=> ?_
   obtain⟨c1,c2,c3⟩:=g2 (hl2.2 _ _ r2)
   simp only[go_sem,hR,hR2,c1,c2,Nat.zero_add]
   refine⟨by simp, ?_⟩
   refine rmade_calls hr fun h3 hw3 hl3=> ?_
   simp only[go_sem,hR,hR2]
   refine⟨rfl,all2 hr.one,fin h3 r bb _ _ hw3 (H.le_trans hl2 hl3) (hr.mono hl3) fun g hwg hlg hg hz=> ?_⟩
   simp only[go_sem,hg]
   exact fun _=>hk _ g hwg hlg (sg_zr hz)
  ·rw[sg_add_ge hab hge] at hk
   have hc:decide (cmpI x y≥0)=true:=by
    unfold cmpI
    rw[if_neg (by omega)]
    split<;>rfl
   simp only[go_sem,hR,hR2,a1,a2,b1,b2,Nat.zero_add,hc]
   refine rSub_calls na1 nb1 hx hge fun r h2 hw2 hl2 hr=> ?_
   obtain⟨c1,c2,c3⟩:=g2 (hl2.2 _ _ r1)
   simp only[go_sem,hR,hR2,c1,c2,Nat.zero_add]
   refine⟨by simp, ?_⟩
   refine rmade_calls hr fun h3 hw3 hl3=> ?_
   simp only[go_sem,hR,hR2]
   refine⟨rfl,all2 hr.one,fin h3 r ba _ _ hw3 (H.le_trans hl2 hl3) (hr.mono hl3) fun g hwg hlg hg hz=> ?_⟩
   simp only[go_sem,hg]
   exact fun _=>hk _ g hwg hlg (sg_zr hz)
end
end
section
section
variable {c i n x:Nat} {z:Int} {h g:H} {v:AV} {T:TypeId} {l:List AV}
theorem Nn.lee2 (hv:Nn h v x) (hr:h.rows i=some ⟨some T,2,l⟩) (hl:H.lee i h g):Nn g v x:=by
 obtain⟨xs,h1,h2⟩:=hv
 exact⟨xs,IsW.monoE hr (by simp) (by simp) h1 hl,h2⟩
theorem Num.lee2 {B:Nat} (hv:Num B h v n) (hr:h.rows i=some ⟨some T,2,l⟩) (hl:H.lee i h g):Num B g v n:=hv.leeT hr (by simp) hl
theorem Nf.lee2 (hv:Nf c h v x) (hr:h.rows i=some ⟨some T,2,l⟩) (hl:H.lee i h g):Nf c g v x:=by
 obtain⟨xs,⟨id,cc,rfl,h1⟩,h2⟩:=hv
 refine⟨xs,⟨id,cc,rfl, ?_⟩,h2⟩
 rcases h1 with h1|⟨j,q,rfl,hb,hq,hqo,hz,h3⟩
 ·exact .inl h1
 ·refine .inr ⟨j,q,rfl,hb,hl.2 j q ?_ hq,hqo,hz,h3⟩
  rintro rfl
  rw[hr] at hq
  injection hq with hq
  rw[←hq] at hz
  cases hz
theorem Zf.lee2 (hv:Zf c h v z) (hr:h.rows i=some ⟨some T,2,l⟩) (hl:H.lee i h g):Zf c g v z:=by
 obtain⟨w,b,x,e,h1,h2⟩:=hv
 exact⟨w,b,x,e,h1.lee2 hr hl,h2⟩
theorem Zr.lee2 (hv:Zr h v z) (hr:h.rows i=some ⟨some T,2,l⟩) (hl:H.lee i h g):Zr g v z:=by
 obtain⟨w,b,x,e,h1,h2⟩:=hv
 exact⟨w,b,x,e,h1.lee2 hr hl,h2⟩
theorem Zf.two (hv:Zf c h v z):∃a b:AV,v= .agg [a,b]∧a.one=true∧b.one=true:=by
 obtain⟨w,b,x,rfl,h1,_⟩:=hv
 exact⟨w,_,rfl,h1.one,rfl⟩
theorem Zr.two (hv:Zr h v z):∃a b:AV,v= .agg [a,b]∧a.one=true∧b.one=true:=by
 obtain⟨w,b,x,rfl,h1,_⟩:=hv
 exact⟨w,_,rfl,h1.one,rfl⟩
end
theorem all22 {a b:AV} (ha:a.one=true) (hb:b.one=true):([a,b].all fun x=>x.one)=true:=by simp[ha,hb]
theorem sg_neg {b:Bool} {x:Nat}:sg (!b) x= -sg b x:=by cases b<;>simp[sg]
theorem sg_sign {b:Bool} {x:Nat}:(sg b x).sign=if x=0 then 0 else if b=true then-1 else 1:=by
 by_cases h:x=0
 ·subst h;rw[sg_zero];rfl
 ·rw[if_neg h]
  cases b
  ·simp only[sg]
   exact Int.sign_eq_one_of_pos (by simp;omega)
  ·simp only[sg]
   exact Int.sign_eq_neg_one_of_neg (by simp;omega)
section
variable {v u wa wb:AV} {ba bb:Bool} {x y:Nat} {h:H} {K:AV→H→Prop}
theorem zSign_calls (na:Nn h wa x) (hk:∀h',h'.wf→h.le h'→K (.int .i64 (sg ba x).sign) h'):ACalls Tryz.prog 54 [.agg [wa, .bool ba]] h K:=by
 refine in_api_Int_Sign (by simp) fun hw=> ?_
 unfold c_api_Int_Sign
 rw[sg_sign] at hk
 simp only[go_sem]
 simp only[AV.cells,List.length_cons,List.length_nil,Nat.zero_add,Nat.reduceAdd]
 refine⟨rfl, ?_⟩
 have r1:=H.rows_new h ⟨some 27,2,[wa, .bool ba]⟩
 have hl1:=H.le_new hw (H.le_refl h) ⟨some 27,2,[wa, .bool ba]⟩
 obtain⟨a1,a2,a3⟩:=g2 r1
 simp only[go_sem,a1,Nat.zero_add]
 refine Zero_calls (na.mono hl1) ?_
 by_cases h0:x=0
 ·rw[if_pos h0] at hk
  simp only[go_sem,decide_eq_true h0]
  exact fun hw'=>hk _ hw' hl1
 ·rw[if_neg h0] at hk
  simp only[go_sem,decide_eq_false h0,a2,Nat.zero_add]
  cases ba
  ·simp only[go_sem]
   exact fun hw'=>hk _ hw' hl1
  ·simp only[go_sem]
   exact fun hw'=>hk _ hw' hl1
theorem zSub_calls (na:Nn h wa x) (nb:Nn h wb y) (hx:Big x) (hy:Big y) (hxy:Big (x+y)) (hk:∀r h',h'.wf→h.le h'→Zf h.next h' r (sg ba x-sg bb y)→K r h'):ACalls Tryz.prog 65 [.agg [wa, .bool ba], .agg [wb, .bool bb]] h K:=by
 refine in_num_Sub (by simp) fun hw=> ?_
 unfold c_num_Sub
 simp only[go_sem]
 simp only[AV.cells,List.length_cons,List.length_nil,Nat.zero_add,Nat.reduceAdd]
 refine⟨rfl,rfl, ?_⟩
 generalize hh:((h.new ⟨some 27,2,_⟩).new ⟨some 27,2,_⟩).new ⟨some 27,2,_⟩=h1
 obtain⟨hl1,hw1,hn1,r1,r2,r3⟩:=new3 hw hh
 obtain⟨a1,a2,a3⟩:=g2 r1
 obtain⟨b1,b2,b3⟩:=g2 r2
 have hR:(h.new ⟨some 27,2,[wa, .bool ba]⟩).next=h.next+1:=rfl
 have hR2:((h.new ⟨some 27,2,[wa, .bool ba]⟩).new ⟨some 27,2,[wb, .bool bb]⟩).next=h.next+2:=rfl
 simp only[go_sem,hR,hR2,a3,b1,b2,Nat.zero_add,bldI nb.one]
 refine zAdd_calls (na.mono hl1) (nb.mono hl1) hx hy hxy fun r h2 hw2 hl2 hr=> ?_
 rw[sg_neg] at hr
 obtain⟨c1,c2,rfl,o1,o2⟩:=hr.two
 simp only[go_sem,hR,hR2]
 refine⟨rfl,all22 o1 o2,put2 hw hw2 (H.le_trans hl1 hl2) (by omega) (hl2.2 _ _ r3) rfl fun g hwg hlg hg _ hle=> ?_⟩
 simp only[go_sem,hg]
 exact fun _=>hk _ g hwg hlg ((hr.base hl1.1).lee2 (hl2.2 _ _ r3) hle)
theorem zOf_calls {n:Int} (h1: -9223372036854775808≤n) (h2:n<9223372036854775808) (hk:∀r h',h'.wf→h.le h'→Zf h.next h' r n→K r h'):ACalls Tryz.prog 49 [.int .i64 n] h K:=by
 refine in_num_Of (by simp) fun hw=> ?_
 unfold c_num_Of
 have hl1:=H.le_new hw (H.le_refl h) ⟨some 27,2,[.sl none 0 0 none, .bool false]⟩
 have hw1:=H.wf_new hw ⟨some 27,2,[.sl none 0 0 none, .bool false]⟩
 have hr1:=H.rows_new h ⟨some 27,2,[.sl none 0 0 none, .bool false]⟩
 have fin:∀(b:Bool) (k:Nat),n=sg b k→k<18446744073709551616→∀(h3:H) (r:AV) (Q:AV→H→Prop),h3.wf→(h.new ⟨some 27,2,[.sl none 0 0 none, .bool false]⟩).le h3→Nf (h.next+1) h3 r k→(∀g:H,g.wf→h.le g→g.gets h.next 0 2=some [r, .bool (b&&decide (k≠0))]→Zf h.next g (.agg [r, .bool (b&&decide (k≠0))]) n→Q .junk g)→putK (h3.rows h.next) h.next 0 2 [r, .bool (b&&decide (k≠0))] h3 Q:=fun b k hn hk3 h3 r Q hw3 hl3 hr hQ=>
  put2 hw hw3 (H.le_trans hl1 hl3) (Nat.le_refl _) (hl3.2 _ _ hr1) rfl fun g hwg hlg hg _ hle=>hQ g hwg hlg hg (by rw[hn];exact sg_zf ((hr.base (Nat.le_succ _)).lee2 (hl3.2 _ _ hr1) hle))
 by_cases hn:n<0
 ·obtain⟨k,hkn⟩:∃k:Nat,n= -(k:Int):=⟨n.natAbs,by omega⟩
  have e1:IntKind.u64.wrap (0-IntKind.u64.wrap n)=(k:Int):=by
   rw[wUm,wUm,hkn]
   omega
  simp only[go_sem,decide_eq_true hn]
  simp only[List.length_cons,List.length_nil,Nat.zero_add,Nat.reduceAdd]
  simp only[go_sem,e1]
  refine One_calls (x:=k) (by omega) fun r h2 hw2 hl2 hr=> ?_
  simp only[go_sem]
  refine made_calls (hr.nn (word_big (by omega))) fun h3 hw3 hl3=> ?_
  simp only[go_sem]
  refine⟨rfl,all2 hr.one,fin true k (by simp[sg,hkn]) (by omega) h3 r _ hw3 (H.le_trans hl2 hl3) (hr.mono hl3) fun g hwg hlg hg hz=> ?_⟩
  simp only[go_sem,hg]
  exact fun _=>hk _ g hwg hlg hz
 ·obtain⟨k,hkn⟩:∃k:Nat,n=(k:Int):=⟨n.toNat,by omega⟩
  have e1:IntKind.u64.wrap n=(k:Int):=by
   rw[hkn,wU]<;>omega
  simp only[go_sem,decide_eq_false hn]
  simp only[List.length_cons,List.length_nil,Nat.zero_add,Nat.reduceAdd]
  simp only[go_sem,e1]
  refine One_calls (x:=k) (by omega) fun r h2 hw2 hl2 hr=> ?_
  simp only[go_sem]
  refine made_calls (hr.nn (word_big (by omega))) fun h3 hw3 hl3=> ?_
  simp only[go_sem]
  refine⟨rfl,all2 hr.one,fin false k (by simp[sg,hkn]) (by omega) h3 r _ hw3 (H.le_trans hl2 hl3) (hr.mono hl3) fun g hwg hlg hg hz=> ?_⟩
  simp only[go_sem,hg]
  exact fun _=>hk _ g hwg hlg hz
end
end
section
def floQ (a b:Int):Int:=if a.tmod b≠0∧decide (a.tmod b<0)≠decide (b<0) then a.tdiv b-1 else a.tdiv b
def floR (a b:Int):Int:=if a.tmod b≠0∧decide (a.tmod b<0)≠decide (b<0) then a.tmod b+b else a.tmod b
theorem sg_lt0 {b:Bool} {x:Nat} (h:x=0→b=false):b=decide (sg b x<0):=by
 cases b
 ·simp[sg]
 ·have:x≠0:=fun h0=>by cases h h0
  simp[sg];omega
section
variable {v u wa wb:AV} {ba bb:Bool} {x y:Nat} {h:H} {K:AV→H→Prop}
theorem zrSmall_calls {n:Int} (h1: -9223372036854775808<n) (h2:n<9223372036854775808) (hk:∀r h',h'.wf→h.le h'→Zr h' r n→K r h'):ACalls Tryz.prog 47 [.int .i64 n] h K:=by
 refine in_ref17_Small (by simp) fun hw=> ?_
 unfold c_ref17_Small
 have hl1:=H.le_new hw (H.le_refl h) ⟨some 38,2,[.sl none 0 0 none, .bool false]⟩
 have hw1:=H.wf_new hw ⟨some 38,2,[.sl none 0 0 none, .bool false]⟩
 have hr1:=H.rows_new h ⟨some 38,2,[.sl none 0 0 none, .bool false]⟩
 have fin:∀(b:Bool) (k:Nat),n=sg b k→∀(h3:H) (r:AV) (Q:AV→H→Prop),h3.wf→(h.new ⟨some 38,2,[.sl none 0 0 none, .bool false]⟩).le h3→Num 4294967296 h3 r k→(∀g:H,g.wf→h.le g→g.gets h.next 0 2=some [r, .bool (b&&decide (k≠0))]→Zr g (.agg [r, .bool (b&&decide (k≠0))]) n→Q .junk g)→putK (h3.rows h.next) h.next 0 2 [r, .bool (b&&decide (k≠0))] h3 Q:=fun b k hn h3 r Q hw3 hl3 hr hQ=>
  put2 hw hw3 (H.le_trans hl1 hl3) (Nat.le_refl _) (hl3.2 _ _ hr1) rfl fun g hwg hlg hg _ hle=>hQ g hwg hlg hg (by rw[hn];exact sg_zr (hr.lee2 (hl3.2 _ _ hr1) hle))
 by_cases hn:n<0
 ·obtain⟨k,hkn⟩:∃k:Nat,n= -(k:Int):=⟨n.natAbs,by omega⟩
  have e0:IntKind.i64.wrap (0-n)=(k:Int):=(wI (by omega) (by omega)).trans (by omega)
  have e1:IntKind.u64.wrap (k:Int)=(k:Int):=wUn (by omega)
  simp only[go_sem,decide_eq_true hn]
  simp only[List.length_cons,List.length_nil,Nat.zero_add,Nat.reduceAdd]
  simp only[go_sem,e0,e1]
  refine Small_calls (x:=k) (by omega) fun r h2 hw2 hl2 hr=> ?_
  simp only[go_sem]
  refine rmade_calls hr fun h3 hw3 hl3=> ?_
  simp only[go_sem]
  refine⟨rfl,all2 hr.one,fin true k (by simp[sg,hkn]) h3 r _ hw3 (H.le_trans hl2 hl3) (hr.mono hl3) fun g hwg hlg hg hz=> ?_⟩
  simp only[go_sem,hg]
  exact fun _=>hk _ g hwg hlg hz
 ·obtain⟨k,hkn⟩:∃k:Nat,n=(k:Int):=⟨n.toNat,by omega⟩
  have e1:IntKind.u64.wrap n=(k:Int):=by
   rw[hkn,wU]<;>omega
  simp only[go_sem,decide_eq_false hn]
  simp only[List.length_cons,List.length_nil,Nat.zero_add,Nat.reduceAdd]
  simp only[go_sem,e1]
  refine Small_calls (x:=k) (by omega) fun r h2 hw2 hl2 hr=> ?_
  simp only[go_sem]
  refine rmade_calls hr fun h3 hw3 hl3=> ?_
  simp only[go_sem]
  refine⟨rfl,all2 hr.one,fin false k (by simp[sg,hkn]) h3 r _ hw3 (H.le_trans hl2 hl3) (hr.mono hl3) fun g hwg hlg hg hz=> ?_⟩
  simp only[go_sem,hg]
  exact fun _=>hk _ g hwg hlg hz
end
end
theorem sg_lt0' {b:Bool} {x:Nat} (h:0<x):b=decide (sg b x<0):=sg_lt0 (fun h0=>by omega)
theorem zr_open {h:H} {v:AV} {z:Int} (hv:Zr h v z):∃w,v= .agg [w, .bool (decide (z<0))]∧Num 4294967296 h w z.natAbs:=by
 obtain⟨w,b,x,rfl,h1,h2,rfl⟩:=hv
 rw[sg_abs,←sg_lt0 h2]
 exact⟨w,rfl,h1⟩
theorem zf_open {c:Nat} {h:H} {v:AV} {z:Int} (hv:Zf c h v z):∃w,v= .agg [w, .bool (decide (z<0))]∧Nf c h w z.natAbs:=by
 obtain⟨w,b,x,rfl,h1,h2,rfl⟩:=hv
 rw[sg_abs,←sg_lt0 h2]
 exact⟨w,rfl,h1⟩
theorem sg_self {z:Int}:sg (decide (z<0)) z.natAbs=z:=by
 unfold sg
 by_cases h:z<0
 ·rw[decide_eq_true h,if_pos rfl];omega
 ·rw[decide_eq_false h,if_neg (by simp)];omega
section
theorem put2E {u:Nat} {h h':H} {R:Nat} {T:TypeId} {a b:AV} {l:List AV} {K:AV→H→Prop} (hw:h.wf) (hw':h'.wf) (hl:H.lee u h h') (hge:h.next≤R) (hr:h'.rows R=some ⟨some T,2,l⟩) (hll:l.length=2)
  (hk:∀g:H,g.wf→H.lee u h g→g.gets R 0 2=some [a,b]→g.rows R=some ⟨some T,2,[a,b]⟩→H.lee R h' g→K .junk g):putK (h'.rows R) R 0 2 [a,b] h' K:=by
 have e:putAt l 0 [a,b]=[a,b]:=by simp[putAt,hll]
 rw[hr]
 refine⟨by simp,by simp[hll], ?_⟩
 show K .junk (h'.set R ⟨some T,2,putAt l 0 [a,b]⟩)
 rw[e]
 exact hk _ (H.wf_set hw' (H.row_lt hw' hr) _) (H.lee_put hw hl hge _) (g2 (H.rows_set _ _ _)).2.2 (H.rows_set _ _ _) (H.lee_set _)
theorem Tune.lee2 {u R m nw dp:Nat} {t:Tb} {h g:H} (ht:Tune h u m nw dp t) (hl:H.lee R h g) (hR:u≠R):Tune g u m nw dp t:=hl.2 _ _ hR ht
theorem zeroI:abuild [.sl none 0 0 none, .bool false] []=some [.sl none 0 0 none, .bool false]:=rfl
theorem Zf.zero (c:Nat) (h:H):Zf c h (.agg [.sl none 0 0 none, .bool false]) 0:=⟨_,_,0,rfl,Nf.nil c h none,fun _=>rfl,rfl⟩
section
variable {wa wb:AV} {ba bb:Bool} {x y e u m nw dp:Nat} {t:Tb} {h:H} {K:AV→H→Prop}
theorem zTrunc_calls (hT:TbOK t) (he:Eng 10 h e u) (ht:Tune h u m nw dp t) (na:Nn h wa x) (nb:Nn h wb y) (hx:wlen x≤4000) (hy:wlen y≤4000) (hnw:nw≤600000000)
  (hk0:y=0→∀h',h'.wf→h.le h'→K (.tup [.agg [.sl none 0 0 none, .bool false], .agg [.sl none 0 0 none, .bool false], .int .i64 2]) h')
  (hk:0<y→∀q r h' m' dp',h'.wf→H.lee u h h'→Tune h' u m' nw dp' t→Zf h.next h' q ((sg ba x).tdiv (sg bb y))→Zf h.next h' r ((sg ba x).tmod (sg bb y))→K (.tup [q,r, .int .i64 0]) h'):
  ACalls Tryz.prog 56 [.ptr (some (e,0)), .agg [wa, .bool ba], .agg [wb, .bool bb]] h K:=by
 refine in_num_Engine_Trunc (by simp) fun hw=> ?_
 unfold c_num_Engine_Trunc
 have hub:=H.row_lt hw ht
 rw[sg_tdiv,sg_tmod] at hk
 simp only[go_sem]
 simp only[AV.cells,List.length_cons,List.length_nil,Nat.zero_add,Nat.reduceAdd]
 refine⟨rfl,rfl, ?_⟩
 generalize hh2:(h.new ⟨some 27,2,_⟩).new ⟨some 27,2,_⟩=h0
 obtain⟨hl0,hw0,hn0,r1,r2⟩:=new2 hw hh2
 have hR:(h.new ⟨some 27,2,[wa, .bool ba]⟩).next=h.next+1:=rfl
 generalize hh:(h0.new ⟨some 27,2,_⟩).new ⟨some 27,2,_⟩=h1
 obtain⟨hl1,hw1,hn1,r3,r4⟩:=new2 hw0 hh
 have hR3:(h0.new ⟨some 27,2,[.sl none 0 0 none, .bool false]⟩).next=h0.next+1:=rfl
 have l01:=H.le_trans hl0 hl1
 have r1:=hl1.2 _ _ r1
 have r2:=hl1.2 _ _ r2
 have ht1:=ht.mono l01
 obtain⟨f,rfl,rfl,G,E⟩:=Eng.path ht1 (he.mono l01)
 simp only[go_sem,hR,hR3,G 0 (by omega) _ ((H.lee_refl _ _)),G 1 (by omega) _ ((H.lee_refl _ _)),G 2 (by omega) _ ((H.lee_refl _ _)),(g2 r1).1,(g2 r2).1,Nat.zero_add]
 refine DivMod2_calls hT (E 3 (by omega)) ht1 (na.mono l01) (nb.mono l01) hx hy hnw (fun hy0 _=> ?_) fun hy0 q r h2 m2 dp2 hw2 hl2 ht2 _ hq hr=> ?_
 ·simp only[go_sem,show((2:Int) !=0)=true from rfl,zeroI]
  refine⟨by trivial,by trivial,put2 hw hw1 l01 (by omega) r3 rfl fun g1 hwg1 hlg1 hg1 r3 e1=> ?_⟩
  have r4:=e1.2 _ _ (by omega) r4
  simp only[go_sem,hR3]
  refine⟨by trivial,by trivial,put2 hw hwg1 hlg1 (by omega) r4 rfl fun g2' hwg2 hlg2 hg2 _ e2=> ?_⟩
  have r3:=e2.2 _ _ (by omega) r3
  simp only[go_sem,hg2,(g2 r3).2.2]
  exact fun _=>hk0 hy0 g2' hwg2 hlg2
 ·have r1:=hl2.2 _ _ (by omega) r1
  have r2:=hl2.2 _ _ (by omega) r2
  have r3:=hl2.2 _ _ (by omega) r3
  have r4:=hl2.2 _ _ (by omega) r4
  simp only[go_sem,show((0:Int) !=0)=false from rfl,(g2 r1).2.1,(g2 r2).2.1,Nat.zero_add]
  have hbq:Big (x/y):=(wbig hx (by omega)).le (Nat.div_le_self _ _)
  have hbr:Big (x%y):=(wbig hx (by omega)).le (Nat.mod_le _ _)
  refine made_calls (hq.nn hbq) fun h3 hw3 hl3=> ?_
  have r1:=hl3.2 _ _ r1
  have r3:=hl3.2 _ _ r3
  have r4:=hl3.2 _ _ r4
  simp only[go_sem,(g2 r1).2.1,Nat.zero_add]
  refine⟨by simp, ?_⟩
  refine made_calls ((hr.mono hl3).nn hbr) fun h4 hw4 hl4=> ?_
  have r3:=hl4.2 _ _ r3
  have r4:=hl4.2 _ _ r4
  have l24:=H.le_trans hl3 hl4
  have hq:=(hq.mono l24).base l01.1
  have hr:=(hr.mono l24).base l01.1
  have l04:=(l01.lee.trans hl2).trans l24.lee
  simp only[go_sem,hR3]
  refine⟨by trivial,all2 hq.one,put2E hw hw4 l04 (by omega) r3 rfl fun g1 hwg1 hlg1 hg1 r3' e1=> ?_⟩
  have hq:=hq.lee2 r3 e1
  have hr:=hr.lee2 r3 e1
  have r4:=e1.2 _ _ (by omega) r4
  simp only[go_sem,hR3]
  refine⟨by trivial,all2 hr.one,put2E hw hwg1 hlg1 (by omega) r4 rfl fun g2' hwg2 hlg2 hg2 _ e2=> ?_⟩
  have r3':=e2.2 _ _ (by omega) r3'
  simp only[go_sem,hg2,(g2 r3').2.2]
  exact fun _=>hk hy0 _ _ g2' _ _ hwg2 hlg2 (((ht2.mono l24).lee2 e1 (by omega)).lee2 e2 (by omega)) (sg_zf (hq.lee2 r4 e2)) (sg_zf (hr.lee2 r4 e2))
end
end
section
theorem add_big {x y n k:Nat} (hx:wlen x≤n) (hy:wlen y≤k) (h:n+k≤300000):Big (x+y):=by
 have h1:=wlen_le.1 (Nat.le_trans hx (Nat.le_add_right n k))
 have h2:=wlen_le.1 (Nat.le_trans hy (Nat.le_add_left k n))
 refine lt_bigW (k:=n+k+1) ?_ (by omega)
 rw[Nat.pow_succ]
 have:18446744073709551616^(n+k)*2≤18446744073709551616^(n+k)*18446744073709551616:=Nat.mul_le_mul_left _ (by decide)
 omega
section
variable {wa wb:AV} {ba bb:Bool} {x y e u m nw dp:Nat} {t:Tb} {h:H} {K:AV→H→Prop}
theorem zFloor_calls (hT:TbOK t) (he:Eng 10 h e u) (ht:Tune h u m nw dp t) (na:Nn h wa x) (nb:Nn h wb y) (hx:wlen x≤4000) (hy:wlen y≤4000) (hnw:nw≤600000000)
  (hk0:y=0→∀h',h'.wf→h.le h'→K (.tup [.agg [.sl none 0 0 none, .bool false], .agg [.sl none 0 0 none, .bool false], .int .i64 2]) h')
  (hk:0<y→∀q r h' m' dp',h'.wf→H.lee u h h'→Tune h' u m' nw dp' t→Zf h.next h' q (floQ (sg ba x) (sg bb y))→Zf h.next h' r (floR (sg ba x) (sg bb y))→K (.tup [q,r, .int .i64 0]) h'):
  ACalls Tryz.prog 57 [.ptr (some (e,0)), .agg [wa, .bool ba], .agg [wb, .bool bb]] h K:=by
 refine in_num_Engine_Floor (by simp) fun hw=> ?_
 unfold c_num_Engine_Floor
 have hub:=H.row_lt hw ht
 simp only[go_sem]
 simp only[AV.cells,List.length_cons,List.length_nil,Nat.zero_add,Nat.reduceAdd]
 refine⟨rfl,rfl, ?_⟩
 generalize hh2:(h.new ⟨some 27,2,_⟩).new ⟨some 27,2,_⟩=h0
 obtain⟨hl0,hw0,hn0,r1,r2⟩:=new2 hw hh2
 have hR:(h.new ⟨some 27,2,[wa, .bool ba]⟩).next=h.next+1:=rfl
 generalize hh:(h0.new ⟨some 27,2,_⟩).new ⟨some 27,2,_⟩=h1
 obtain⟨hl1,hw1,hn1,r3,r4⟩:=new2 hw0 hh
 have hR3:(h0.new ⟨some 27,2,[.sl none 0 0 none, .bool false]⟩).next=h0.next+1:=rfl
 have l01:=H.le_trans hl0 hl1
 have r1:=hl1.2 _ _ r1
 have r2:=hl1.2 _ _ r2
 have ht1:=ht.mono l01
 simp only[go_sem,hR,hR3,(g2 r1).2.2,(g2 r2).2.2]
 refine zTrunc_calls hT (he.mono l01) ht1 (na.mono l01) (nb.mono l01) hx hy hnw (fun hy0 h2 hw2 hl2=> ?_) fun hy0 q r h2 m2 dp2 hw2 hl2 ht2 hq hr=> ?_
 ·have l02:=H.le_trans l01 hl2
  have r1:=hl2.2 _ _ r1
  have r2:=hl2.2 _ _ r2
  have r3:=hl2.2 _ _ r3
  have r4:=hl2.2 _ _ r4
  simp only[go_sem]
  refine⟨by trivial,by trivial,put2 hw hw2 l02 (by omega) r3 rfl fun g1 hwg1 hlg1 hg1 r3 e1=> ?_⟩
  have r4:=e1.2 _ _ (by omega) r4
  simp only[go_sem,hR3]
  refine⟨by trivial,by trivial,put2 hw hwg1 hlg1 (by omega) r4 rfl fun g2' hwg2 hlg2 hg2 r4 e2=> ?_⟩
  have r3:=e2.2 _ _ (by omega) r3
  simp only[go_sem,show((2:Int)==0)=false from rfl,(g2 r3).2.2,(g2 r4).2.2]
  refine⟨by trivial,by trivial,put2 hw hwg2 hlg2 (by omega) r3 rfl fun g3 hwg3 hlg3 hg3 r3 e3=> ?_⟩
  have r4:=e3.2 _ _ (by omega) r4
  simp only[go_sem,(g2 r4).2.2]
  refine⟨by simp,by trivial,by trivial,put2 hw hwg3 hlg3 (by omega) r4 rfl fun g4 hwg4 hlg4 hg4 _ e4=> ?_⟩
  have r3:=e4.2 _ _ (by omega) r3
  simp only[go_sem,hg4,(g2 r3).2.2]
  exact fun _=>hk0 hy0 g4 hwg4 hlg4
 have tm:(sg ba x).tmod (sg bb y)=sg ba (x%y):=sg_tmod
 have tq:(sg ba x).tdiv (sg bb y)=sg (ba !=bb) (x/y):=sg_tdiv
 have hbr:wlen ((sg ba x).tmod (sg bb y)).natAbs≤4000:=by rw[tm,sg_abs];exact Nat.le_trans (wlen_mono (Nat.mod_le _ _)) hx
 have hbq:wlen ((sg ba x).tdiv (sg bb y)).natAbs≤4000:=by rw[tq,sg_abs];exact Nat.le_trans (wlen_mono (Nat.div_le_self _ _)) hx
 have hbb:bb=decide (sg bb y<0):=sg_lt0' hy0
 unfold floQ floR at hk
 obtain⟨vq,rfl,nq⟩:=zf_open hq
 obtain⟨vr,rfl,nr⟩:=zf_open hr
 generalize (sg ba x).tmod (sg bb y)=zr at*
 generalize (sg ba x).tdiv (sg bb y)=zq at*
 have hub1:u<h1.next:=Nat.lt_of_lt_of_le hub l01.1
 have r1:=hl2.2 _ _ (by omega) r1
 have r2:=hl2.2 _ _ (by omega) r2
 have r3:=hl2.2 _ _ (by omega) r3
 have r4:=hl2.2 _ _ (by omega) r4
 have nb2:=((nb.mono l01).monoE' ht1 hl2)
 have l02:=l01.lee.trans hl2
 simp only[go_sem]
 refine⟨by trivial,all2 nq.one,put2E hw hw2 l02 (by omega) r3 rfl fun g1 hwg1 hlg1 hg1 r3n e1=> ?_⟩
 have nq:=(nq.base l01.1).lee2 r3 e1
 have nr:=(nr.base l01.1).lee2 r3 e1
 have nb3:=nb2.lee2 r3 e1
 have ht3:=ht2.lee2 e1 (by omega)
 have r1:=e1.2 _ _ (by omega) r1
 have r2:=e1.2 _ _ (by omega) r2
 have r4:=e1.2 _ _ (by omega) r4
 have r3:=r3n
 simp only[go_sem,hR3]
 refine⟨by trivial,all2 nr.one,put2E hw hwg1 hlg1 (by omega) r4 rfl fun g3 hwg3 hlg3 hg3 r4n e3=> ?_⟩
 have nq:=nq.lee2 r4 e3
 have nr:=nr.lee2 r4 e3
 have nb3:=nb3.lee2 r4 e3
 have ht3:=ht3.lee2 e3 (by omega)
 have r1:=e3.2 _ _ (by omega) r1
 have r2:=e3.2 _ _ (by omega) r2
 have r3:=e3.2 _ _ (by omega) r3
 have r4:=r4n
 clear hl2 hg1 hg3 ht2
 simp only[go_sem,show((0:Int)==0)=true from rfl,(g2 r4).2.2]
 refine zSign_calls (nr.nn (wbig hbr (by omega))) fun g4 hwg4 hl4=> ?_
 rw[sg_self]
 have hlg4:=hlg3.trans hl4.lee
 have ht4:=ht3.mono hl4
 have r1:=hl4.2 _ _ r1
 have r2:=hl4.2 _ _ r2
 have r3:=hl4.2 _ _ r3
 have r4:=hl4.2 _ _ r4
 have nq:=nq.mono hl4
 have nr:=nr.mono hl4
 have nb4:=nb3.mono hl4
 have hs1:=sg_self (z:=zr)
 have hs2:=sg_self (z:=zq)
 have fq:Zf h.next g4 (.agg [vq, .bool (decide (zq<0))]) zq:=⟨_,_,_,rfl,nq,fun h0=>by simp;omega,sg_self.symm⟩
 have fr:Zf h.next g4 (.agg [vr, .bool (decide (zr<0))]) zr:=⟨_,_,_,rfl,nr,fun h0=>by simp;omega,sg_self.symm⟩
 by_cases hz:zr=0
 ·rw[if_neg (by simp[hz])] at hk
  rw[if_neg (by simp[hz])] at hk
  simp only[go_sem,show(zr.sign !=0)=false by simp[hz]]
  simp only[go_sem,(g2 r3).2.2,(g2 r4).2.2]
  refine⟨by trivial,all2 nq.one,put2E hw hwg4 hlg4 (by omega) r3 rfl fun g8 hwg8 hlg8 _ r3' e8=> ?_⟩
  have r4:=e8.2 _ _ (by omega) r4
  simp only[go_sem,(g2 r4).2.2]
  refine⟨by simp,by trivial,all2 nr.one,put2E hw hwg8 hlg8 (by omega) r4 rfl fun g9 hwg9 hlg9 hg9 _ e9=> ?_⟩
  have r3':=e9.2 _ _ (by omega) r3'
  simp only[go_sem,hg9,(g2 r3').2.2]
  exact fun _=>hk hy0 _ _ g9 _ _ hwg9 hlg9 ((ht4.lee2 e8 (by omega)).lee2 e9 (by omega)) ((fq.lee2 r3 e8).lee2 r4 e9) ((fr.lee2 r3 e8).lee2 r4 e9)
 ·simp only[go_sem,show(zr.sign !=0)=true by simp[hz],(g2 r4).2.1,(g2 r2).2.1,Nat.zero_add]
  have hbn:(decide (zr<0) !=bb)=decide (decide (zr<0)≠decide (sg bb y<0)):=by
   rw[←hbb]
   cases bb<;>by_cases h0:zr<0<;>simp[h0]
  by_cases hs:decide (zr<0)≠decide (sg bb y<0)
  ·rw[if_pos ⟨hz,hs⟩] at hk
   rw[if_pos ⟨hz,hs⟩] at hk
   rw[hbn,decide_eq_true hs]
   simp only[go_sem,(g2 r3).2.2,(g2 r4).2.2,(g2 r2).2.2]
   refine zOf_calls (n:=1) (by decide) (by decide) fun o g5 hwg5 hl5 ho=> ?_
   obtain⟨vo,rfl,no⟩:=zf_open ho
   have r2:=hl5.2 _ _ r2
   have r3:=hl5.2 _ _ r3
   have r4:=hl5.2 _ _ r4
   have nq:=nq.mono hl5
   have nr:=nr.mono hl5
   have nb4:=nb4.mono hl5
   simp only[go_sem,(g2 r3).2.2,(g2 r4).2.2,(g2 r2).2.2]
   refine⟨by simp, ?_⟩
   have w1:wlen (Int.natAbs 1)≤1:=by decide
   refine zSub_calls (nq.nn (wbig hbq (by omega))) (no.nn (wbig w1 (by omega))) (wbig hbq (by omega)) (wbig w1 (by omega)) (add_big hbq w1 (by omega)) fun s1 g6 hwg6 hl6 hs1=> ?_
   have r2:=hl6.2 _ _ r2
   have r3:=hl6.2 _ _ r3
   have r4:=hl6.2 _ _ r4
   have nr:=nr.mono hl6
   have nb4:=nb4.mono hl6
   simp only[go_sem,(g2 r4).2.2,(g2 r2).2.2]
   refine⟨by simp, ?_⟩
   refine zAdd_calls (nr.nn (wbig hbr (by omega))) nb4 (wbig hbr (by omega)) (wbig hy (by omega)) (add_big hbr hy (by omega)) fun s2 g7 hwg7 hl7 hs2=> ?_
   have r3:=hl7.2 _ _ r3
   have r4:=hl7.2 _ _ r4
   have hs1:=hs1.mono hl7
   rw[sg_self] at hs1 hs2
   obtain⟨v1,rfl,n1⟩:=zf_open hs1
   obtain⟨v2,rfl,n2⟩:=zf_open hs2
   have l57:=H.le_trans hl5 (H.le_trans hl6 hl7)
   have hlg7:=hlg4.trans l57.lee
   have hb7:=hlg4.1
   have hb6:h.next≤g6.next:=Nat.le_trans hlg4.1 (H.le_trans hl5 hl6).1
   have hb5:h.next≤g5.next:=Nat.le_trans hlg4.1 hl5.1
   have hs1:=hs1.base hb5
   have hs2:=hs2.base hb6
   have ht7:=ht4.mono l57
   simp only[go_sem]
   refine⟨by trivial,all2 n1.one,put2E hw hwg7 hlg7 (by omega) r3 rfl fun g8 hwg8 hlg8 hg8 r3' e8=> ?_⟩
   have hs1:=hs1.lee2 r3 e8
   have hs2:=hs2.lee2 r3 e8
   have ht8:=ht7.lee2 e8 (by omega)
   have r4:=e8.2 _ _ (by omega) r4
   have r3:=r3'
   simp only[go_sem]
   refine⟨by trivial,all2 n2.one,put2E hw hwg8 hlg8 (by omega) r4 rfl fun g9 hwg9 hlg9 hg9 r4' e9=> ?_⟩
   have hs1:=hs1.lee2 r4 e9
   have hs2:=hs2.lee2 r4 e9
   have ht9:=ht8.lee2 e9 (by omega)
   have r3:=e9.2 _ _ (by omega) r3
   have r4:=r4'
   simp only[go_sem,(g2 r3).2.2,(g2 r4).2.2]
   refine⟨by trivial,all2 n1.one,put2E hw hwg9 hlg9 (by omega) r3 rfl fun k8 hwk8 hlk8 _ r3' e8=> ?_⟩
   have r4:=e8.2 _ _ (by omega) r4
   simp only[go_sem,(g2 r4).2.2]
   refine⟨by simp,by trivial,all2 n2.one,put2E hw hwk8 hlk8 (by omega) r4 rfl fun k9 hwk9 hlk9 hg9 _ e9=> ?_⟩
   have r3':=e9.2 _ _ (by omega) r3'
   simp only[go_sem,hg9,(g2 r3').2.2]
   exact fun _=>hk hy0 _ _ k9 _ _ hwk9 hlk9 ((ht9.lee2 e8 (by omega)).lee2 e9 (by omega)) ((hs1.lee2 r3 e8).lee2 r4 e9) ((hs2.lee2 r3 e8).lee2 r4 e9)
  ·rw[if_neg (fun h0=>hs h0.2)] at hk
   rw[if_neg (fun h0=>hs h0.2)] at hk
   rw[hbn,decide_eq_false hs]
   simp only[go_sem,(g2 r3).2.2,(g2 r4).2.2]
   refine⟨by trivial,all2 nq.one,put2E hw hwg4 hlg4 (by omega) r3 rfl fun g8 hwg8 hlg8 _ r3' e8=> ?_⟩
   have r4:=e8.2 _ _ (by omega) r4
   simp only[go_sem,(g2 r4).2.2]
   refine⟨by simp,by trivial,all2 nr.one,put2E hw hwg8 hlg8 (by omega) r4 rfl fun g9 hwg9 hlg9 hg9 _ e9=> ?_⟩
   have r3':=e9.2 _ _ (by omega) r3'
   simp only[go_sem,hg9,(g2 r3').2.2]
   exact fun _=>hk hy0 _ _ g9 _ _ hwg9 hlg9 ((ht4.lee2 e8 (by omega)).lee2 e9 (by omega)) ((fq.lee2 r3 e8).lee2 r4 e9) ((fr.lee2 r3 e8).lee2 r4 e9)
end
end
section
section
variable {t:Tb} {h:H} {K:AV→H→Prop}
theorem roNew_calls (hk:∀e u h',h'.wf→h.le h'→h.next≤u→u<e→Eng 8 h' e u→Tune h' u 0 0 0 (clampT t)→K (.ptr (some (e,0))) h'):ACalls Tryz.prog 116 [t.av] h K:=by
 refine in_root_New (by simp) fun hw=> ?_
 unfold c_root_New
 have hl1:=H.le_new hw (H.le_refl h) ⟨some 23,11,t.cells⟩
 have hn1:h.next<(h.new ⟨some 23,11,t.cells⟩).next:=Nat.lt_succ_self _
 simp only[go_sem,av_held,av_cells,cells_len,true_and,gsT (H.rows_new h _)]
 refine diNew_calls fun e u h1 hw1 hl2 hn2 _ he ht=> ?_
 simp only[go_sem,bldp]
 simp only[AV.held,AV.cells,true_and,go_sem]
 have hl3:=H.le_new hw1 (H.le_refl h1) ⟨some 133,1,[AV.ptr (some (e,0))]⟩
 exact fun hw'=>hk _ u _ hw' (H.le_trans hl1 (H.le_trans hl2 hl3)) (by omega) (H.row_lt hw1 ht) ⟨_,e,H.rows_new _ _,rfl,he.mono hl3⟩ (ht.mono hl3)
theorem raNew_calls (hk:∀e u h',h'.wf→h.le h'→h.next≤u→u<e→Eng 9 h' e u→Tune h' u 0 0 0 (clampT t)→K (.ptr (some (e,0))) h'):ACalls Tryz.prog 84 [t.av] h K:=by
 refine in_radix_New (by simp) fun hw=> ?_
 unfold c_radix_New
 have hl1:=H.le_new hw (H.le_refl h) ⟨some 23,11,t.cells⟩
 have hn1:h.next<(h.new ⟨some 23,11,t.cells⟩).next:=Nat.lt_succ_self _
 simp only[go_sem,av_held,av_cells,cells_len,true_and,gsT (H.rows_new h _)]
 refine roNew_calls fun e u h1 hw1 hl2 hn2 _ he ht=> ?_
 simp only[go_sem,bldp]
 simp only[AV.held,AV.cells,true_and,go_sem]
 have hl3:=H.le_new hw1 (H.le_refl h1) ⟨some 130,1,[AV.ptr (some (e,0))]⟩
 exact fun hw'=>hk _ u _ hw' (H.le_trans hl1 (H.le_trans hl2 hl3)) (by omega) (H.row_lt hw1 ht) ⟨_,e,H.rows_new _ _,rfl,he.mono hl3⟩ (ht.mono hl3)
theorem nuNew_calls (hk:∀e u h',h'.wf→h.le h'→h.next≤u→u<e→Eng 10 h' e u→Tune h' u 0 0 0 (clampT t)→K (.ptr (some (e,0))) h'):ACalls Tryz.prog 40 [t.av] h K:=by
 refine in_num_New (by simp) fun hw=> ?_
 unfold c_num_New
 have hl1:=H.le_new hw (H.le_refl h) ⟨some 23,11,t.cells⟩
 have hn1:h.next<(h.new ⟨some 23,11,t.cells⟩).next:=Nat.lt_succ_self _
 simp only[go_sem,av_held,av_cells,cells_len,true_and,gsT (H.rows_new h _)]
 refine raNew_calls fun e u h1 hw1 hl2 hn2 _ he ht=> ?_
 simp only[go_sem,bldp]
 simp only[AV.held,AV.cells,true_and,go_sem]
 have hl3:=H.le_new hw1 (H.le_refl h1) ⟨some 125,1,[AV.ptr (some (e,0))]⟩
 exact fun hw'=>hk _ u _ hw' (H.le_trans hl1 (H.le_trans hl2 hl3)) (by omega) (H.row_lt hw1 ht) ⟨_,e,H.rows_new _ _,rfl,he.mono hl3⟩ (ht.mono hl3)
end
section
variable {wa wb:AV} {ba bb:Bool} {x y n:Nat} {xs:List Nat} {h:H} {K:AV→H→Prop}
theorem kInt_calls (na:Nt h wa x) (nb:Nt h wb x) (hx:Big x) (hk:∀h',h'.wf→h.le h'→K (.bool true) h'):ACalls Tryz.prog 29 [.agg [wa, .bool ba], .agg [wb, .bool ba]] h K:=by
 refine in_keep_Int (by simp) fun hw=> ?_
 unfold c_keep_Int
 simp only[go_sem]
 simp only[AV.cells,List.length_cons,List.length_nil,Nat.zero_add,Nat.reduceAdd]
 refine⟨rfl,rfl, ?_⟩
 generalize hh:(h.new ⟨some 27,2,_⟩).new ⟨some 27,2,_⟩=h1
 obtain⟨hl1,hw1,hn1,r1,r2⟩:=new2 hw hh
 have hR:(h.new ⟨some 27,2,[wa, .bool ba]⟩).next=h.next+1:=rfl
 simp only[go_sem,hR,(g2 r1).1,(g2 r1).2.1,(g2 r2).1,(g2 r2).2.1,Nat.zero_add,beq_self_eq_true]
 refine kSameT_calls (na.mono hl1) (nb.mono hl1) hx ?_
 simp only[go_sem]
 exact fun hw'=>hk _ hw' hl1
theorem same18_calls {z:Int} {c:Nat} {r v:AV} (hr:Zr h r z) (hv:Zf c h v z) (hb:Big z.natAbs) (hk:∀h',h'.wf→h.le h'→K (.bool true) h'):ACalls Tryz.prog 41 [r,v] h K:=by
 obtain⟨w,rfl,n1⟩:=zr_open hr
 obtain⟨u,rfl,n2⟩:=zf_open hv
 refine in_law18_same (by simp) fun hw=> ?_
 unfold c_law18_same
 simp only[go_sem]
 simp only[AV.cells,List.length_cons,List.length_nil,Nat.zero_add,Nat.reduceAdd]
 refine⟨rfl,rfl, ?_⟩
 generalize hh:(h.new ⟨some 38,2,_⟩).new ⟨some 27,2,_⟩=h1
 obtain⟨hl1,hw1,hn1,r1,r2⟩:=new2 hw hh
 have hR:(h.new ⟨some 38,2,[w, .bool (decide (z<0))]⟩).next=h.next+1:=rfl
 simp only[go_sem,hR,(g2 r1).2.2,(g2 r2).2.2]
 refine zrTo_calls (n1.mono hl1) hb (fun h0=>by simp;omega) fun r h2 hw2 hl2 hr=> ?_
 rw[sg_self] at hr
 obtain⟨w',rfl,n3⟩:=zf_open hr
 have r2:=hl2.2 _ _ r2
 simp only[go_sem,hR,(g2 r2).2.2]
 refine⟨by simp, ?_⟩
 refine kInt_calls n3.nt ((n2.mono hl1).mono hl2).nt hb fun h3 hw3 hl3=> ?_
 simp only[go_sem]
 exact fun hw'=>hk _ hw' (H.le_trans hl1 (H.le_trans hl2 hl3))
end
end
section
theorem le_over {u:Nat} {a b c:H} (hw:a.wf) (h1:a.le b) (hu:a.next≤u) (h2:H.lee u b c):a.le c:=
 ⟨Nat.le_trans h1.1 h2.1,fun i r e=>h2.2 i r (by have:=H.row_lt hw e;omega) (h1.2 i r e)⟩
section
variable {h:H} {K:AV→H→Prop}
theorem wakes18_calls (hk:∀h',h'.wf→h.le h'→K (.bool true) h'):ACalls Tryz.prog 44 [] h K:=by
 refine in_law18_wakes (by simp) fun hw=> ?_
 unfold c_law18_wakes
 simp only[go_sem]
 refine nuNew_calls (t:=⟨0,0,0,0,0,0,0,0,0,0,0⟩) fun e u h1 hw1 hl1 hn1 hue he ht=> ?_
 simp only[go_sem,Option.isNone,Bool.false_bne]
 refine⟨trivial, ?_⟩
 refine zOf_calls (n:= -7) (by decide) (by decide) fun v1 h2 hw2 hl2 hv1=> ?_
 obtain⟨w1,rfl,n1⟩:=zf_open hv1
 simp only[go_sem]
 refine zOf_calls (n:=2) (by decide) (by decide) fun v2 h3 hw3 hl3 hv2=> ?_
 obtain⟨w2,rfl,n2⟩:=zf_open hv2
 have l13:=H.le_trans hl2 hl3
 have d1:wlen (Int.natAbs (-7))≤1:=by decide
 have d2:wlen (Int.natAbs 2)≤1:=by decide
 simp only[go_sem]
 refine zFloor_calls (clamp_ok _) (he.mono l13) (ht.mono l13) ((n1.mono hl3).nn (wbig d1 (by omega))) (n2.nn (wbig d2 (by omega))) (by omega) (by omega) (by omega) (fun h0=>absurd h0 (by decide)) fun _ q r h4 m4 dp4 hw4 hl4 ht4 hq hr=> ?_
 have l14:=le_over hw (H.le_trans hl1 l13) hn1 hl4
 rw[sg_self,sg_self,show floQ (-7) 2= -4 by decide] at hq
 rw[sg_self,sg_self,show floR (-7) 2=1 by decide] at hr
 obtain⟨w3,rfl,n3⟩:=zf_open hq
 obtain⟨w4,rfl,n4⟩:=zf_open hr
 simp only[go_sem]
 generalize hh:(h4.new ⟨some 27,_,_⟩).new ⟨some 27,_,_⟩=h5
 simp only[List.length_cons,List.length_nil,Nat.zero_add,Nat.reduceAdd] at hh
 obtain⟨hl5,hw5,hn5,r1,r2⟩:=new2 hw4 hh
 have hR:(h4.new ⟨some 27,2,[.sl none 0 0 none, .bool false]⟩).next=h4.next+1:=rfl
 simp only[List.length_cons,List.length_nil,Nat.zero_add,Nat.reduceAdd,hR]
 have l05:=H.le_trans l14 hl5
 have hb4:=l14.1
 refine⟨by trivial,all2 n3.one,put2 hw hw5 l05 (by omega) r1 rfl fun g1 hwg1 hlg1 _ r1n e1=> ?_⟩
 have hq:=(hq.mono hl5).lee2 r1 e1
 have hr:=(hr.mono hl5).lee2 r1 e1
 have r2:=e1.2 _ _ (by omega) r2
 simp only[go_sem]
 refine⟨by trivial,all2 n4.one,put2 hw hwg1 hlg1 (by omega) r2 rfl fun g2' hwg2 hlg2 _ r2n e2=> ?_⟩
 have hq:=hq.lee2 r2 e2
 have hr:=hr.lee2 r2 e2
 have r1n:=e2.2 _ _ (by omega) r1n
 simp only[go_sem,show((0:Int)==0)=true from rfl,(g2 r1n).2.2]
 refine zrSmall_calls (n:= -4) (by decide) (by decide) fun o g3 hwg3 hl3 ho=> ?_
 have r1n:=hl3.2 _ _ r1n
 have r2n:=hl3.2 _ _ r2n
 simp only[go_sem,(g2 r1n).2.2]
 refine⟨by simp, ?_⟩
 refine same18_calls ho (hq.mono hl3) (Big.w1 (by decide)) fun g4 hwg4 hl4=> ?_
 have r1n:=hl4.2 _ _ r1n
 have r2n:=hl4.2 _ _ r2n
 simp only[go_sem,(g2 r2n).2.2]
 refine zrSmall_calls (n:=1) (by decide) (by decide) fun o g5 hwg5 hl5 ho=> ?_
 have r1n:=hl5.2 _ _ r1n
 have r2n:=hl5.2 _ _ r2n
 simp only[go_sem,(g2 r2n).2.2]
 refine⟨by simp, ?_⟩
 refine same18_calls ho (hr.mono (H.le_trans hl3 (H.le_trans hl4 hl5))) (Big.w1 (by decide)) fun g6 hwg6 hl6=> ?_
 simp only[go_sem]
 exact fun hw'=>hk _ hw' (H.le_trans hlg2 (H.le_trans hl3 (H.le_trans hl4 (H.le_trans hl5 hl6))))
end
end
theorem cell_bool {t:TypeId} (ht:Tryz.prog.underlying t=some .bool) {h:H} {l:List AV} (r:Reads Tryz.prog h t l):∃b:Bool,l=[.bool b]:=by
 cases r with
 |int ht' hw=>rw[ht] at ht';cases ht'
 |bool ht'=>exact⟨_,rfl⟩
 |str ht'=>rw[ht] at ht';cases ht'
 |snil ht'=>rw[ht] at ht';cases ht'
 |sl ht'=>rw[ht] at ht';cases ht'
 |struct ht'=>rw[ht] at ht';cases ht'
set_option maxRecDepth 100000 in
theorem cell_whole {h:H} {l:List AV} (r:Reads Tryz.prog h 27 l):∃(v:AV) (b:Bool) (xs:List Nat),l=[v, .bool b]∧IsN h v xs∧Dig xs∧xs.length≤maxLen:=by
 have hc:Tryz.prog.cellsOf 27=2:=by kernel_rfl
 have hz:Tryz.prog.cellsOf 25=1:=by kernel_rfl
 have hb:Tryz.prog.cellsOf 4=1:=by kernel_rfl
 cases r with
 |int ht' hw=>rw[Tryz.underlying27] at ht';cases ht'
 |bool ht'=>rw[Tryz.underlying27] at ht';cases ht'
 |str ht'=>rw[Tryz.underlying27] at ht';cases ht'
 |snil ht'=>rw[Tryz.underlying27] at ht';cases ht'
 |sl ht'=>rw[Tryz.underlying27] at ht';cases ht'
 |struct ht' hl hf=>
  rw[Tryz.underlying27] at ht'
  injection ht' with ht'
  injection ht' with ht'
  subst ht'
  rw[hc] at hl
  simp only[List.mem_cons,List.not_mem_nil,or_false,forall_eq_or_imp,forall_eq,hz,hb] at hf
  obtain⟨f0,f1⟩:=hf
  obtain⟨v,xs,g0,h1,h2,h3⟩:=cell_words (by kernel_rfl) f0
  obtain⟨b,g1⟩:=cell_bool (by kernel_rfl) f1
  match l,hl with
  |[x0,x1],_=>
   simp only[List.drop_zero,List.drop_succ_cons,List.take_succ_cons,List.take_zero,List.cons.injEq,and_true] at g0 g1
   exact⟨v,b,xs,by rw[g0,g1],h1,h2,h3⟩
section
section
variable {wa wb:AV} {ba bb:Bool} {xs ys:List Nat} {h:H} {K:AV→H→Prop}
theorem zrAdd' {a b:AV} {z w:Int} (ha:Zr h a z) (hb:Zr h b w) (hx:Big z.natAbs) (hy:Big w.natAbs) (hk:∀r h',h'.wf→h.le h'→Zr h' r (z+w)→K r h'):ACalls Tryz.prog 46 [a,b] h K:=by
 obtain⟨u,rfl,n1⟩:=zr_open ha
 obtain⟨v,rfl,n2⟩:=zr_open hb
 refine zrAdd_calls n1 n2 hx hy fun r h' hw hl hr=> ?_
 rw[sg_self,sg_self] at hr
 exact hk r h' hw hl hr
end
end
section
def IsI (h:H) (l:List AV) (p:Bool×List Nat):Prop:=∃v,l=[v, .bool p.1]∧IsN h v p.2∧Dig p.2∧p.2.length≤maxLen
theorem IsI.grows:Grows IsI:=by
 rintro h h' c x ⟨v,e,h1,h2⟩ hl
 exact⟨v,e,h1.mono hl,h2⟩
theorem H.gets_le {a h:H} (hl:a.le h) {i j n:Nat} {l:List AV} (e:a.gets i j n=some l):h.gets i j n=some l:=by
 unfold H.gets at*
 cases hr:a.rows i with
 |none=>rw[hr] at e;cases e
 |some r=>rw[hr] at e;rw[hl.2 _ _ hr];exact e
section
variable {h:H} {u v:AV} {K:AV→H→Prop}
set_option maxRecDepth 100000 in
theorem reads_wholes (r:ReadsV Tryz.prog h 66 u):∃ps,IsA 2 IsI h u ps∧ps.length≤maxLen:=by
 have hz:Tryz.prog.cellsOf 27=2:=by kernel_rfl
 obtain⟨v,n,cs,e,h1,h2,h3⟩:=cell_slice (e:=27) (by kernel_rfl) (readsV_slice (e:=27) (by kernel_rfl) r)
 injection e with e
 subst e
 rw[hz] at h1 h3
 obtain⟨ps,hn,hxs⟩:=all_of (z:=2) (R:=IsI h) (n:=n) (cs:=cs) h1.1 fun i hi=>by
  obtain⟨v,b,xs,e,q1,q2,q3⟩:=cell_whole (h3 i hi)
  exact⟨(b,xs),v,e,q1,q2,q3⟩
 subst hn
 exact⟨ps,⟨cs,h1,hxs⟩,h2⟩
theorem Cut_all {xs:List Nat} {n:Nat} (hv:IsN h v xs) (hk:∀r,(∀g,IsN g v xs→IsN g r (xs.take n))→r.one=true→K r h):ACalls Tryz.prog 76 [v, .int .i64 (n:Int)] h K:=by
 obtain⟨id,off,c,rfl⟩:=hv.form
 refine in_keep_Cut (by simp) fun hw=> ?_
 unfold c_keep_Cut
 simp only[go_sem,minN]
 refine⟨by omega,by omega,hv.row,fun _=>hk _ (fun g hg=> ?_) rfl⟩
 have:=hg.take (b:=min xs.length n) (c':=c) (by omega)
 rw[take_min] at this
 exact this
theorem CutInt_all {wa:AV} {ba:Bool} {xs:List Nat} {n:Nat} (ha:IsN h wa xs) (hk:∀w h',h'.wf→h.le h'→(∀g,IsN g wa xs→IsN g w (xs.take n))→w.one=true→K (.agg [w, .bool ba]) h'):ACalls Tryz.prog 22 [.agg [wa, .bool ba], .int .i64 (n:Int)] h K:=by
 refine in_keep_CutInt (by simp) fun hw=> ?_
 unfold c_keep_CutInt
 simp only[go_sem]
 simp only[AV.cells,List.length_cons,List.length_nil,Nat.zero_add,Nat.reduceAdd]
 refine⟨rfl, ?_⟩
 generalize hh:(h.new ⟨some 27,2,_⟩).new ⟨some 27,2,_⟩=h1
 obtain⟨hl1,hw1,hn1,r1,r2⟩:=new2 hw hh
 have hR:(h.new ⟨some 27,2,[wa, .bool ba]⟩).next=h.next+1:=rfl
 simp only[go_sem,hR,(g2 r1).1,(g2 r1).2.1,Nat.zero_add]
 refine Cut_all (n:=n) (ha.mono hl1) fun a hca hone=> ?_
 simp only[go_sem,hR,(g2 r1).2.1,Nat.zero_add]
 refine⟨by simp, ?_⟩
 simp only[go_sem,bldI hone]
 refine⟨by trivial,all2 hone,put2 hw hw1 hl1 (by omega) r2 rfl fun g hwg hlg hg _ e1=> ?_⟩
 simp only[go_sem,hg]
 exact fun _=>hk _ g hwg hlg hca hone
theorem CutInts_calls {ps:List (Bool×List Nat)} {k n:Nat} (hv:IsA 2 IsI h v ps) (hlen:ps.length≤9223372036854775807) (hk9:k≤1000000) (hk:∀r h',h'.wf→h.le h'→IsA 2 IsI h' r ((ps.take k).map fun p=>(p.1,p.2.take n))→K r h'):ACalls Tryz.prog 45 [v, .int .i64 (k:Int), .int .i64 (n:Int)] h K:=by
 obtain⟨id,off,c,rfl⟩:=hv.form
 refine in_keep_CutInts (by simp) fun hw=> ?_
 unfold c_keep_CutInts
 simp only[go_sem]
 have hlt:(ps.take k).length=min k ps.length:=List.length_take
 refine for_rule (fun i ρ h2=>i≤(ps.take k).length∧h2.wf∧h.le h2∧ρ 0= .sl id off ps.length c∧ρ 1= .int .i64 (k:Int)∧ρ 2= .int .i64 (n:Int)∧ρ 8= .int .i64 (i:Int)∧Live 27 2 h.next (fun _=>IsI h) h2 (ρ 7) (((ps.take k).take i).map fun p=>(p.1,p.2.take n))) (ps.take k).length
  ⟨by omega,hw,H.le_refl _,by first|rfl|trivial|assumption,by first|rfl|trivial|assumption,by first|rfl|trivial|assumption,by first|rfl|trivial|assumption,Live.nil _ _ _ _ _ _⟩ (fun i ρ h hI=>hI.1) ?_
 rintro i ρ h2 ⟨hi,hw2,hle,q0,q1,q2,q8,hs⟩
 rcases Nat.lt_or_ge i (ps.take k).length with h1|h1
 ·have hip:i<ps.length:=by omega
  have hik:i<k:=by omega
  obtain⟨ii,l,rfl,_,hlz,hg,_,w,rfl,hIw,hDw,hLw⟩:=hv.atz (by omega) hip
  have hg2:=H.gets_le hle hg
  obtain⟨io,co,q7⟩:=hs.form
  have hlen:(((ps.take k).take i).map fun p=>(p.1,p.2.take n)).length=i:=by simp;omega
  rw[hlen] at q7
  rw[q7] at hs
  simp only[go_sem,q0,q1,q2,q7,q8,ltT hip,ltT hik]
  refine⟨by omega,by omega, ?_⟩
  simp only[go_sem,hg2,q0,q1,q2]
  refine CutInt_all (n:=n) ((show IsN h w _ from hIw).mono hle) fun w2 h3 hw3 hl3 hall hone=> ?_
  have hle3:=H.le_trans hle hl3
  have hs3:=hs.mono (fun _ _ _ _ hx _=>hx) hl3
  have lit:abuild (zs [.sl none 0 0 none, .bool false] 1) [(0*2,2, .agg [w2, .bool ps[i].1])]=some [w2, .bool ps[i].1]:=by
   simp[abuild,zs,putAt,AV.held,AV.cells,hone]
  simp only[go_sem,q0,q1,q2,q7,q8,lit]
  refine hs3.app (K:=_) (fun _ _ _ _ hx _=>hx) (by omega) hw hw3 hle3 hlen.symm (y:=(ps[i].1,ps[i].2.take n)) ⟨_,rfl,hall _ hIw,Dig.take hDw n,by simp;omega⟩ rfl (all2 hone) (by omega) (by omega) rfl fun v2 h4 hw4 hle4 hs4=> ?_
  simp only[go_sem,q0,q1,q2,q8,incI (i:=i) (by omega)]
  refine⟨by omega,hw4,hle4,by first|rfl|trivial|assumption,by first|rfl|trivial|assumption,by first|rfl|trivial|assumption,by first|rfl|trivial|assumption, ?_⟩
  have e9:(ps.take k)[i]=ps[i]:=List.getElem_take
  rw[List.take_succ_eq_append_getElem h1,List.map_append,e9]
  exact hs4
 ·rw[List.take_of_length_le h1] at hs
  have hi2:i=(ps.take k).length:=by omega
  have fin:K (ρ 7) h2:=hk _ h2 hw2 hle (by
   obtain⟨io,co,cs,e,h3,h4⟩:=hs
   exact⟨cs,h3.isC,h4.mono fun l x hx=>IsI.grows hx hle⟩)
  by_cases h3:i<ps.length
  ·simp only[go_sem,q0,q1,q2,q8,ltT h3,ltF (show k≤i by omega)]
   exact fun _=>fin
  ·simp only[go_sem,q0,q1,q2,q8,ltF (show ps.length≤i by omega)]
   exact fun _=>fin
end
end
section
def zI (p:Bool×List Nat):Int:=sg p.1 (val 18446744073709551616 p.2)
def sumI (l:List (Bool×List Nat)):Int:=l.foldl (fun s p=>s+zI p) 0
theorem sumI_succ {l:List (Bool×List Nat)} {j:Nat} (h:j<l.length):sumI (l.take (j+1))=sumI (l.take j)+zI l[j]:=by
 unfold sumI
 rw[List.take_succ_eq_append_getElem h,List.foldl_append]
 rfl
theorem foldI_le {M:Nat}:∀(l:List (Bool×List Nat)) (z:Int),(∀p∈l,val 18446744073709551616 p.2≤M)→(l.foldl (fun s p=>s+zI p) z).natAbs≤z.natAbs+l.length*M
 |[],z,_=>by simp
 |p::l,z,h=>by
  have h1:=foldI_le l (z+zI p) fun q hq=>h q (List.mem_cons_of_mem _ hq)
  have h2:(zI p).natAbs≤M:=by
   unfold zI
   rw[sg_abs]
   exact h p List.mem_cons_self
  rw[List.foldl_cons,List.length_cons,Nat.add_mul]
  omega
theorem sumI_wlen {l:List (Bool×List Nat)} (hl:l.length≤20) (h:∀p∈l,wlen (val 18446744073709551616 p.2)≤8) (j:Nat):wlen (sumI (l.take j)).natAbs≤9:=by
 have h1:=foldI_le (M:=18446744073709551616^8) (l.take j) 0 fun p hp=>Nat.le_of_lt (wlen_le.1 (h p (List.mem_of_mem_take hp)))
 have h2:(l.take j).length*18446744073709551616^8≤20*18446744073709551616^8:=Nat.mul_le_mul_right _ (by rw[List.length_take];omega)
 have h3:18446744073709551616^9=18446744073709551616^8*18446744073709551616:=Nat.pow_succ ..
 refine wlen_le.2 ?_
 show(List.foldl (fun s p=>s+zI p) 0 (l.take j)).natAbs<_
 have h4:0<18446744073709551616^8:=Nat.pow_pos (by omega)
 rw[h3]
 generalize 18446744073709551616^8=M at*
 rw[show(0:Int).natAbs=0 from rfl] at h1
 omega
section
variable {h:H} {v:AV} {ps:List (Bool×List Nat)} {K:AV→H→Prop}
theorem IsI.nn {h:H} {l:List AV} {p:Bool×List Nat} (hv:IsI h l p) (hl:p.2.length≤8):∃w,l=[w, .bool p.1]∧Nn h w (val 18446744073709551616 p.2)∧w.one=true:=by
 obtain⟨w,rfl,h1,h2,h3⟩:=hv
 have hone:w.one=true:=by obtain⟨_,_,_,rfl⟩:=h1.form;rfl
 exact⟨w,rfl,h1.nn h2 (by omega),hone⟩
theorem zf_open_cells {c:Nat} {h:H} {a b:AV} {z:Int} (hv:Zf c h (.agg [a,b]) z):∃w,[a,b]=[w, .bool (decide (z<0))]∧Nf c h w z.natAbs:=by
 obtain⟨w,e,h1⟩:=zf_open hv
 injection e with e
 exact⟨w,e,h1⟩
theorem big_add9 {x y:Nat} (hx:wlen x≤9) (hy:wlen y≤8):Big (x+y):=by
 have h1:=wlen_le.1 hx
 have h2:=wlen_le.1 (Nat.le_trans hy (show 8≤9 by omega))
 refine lt_bigW (k:=10) ?_ (by omega)
 have h3:18446744073709551616^10=18446744073709551616^9*18446744073709551616:=Nat.pow_succ ..
 omega
set_option maxHeartbeats 1000000 in
theorem zSum_calls (hv:IsA 2 IsI h v ps) (hl:ps.length≤20) (hp0:∀p∈ps,p.2.length≤8∧Dig p.2) (hk:∀r h',h'.wf→h.le h'→Zf h.next h' r (sumI ps)→K r h'):ACalls Tryz.prog 48 [v] h K:=by
 obtain⟨id,off,c,rfl⟩:=hv.form
 have hp:∀p∈ps,wlen (val 18446744073709551616 p.2)≤8:=fun p h=>Nat.le_trans (wlen_len (hp0 p h).2) (hp0 p h).1
 refine in_num_Sum (by simp) fun hw=> ?_
 unfold c_num_Sum
 simp only[go_sem,zeroI]
 simp only[List.length_cons,List.length_nil,Nat.zero_add,Nat.reduceAdd]
 generalize hh:(h.new ⟨some 27,2,_⟩).new ⟨some 27,2,_⟩=h1
 obtain⟨hl1,hw1,hn1,r1,r2⟩:=new2 hw hh
 have hR:(h.new ⟨some 27,2,[.sl none 0 0 none, .bool false]⟩).next=h.next+1:=rfl
 rw[hR]
 clear hh
 refine⟨by trivial,by trivial,put2 hw hw1 hl1 (by omega) r2 rfl fun g1 hwg1 hlg1 hg1 r2n e1=> ?_⟩
 have r1:=e1.2 _ _ (by omega) r1
 simp only[go_sem]
 refine loop_cut (fun ρ h'=>h'.wf∧h.le h'∧ρ 2= .ptr (some (h.next,0))∧ρ 3= .ptr (some (h.next+1,0))∧h'.rows h.next=some ⟨some 27,2,[.sl none 0 0 none, .bool false]⟩∧∃s0 s1,h'.rows (h.next+1)=some ⟨some 27,2,[s0,s1]⟩∧Zf h.next h' (.agg [s0,s1]) (sumI ps)) ?_ ?_
 ·refine for_rule (fun j ρ h'=>j≤ps.length∧h'.wf∧h.le h'∧ρ 2= .ptr (some (h.next,0))∧ρ 3= .ptr (some (h.next+1,0))∧ρ 7= .sl id off ps.length c∧ρ 8= .int .i64 (ps.length:Int)∧ρ 9= .int .i64 (j:Int)∧h'.rows h.next=some ⟨some 27,2,[.sl none 0 0 none, .bool false]⟩∧∃s0 s1,h'.rows (h.next+1)=some ⟨some 27,2,[s0,s1]⟩∧Zf h.next h' (.agg [s0,s1]) (sumI (ps.take j))) ps.length
   ⟨by omega,hwg1,hlg1,by first|rfl|trivial|assumption,by first|rfl|trivial|assumption,by first|rfl|trivial|assumption,by first|rfl|trivial|assumption,rfl,r1,_,_,r2n,Zf.zero _ _⟩ (fun i ρ h hh=>hh.1) ?_
  rintro j ρ h2 ⟨hj,hw2,hl2,q2,q3,q7,q8,q9,r1,s0,s1,r2,hs⟩
  rcases Nat.lt_or_ge j ps.length with h3|h3
  ·obtain⟨ii,l,rfl,_,hlz,hg,_,hI⟩:=hv.atz (by omega) h3
   obtain⟨w,rfl,nw,hone⟩:=IsI.nn hI (hp0 _ (List.getElem_mem h3)).1
   have hg2:=H.gets_le hl2 hg
   have nw:=nw.mono hl2
   have wp:=hp _ (List.getElem_mem h3)
   have wj:=sumI_wlen hl hp j
   have ej:=sumI_succ h3
   simp only[go_sem,q2,q3,q7,q8,q9,ltT h3]
   refine⟨by omega,by omega, ?_⟩
   simp only[go_sem,hg2,q2,q3,q7,q8,q9]
   have r3:=H.rows_new h2 ⟨some 27,2,[.sl none 0 0 none, .bool false]⟩
   have hl4:=H.le_new hw2 (H.le_refl h2) ⟨some 27,2,[.sl none 0 0 none, .bool false]⟩
   have hw4:=H.wf_new hw2 ⟨some 27,2,[.sl none 0 0 none, .bool false]⟩
   simp only[List.length_cons,List.length_nil,Nat.zero_add,Nat.reduceAdd]
   have hb2:=H.row_lt hw2 r2
   generalize hR3:h2.next=R3 at*
   generalize h2.new ⟨some 27,2,[.sl none 0 0 none, .bool false]⟩=h4 at*
   have r1:=hl4.2 _ _ r1
   have r2:=hl4.2 _ _ r2
   refine⟨by trivial,all2 hone,put2 hw hw4 (H.le_trans hl2 hl4) (by omega) r3 rfl fun g3 hwg3 hlg3 hg3 r3n e3=> ?_⟩
   have r1:=e3.2 _ _ (by omega) r1
   have r2:=e3.2 _ _ (by omega) r2
   have nw:=(nw.mono hl4).lee2 r3 e3
   have hs:=(hs.mono hl4).lee2 r3 e3
   obtain⟨w0,e9,ns⟩:=zf_open_cells hs
   injection e9 with e8 e9
   injection e9 with e9
   subst e8
   subst e9
   simp only[go_sem,q2,q3,q7,q8,q9,(g2 r2).2.2,(g2 r3n).2.2]
   refine zAdd_calls (ns.nn (wbig wj (by omega))) nw (wbig wj (by omega)) (wbig wp (by omega)) (big_add9 wj wp) fun r g5 hw5 hl5 hr=> ?_
   have r1:=hl5.2 _ _ r1
   have r2:=hl5.2 _ _ r2
   rw[sg_self,show sg ps[j].1 (val 18446744073709551616 ps[j].2)=zI ps[j] from rfl,←ej] at hr
   obtain⟨t0,t1,rfl,ot0,ot1⟩:=hr.two
   simp only[go_sem,q2,q3,q7,q8,q9]
   refine⟨by trivial,all22 ot0 ot1,put2 hw hw5 (H.le_trans hlg3 hl5) (by omega) r2 rfl fun g6 hwg6 hlg6 _ r2n e6=> ?_⟩
   have hr:=(hr.base (by have:=hlg3.1;omega)).lee2 r2 e6
   have r1:=e6.2 _ _ (by omega) r1
   simp only[go_sem,q2,q3,q7,q8,q9,incI (i:=j) (by omega)]
   exact⟨by omega,hwg6,hlg6,by first|rfl|trivial|assumption,by first|rfl|trivial|assumption,by first|rfl|trivial|assumption,by first|rfl|trivial|assumption,by first|rfl|trivial|assumption,r1,_,_,r2n,hr⟩
  ·obtain rfl:j=ps.length:=by omega
   rw[List.take_length] at hs
   simp only[go_sem,q2,q3,q7,q8,q9,ltF (Nat.le_refl ps.length)]
   exact⟨hw2,hl2,by first|rfl|trivial|assumption,by first|rfl|trivial|assumption,r1,_,_,r2,hs⟩
 ·rintro ρ h2 ⟨hw2,hl2,q2,q3,r1,s0,s1,r2,hs⟩
  obtain⟨t0,t1,e,ot0,ot1⟩:=hs.two
  injection e with e
  injection e with e1 e2
  injection e2 with e2
  subst e1
  subst e2
  simp only[go_sem,q2,q3,(g2 r2).2.2]
  refine⟨by trivial,all22 ot0 ot1,put2 hw hw2 hl2 (by omega) r1 rfl fun g6 hwg6 hlg6 hg6 r1n e6=> ?_⟩
  simp only[go_sem,q2,hg6]
  exact fun _=>hk _ g6 hwg6 hlg6 (hs.lee2 r1 e6)
end
end
section
section
variable {h:H} {v:AV} {ps0:List (Bool×List Nat)} {K:AV→H→Prop}
set_option maxHeartbeats 1000000 in
theorem NumAll_law {n:Int} (hv0:IsA 2 IsI h v ps0) (hl0:ps0.length≤maxLen) (hd0:∀p∈ps0,Dig p.2) (hn1: -9223372036854775808≤n) (hn2:n<9223372036854775808) (hk:∀h',h'.wf→K (.bool true) h'):ACalls Tryz.prog 7 [v, .int .i64 n] h K:=by
 refine in_law18_NumAll (by simp) fun hw=> ?_
 unfold c_law18_NumAll
 simp only[go_sem]
 have hmx:maxLen≤9223372036854775807:=by decide
 refine CutInts_calls (k:=20) (n:=8) hv0 (by omega) (by omega) fun r h1 hw1 hl1 hv=> ?_
 have hl:((ps0.take 20).map fun p=>(p.1,p.2.take 8)).length≤20:=by simp;omega
 have hp:∀p∈(ps0.take 20).map fun p=>(p.1,p.2.take 8),p.2.length≤8∧Dig p.2:=by
  intro p hm
  obtain⟨q,hq,rfl⟩:=List.mem_map.1 hm
  exact⟨by simp;omega,Dig.take (hd0 _ (List.mem_of_mem_take hq)) 8⟩
 generalize (ps0.take 20).map (fun p=>(p.1,p.2.take 8))=ps at*
 clear hv0 hl0 hd0 hmx
 have hpw:∀p∈ps,wlen (val 18446744073709551616 p.2)≤8:=fun p h=>Nat.le_trans (wlen_len (hp p h).2) (hp p h).1
 obtain⟨id,off,c,rfl⟩:=hv.form
 simp only[go_sem]
 have r5:=H.rows_new h1 ⟨some 38,2,[.sl none 0 0 none, .bool false]⟩
 have hlA:=H.le_new hw1 (H.le_refl h1) ⟨some 38,2,[.sl none 0 0 none, .bool false]⟩
 have hwA:=H.wf_new hw1 ⟨some 38,2,[.sl none 0 0 none, .bool false]⟩
 simp only[List.length_cons,List.length_nil,Nat.zero_add,Nat.reduceAdd]
 have hn5:=hl1.1
 generalize hR5:h1.next=R5 at*
 generalize h1.new ⟨some 38,2,[.sl none 0 0 none, .bool false]⟩=h2 at*
 have l02:=H.le_trans hl1 hlA
 refine loop_cut (fun ρ h'=>h'.wf∧h1.le h'∧h.le h'∧ρ 0= .sl id off ps.length c∧ρ 1= .int .i64 n∧ρ 5= .ptr (some (R5,0))∧∃s0 s1,h'.rows R5=some ⟨some 38,2,[s0,s1]⟩∧Zr h' (.agg [s0,s1]) (sumI ps)) ?_ ?_
 ·refine for_rule (fun j ρ h'=>j≤ps.length∧h'.wf∧h1.le h'∧h.le h'∧ρ 0= .sl id off ps.length c∧ρ 1= .int .i64 n∧ρ 5= .ptr (some (R5,0))∧ρ 6= .int .i64 (j:Int)∧∃s0 s1,h'.rows R5=some ⟨some 38,2,[s0,s1]⟩∧Zr h' (.agg [s0,s1]) (sumI (ps.take j))) ps.length
   ⟨by omega,hwA,hlA,l02,by first|rfl|trivial|assumption,by first|rfl|trivial|assumption,by first|rfl|trivial|assumption,by first|rfl|trivial|assumption,_,_,r5,⟨_,false,0,rfl,⟨[],IsN.nil _ _,by simp,by simp,rfl⟩,fun _=>rfl,rfl⟩⟩ (fun i ρ h hh=>hh.1) ?_
  rintro j ρ h3 ⟨hj,hw3,hl3,l03,q0,q1,q5,q6,s0,s1,r5,hs⟩
  rcases Nat.lt_or_ge j ps.length with h4|h4
  ·obtain⟨ii,l,rfl,_,hlz,hg,_,hI⟩:=hv.atz (by omega) h4
   obtain⟨w,rfl,nw,hone⟩:=IsI.nn hI (hp _ (List.getElem_mem h4)).1
   have hg2:=H.gets_le hl3 hg
   have nw:=nw.mono hl3
   have wp:=hpw _ (List.getElem_mem h4)
   have wj:=sumI_wlen hl hpw j
   have ej:=sumI_succ h4
   simp only[go_sem,q0,q1,q5,q6,ltT h4,(g2 r5).2.2]
   refine⟨by omega,by omega, ?_⟩
   simp only[go_sem,hg2,q0,q1,q5,q6,(g2 r5).2.2]
   refine zrFrom_calls nw fun o g5 hw5 hl5 ho=> ?_
   have r5:=hl5.2 _ _ r5
   simp only[go_sem,q0,q1,q5,q6,(g2 r5).2.2,true_and]
   refine zrAdd' (hs.mono hl5) ho (wbig wj (by omega)) (by rw[sg_abs];exact wbig wp (by omega)) fun r g6 hw6 hl6 hr=> ?_
   have r5:=hl6.2 _ _ r5
   rw[show sg ps[j].1 (val 18446744073709551616 ps[j].2)=zI ps[j] from rfl,←ej] at hr
   obtain⟨t0,t1,rfl,ot0,ot1⟩:=hr.two
   simp only[go_sem,q0,q1,q5,q6]
   refine⟨by trivial,all22 ot0 ot1,put2 hw1 hw6 ((H.le_trans hl3 (H.le_trans hl5 hl6))) (by omega) r5 rfl fun g7 hwg7 hlg7 _ r5n e7=> ?_⟩
   simp only[go_sem,q0,q1,q5,q6,incI (i:=j) (by omega)]
   exact⟨by omega,hwg7,hlg7,H.le_trans hl1 hlg7,by first|rfl|trivial|assumption,by first|rfl|trivial|assumption,by first|rfl|trivial|assumption,by first|rfl|trivial|assumption,_,_,r5n,hr.lee2 r5 e7⟩
  ·obtain rfl:j=ps.length:=by omega
   rw[List.take_length] at hs
   simp only[go_sem,q0,q1,q5,q6,ltF (Nat.le_refl ps.length)]
   exact⟨hw3,hl3,l03,by first|rfl|trivial|assumption,by first|rfl|trivial|assumption,by first|rfl|trivial|assumption,_,_,r5,hs⟩
 ·rintro ρ h3 ⟨hw3,hl3,l03,q0,q1,q5,s0,s1,r5,hs⟩
  simp only[go_sem]
  refine zrSmall_calls (n:=0) (by decide) (by decide) fun o h4 hw4 hl4 ho=> ?_
  have r5:=hl4.2 _ _ r5
  obtain⟨o0,o1,rfl,oo0,oo1⟩:=ho.two
  simp only[go_sem]
  have r7:=H.rows_new h4 ⟨some 38,2,[.sl none 0 0 none, .bool false]⟩
  have hlB:=H.le_new hw4 (H.le_refl h4) ⟨some 38,2,[.sl none 0 0 none, .bool false]⟩
  have hwB:=H.wf_new hw4 ⟨some 38,2,[.sl none 0 0 none, .bool false]⟩
  simp only[List.length_cons,List.length_nil,Nat.zero_add,Nat.reduceAdd]
  have hb5:=H.row_lt hw4 r5
  generalize hR7:h4.next=R7 at*
  generalize h4.new ⟨some 38,2,[.sl none 0 0 none, .bool false]⟩=h5 at*
  have r5:=hlB.2 _ _ r5
  have l15:=(H.le_trans hl3 (H.le_trans hl4 hlB))
  refine⟨by trivial,all22 oo0 oo1,put2 hw1 hwB l15 (by omega) r7 rfl fun g1 hwg1 hlg1 _ r7n e1=> ?_⟩
  have hs:=((hs.mono hl4).mono hlB).lee2 r7 e1
  have r5:=e1.2 _ _ (by omega) r5
  simp only[go_sem,q1]
  refine cond_cut (fun ρ' g=>g.wf∧h1.le g∧ρ' 0= .sl id off ps.length c∧ρ' 1= .int .i64 n∧ρ' 5= .ptr (some (R5,0))∧ρ' 7= .ptr (some (R7,0))∧g.rows R5=some ⟨some 38,2,[s0,s1]⟩∧Zr g (.agg [s0,s1]) (sumI ps)∧∃w0 w1,g.rows R7=some ⟨some 38,2,[w0,w1]⟩∧Zr g (.agg [w0,w1]) n) ?_ ?_
  ·by_cases c1:n= -9223372036854775808
   ·subst c1
    simp only[go_sem,show((-9223372036854775808:Int)== -9223372036854775808)=true from rfl]
    have nl:Nn (g1.new ⟨some 54,1,[.int .u64 9223372036854775808]⟩) (.sl (some g1.next) 0 1 (some 1)) 9223372036854775808:=⟨[9223372036854775808],IsN.lit [9223372036854775808] _ rfl rfl,Dig.one (by omega),by simp,by simp[val]⟩
    have hlC:=H.le_new hwg1 (H.le_refl g1) ⟨some 54,1,[.int .u64 9223372036854775808]⟩
    have r5:=hlC.2 _ _ r5
    have r7n:=hlC.2 _ _ r7n
    have hs:=hs.mono hlC
    simp only[go_sem,bldI (show(AV.sl (some g1.next) 0 1 (some 1)).one=true from rfl)]
    refine zrFrom_calls nl fun o h6 hw6 hl6 ho=> ?_
    have r5:=hl6.2 _ _ r5
    have r7n:=hl6.2 _ _ r7n
    obtain⟨o0,o1,rfl,oo0,oo1⟩:=ho.two
    simp only[go_sem]
    refine⟨by trivial,all22 oo0 oo1,put2 hw1 hw6 ((H.le_trans hlg1 (H.le_trans hlC hl6))) (by omega) r7n rfl fun g2' hwg2 hlg2 _ r7m e2=> ?_⟩
    have hs:=(hs.mono hl6).lee2 r7n e2
    have ho:=ho.lee2 r7n e2
    have r5:=e2.2 _ _ (by omega) r5
    simp only[go_sem]
    exact⟨hwg2,hlg2,q0,by first|rfl|trivial|assumption,q5,by first|rfl|trivial|assumption,r5,hs,_,_,r7m,ho⟩
   ·simp only[go_sem,eqF c1,q1]
    refine zrSmall_calls (n:=n) (by omega) hn2 fun o h6 hw6 hl6 ho=> ?_
    have r5:=hl6.2 _ _ r5
    have r7n:=hl6.2 _ _ r7n
    obtain⟨o0,o1,rfl,oo0,oo1⟩:=ho.two
    simp only[go_sem]
    refine⟨by trivial,all22 oo0 oo1,put2 hw1 hw6 (H.le_trans hlg1 hl6) (by omega) r7n rfl fun g2' hwg2 hlg2 _ r7m e2=> ?_⟩
    have hs:=(hs.mono hl6).lee2 r7n e2
    have ho:=ho.lee2 r7n e2
    have r5:=e2.2 _ _ (by omega) r5
    simp only[go_sem]
    exact⟨hwg2,hlg2,q0,by first|rfl|trivial|assumption,q5,by first|rfl|trivial|assumption,r5,hs,_,_,r7m,ho⟩
  clear q0 q1 q5 r5 hs r7n
  rintro ρ g3 ⟨hwg3,hlg3,q0,q1,q5,q7,r5,hs,w0,w1,r7,hn⟩
  simp only[go_sem,q0,q1,q5,q7,(g2 r5).2.2]
  refine zSum_calls (hv.mono IsI.grows hlg3) hl hp fun s h6 hw6 hl6 hsz=> ?_
  have r5:=hl6.2 _ _ r5
  have r7:=hl6.2 _ _ r7
  simp only[go_sem,q1,q5,q7,(g2 r5).2.2,true_and]
  have hB:Big (sumI ps).natAbs:=by
   have:=sumI_wlen hl hpw ps.length
   rw[List.take_length] at this
   exact wbig this (by omega)
  refine same18_calls (hs.mono hl6) hsz hB fun h7 hw7 hl7=> ?_
  have r7:=hl7.2 _ _ r7
  simp only[go_sem,q1,q7,(g2 r7).2.2]
  refine zOf_calls (n:=n) (by omega) hn2 fun o h8 hw8 hl8 ho=> ?_
  have r7:=hl8.2 _ _ r7
  simp only[go_sem,q7,(g2 r7).2.2,true_and]
  refine same18_calls (hn.mono (H.le_trans hl6 (H.le_trans hl7 hl8))) ho (word_big (by omega)) fun h9 hw9 hl9=> ?_
  simp only[go_sem]
  refine wakes18_calls fun h10 hw10 hl10=> ?_
  simp only[go_sem]
  exact fun _=>hk h10 hw10
theorem IsA.digs {ps:List (Bool×List Nat)} (hv:IsA 2 IsI h v ps):∀p∈ps,Dig p.2:=by
 intro p hp
 obtain⟨j,hj,rfl⟩:=List.getElem_of_mem hp
 obtain⟨id,off,c,rfl⟩:=hv.form
 obtain⟨_,_,_,_,_,_,_,w,_,_,hd,_⟩:=hv.atz (by omega) hj
 exact hd
set_option maxRecDepth 100000 in
theorem NumAll_row (h:H) (avs:List AV) (_:h.wf) (r:ReadsAll Tryz.prog h [66,3] avs):ACalls Tryz.prog 7 avs h (fun r _=>r= .bool true):=by
 match avs,r with
 |[_,_],⟨r0,r1,_⟩=>
  obtain⟨ps,h1,h2⟩:=reads_wholes r0
  obtain⟨n,rfl,hn1,hn2⟩:=reads_i64 r1
  exact NumAll_law h1 h2 (IsA.digs h1) hn1 hn2 fun _ _=>rfl
end
end
end Ab
end Go.Proofs.YtnlkbdmmoplkoaaGreatDoor
