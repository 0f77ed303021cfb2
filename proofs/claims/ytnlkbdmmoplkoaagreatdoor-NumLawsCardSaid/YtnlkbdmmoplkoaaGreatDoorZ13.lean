/- Joined texts: I1 I2 I3 I4 I5 I6 I7 I8 I9 I10 J8 I18 I19. No condition. -/
import Derived.Test.YtnlkbdmmoplkoaaGreatDoorZ12
import Derived.Test.YtnlkbdmmoplkoaaGreatDoorProg
import Derived.KernelRfl
namespace Go.Proofs.YtnlkbdmmoplkoaaGreatDoor
namespace Ab
open Go Go.RowKit
set_option linter.unusedSimpArgs false
set_option linter.unusedVariables false
attribute [local go_sem ↓] x_mv x_pick x_bin x_beq x_peq x_seq x_cat x_aeq x_idxS x_idxV x_un x_cvI x_bts x_idx x_idxA x_fld x_ld x_st x_nn x_prt x_slc x_mk x_bsl x_bld x_box x_alloc x_len x_capo x_mnx x_app x_cpy x_mkf x_ext x_call x_callV x_bad s_none s_some s_nil s_cons s_chks w_skip w_reg tP_fin tP_no tP_alt w_seq w_cond w_block w_exit w_ret t_normal t_exit t_ret b_normal b_ret b_exit n_normal n_exit n_ret p_normal p_ret f_nil f_t f_c k_ops k_chk k_fin
attribute [local go_sem] e_t e_c e_f u_some u_none u_at env_at k_v k_pick k_add k_sub k_mul k_quo k_rem k_and k_or k_xor k_shl k_shr k_eql k_neq k_lss k_leq k_gtr k_geq k_beq k_peqn k_peqs k_neg k_not k_com k_cvI k_idxS k_idxV1 k_idxVn k_idx k_idxA k_idxG k_ldG k_gld k_seq k_cat k_aeq k_eqs k_fld k_ld1 k_ldn k_get k_gets k_sti k_stb k_stp k_sts k_stf k_sta k_put k_nn k_prt1 k_prtn k_slc_a k_slc_b k_slc_c k_mk k_agg k_bsl k_box k_len k_lenS k_cap k_max k_min k_ext k_callV k_true k_false k_gtt k_gtf k_gft k_gsk k_gff k_lit1i k_lit2i k_lit3i k_c0 k_c1 k_ck List.getElem?_cons_zero List.getElem?_cons_succ List.getElem?_nil Option.getD_some Option.getD_none tupOf List.map_cons List.map_nil Option.map_some Option.map_none List.nil_append List.cons_append List.append_nil Nat.mul_one Int.toNat_natCast Nat.zero_add
attribute [local go_sem] e_t e_c e_f u_some u_none u_at env_at k_v k_pick k_add k_sub k_mul k_quo k_rem k_and k_or k_xor k_shl k_shr k_eql k_neq k_lss k_leq k_gtr k_geq k_beq k_peqn k_peqs k_neg k_not k_com k_cvI k_idxS k_idxV1 k_idxVn k_idx k_idxA k_idxG k_ldG k_gld k_seq k_cat k_aeq k_eqs k_fld k_ld1 k_ldn k_get k_gets k_sti k_stb k_stp k_sts k_stf k_sta k_put k_nn k_prt1 k_prtn k_slc_a k_slc_b k_slc_c k_mk k_agg k_bsl k_box k_len k_lenS k_cap k_max k_min k_ext k_callV k_true k_false k_gtt k_gtf k_gft k_gsk k_gff k_lit1i k_lit2i k_lit3i k_c0 k_c1 k_ck List.getElem?_cons_zero List.getElem?_cons_succ List.getElem?_nil Option.getD_some Option.getD_none tupOf List.map_cons List.map_nil Option.map_some Option.map_none List.nil_append List.cons_append List.append_nil Nat.mul_one Int.toNat_natCast Nat.zero_add
--what a store into a cell of two leaves
attribute [local go_sem_proc] Nat.reduceEqDiff Nat.reduceAdd Int.reduceToNat
attribute [local go_sem_proc ↓] reduceIte
attribute [local go_sem] Bool.false_eq_true
section
def sg (b:Bool) (x:Nat):Int:=if b=true then-(x:Int) else(x:Int)
theorem sg_abs (b:Bool) (x:Nat):(sg b x).natAbs=x:=by cases b<;>simp[sg]
theorem sg_zero (b:Bool):sg b 0=0:=by cases b<;>rfl
theorem sg_made {b:Bool} {x:Nat}:sg (b&&decide (x≠0)) x=sg b x:=by
 by_cases h:x=0
 ·subst h;rw[sg_zero,sg_zero]
 ·rw[decide_eq_true h,Bool.and_true]
theorem sg_mul {a b:Bool} {x y:Nat}:sg a x*sg b y=sg (a !=b) (x*y):=by
 cases a<;>cases b<;>simp[sg,Int.neg_mul,Int.mul_neg]
theorem sg_tdiv {a b:Bool} {x y:Nat}:(sg a x).tdiv (sg b y)=sg (a !=b) (x/y):=by
 cases a<;>cases b<;>simp[sg,Int.neg_tdiv,Int.tdiv_neg,tdivN]
theorem sg_tmod {a b:Bool} {x y:Nat}:(sg a x).tmod (sg b y)=sg a (x%y):=by
 cases a<;>cases b<;>simp[sg,Int.neg_tmod,Int.tmod_neg,tmodN]
def Zf (c:Nat) (h:H) (v:AV) (z:Int):Prop:=∃w b x,v= .agg [w, .bool b]∧Nf c h w x∧(x=0→b=false)∧z=sg b x
def Zr (h:H) (v:AV) (z:Int):Prop:=∃w b x,v= .agg [w, .bool b]∧Num 4294967296 h w x∧(x=0→b=false)∧z=sg b x
theorem Zf.mono {c:Nat} {h h':H} {v:AV} {z:Int} (hv:Zf c h v z) (hl:h.le h'):Zf c h' v z:=by
 obtain⟨w,b,x,e,h1,h2⟩:=hv
 exact⟨w,b,x,e,h1.mono hl,h2⟩
theorem Zf.monoE {c u:Nat} {h h':H} {v:AV} {z:Int} (hub:u<c) (hv:Zf c h v z) (hl:H.lee u h h'):Zf c h' v z:=by
 obtain⟨w,b,x,e,h1,h2⟩:=hv
 exact⟨w,b,x,e,h1.monoE hub hl,h2⟩
theorem Zf.base {c d:Nat} {h:H} {v:AV} {z:Int} (hv:Zf c h v z) (hd:d≤c):Zf d h v z:=by
 obtain⟨w,b,x,e,h1,h2⟩:=hv
 exact⟨w,b,x,e,h1.base hd,h2⟩
theorem Nf.leeT {b i x:Nat} {h g:H} {v:AV} {r:Row} {T:TypeId} (hv:Nf b h v x) (hr:h.rows i=some r) (ho:r.own=some T) (hT:T≠54) (hl:H.lee i h g):Nf b g v x:=by
 obtain⟨xs,⟨id,c,rfl,h1⟩,h2⟩:=hv
 refine⟨xs,⟨id,c,rfl, ?_⟩,h2⟩
 rcases h1 with h1|⟨j,q,rfl,hb,hq,hqo,h3⟩
 ·exact .inl h1
 ·refine .inr ⟨j,q,rfl,hb,hl.2 j q ?_ hq,hqo,h3⟩
  rintro rfl
  rw[hr] at hq
  injection hq with hq
  rw[←hq,ho] at hqo
  injection hqo with hqo
  exact hT hqo
theorem Num.leeT {B i n:Nat} {h g:H} {v:AV} {r:Row} (hv:Num B h v n) (hr:h.rows i=some r) (ho:r.own≠none∧r.esz≠1) (hl:H.lee i h g):Num B g v n:=by
 obtain⟨xs,h1,h2⟩:=hv
 exact⟨xs,IsW.monoE hr ho.1 ho.2 h1 hl,h2⟩
--rows made
theorem new2 {h h':H} {r1 r2:Row} (hw:h.wf) (hh:(h.new r1).new r2=h'):h.le h'∧h'.wf∧h'.next=h.next+2∧h'.rows h.next=some r1∧h'.rows (h.next+1)=some r2:=by
 subst hh
 have hw1:=H.wf_new hw r1
 refine⟨H.le_new hw1 (H.le_new hw (H.le_refl h) r1) r2,H.wf_new hw1 r2,rfl, ?_,H.rows_new _ _⟩
 rw[H.rows_new_ne (by simp[H.new]),H.rows_new]
theorem new3 {h h':H} {r1 r2 r3:Row} (hw:h.wf) (hh:((h.new r1).new r2).new r3=h'):h.le h'∧h'.wf∧h'.next=h.next+3∧h'.rows h.next=some r1∧h'.rows (h.next+1)=some r2∧h'.rows (h.next+2)=some r3:=by
 subst hh
 obtain⟨a1,a2,a3,a4,a5⟩:=new2 (r1:=r1) (r2:=r2) hw rfl
 have l:=H.le_new a2 (H.le_refl _) r3
 exact⟨H.le_trans a1 l,H.wf_new a2 r3,rfl,l.2 _ _ a4,l.2 _ _ a5,H.rows_new _ _⟩
theorem g2 {h:H} {i:Nat} {T:Option TypeId} {a b:AV} (hr:h.rows i=some ⟨T,2,[a,b]⟩):h.get i 0=some a∧h.get i 1=some b∧h.gets i 0 2=some [a,b]:=by
 rw[H.get_of hr,H.get_of hr,H.gets_of hr (by simp)]
 exact⟨rfl,rfl,rfl⟩
theorem bldI {s:AV} {b:Bool} (hs:s.one=true):abuild [.sl none 0 0 none, .bool false] [(0,1,s),(1,1, .bool b)]=some [s, .bool b]:=by
 cases s<;>first|rfl|simp[AV.one] at hs
theorem all2 {s:AV} {b:Bool} (hs:s.one=true):([s, .bool b].all fun x=>x.one)=true:=by
 simp only[List.all_cons,List.all_nil,hs,Bool.true_and,Bool.and_true]
 rfl
theorem put2 {h h':H} {R:Nat} {T:TypeId} {a b:AV} {l:List AV} {K:AV→H→Prop} (hw:h.wf) (hw':h'.wf) (hl:h.le h') (hge:h.next≤R) (hr:h'.rows R=some ⟨some T,2,l⟩) (hll:l.length=2)
  (hk:∀g:H,g.wf→h.le g→g.gets R 0 2=some [a,b]→g.rows R=some ⟨some T,2,[a,b]⟩→H.lee R h' g→K .junk g):putK (h'.rows R) R 0 2 [a,b] h' K:=by
 have e:putAt l 0 [a,b]=[a,b]:=by simp[putAt,hll]
 rw[hr]
 refine⟨by simp,by simp[hll], ?_⟩
 show K .junk (h'.set R ⟨some T,2,putAt l 0 [a,b]⟩)
 rw[e]
 exact hk _ (H.wf_set hw' (H.row_lt hw' hr) _) (H.le_set hw hl hge _) (g2 (H.rows_set _ _ _)).2.2 (H.rows_set _ _ _) (H.lee_set _)
section
variable {v u wa wb:AV} {ba bb:Bool} {x y:Nat} {h:H} {K:AV→H→Prop}
theorem made_calls (nv:Nn h v x) (hk:∀h',h'.wf→h.le h'→K (.agg [v, .bool (ba&&decide (x≠0))]) h'):ACalls Tryz.prog 103 [v, .bool ba] h K:=by
 refine in_num_made (by simp) fun hw=> ?_
 unfold c_num_made
 have hl1:=H.le_new hw (H.le_refl h) ⟨some 27,2,[.sl none 0 0 none, .bool false]⟩
 have hw1:=H.wf_new hw ⟨some 27,2,[.sl none 0 0 none, .bool false]⟩
 have hr1:=H.rows_new h ⟨some 27,2,[.sl none 0 0 none, .bool false]⟩
 have e1:(!decide (x=0))=decide (x≠0):=by simp
 cases ba
 ·simp only[go_sem,bldI nv.one]
  simp only[List.length_cons,List.length_nil,Nat.zero_add,Nat.reduceAdd]
  refine⟨trivial,all2 nv.one,put2 hw hw1 hl1 (Nat.le_refl _) hr1 rfl fun g hwg hlg hg _ _=> ?_⟩
  simp only[go_sem,hg]
  exact fun _=>hk g hwg hlg
 ·simp only[go_sem]
  simp only[List.length_cons,List.length_nil,Nat.zero_add,Nat.reduceAdd]
  refine Zero_calls (nv.mono hl1) ?_
  simp only[go_sem,bldI nv.one]
  simp only[List.length_cons,List.length_nil,Nat.zero_add,Nat.reduceAdd]
  refine⟨trivial,all2 nv.one,put2 hw hw1 hl1 (Nat.le_refl _) hr1 rfl fun g hwg hlg hg _ _=> ?_⟩
  simp only[go_sem,hg,e1]
  exact fun _=>hk g hwg hlg
theorem Num.one {B n:Nat} {h:H} {v:AV} (hv:Num B h v n):v.one=true:=by
 obtain⟨xs,h1,_⟩:=hv
 obtain⟨i,o,c,rfl⟩:=h1.form
 rfl
theorem rZero_calls (nv:Num 4294967296 h v x) (hk:K (.bool (decide (x=0))) h):ACalls Tryz.prog 108 [v] h K:=by
 obtain⟨xs,h1,h2,h3,rfl⟩:=nv
 obtain⟨id,off,c,rfl⟩:=h1.form
 refine in_ref02_Zero (by simp) fun hw=> ?_
 unfold c_ref02_Zero
 have e:((xs.length:Int)==0)=decide (val 4294967296 xs=0):=by
  rw[Bool.eq_iff_iff]
  simp only[beq_iff_eq,decide_eq_true_eq]
  constructor
  ·intro h0
   have:xs=[]:=List.eq_nil_of_length_eq_zero (by omega)
   subst this
   rfl
  ·intro h0
   rcases Nat.eq_zero_or_pos xs.length with h|h
   ·omega
   ·exfalso
    have h4:xs≠ []:=by intro e;subst e;simp at h
    have h5:=val_ge 4294967296 xs h3 h4
    have h6:0<4294967296^(xs.length-1):=Nat.pow_pos (by omega)
    omega
 simp only[go_sem,e]
 exact fun _=>hk
theorem rmade_calls (nv:Num 4294967296 h v x) (hk:∀h',h'.wf→h.le h'→K (.agg [v, .bool (ba&&decide (x≠0))]) h'):ACalls Tryz.prog 99 [v, .bool ba] h K:=by
 refine in_ref17_made (by simp) fun hw=> ?_
 unfold c_ref17_made
 have hl1:=H.le_new hw (H.le_refl h) ⟨some 38,2,[.sl none 0 0 none, .bool false]⟩
 have hw1:=H.wf_new hw ⟨some 38,2,[.sl none 0 0 none, .bool false]⟩
 have hr1:=H.rows_new h ⟨some 38,2,[.sl none 0 0 none, .bool false]⟩
 have e1:(!decide (x=0))=decide (x≠0):=by simp
 have nv1:=nv.one
 cases ba
 ·simp only[go_sem,bldI nv1]
  simp only[List.length_cons,List.length_nil,Nat.zero_add,Nat.reduceAdd]
  refine⟨trivial,all2 nv1,put2 hw hw1 hl1 (Nat.le_refl _) hr1 rfl fun g hwg hlg hg _ _=> ?_⟩
  simp only[go_sem,hg]
  exact fun _=>hk g hwg hlg
 ·simp only[go_sem]
  simp only[List.length_cons,List.length_nil,Nat.zero_add,Nat.reduceAdd]
  refine rZero_calls (nv.mono hl1) ?_
  simp only[go_sem,bldI nv1]
  simp only[List.length_cons,List.length_nil,Nat.zero_add,Nat.reduceAdd]
  refine⟨trivial,all2 nv1,put2 hw hw1 hl1 (Nat.le_refl _) hr1 rfl fun g hwg hlg hg _ _=> ?_⟩
  simp only[go_sem,hg,e1]
  exact fun _=>hk g hwg hlg
theorem sg_zf {c:Nat} {w:AV} {b:Bool} (hw:Nf c h w x):Zf c h (.agg [w, .bool (b&&decide (x≠0))]) (sg b x):=
 ⟨w,_,x,rfl,hw,fun h0=>by simp[h0],sg_made.symm⟩
theorem sg_zr {w:AV} {b:Bool} (hw:Num 4294967296 h w x):Zr h (.agg [w, .bool (b&&decide (x≠0))]) (sg b x):=
 ⟨w,_,x,rfl,hw,fun h0=>by simp[h0],sg_made.symm⟩
theorem sg_add_same {a:Bool} {x y:Nat}:sg a x+sg a y=sg a (x+y):=by
 cases a<;>simp[sg]<;>omega
theorem sg_add_ge {a b:Bool} {x y:Nat} (h:a≠b) (hy:y≤x):sg a x+sg b y=sg a (x-y):=by
 cases a<;>cases b<;>simp[sg] at h⊢<;>omega
theorem sg_add_lt {a b:Bool} {x y:Nat} (h:a≠b) (hy:x≤y):sg a x+sg b y=sg b (y-x):=by
 cases a<;>cases b<;>simp[sg] at h⊢<;>omega
theorem zNorm_calls (nv:Nn h wa x) (hx:Big x) (hk:∀r h',h'.wf→h.le h'→Zf h.next h' r (sg ba x)→K r h'):ACalls Tryz.prog 50 [.agg [wa, .bool ba]] h K:=by
 refine in_num_Norm (by simp) fun hw=> ?_
 unfold c_num_Norm
 simp only[go_sem]
 simp only[AV.cells,List.length_cons,List.length_nil,Nat.zero_add,Nat.reduceAdd]
 refine⟨rfl, ?_⟩
 generalize hh:(h.new ⟨some 27,2,_⟩).new ⟨some 27,2,_⟩=h1
 obtain⟨hl1,hw1,hn1,r1,r2⟩:=new2 hw hh
 obtain⟨a1,a2,a3⟩:=g2 r1
 simp only[go_sem,a1,a2,Nat.zero_add]
 refine Norm_calls (nv.mono hl1) fun r h2 hw2 hl2 hr=> ?_
 obtain⟨b1,b2,b3⟩:=g2 (hl2.2 _ _ r1)
 simp only[go_sem,b1,b2,Nat.zero_add]
 refine⟨by simp, ?_⟩
 refine made_calls (hr.nn hx) fun h3 hw3 hl3=> ?_
 have l13:=H.le_trans hl2 hl3
 simp only[go_sem]
 refine⟨rfl,all2 hr.one,put2 hw hw3 (H.le_trans hl1 l13) (Nat.le_succ _) (l13.2 _ _ r2) rfl fun g hwg hlg hg _ hle=> ?_⟩
 simp only[go_sem,hg]
 refine fun _=>hk _ g hwg hlg (sg_zf ?_)
 have h5:=(hr.mono hl3).base hl1.1
 exact h5.leeT (l13.2 _ _ r2) rfl (by decide) hle
end
end
section
section
variable {v u wa wb:AV} {ba bb:Bool} {x y:Nat} {h:H} {K:AV→H→Prop}
theorem zAdd_calls (na:Nn h wa x) (nb:Nn h wb y) (hx:Big x) (hy:Big y) (hxy:Big (x+y)) (hk:∀r h',h'.wf→h.le h'→Zf h.next h' r (sg ba x+sg bb y)→K r h'):ACalls Tryz.prog 63 [.agg [wa, .bool ba], .agg [wb, .bool bb]] h K:=by
 refine in_num_Add (by simp) fun hw=> ?_
 unfold c_num_Add
 simp only[go_sem]
 simp only[AV.cells,List.length_cons,List.length_nil,Nat.zero_add,Nat.reduceAdd]
 refine⟨rfl,rfl, ?_⟩
 generalize hh:((h.new ⟨some 27,2,_⟩).new ⟨some 27,2,_⟩).new ⟨some 27,2,_⟩=h1
 obtain⟨hl1,hw1,hn1,r1,r2,r3⟩:=new3 hw hh
 obtain⟨a1,a2,a3⟩:=g2 r1
 obtain⟨b1,b2,b3⟩:=g2 r2
 have na1:=na.mono hl1
 have nb1:=nb.mono hl1
 change∀r h',h'.wf→h.le h'→Zf h.next h' r (sg ba x+sg bb y)→K r h' at hk
 have hR:(h.new ⟨some 27,2,[wa, .bool ba]⟩).next=h.next+1:=rfl
 have hR2:((h.new ⟨some 27,2,[wa, .bool ba]⟩).new ⟨some 27,2,[wb, .bool bb]⟩).next=h.next+2:=rfl
 --what follows the last call
 have fin:∀(h3:H) (r:AV) (c:Bool) (z:Nat) (Q:AV→H→Prop),h3.wf→h1.le h3→Nf h1.next h3 r z→(∀g:H,g.wf→h.le g→g.gets (h.next+2) 0 2=some [r, .bool (c&&decide (z≠0))]→Nf h.next g r z→Q .junk g)→putK (h3.rows (h.next+2)) (h.next+2) 0 2 [r, .bool (c&&decide (z≠0))] h3 Q:=fun h3 r c z Q hw3 hl3 hr hQ=>
  put2 hw hw3 (H.le_trans hl1 hl3) (by omega) (hl3.2 _ _ r3) rfl fun g hwg hlg hg _ hle=>hQ g hwg hlg hg ((hr.base hl1.1).leeT (hl3.2 _ _ r3) rfl (by decide) hle)
 by_cases hab:ba=bb
 ·subst hab
  rw[sg_add_same] at hk
  simp only[go_sem,hR,hR2,a1,a2,b1,b2,Nat.zero_add,beq_self_eq_true]
  refine lAdd_calls na1 nb1 fun r h2 hw2 hl2 hr=> ?_
  obtain⟨c1,c2,c3⟩:=g2 (hl2.2 _ _ r1)
  simp only[go_sem,hR,hR2,c1,c2,Nat.zero_add]
  refine⟨by simp, ?_⟩
  refine made_calls (hr.nn hxy) fun h3 hw3 hl3=> ?_
  simp only[go_sem,hR,hR2]
  refine⟨rfl,all2 hr.one,fin h3 r ba _ _ hw3 (H.le_trans hl2 hl3) (hr.mono hl3) fun g hwg hlg hg hz=> ?_⟩
  simp only[go_sem,hg]
  exact fun _=>hk _ g hwg hlg (sg_zf hz)
 ·have hbe:(ba==bb)=false:=by simpa using hab
  simp only[go_sem,hR,hR2,a1,a2,b1,b2,Nat.zero_add,hbe]
  refine lSub_calls na1 nb1 (fun hlt _=> ?_) fun hge r h2 hw2 hl2 hr=> ?_
  ·rw[sg_add_lt hab (by omega)] at hk
   simp only[go_sem,hR,hR2,a1,a2,b1,b2,Nat.zero_add]
   refine lSub_calls nb1 na1 (fun h=>absurd h (by omega)) fun _ r h2 hw2 hl2 hr=> ?_
   obtain⟨c1,c2,c3⟩:=g2 (hl2.2 _ _ r2)
   simp only[go_sem,hR,hR2,c1,c2,Nat.zero_add]
   refine made_calls (hr.nn (hy.le (by omega))) fun h3 hw3 hl3=> ?_
   simp only[go_sem,hR,hR2]
   refine⟨rfl,all2 hr.one,fin h3 r bb _ _ hw3 (H.le_trans hl2 hl3) (hr.mono hl3) fun g hwg hlg hg hz=> ?_⟩
   simp only[go_sem,hg]
   exact fun _=>hk _ g hwg hlg (sg_zf hz)
  ·rw[sg_add_ge hab hge] at hk
   obtain⟨c1,c2,c3⟩:=g2 (hl2.2 _ _ r1)
   simp only[go_sem,hR,hR2,c1,c2,Nat.zero_add]
   refine made_calls (hr.nn (hx.le (by omega))) fun h3 hw3 hl3=> ?_
   simp only[go_sem,hR,hR2]
   refine⟨rfl,all2 hr.one,fin h3 r ba _ _ hw3 (H.le_trans hl2 hl3) (hr.mono hl3) fun g hwg hlg hg hz=> ?_⟩
   simp only[go_sem,hg]
   exact fun _=>hk _ g hwg hlg (sg_zf hz)
theorem zrFrom_calls (nv:Nn h wa x) (hk:∀r h',h'.wf→h.le h'→Zr h' r (sg ba x)→K r h'):ACalls Tryz.prog 28 [.agg [wa, .bool ba]] h K:=by
 refine in_ref17_From (by simp) fun hw=> ?_
 unfold c_ref17_From
 simp only[go_sem]
 simp only[AV.cells,List.length_cons,List.length_nil,Nat.zero_add,Nat.reduceAdd]
 refine⟨rfl, ?_⟩
 generalize hh:(h.new ⟨some 27,2,_⟩).new ⟨some 38,2,_⟩=h1
 obtain⟨hl1,hw1,hn1,r1,r2⟩:=new2 hw hh
 obtain⟨a1,a2,a3⟩:=g2 r1
 have hR:(h.new ⟨some 27,2,[wa, .bool ba]⟩).next=h.next+1:=rfl
 simp only[go_sem,hR,a1,a2,Nat.zero_add]
 obtain⟨xs,v1,v2,v3,rfl⟩:=nv.mono hl1
 refine From_calls v1 v2 v3 fun r h2 hw2 hl2 hr=> ?_
 obtain⟨b1,b2,b3⟩:=g2 (hl2.2 _ _ r1)
 simp only[go_sem,hR,b1,b2,Nat.zero_add]
 refine⟨by simp, ?_⟩
 refine rmade_calls hr fun h3 hw3 hl3=> ?_
 have l13:=H.le_trans hl2 hl3
 simp only[go_sem,hR]
 refine⟨rfl,all2 hr.one,put2 hw hw3 (H.le_trans hl1 l13) (by omega) (l13.2 _ _ r2) rfl fun g hwg hlg hg _ hle=> ?_⟩
 simp only[go_sem,hg]
 exact fun _=>hk _ g hwg hlg (sg_zr ((hr.mono hl3).leeT (l13.2 _ _ r2) (by simp) hle))
theorem zrTo_calls (nv:Num 4294967296 h v x) (hx:Big x) (h0:x=0→ba=false) (hk:∀r h',h'.wf→h.le h'→Zf h.next h' r (sg ba x)→K r h'):ACalls Tryz.prog 30 [.agg [v, .bool ba]] h K:=by
 refine in_ref17_To (by simp) fun hw=> ?_
 unfold c_ref17_To
 simp only[go_sem]
 simp only[AV.cells,List.length_cons,List.length_nil,Nat.zero_add,Nat.reduceAdd]
 refine⟨rfl, ?_⟩
 generalize hh:(h.new ⟨some 38,2,_⟩).new ⟨some 27,2,_⟩=h1
 obtain⟨hl1,hw1,hn1,r1,r2⟩:=new2 hw hh
 obtain⟨a1,a2,a3⟩:=g2 r1
 have hR:(h.new ⟨some 38,2,[v, .bool ba]⟩).next=h.next+1:=rfl
 simp only[go_sem,hR,a1,a2,Nat.zero_add]
 refine To_calls (nv.mono hl1) hx fun r h2 hw2 hl2 hr=> ?_
 obtain⟨b1,b2,b3⟩:=g2 (hl2.2 _ _ r1)
 simp only[go_sem,hR,b1,b2,Nat.zero_add]
 refine⟨by simp, ?_⟩
 simp only[go_sem,bldI hr.one,hR]
 refine⟨rfl,all2 hr.one,put2 hw hw2 (H.le_trans hl1 hl2) (by omega) (hl2.2 _ _ r2) rfl fun g hwg hlg hg _ hle=> ?_⟩
 simp only[go_sem,hg]
 exact fun _=>hk _ g hwg hlg ⟨r,ba,x,rfl,(hr.base hl1.1).leeT (hl2.2 _ _ r2) rfl (by decide) hle,h0,rfl⟩
end
end
section
section
variable {c i n x:Nat} {z:Int} {h g:H} {v:AV} {T:TypeId} {l:List AV}
theorem Nn.lee2 (hv:Nn h v x) (hr:h.rows i=some ⟨some T,2,l⟩) (hl:H.lee i h g):Nn g v x:=by
 obtain⟨xs,h1,h2⟩:=hv
 exact⟨xs,IsW.monoE hr (by simp) (by simp) h1 hl,h2⟩
theorem Num.lee2 {B:Nat} (hv:Num B h v n) (hr:h.rows i=some ⟨some T,2,l⟩) (hl:H.lee i h g):Num B g v n:=hv.leeT hr (by simp) hl
theorem Nf.lee2 (hv:Nf c h v x) (hr:h.rows i=some ⟨some T,2,l⟩) (hl:H.lee i h g):Nf c g v x:=by
 obtain⟨xs,⟨id,cc,rfl,h1⟩,h2⟩:=hv
 refine⟨xs,⟨id,cc,rfl, ?_⟩,h2⟩
 rcases h1 with h1|⟨j,q,rfl,hb,hq,hqo,hz,h3⟩
 ·exact .inl h1
 ·refine .inr ⟨j,q,rfl,hb,hl.2 j q ?_ hq,hqo,hz,h3⟩
  rintro rfl
  rw[hr] at hq
  injection hq with hq
  rw[←hq] at hz
  cases hz
theorem Zf.lee2 (hv:Zf c h v z) (hr:h.rows i=some ⟨some T,2,l⟩) (hl:H.lee i h g):Zf c g v z:=by
 obtain⟨w,b,x,e,h1,h2⟩:=hv
 exact⟨w,b,x,e,h1.lee2 hr hl,h2⟩
theorem Zr.lee2 (hv:Zr h v z) (hr:h.rows i=some ⟨some T,2,l⟩) (hl:H.lee i h g):Zr g v z:=by
 obtain⟨w,b,x,e,h1,h2⟩:=hv
 exact⟨w,b,x,e,h1.lee2 hr hl,h2⟩
theorem Zf.two (hv:Zf c h v z):∃a b:AV,v= .agg [a,b]∧a.one=true∧b.one=true:=by
 obtain⟨w,b,x,rfl,h1,_⟩:=hv
 exact⟨w,_,rfl,h1.one,rfl⟩
theorem Zr.two (hv:Zr h v z):∃a b:AV,v= .agg [a,b]∧a.one=true∧b.one=true:=by
 obtain⟨w,b,x,rfl,h1,_⟩:=hv
 exact⟨w,_,rfl,h1.one,rfl⟩
end
theorem all22 {a b:AV} (ha:a.one=true) (hb:b.one=true):([a,b].all fun x=>x.one)=true:=by simp[ha,hb]
theorem sg_neg {b:Bool} {x:Nat}:sg (!b) x= -sg b x:=by cases b<;>simp[sg]
theorem sg_false {x:Nat}:sg false x=x:=rfl
theorem sg_sign {b:Bool} {x:Nat}:(sg b x).sign=if x=0 then 0 else if b=true then-1 else 1:=by
 by_cases h:x=0
 ·subst h;rw[sg_zero];rfl
 ·rw[if_neg h]
  cases b
  ·simp only[sg]
   exact Int.sign_eq_one_of_pos (by simp;omega)
  ·simp only[sg]
   exact Int.sign_eq_neg_one_of_neg (by simp;omega)
def cmpZ (a b:Int):Int:=if a<b then-1 else if a=b then 0 else 1
section
variable {v u wa wb:AV} {ba bb:Bool} {x y:Nat} {h:H} {K:AV→H→Prop}
theorem zSign_calls (na:Nn h wa x) (hk:∀h',h'.wf→h.le h'→K (.int .i64 (sg ba x).sign) h'):ACalls Tryz.prog 54 [.agg [wa, .bool ba]] h K:=by
 refine in_api_Int_Sign (by simp) fun hw=> ?_
 unfold c_api_Int_Sign
 rw[sg_sign] at hk
 simp only[go_sem]
 simp only[AV.cells,List.length_cons,List.length_nil,Nat.zero_add,Nat.reduceAdd]
 refine⟨rfl, ?_⟩
 have r1:=H.rows_new h ⟨some 27,2,[wa, .bool ba]⟩
 have hl1:=H.le_new hw (H.le_refl h) ⟨some 27,2,[wa, .bool ba]⟩
 obtain⟨a1,a2,a3⟩:=g2 r1
 simp only[go_sem,a1,Nat.zero_add]
 refine Zero_calls (na.mono hl1) ?_
 by_cases h0:x=0
 ·rw[if_pos h0] at hk
  simp only[go_sem,decide_eq_true h0]
  exact fun hw'=>hk _ hw' hl1
 ·rw[if_neg h0] at hk
  simp only[go_sem,decide_eq_false h0,a2,Nat.zero_add]
  cases ba
  ·simp only[go_sem]
   exact fun hw'=>hk _ hw' hl1
  ·simp only[go_sem]
   exact fun hw'=>hk _ hw' hl1
theorem zNeg_calls (nv:Nn h wa x) (hx:Big x) (hk:∀r h',h'.wf→h.le h'→Zf h.next h' r (-sg ba x)→K r h'):ACalls Tryz.prog 69 [.agg [wa, .bool ba]] h K:=by
 refine in_num_Neg (by simp) fun hw=> ?_
 unfold c_num_Neg
 rw[←sg_neg] at hk
 simp only[go_sem]
 simp only[AV.cells,List.length_cons,List.length_nil,Nat.zero_add,Nat.reduceAdd]
 refine⟨rfl, ?_⟩
 generalize hh:(h.new ⟨some 27,2,_⟩).new ⟨some 27,2,_⟩=h1
 obtain⟨hl1,hw1,hn1,r1,r2⟩:=new2 hw hh
 obtain⟨a1,a2,a3⟩:=g2 r1
 have hR:(h.new ⟨some 27,2,[wa, .bool ba]⟩).next=h.next+1:=rfl
 simp only[go_sem,hR,a1,a2,Nat.zero_add]
 refine Norm_calls (nv.mono hl1) fun r h2 hw2 hl2 hr=> ?_
 obtain⟨b1,b2,b3⟩:=g2 (hl2.2 _ _ r1)
 simp only[go_sem,hR,b1,b2,Nat.zero_add]
 refine⟨by simp, ?_⟩
 refine made_calls (hr.nn hx) fun h3 hw3 hl3=> ?_
 have l13:=H.le_trans hl2 hl3
 simp only[go_sem,hR]
 refine⟨rfl,all2 hr.one,put2 hw hw3 (H.le_trans hl1 l13) (by omega) (l13.2 _ _ r2) rfl fun g hwg hlg hg _ hle=> ?_⟩
 simp only[go_sem,hg]
 exact fun _=>hk _ g hwg hlg (sg_zf (((hr.mono hl3).base hl1.1).lee2 (l13.2 _ _ r2) hle))
theorem zAbs_calls (nv:Nn h wa x) (hx:Big x) (hk:∀r h',h'.wf→h.le h'→Zf h.next h' r (x:Int)→K r h'):ACalls Tryz.prog 71 [.agg [wa, .bool ba]] h K:=by
 refine in_num_Abs (by simp) fun hw=> ?_
 unfold c_num_Abs
 simp only[go_sem]
 simp only[AV.cells,List.length_cons,List.length_nil,Nat.zero_add,Nat.reduceAdd]
 refine⟨rfl, ?_⟩
 generalize hh:(h.new ⟨some 27,2,_⟩).new ⟨some 27,2,_⟩=h1
 obtain⟨hl1,hw1,hn1,r1,r2⟩:=new2 hw hh
 obtain⟨a1,a2,a3⟩:=g2 r1
 have hR:(h.new ⟨some 27,2,[wa, .bool ba]⟩).next=h.next+1:=rfl
 simp only[go_sem,hR,a1,a2,Nat.zero_add]
 refine Norm_calls (nv.mono hl1) fun r h2 hw2 hl2 hr=> ?_
 simp only[go_sem,hR]
 refine made_calls (hr.nn hx) fun h3 hw3 hl3=> ?_
 have l13:=H.le_trans hl2 hl3
 simp only[go_sem,hR]
 refine⟨rfl,all2 hr.one,put2 hw hw3 (H.le_trans hl1 l13) (by omega) (l13.2 _ _ r2) rfl fun g hwg hlg hg _ hle=> ?_⟩
 simp only[go_sem,hg]
 exact fun _=>hk _ g hwg hlg (sg_zf (b:=false) (((hr.mono hl3).base hl1.1).lee2 (l13.2 _ _ r2) hle))
theorem zSub_calls (na:Nn h wa x) (nb:Nn h wb y) (hx:Big x) (hy:Big y) (hxy:Big (x+y)) (hk:∀r h',h'.wf→h.le h'→Zf h.next h' r (sg ba x-sg bb y)→K r h'):ACalls Tryz.prog 65 [.agg [wa, .bool ba], .agg [wb, .bool bb]] h K:=by
 refine in_num_Sub (by simp) fun hw=> ?_
 unfold c_num_Sub
 simp only[go_sem]
 simp only[AV.cells,List.length_cons,List.length_nil,Nat.zero_add,Nat.reduceAdd]
 refine⟨rfl,rfl, ?_⟩
 generalize hh:((h.new ⟨some 27,2,_⟩).new ⟨some 27,2,_⟩).new ⟨some 27,2,_⟩=h1
 obtain⟨hl1,hw1,hn1,r1,r2,r3⟩:=new3 hw hh
 obtain⟨a1,a2,a3⟩:=g2 r1
 obtain⟨b1,b2,b3⟩:=g2 r2
 have hR:(h.new ⟨some 27,2,[wa, .bool ba]⟩).next=h.next+1:=rfl
 have hR2:((h.new ⟨some 27,2,[wa, .bool ba]⟩).new ⟨some 27,2,[wb, .bool bb]⟩).next=h.next+2:=rfl
 simp only[go_sem,hR,hR2,a3,b1,b2,Nat.zero_add,bldI nb.one]
 refine zAdd_calls (na.mono hl1) (nb.mono hl1) hx hy hxy fun r h2 hw2 hl2 hr=> ?_
 rw[sg_neg] at hr
 obtain⟨c1,c2,rfl,o1,o2⟩:=hr.two
 simp only[go_sem,hR,hR2]
 refine⟨rfl,all22 o1 o2,put2 hw hw2 (H.le_trans hl1 hl2) (by omega) (hl2.2 _ _ r3) rfl fun g hwg hlg hg _ hle=> ?_⟩
 simp only[go_sem,hg]
 exact fun _=>hk _ g hwg hlg ((hr.base hl1.1).lee2 (hl2.2 _ _ r3) hle)
theorem zCmp_calls (na:Nn h wa x) (nb:Nn h wb y) (hk:∀h',h'.wf→h.le h'→K (.int .i64 (cmpZ (sg ba x) (sg bb y))) h'):ACalls Tryz.prog 66 [.agg [wa, .bool ba], .agg [wb, .bool bb]] h K:=by
 refine in_num_Cmp (by simp) fun hw=> ?_
 unfold c_num_Cmp
 simp only[go_sem]
 simp only[AV.cells,List.length_cons,List.length_nil,Nat.zero_add,Nat.reduceAdd]
 refine⟨rfl,rfl, ?_⟩
 generalize hh:(h.new ⟨some 27,2,_⟩).new ⟨some 27,2,_⟩=h1
 obtain⟨hl1,hw1,hn1,r1,r2⟩:=new2 hw hh
 obtain⟨a1,a2,a3⟩:=g2 r1
 obtain⟨b1,b2,b3⟩:=g2 r2
 have hR:(h.new ⟨some 27,2,[wa, .bool ba]⟩).next=h.next+1:=rfl
 simp only[go_sem,hR,a3,b3]
 refine zSign_calls (na.mono hl1) fun h2 hw2 hl2=> ?_
 obtain⟨c1,c2,c3⟩:=g2 (hl2.2 _ _ r1)
 obtain⟨d1,d2,d3⟩:=g2 (hl2.2 _ _ r2)
 simp only[go_sem,hR,c3,d3]
 refine⟨by simp, ?_⟩
 refine zSign_calls ((nb.mono hl1).mono hl2) fun h3 hw3 hl3=> ?_
 obtain⟨e1,e2,e3⟩:=g2 (hl3.2 _ _ (hl2.2 _ _ r1))
 obtain⟨f1,f2,f3⟩:=g2 (hl3.2 _ _ (hl2.2 _ _ r2))
 have l03:=(H.le_trans hl1 (H.le_trans hl2 hl3))
 have sx:(sg ba x).sign= -1∨(sg ba x).sign=0∨(sg ba x).sign=1:=by
  rw[sg_sign];split
  ·simp
  ·split<;>simp
 have sy:(sg bb y).sign= -1∨(sg bb y).sign=0∨(sg bb y).sign=1:=by
  rw[sg_sign];split
  ·simp
  ·split<;>simp
 have kx:=Int.sign_eq_neg_one_iff_neg (a:=sg ba x)
 have kx1:=Int.sign_eq_one_iff_pos (a:=sg ba x)
 have kx0:=Int.sign_eq_zero_iff_zero (a:=sg ba x)
 have ky:=Int.sign_eq_neg_one_iff_neg (a:=sg bb y)
 have ky1:=Int.sign_eq_one_iff_pos (a:=sg bb y)
 have ky0:=Int.sign_eq_zero_iff_zero (a:=sg bb y)
 by_cases hne:(sg ba x).sign=(sg bb y).sign
 ·simp only[go_sem,neF hne,e1,f1,hR,Nat.zero_add]
  refine lCmp_calls (na.mono l03) (nb.mono l03) ?_
  by_cases hneg:(sg ba x).sign<0
  ·have h1:=kx.1 (by omega)
   have h2:=ky.1 (by omega)
   have e:IntKind.i64.wrap (0-cmpI x y)=cmpZ (sg ba x) (sg bb y):=by
    have hba:ba=true:=by cases ba;(simp[sg] at h1;omega);rfl
    have hbb:bb=true:=by cases bb;(simp[sg] at h2;omega);rfl
    subst hba hbb
    unfold cmpI cmpZ sg
    simp only[if_true]
    split
    ·rw[if_neg (by omega),if_neg (by omega)];rfl
    ·split
     ·rw[if_neg (by omega),if_pos (by omega)];rfl
     ·rw[if_pos (by omega)];rfl
   simp only[go_sem,decide_eq_true hneg,e]
   exact fun hw'=>hk _ hw' l03
  ·have e:cmpI x y=cmpZ (sg ba x) (sg bb y):=by
    have h1:¬sg ba x<0:=fun h=>by have:=kx.2 h;omega
    have h2:¬sg bb y<0:=fun h=>by have:=ky.2 h;omega
    have hx':sg ba x=(x:Int):=by cases ba<;>simp[sg] at h1⊢<;>omega
    have hy':sg bb y=(y:Int):=by cases bb<;>simp[sg] at h2⊢<;>omega
    rw[hx',hy']
    unfold cmpI cmpZ
    split
    ·rw[if_pos (by omega)]
    ·split
     ·rw[if_neg (by omega),if_pos (by omega)]
     ·rw[if_neg (by omega),if_neg (by omega)]
   simp only[go_sem,decide_eq_false hneg,e]
   exact fun hw'=>hk _ hw' l03
 ·by_cases hlt:(sg ba x).sign<(sg bb y).sign
  ·have e:cmpZ (sg ba x) (sg bb y)= -1:=by
    unfold cmpZ
    rw[if_pos (by omega)]
   rw[e] at hk
   simp only[go_sem,neT hne,decide_eq_true hlt]
   exact fun hw'=>hk _ hw' l03
  ·have e:cmpZ (sg ba x) (sg bb y)=1:=by
    unfold cmpZ
    rw[if_neg (by omega),if_neg (by omega)]
   rw[e] at hk
   simp only[go_sem,neT hne,decide_eq_false hlt]
   exact fun hw'=>hk _ hw' l03
theorem zOf_calls {n:Int} (h1: -9223372036854775808≤n) (h2:n<9223372036854775808) (hk:∀r h',h'.wf→h.le h'→Zf h.next h' r n→K r h'):ACalls Tryz.prog 49 [.int .i64 n] h K:=by
 refine in_num_Of (by simp) fun hw=> ?_
 unfold c_num_Of
 have hl1:=H.le_new hw (H.le_refl h) ⟨some 27,2,[.sl none 0 0 none, .bool false]⟩
 have hw1:=H.wf_new hw ⟨some 27,2,[.sl none 0 0 none, .bool false]⟩
 have hr1:=H.rows_new h ⟨some 27,2,[.sl none 0 0 none, .bool false]⟩
 have fin:∀(b:Bool) (k:Nat),n=sg b k→k<18446744073709551616→∀(h3:H) (r:AV) (Q:AV→H→Prop),h3.wf→(h.new ⟨some 27,2,[.sl none 0 0 none, .bool false]⟩).le h3→Nf (h.next+1) h3 r k→(∀g:H,g.wf→h.le g→g.gets h.next 0 2=some [r, .bool (b&&decide (k≠0))]→Zf h.next g (.agg [r, .bool (b&&decide (k≠0))]) n→Q .junk g)→putK (h3.rows h.next) h.next 0 2 [r, .bool (b&&decide (k≠0))] h3 Q:=fun b k hn hk3 h3 r Q hw3 hl3 hr hQ=>
  put2 hw hw3 (H.le_trans hl1 hl3) (Nat.le_refl _) (hl3.2 _ _ hr1) rfl fun g hwg hlg hg _ hle=>hQ g hwg hlg hg (by rw[hn];exact sg_zf ((hr.base (Nat.le_succ _)).lee2 (hl3.2 _ _ hr1) hle))
 by_cases hn:n<0
 ·obtain⟨k,hkn⟩:∃k:Nat,n= -(k:Int):=⟨n.natAbs,by omega⟩
  have e1:IntKind.u64.wrap (0-IntKind.u64.wrap n)=(k:Int):=by
   rw[wUm,wUm,hkn]
   omega
  simp only[go_sem,decide_eq_true hn]
  simp only[List.length_cons,List.length_nil,Nat.zero_add,Nat.reduceAdd]
  simp only[go_sem,e1]
  refine One_calls (x:=k) (by omega) fun r h2 hw2 hl2 hr=> ?_
  simp only[go_sem]
  refine made_calls (hr.nn (word_big (by omega))) fun h3 hw3 hl3=> ?_
  simp only[go_sem]
  refine⟨rfl,all2 hr.one,fin true k (by simp[sg,hkn]) (by omega) h3 r _ hw3 (H.le_trans hl2 hl3) (hr.mono hl3) fun g hwg hlg hg hz=> ?_⟩
  simp only[go_sem,hg]
  exact fun _=>hk _ g hwg hlg hz
 ·obtain⟨k,hkn⟩:∃k:Nat,n=(k:Int):=⟨n.toNat,by omega⟩
  have e1:IntKind.u64.wrap n=(k:Int):=by
   rw[hkn,wU]<;>omega
  simp only[go_sem,decide_eq_false hn]
  simp only[List.length_cons,List.length_nil,Nat.zero_add,Nat.reduceAdd]
  simp only[go_sem,e1]
  refine One_calls (x:=k) (by omega) fun r h2 hw2 hl2 hr=> ?_
  simp only[go_sem]
  refine made_calls (hr.nn (word_big (by omega))) fun h3 hw3 hl3=> ?_
  simp only[go_sem]
  refine⟨rfl,all2 hr.one,fin false k (by simp[sg,hkn]) (by omega) h3 r _ hw3 (H.le_trans hl2 hl3) (hr.mono hl3) fun g hwg hlg hg hz=> ?_⟩
  simp only[go_sem,hg]
  exact fun _=>hk _ g hwg hlg hz
end
end
section
def floQ (a b:Int):Int:=if a.tmod b≠0∧decide (a.tmod b<0)≠decide (b<0) then a.tdiv b-1 else a.tdiv b
def floR (a b:Int):Int:=if a.tmod b≠0∧decide (a.tmod b<0)≠decide (b<0) then a.tmod b+b else a.tmod b
def eucQ (a b:Int):Int:=if a.tmod b<0 then(if b<0 then a.tdiv b+1 else a.tdiv b-1) else a.tdiv b
def eucR (a b:Int):Int:=if a.tmod b<0 then(if b<0 then a.tmod b-b else a.tmod b+b) else a.tmod b
theorem sg_lt0 {b:Bool} {x:Nat} (h:x=0→b=false):b=decide (sg b x<0):=by
 cases b
 ·simp[sg]
 ·have:x≠0:=fun h0=>by cases h h0
  simp[sg];omega
section
variable {v u wa wb:AV} {ba bb:Bool} {x y:Nat} {h:H} {K:AV→H→Prop}
theorem zrSmall_calls {n:Int} (h1: -9223372036854775808<n) (h2:n<9223372036854775808) (hk:∀r h',h'.wf→h.le h'→Zr h' r n→K r h'):ACalls Tryz.prog 47 [.int .i64 n] h K:=by
 refine in_ref17_Small (by simp) fun hw=> ?_
 unfold c_ref17_Small
 have hl1:=H.le_new hw (H.le_refl h) ⟨some 38,2,[.sl none 0 0 none, .bool false]⟩
 have hw1:=H.wf_new hw ⟨some 38,2,[.sl none 0 0 none, .bool false]⟩
 have hr1:=H.rows_new h ⟨some 38,2,[.sl none 0 0 none, .bool false]⟩
 have fin:∀(b:Bool) (k:Nat),n=sg b k→∀(h3:H) (r:AV) (Q:AV→H→Prop),h3.wf→(h.new ⟨some 38,2,[.sl none 0 0 none, .bool false]⟩).le h3→Num 4294967296 h3 r k→(∀g:H,g.wf→h.le g→g.gets h.next 0 2=some [r, .bool (b&&decide (k≠0))]→Zr g (.agg [r, .bool (b&&decide (k≠0))]) n→Q .junk g)→putK (h3.rows h.next) h.next 0 2 [r, .bool (b&&decide (k≠0))] h3 Q:=fun b k hn h3 r Q hw3 hl3 hr hQ=>
  put2 hw hw3 (H.le_trans hl1 hl3) (Nat.le_refl _) (hl3.2 _ _ hr1) rfl fun g hwg hlg hg _ hle=>hQ g hwg hlg hg (by rw[hn];exact sg_zr (hr.lee2 (hl3.2 _ _ hr1) hle))
 by_cases hn:n<0
 ·obtain⟨k,hkn⟩:∃k:Nat,n= -(k:Int):=⟨n.natAbs,by omega⟩
  have e0:IntKind.i64.wrap (0-n)=(k:Int):=(wI (by omega) (by omega)).trans (by omega)
  have e1:IntKind.u64.wrap (k:Int)=(k:Int):=wUn (by omega)
  simp only[go_sem,decide_eq_true hn]
  simp only[List.length_cons,List.length_nil,Nat.zero_add,Nat.reduceAdd]
  simp only[go_sem,e0,e1]
  refine Small_calls (x:=k) (by omega) fun r h2 hw2 hl2 hr=> ?_
  simp only[go_sem]
  refine rmade_calls hr fun h3 hw3 hl3=> ?_
  simp only[go_sem]
  refine⟨rfl,all2 hr.one,fin true k (by simp[sg,hkn]) h3 r _ hw3 (H.le_trans hl2 hl3) (hr.mono hl3) fun g hwg hlg hg hz=> ?_⟩
  simp only[go_sem,hg]
  exact fun _=>hk _ g hwg hlg hz
 ·obtain⟨k,hkn⟩:∃k:Nat,n=(k:Int):=⟨n.toNat,by omega⟩
  have e1:IntKind.u64.wrap n=(k:Int):=by
   rw[hkn,wU]<;>omega
  simp only[go_sem,decide_eq_false hn]
  simp only[List.length_cons,List.length_nil,Nat.zero_add,Nat.reduceAdd]
  simp only[go_sem,e1]
  refine Small_calls (x:=k) (by omega) fun r h2 hw2 hl2 hr=> ?_
  simp only[go_sem]
  refine rmade_calls hr fun h3 hw3 hl3=> ?_
  simp only[go_sem]
  refine⟨rfl,all2 hr.one,fin false k (by simp[sg,hkn]) h3 r _ hw3 (H.le_trans hl2 hl3) (hr.mono hl3) fun g hwg hlg hg hz=> ?_⟩
  simp only[go_sem,hg]
  exact fun _=>hk _ g hwg hlg hz
end
end
theorem sg_lt0' {b:Bool} {x:Nat} (h:0<x):b=decide (sg b x<0):=sg_lt0 (fun h0=>by omega)
theorem zr_open {h:H} {v:AV} {z:Int} (hv:Zr h v z):∃w,v= .agg [w, .bool (decide (z<0))]∧Num 4294967296 h w z.natAbs:=by
 obtain⟨w,b,x,rfl,h1,h2,rfl⟩:=hv
 rw[sg_abs,←sg_lt0 h2]
 exact⟨w,rfl,h1⟩
theorem zf_open {c:Nat} {h:H} {v:AV} {z:Int} (hv:Zf c h v z):∃w,v= .agg [w, .bool (decide (z<0))]∧Nf c h w z.natAbs:=by
 obtain⟨w,b,x,rfl,h1,h2,rfl⟩:=hv
 rw[sg_abs,←sg_lt0 h2]
 exact⟨w,rfl,h1⟩
theorem sg_self {z:Int}:sg (decide (z<0)) z.natAbs=z:=by
 unfold sg
 by_cases h:z<0
 ·rw[decide_eq_true h,if_pos rfl];omega
 ·rw[decide_eq_false h,if_neg (by simp)];omega
section
theorem put2E {u:Nat} {h h':H} {R:Nat} {T:TypeId} {a b:AV} {l:List AV} {K:AV→H→Prop} (hw:h.wf) (hw':h'.wf) (hl:H.lee u h h') (hge:h.next≤R) (hr:h'.rows R=some ⟨some T,2,l⟩) (hll:l.length=2)
  (hk:∀g:H,g.wf→H.lee u h g→g.gets R 0 2=some [a,b]→g.rows R=some ⟨some T,2,[a,b]⟩→H.lee R h' g→K .junk g):putK (h'.rows R) R 0 2 [a,b] h' K:=by
 have e:putAt l 0 [a,b]=[a,b]:=by simp[putAt,hll]
 rw[hr]
 refine⟨by simp,by simp[hll], ?_⟩
 show K .junk (h'.set R ⟨some T,2,putAt l 0 [a,b]⟩)
 rw[e]
 exact hk _ (H.wf_set hw' (H.row_lt hw' hr) _) (H.lee_put hw hl hge _) (g2 (H.rows_set _ _ _)).2.2 (H.rows_set _ _ _) (H.lee_set _)
theorem Tune.lee2 {u R m nw dp:Nat} {t:Tb} {h g:H} (ht:Tune h u m nw dp t) (hl:H.lee R h g) (hR:u≠R):Tune g u m nw dp t:=hl.2 _ _ hR ht
theorem zeroI:abuild [.sl none 0 0 none, .bool false] []=some [.sl none 0 0 none, .bool false]:=rfl
section
variable {wa wb:AV} {ba bb:Bool} {x y e u m nw dp:Nat} {t:Tb} {h:H} {K:AV→H→Prop}
theorem zTimes_calls (he:Eng 10 h e u) (ht:Tune h u m nw dp t) (na:Nn h wa x) (nb:Nn h wb y) (hx:wlen x≤16384) (hy:wlen y≤16384) (hnw:nw≤900000000)
  (hk:∀r h' m' dp',h'.wf→H.lee u h h'→Tune h' u m' nw dp' t→Zf h.next h' r (sg ba x*sg bb y)→K r h'):
  ACalls Tryz.prog 43 [.ptr (some (e,0)), .agg [wa, .bool ba], .agg [wb, .bool bb]] h K:=by
 refine in_num_Engine_Times (by simp) fun hw=> ?_
 unfold c_num_Engine_Times
 have hub:=H.row_lt hw ht
 rw[sg_mul] at hk
 simp only[go_sem]
 simp only[AV.cells,List.length_cons,List.length_nil,Nat.zero_add,Nat.reduceAdd]
 refine⟨rfl,rfl, ?_⟩
 generalize hh:((h.new ⟨some 27,2,_⟩).new ⟨some 27,2,_⟩).new ⟨some 27,2,_⟩=h1
 obtain⟨hl1,hw1,hn1,r1,r2,r3⟩:=new3 hw hh
 have hR:(h.new ⟨some 27,2,[wa, .bool ba]⟩).next=h.next+1:=rfl
 have hR2:((h.new ⟨some 27,2,[wa, .bool ba]⟩).new ⟨some 27,2,[wb, .bool bb]⟩).next=h.next+2:=rfl
 have ht1:=ht.mono hl1
 obtain⟨f,rfl,rfl,G,E⟩:=Eng.path ht1 (he.mono hl1)
 obtain⟨a1,a2,a3⟩:=g2 r1
 obtain⟨b1,b2,b3⟩:=g2 r2
 simp only[go_sem,hR,hR2,G 0 (by omega) _ ((H.lee_refl _ _)),G 1 (by omega) _ ((H.lee_refl _ _)),G 2 (by omega) _ ((H.lee_refl _ _)),G 3 (by omega) _ ((H.lee_refl _ _)),G 4 (by omega) _ ((H.lee_refl _ _)),G 5 (by omega) _ ((H.lee_refl _ _)),a1,a2,b1,b2,Nat.zero_add]
 refine Mul2_calls (E 6 (by omega)) ht1 (na.mono hl1) (nb.mono hl1) hx hy hnw fun r h2 m2 dp2 hw2 hl2 ht2 _ hr=> ?_
 have r1:=hl2.2 _ _ (by omega) r1
 have r2:=hl2.2 _ _ (by omega) r2
 have r3:=hl2.2 _ _ (by omega) r3
 simp only[go_sem,(g2 r1).2.1,(g2 r2).2.1,Nat.zero_add]
 refine⟨by simp, ?_⟩
 refine made_calls (hr.nn (mul_big hx hy (by omega))) fun h3 hw3 hl3=> ?_
 have r3:=hl3.2 _ _ r3
 have l03:=(hl1.lee.trans hl2).trans hl3.lee
 have hr:=hr.mono hl3
 simp only[go_sem,hR,hR2]
 refine⟨by trivial,all2 hr.one,put2E hw hw3 l03 (by omega) r3 rfl fun g hwg hlg hg _ e1=> ?_⟩
 simp only[go_sem,hg]
 exact fun _=>hk _ g _ _ hwg hlg ((ht2.mono hl3).lee2 e1 (by omega)) (sg_zf ((hr.base (by omega)).lee2 r3 e1))
theorem zTrunc_calls (hT:TbOK t) (he:Eng 10 h e u) (ht:Tune h u m nw dp t) (na:Nn h wa x) (nb:Nn h wb y) (hx:wlen x≤4000) (hy:wlen y≤4000) (hnw:nw≤600000000)
  (hk0:y=0→∀h',h'.wf→h.le h'→K (.tup [.agg [.sl none 0 0 none, .bool false], .agg [.sl none 0 0 none, .bool false], .int .i64 2]) h')
  (hk:0<y→∀q r h' m' dp',h'.wf→H.lee u h h'→Tune h' u m' nw dp' t→Zf h.next h' q ((sg ba x).tdiv (sg bb y))→Zf h.next h' r ((sg ba x).tmod (sg bb y))→K (.tup [q,r, .int .i64 0]) h'):
  ACalls Tryz.prog 56 [.ptr (some (e,0)), .agg [wa, .bool ba], .agg [wb, .bool bb]] h K:=by
 refine in_num_Engine_Trunc (by simp) fun hw=> ?_
 unfold c_num_Engine_Trunc
 have hub:=H.row_lt hw ht
 rw[sg_tdiv,sg_tmod] at hk
 simp only[go_sem]
 simp only[AV.cells,List.length_cons,List.length_nil,Nat.zero_add,Nat.reduceAdd]
 refine⟨rfl,rfl, ?_⟩
 generalize hh2:(h.new ⟨some 27,2,_⟩).new ⟨some 27,2,_⟩=h0
 obtain⟨hl0,hw0,hn0,r1,r2⟩:=new2 hw hh2
 have hR:(h.new ⟨some 27,2,[wa, .bool ba]⟩).next=h.next+1:=rfl
 generalize hh:(h0.new ⟨some 27,2,_⟩).new ⟨some 27,2,_⟩=h1
 obtain⟨hl1,hw1,hn1,r3,r4⟩:=new2 hw0 hh
 have hR3:(h0.new ⟨some 27,2,[.sl none 0 0 none, .bool false]⟩).next=h0.next+1:=rfl
 have l01:=H.le_trans hl0 hl1
 have r1:=hl1.2 _ _ r1
 have r2:=hl1.2 _ _ r2
 have ht1:=ht.mono l01
 obtain⟨f,rfl,rfl,G,E⟩:=Eng.path ht1 (he.mono l01)
 simp only[go_sem,hR,hR3,G 0 (by omega) _ ((H.lee_refl _ _)),G 1 (by omega) _ ((H.lee_refl _ _)),G 2 (by omega) _ ((H.lee_refl _ _)),(g2 r1).1,(g2 r2).1,Nat.zero_add]
 refine DivMod2_calls hT (E 3 (by omega)) ht1 (na.mono l01) (nb.mono l01) hx hy hnw (fun hy0 _=> ?_) fun hy0 q r h2 m2 dp2 hw2 hl2 ht2 _ hq hr=> ?_
 ·simp only[go_sem,show((2:Int) !=0)=true from rfl,zeroI]
  refine⟨by trivial,by trivial,put2 hw hw1 l01 (by omega) r3 rfl fun g1 hwg1 hlg1 hg1 r3 e1=> ?_⟩
  have r4:=e1.2 _ _ (by omega) r4
  simp only[go_sem,hR3]
  refine⟨by trivial,by trivial,put2 hw hwg1 hlg1 (by omega) r4 rfl fun g2' hwg2 hlg2 hg2 _ e2=> ?_⟩
  have r3:=e2.2 _ _ (by omega) r3
  simp only[go_sem,hg2,(g2 r3).2.2]
  exact fun _=>hk0 hy0 g2' hwg2 hlg2
 ·have r1:=hl2.2 _ _ (by omega) r1
  have r2:=hl2.2 _ _ (by omega) r2
  have r3:=hl2.2 _ _ (by omega) r3
  have r4:=hl2.2 _ _ (by omega) r4
  simp only[go_sem,show((0:Int) !=0)=false from rfl,(g2 r1).2.1,(g2 r2).2.1,Nat.zero_add]
  have hbq:Big (x/y):=(wbig hx (by omega)).le (Nat.div_le_self _ _)
  have hbr:Big (x%y):=(wbig hx (by omega)).le (Nat.mod_le _ _)
  refine made_calls (hq.nn hbq) fun h3 hw3 hl3=> ?_
  have r1:=hl3.2 _ _ r1
  have r3:=hl3.2 _ _ r3
  have r4:=hl3.2 _ _ r4
  simp only[go_sem,(g2 r1).2.1,Nat.zero_add]
  refine⟨by simp, ?_⟩
  refine made_calls ((hr.mono hl3).nn hbr) fun h4 hw4 hl4=> ?_
  have r3:=hl4.2 _ _ r3
  have r4:=hl4.2 _ _ r4
  have l24:=H.le_trans hl3 hl4
  have hq:=(hq.mono l24).base l01.1
  have hr:=(hr.mono l24).base l01.1
  have l04:=(l01.lee.trans hl2).trans l24.lee
  simp only[go_sem,hR3]
  refine⟨by trivial,all2 hq.one,put2E hw hw4 l04 (by omega) r3 rfl fun g1 hwg1 hlg1 hg1 r3' e1=> ?_⟩
  have hq:=hq.lee2 r3 e1
  have hr:=hr.lee2 r3 e1
  have r4:=e1.2 _ _ (by omega) r4
  simp only[go_sem,hR3]
  refine⟨by trivial,all2 hr.one,put2E hw hwg1 hlg1 (by omega) r4 rfl fun g2' hwg2 hlg2 hg2 _ e2=> ?_⟩
  have r3':=e2.2 _ _ (by omega) r3'
  simp only[go_sem,hg2,(g2 r3').2.2]
  exact fun _=>hk hy0 _ _ g2' _ _ hwg2 hlg2 (((ht2.mono l24).lee2 e1 (by omega)).lee2 e2 (by omega)) (sg_zf (hq.lee2 r4 e2)) (sg_zf (hr.lee2 r4 e2))
end
end
section
theorem add_big {x y n k:Nat} (hx:wlen x≤n) (hy:wlen y≤k) (h:n+k≤300000):Big (x+y):=by
 have h1:=wlen_le.1 (Nat.le_trans hx (Nat.le_add_right n k))
 have h2:=wlen_le.1 (Nat.le_trans hy (Nat.le_add_left k n))
 refine lt_bigW (k:=n+k+1) ?_ (by omega)
 rw[Nat.pow_succ]
 have:18446744073709551616^(n+k)*2≤18446744073709551616^(n+k)*18446744073709551616:=Nat.mul_le_mul_left _ (by decide)
 omega
section
variable {wa wb:AV} {ba bb:Bool} {x y e u m nw dp:Nat} {t:Tb} {h:H} {K:AV→H→Prop}
theorem zFloor_calls (hT:TbOK t) (he:Eng 10 h e u) (ht:Tune h u m nw dp t) (na:Nn h wa x) (nb:Nn h wb y) (hx:wlen x≤4000) (hy:wlen y≤4000) (hnw:nw≤600000000)
  (hk0:y=0→∀h',h'.wf→h.le h'→K (.tup [.agg [.sl none 0 0 none, .bool false], .agg [.sl none 0 0 none, .bool false], .int .i64 2]) h')
  (hk:0<y→∀q r h' m' dp',h'.wf→H.lee u h h'→Tune h' u m' nw dp' t→Zf h.next h' q (floQ (sg ba x) (sg bb y))→Zf h.next h' r (floR (sg ba x) (sg bb y))→K (.tup [q,r, .int .i64 0]) h'):
  ACalls Tryz.prog 57 [.ptr (some (e,0)), .agg [wa, .bool ba], .agg [wb, .bool bb]] h K:=by
 refine in_num_Engine_Floor (by simp) fun hw=> ?_
 unfold c_num_Engine_Floor
 have hub:=H.row_lt hw ht
 simp only[go_sem]
 simp only[AV.cells,List.length_cons,List.length_nil,Nat.zero_add,Nat.reduceAdd]
 refine⟨rfl,rfl, ?_⟩
 generalize hh2:(h.new ⟨some 27,2,_⟩).new ⟨some 27,2,_⟩=h0
 obtain⟨hl0,hw0,hn0,r1,r2⟩:=new2 hw hh2
 have hR:(h.new ⟨some 27,2,[wa, .bool ba]⟩).next=h.next+1:=rfl
 generalize hh:(h0.new ⟨some 27,2,_⟩).new ⟨some 27,2,_⟩=h1
 obtain⟨hl1,hw1,hn1,r3,r4⟩:=new2 hw0 hh
 have hR3:(h0.new ⟨some 27,2,[.sl none 0 0 none, .bool false]⟩).next=h0.next+1:=rfl
 have l01:=H.le_trans hl0 hl1
 have r1:=hl1.2 _ _ r1
 have r2:=hl1.2 _ _ r2
 have ht1:=ht.mono l01
 simp only[go_sem,hR,hR3,(g2 r1).2.2,(g2 r2).2.2]
 refine zTrunc_calls hT (he.mono l01) ht1 (na.mono l01) (nb.mono l01) hx hy hnw (fun hy0 h2 hw2 hl2=> ?_) fun hy0 q r h2 m2 dp2 hw2 hl2 ht2 hq hr=> ?_
 ·have l02:=H.le_trans l01 hl2
  have r1:=hl2.2 _ _ r1
  have r2:=hl2.2 _ _ r2
  have r3:=hl2.2 _ _ r3
  have r4:=hl2.2 _ _ r4
  simp only[go_sem]
  refine⟨by trivial,by trivial,put2 hw hw2 l02 (by omega) r3 rfl fun g1 hwg1 hlg1 hg1 r3 e1=> ?_⟩
  have r4:=e1.2 _ _ (by omega) r4
  simp only[go_sem,hR3]
  refine⟨by trivial,by trivial,put2 hw hwg1 hlg1 (by omega) r4 rfl fun g2' hwg2 hlg2 hg2 r4 e2=> ?_⟩
  have r3:=e2.2 _ _ (by omega) r3
  simp only[go_sem,show((2:Int)==0)=false from rfl,(g2 r3).2.2,(g2 r4).2.2]
  refine⟨by trivial,by trivial,put2 hw hwg2 hlg2 (by omega) r3 rfl fun g3 hwg3 hlg3 hg3 r3 e3=> ?_⟩
  have r4:=e3.2 _ _ (by omega) r4
  simp only[go_sem,(g2 r4).2.2]
  refine⟨by simp,by trivial,by trivial,put2 hw hwg3 hlg3 (by omega) r4 rfl fun g4 hwg4 hlg4 hg4 _ e4=> ?_⟩
  have r3:=e4.2 _ _ (by omega) r3
  simp only[go_sem,hg4,(g2 r3).2.2]
  exact fun _=>hk0 hy0 g4 hwg4 hlg4
 have tm:(sg ba x).tmod (sg bb y)=sg ba (x%y):=sg_tmod
 have tq:(sg ba x).tdiv (sg bb y)=sg (ba !=bb) (x/y):=sg_tdiv
 have hbr:wlen ((sg ba x).tmod (sg bb y)).natAbs≤4000:=by rw[tm,sg_abs];exact Nat.le_trans (wlen_mono (Nat.mod_le _ _)) hx
 have hbq:wlen ((sg ba x).tdiv (sg bb y)).natAbs≤4000:=by rw[tq,sg_abs];exact Nat.le_trans (wlen_mono (Nat.div_le_self _ _)) hx
 have hbb:bb=decide (sg bb y<0):=sg_lt0' hy0
 unfold floQ floR at hk
 obtain⟨vq,rfl,nq⟩:=zf_open hq
 obtain⟨vr,rfl,nr⟩:=zf_open hr
 generalize (sg ba x).tmod (sg bb y)=zr at*
 generalize (sg ba x).tdiv (sg bb y)=zq at*
 have hub1:u<h1.next:=Nat.lt_of_lt_of_le hub l01.1
 have r1:=hl2.2 _ _ (by omega) r1
 have r2:=hl2.2 _ _ (by omega) r2
 have r3:=hl2.2 _ _ (by omega) r3
 have r4:=hl2.2 _ _ (by omega) r4
 have nb2:=((nb.mono l01).monoE' ht1 hl2)
 have l02:=l01.lee.trans hl2
 simp only[go_sem]
 refine⟨by trivial,all2 nq.one,put2E hw hw2 l02 (by omega) r3 rfl fun g1 hwg1 hlg1 hg1 r3n e1=> ?_⟩
 have nq:=(nq.base l01.1).lee2 r3 e1
 have nr:=(nr.base l01.1).lee2 r3 e1
 have nb3:=nb2.lee2 r3 e1
 have ht3:=ht2.lee2 e1 (by omega)
 have r1:=e1.2 _ _ (by omega) r1
 have r2:=e1.2 _ _ (by omega) r2
 have r4:=e1.2 _ _ (by omega) r4
 have r3:=r3n
 simp only[go_sem,hR3]
 refine⟨by trivial,all2 nr.one,put2E hw hwg1 hlg1 (by omega) r4 rfl fun g3 hwg3 hlg3 hg3 r4n e3=> ?_⟩
 have nq:=nq.lee2 r4 e3
 have nr:=nr.lee2 r4 e3
 have nb3:=nb3.lee2 r4 e3
 have ht3:=ht3.lee2 e3 (by omega)
 have r1:=e3.2 _ _ (by omega) r1
 have r2:=e3.2 _ _ (by omega) r2
 have r3:=e3.2 _ _ (by omega) r3
 have r4:=r4n
 clear hl2 hg1 hg3 ht2
 simp only[go_sem,show((0:Int)==0)=true from rfl,(g2 r4).2.2]
 refine zSign_calls (nr.nn (wbig hbr (by omega))) fun g4 hwg4 hl4=> ?_
 rw[sg_self]
 have hlg4:=hlg3.trans hl4.lee
 have ht4:=ht3.mono hl4
 have r1:=hl4.2 _ _ r1
 have r2:=hl4.2 _ _ r2
 have r3:=hl4.2 _ _ r3
 have r4:=hl4.2 _ _ r4
 have nq:=nq.mono hl4
 have nr:=nr.mono hl4
 have nb4:=nb3.mono hl4
 have hs1:=sg_self (z:=zr)
 have hs2:=sg_self (z:=zq)
 have fq:Zf h.next g4 (.agg [vq, .bool (decide (zq<0))]) zq:=⟨_,_,_,rfl,nq,fun h0=>by simp;omega,sg_self.symm⟩
 have fr:Zf h.next g4 (.agg [vr, .bool (decide (zr<0))]) zr:=⟨_,_,_,rfl,nr,fun h0=>by simp;omega,sg_self.symm⟩
 by_cases hz:zr=0
 ·rw[if_neg (by simp[hz])] at hk
  rw[if_neg (by simp[hz])] at hk
  simp only[go_sem,show(zr.sign !=0)=false by simp[hz]]
  simp only[go_sem,(g2 r3).2.2,(g2 r4).2.2]
  refine⟨by trivial,all2 nq.one,put2E hw hwg4 hlg4 (by omega) r3 rfl fun g8 hwg8 hlg8 _ r3' e8=> ?_⟩
  have r4:=e8.2 _ _ (by omega) r4
  simp only[go_sem,(g2 r4).2.2]
  refine⟨by simp,by trivial,all2 nr.one,put2E hw hwg8 hlg8 (by omega) r4 rfl fun g9 hwg9 hlg9 hg9 _ e9=> ?_⟩
  have r3':=e9.2 _ _ (by omega) r3'
  simp only[go_sem,hg9,(g2 r3').2.2]
  exact fun _=>hk hy0 _ _ g9 _ _ hwg9 hlg9 ((ht4.lee2 e8 (by omega)).lee2 e9 (by omega)) ((fq.lee2 r3 e8).lee2 r4 e9) ((fr.lee2 r3 e8).lee2 r4 e9)
 ·simp only[go_sem,show(zr.sign !=0)=true by simp[hz],(g2 r4).2.1,(g2 r2).2.1,Nat.zero_add]
  have hbn:(decide (zr<0) !=bb)=decide (decide (zr<0)≠decide (sg bb y<0)):=by
   rw[←hbb]
   cases bb<;>by_cases h0:zr<0<;>simp[h0]
  by_cases hs:decide (zr<0)≠decide (sg bb y<0)
  ·rw[if_pos ⟨hz,hs⟩] at hk
   rw[if_pos ⟨hz,hs⟩] at hk
   rw[hbn,decide_eq_true hs]
   simp only[go_sem,(g2 r3).2.2,(g2 r4).2.2,(g2 r2).2.2]
   refine zOf_calls (n:=1) (by decide) (by decide) fun o g5 hwg5 hl5 ho=> ?_
   obtain⟨vo,rfl,no⟩:=zf_open ho
   have r2:=hl5.2 _ _ r2
   have r3:=hl5.2 _ _ r3
   have r4:=hl5.2 _ _ r4
   have nq:=nq.mono hl5
   have nr:=nr.mono hl5
   have nb4:=nb4.mono hl5
   simp only[go_sem,(g2 r3).2.2,(g2 r4).2.2,(g2 r2).2.2]
   refine⟨by simp, ?_⟩
   have w1:wlen (Int.natAbs 1)≤1:=by decide
   refine zSub_calls (nq.nn (wbig hbq (by omega))) (no.nn (wbig w1 (by omega))) (wbig hbq (by omega)) (wbig w1 (by omega)) (add_big hbq w1 (by omega)) fun s1 g6 hwg6 hl6 hs1=> ?_
   have r2:=hl6.2 _ _ r2
   have r3:=hl6.2 _ _ r3
   have r4:=hl6.2 _ _ r4
   have nr:=nr.mono hl6
   have nb4:=nb4.mono hl6
   simp only[go_sem,(g2 r4).2.2,(g2 r2).2.2]
   refine⟨by simp, ?_⟩
   refine zAdd_calls (nr.nn (wbig hbr (by omega))) nb4 (wbig hbr (by omega)) (wbig hy (by omega)) (add_big hbr hy (by omega)) fun s2 g7 hwg7 hl7 hs2=> ?_
   have r3:=hl7.2 _ _ r3
   have r4:=hl7.2 _ _ r4
   have hs1:=hs1.mono hl7
   rw[sg_self] at hs1 hs2
   obtain⟨v1,rfl,n1⟩:=zf_open hs1
   obtain⟨v2,rfl,n2⟩:=zf_open hs2
   have l57:=H.le_trans hl5 (H.le_trans hl6 hl7)
   have hlg7:=hlg4.trans l57.lee
   have hb7:=hlg4.1
   have hb6:h.next≤g6.next:=Nat.le_trans hlg4.1 (H.le_trans hl5 hl6).1
   have hb5:h.next≤g5.next:=Nat.le_trans hlg4.1 hl5.1
   have hs1:=hs1.base hb5
   have hs2:=hs2.base hb6
   have ht7:=ht4.mono l57
   simp only[go_sem]
   refine⟨by trivial,all2 n1.one,put2E hw hwg7 hlg7 (by omega) r3 rfl fun g8 hwg8 hlg8 hg8 r3' e8=> ?_⟩
   have hs1:=hs1.lee2 r3 e8
   have hs2:=hs2.lee2 r3 e8
   have ht8:=ht7.lee2 e8 (by omega)
   have r4:=e8.2 _ _ (by omega) r4
   have r3:=r3'
   simp only[go_sem]
   refine⟨by trivial,all2 n2.one,put2E hw hwg8 hlg8 (by omega) r4 rfl fun g9 hwg9 hlg9 hg9 r4' e9=> ?_⟩
   have hs1:=hs1.lee2 r4 e9
   have hs2:=hs2.lee2 r4 e9
   have ht9:=ht8.lee2 e9 (by omega)
   have r3:=e9.2 _ _ (by omega) r3
   have r4:=r4'
   simp only[go_sem,(g2 r3).2.2,(g2 r4).2.2]
   refine⟨by trivial,all2 n1.one,put2E hw hwg9 hlg9 (by omega) r3 rfl fun k8 hwk8 hlk8 _ r3' e8=> ?_⟩
   have r4:=e8.2 _ _ (by omega) r4
   simp only[go_sem,(g2 r4).2.2]
   refine⟨by simp,by trivial,all2 n2.one,put2E hw hwk8 hlk8 (by omega) r4 rfl fun k9 hwk9 hlk9 hg9 _ e9=> ?_⟩
   have r3':=e9.2 _ _ (by omega) r3'
   simp only[go_sem,hg9,(g2 r3').2.2]
   exact fun _=>hk hy0 _ _ k9 _ _ hwk9 hlk9 ((ht9.lee2 e8 (by omega)).lee2 e9 (by omega)) ((hs1.lee2 r3 e8).lee2 r4 e9) ((hs2.lee2 r3 e8).lee2 r4 e9)
  ·rw[if_neg (fun h0=>hs h0.2)] at hk
   rw[if_neg (fun h0=>hs h0.2)] at hk
   rw[hbn,decide_eq_false hs]
   simp only[go_sem,(g2 r3).2.2,(g2 r4).2.2]
   refine⟨by trivial,all2 nq.one,put2E hw hwg4 hlg4 (by omega) r3 rfl fun g8 hwg8 hlg8 _ r3' e8=> ?_⟩
   have r4:=e8.2 _ _ (by omega) r4
   simp only[go_sem,(g2 r4).2.2]
   refine⟨by simp,by trivial,all2 nr.one,put2E hw hwg8 hlg8 (by omega) r4 rfl fun g9 hwg9 hlg9 hg9 _ e9=> ?_⟩
   have r3':=e9.2 _ _ (by omega) r3'
   simp only[go_sem,hg9,(g2 r3').2.2]
   exact fun _=>hk hy0 _ _ g9 _ _ hwg9 hlg9 ((ht4.lee2 e8 (by omega)).lee2 e9 (by omega)) ((fq.lee2 r3 e8).lee2 r4 e9) ((fr.lee2 r3 e8).lee2 r4 e9)
theorem zEuclid_calls (hT:TbOK t) (he:Eng 10 h e u) (ht:Tune h u m nw dp t) (na:Nn h wa x) (nb:Nn h wb y) (hx:wlen x≤4000) (hy:wlen y≤4000) (hnw:nw≤600000000)
  (hk0:y=0→∀h',h'.wf→h.le h'→K (.tup [.agg [.sl none 0 0 none, .bool false], .agg [.sl none 0 0 none, .bool false], .int .i64 2]) h')
  (hk:0<y→∀q r h' m' dp',h'.wf→H.lee u h h'→Tune h' u m' nw dp' t→Zf h.next h' q (eucQ (sg ba x) (sg bb y))→Zf h.next h' r (eucR (sg ba x) (sg bb y))→K (.tup [q,r, .int .i64 0]) h'):
  ACalls Tryz.prog 58 [.ptr (some (e,0)), .agg [wa, .bool ba], .agg [wb, .bool bb]] h K:=by
 refine in_num_Engine_Euclid (by simp) fun hw=> ?_
 unfold c_num_Engine_Euclid
 have hub:=H.row_lt hw ht
 simp only[go_sem]
 simp only[AV.cells,List.length_cons,List.length_nil,Nat.zero_add,Nat.reduceAdd]
 refine⟨rfl,rfl, ?_⟩
 generalize hh2:(h.new ⟨some 27,2,_⟩).new ⟨some 27,2,_⟩=h0
 obtain⟨hl0,hw0,hn0,r1,r2⟩:=new2 hw hh2
 have hR:(h.new ⟨some 27,2,[wa, .bool ba]⟩).next=h.next+1:=rfl
 generalize hh:(h0.new ⟨some 27,2,_⟩).new ⟨some 27,2,_⟩=h1
 obtain⟨hl1,hw1,hn1,r3,r4⟩:=new2 hw0 hh
 have hR3:(h0.new ⟨some 27,2,[.sl none 0 0 none, .bool false]⟩).next=h0.next+1:=rfl
 have l01:=H.le_trans hl0 hl1
 have r1:=hl1.2 _ _ r1
 have r2:=hl1.2 _ _ r2
 have ht1:=ht.mono l01
 simp only[go_sem,hR,hR3,(g2 r1).2.2,(g2 r2).2.2]
 refine zTrunc_calls hT (he.mono l01) ht1 (na.mono l01) (nb.mono l01) hx hy hnw (fun hy0 h2 hw2 hl2=> ?_) fun hy0 q r h2 m2 dp2 hw2 hl2 ht2 hq hr=> ?_
 ·have l02:=H.le_trans l01 hl2
  have r1:=hl2.2 _ _ r1
  have r2:=hl2.2 _ _ r2
  have r3:=hl2.2 _ _ r3
  have r4:=hl2.2 _ _ r4
  simp only[go_sem]
  refine⟨by trivial,by trivial,put2 hw hw2 l02 (by omega) r3 rfl fun g1 hwg1 hlg1 hg1 r3 e1=> ?_⟩
  have r4:=e1.2 _ _ (by omega) r4
  simp only[go_sem,hR3]
  refine⟨by trivial,by trivial,put2 hw hwg1 hlg1 (by omega) r4 rfl fun g2' hwg2 hlg2 hg2 r4 e2=> ?_⟩
  have r3:=e2.2 _ _ (by omega) r3
  simp only[go_sem,show((2:Int)==0)=false from rfl,(g2 r3).2.2,(g2 r4).2.2]
  refine⟨by trivial,by trivial,put2 hw hwg2 hlg2 (by omega) r3 rfl fun g3 hwg3 hlg3 hg3 r3 e3=> ?_⟩
  have r4:=e3.2 _ _ (by omega) r4
  simp only[go_sem,(g2 r4).2.2]
  refine⟨by simp,by trivial,by trivial,put2 hw hwg3 hlg3 (by omega) r4 rfl fun g4 hwg4 hlg4 hg4 _ e4=> ?_⟩
  have r3:=e4.2 _ _ (by omega) r3
  simp only[go_sem,hg4,(g2 r3).2.2]
  exact fun _=>hk0 hy0 g4 hwg4 hlg4
 have tm:(sg ba x).tmod (sg bb y)=sg ba (x%y):=sg_tmod
 have tq:(sg ba x).tdiv (sg bb y)=sg (ba !=bb) (x/y):=sg_tdiv
 have hbr:wlen ((sg ba x).tmod (sg bb y)).natAbs≤4000:=by rw[tm,sg_abs];exact Nat.le_trans (wlen_mono (Nat.mod_le _ _)) hx
 have hbq:wlen ((sg ba x).tdiv (sg bb y)).natAbs≤4000:=by rw[tq,sg_abs];exact Nat.le_trans (wlen_mono (Nat.div_le_self _ _)) hx
 have hbb:bb=decide (sg bb y<0):=sg_lt0' hy0
 unfold eucQ eucR at hk
 obtain⟨vq,rfl,nq⟩:=zf_open hq
 obtain⟨vr,rfl,nr⟩:=zf_open hr
 generalize (sg ba x).tmod (sg bb y)=zr at*
 generalize (sg ba x).tdiv (sg bb y)=zq at*
 have hub1:u<h1.next:=Nat.lt_of_lt_of_le hub l01.1
 have r1:=hl2.2 _ _ (by omega) r1
 have r2:=hl2.2 _ _ (by omega) r2
 have r3:=hl2.2 _ _ (by omega) r3
 have r4:=hl2.2 _ _ (by omega) r4
 have nb2:=((nb.mono l01).monoE' ht1 hl2)
 have l02:=l01.lee.trans hl2
 simp only[go_sem]
 refine⟨by trivial,all2 nq.one,put2E hw hw2 l02 (by omega) r3 rfl fun g1 hwg1 hlg1 hg1 r3n e1=> ?_⟩
 have nq:=(nq.base l01.1).lee2 r3 e1
 have nr:=(nr.base l01.1).lee2 r3 e1
 have nb3:=nb2.lee2 r3 e1
 have ht3:=ht2.lee2 e1 (by omega)
 have r1:=e1.2 _ _ (by omega) r1
 have r2:=e1.2 _ _ (by omega) r2
 have r4:=e1.2 _ _ (by omega) r4
 have r3:=r3n
 simp only[go_sem,hR3]
 refine⟨by trivial,all2 nr.one,put2E hw hwg1 hlg1 (by omega) r4 rfl fun g3 hwg3 hlg3 hg3 r4n e3=> ?_⟩
 have nq:=nq.lee2 r4 e3
 have nr:=nr.lee2 r4 e3
 have nb3:=nb3.lee2 r4 e3
 have ht3:=ht3.lee2 e3 (by omega)
 have r1:=e3.2 _ _ (by omega) r1
 have r2:=e3.2 _ _ (by omega) r2
 have r3:=e3.2 _ _ (by omega) r3
 have r4:=r4n
 clear hl2 hg1 hg3 ht2
 simp only[go_sem,show((0:Int)==0)=true from rfl,(g2 r4).2.2]
 refine zSign_calls (nr.nn (wbig hbr (by omega))) fun g4 hwg4 hl4=> ?_
 rw[sg_self]
 have hlg4:=hlg3.trans hl4.lee
 have ht4:=ht3.mono hl4
 have r1:=hl4.2 _ _ r1
 have r2:=hl4.2 _ _ r2
 have r3:=hl4.2 _ _ r3
 have r4:=hl4.2 _ _ r4
 have nq:=nq.mono hl4
 have nr:=nr.mono hl4
 have nb4:=nb3.mono hl4
 have hs1:=sg_self (z:=zr)
 have hs2:=sg_self (z:=zq)
 have fq:Zf h.next g4 (.agg [vq, .bool (decide (zq<0))]) zq:=⟨_,_,_,rfl,nq,fun h0=>by simp;omega,sg_self.symm⟩
 have fr:Zf h.next g4 (.agg [vr, .bool (decide (zr<0))]) zr:=⟨_,_,_,rfl,nr,fun h0=>by simp;omega,sg_self.symm⟩
 by_cases hz:zr<0
 ·rw[if_pos hz] at hk
  rw[if_pos hz] at hk
  simp only[go_sem,show(decide (zr.sign<0))=true by simp;exact hz,(g2 r4).2.2,(g2 r2).2.2]
  refine zAbs_calls nb4 (wbig hy (by omega)) fun o g5 hwg5 hl5 ho=> ?_
  obtain⟨vo,rfl,no⟩:=zf_open ho
  have r2:=hl5.2 _ _ r2
  have r3:=hl5.2 _ _ r3
  have r4:=hl5.2 _ _ r4
  have nq:=nq.mono hl5
  have nr:=nr.mono hl5
  have nb4:=nb4.mono hl5
  simp only[go_sem,(g2 r4).2.2,(g2 r2).2.2]
  refine⟨by simp, ?_⟩
  refine zAdd_calls (nr.nn (wbig hbr (by omega))) (no.nn (wbig hy (by omega))) (wbig hbr (by omega)) (wbig hy (by omega)) (add_big hbr hy (by omega)) fun s2 g6 hwg6 hl6 hs2=> ?_
  have r2:=hl6.2 _ _ r2
  have r3:=hl6.2 _ _ r3
  have r4:=hl6.2 _ _ r4
  have nq:=nq.mono hl6
  have nb4:=nb4.mono hl6
  have eR:(if sg bb y<0 then zr-sg bb y else zr+sg bb y)=zr+(y:Int):=by
   have e0:sg false y=(y:Int):=rfl
   have e1:sg true y= -(y:Int):=rfl
   cases bb
   ·rw[e0,if_neg (by omega)]
   ·rw[e1,if_pos (by omega)];omega
  rw[sg_self,show(decide ((y:Int)<0))=false from decide_eq_false (by omega),Int.natAbs_natCast,sg_false,←eR] at hs2
  clear eR
  obtain⟨v2,rfl,n2⟩:=zf_open hs2
  have hs2:=hs2.base (Nat.le_trans hlg4.1 hl5.1)
  have hlg6:=(hlg4.trans hl5.lee).trans hl6.lee
  have ht6:=(ht4.mono hl5).mono hl6
  simp only[go_sem]
  refine⟨by trivial,all2 n2.one,put2E hw hwg6 hlg6 (by omega) r4 rfl fun g7 hwg7 hlg7 _ r4n e7=> ?_⟩
  have hs2:=hs2.lee2 r4 e7
  have nq:=nq.lee2 r4 e7
  have nb4:=nb4.lee2 r4 e7
  have n2:=n2.lee2 r4 e7
  have ht7:=ht6.lee2 e7 (by omega)
  have hb7:=hlg7.1
  have r2:=e7.2 _ _ (by omega) r2
  have r3:=e7.2 _ _ (by omega) r3
  have r4:=r4n
  simp only[go_sem,(g2 r2).2.1,Nat.zero_add]
  rw[hbb]
  by_cases hs:sg bb y<0
  ·rw[if_pos hs] at hk
   rw[decide_eq_true hs]
   simp only[go_sem,(g2 r3).2.2]
   refine zOf_calls (n:=1) (by decide) (by decide) fun o g8 hwg8 hl8 ho=> ?_
   obtain⟨vo,rfl,no⟩:=zf_open ho
   have r3:=hl8.2 _ _ r3
   have r4:=hl8.2 _ _ r4
   have w1:wlen (Int.natAbs 1)≤1:=by decide
   simp only[go_sem,(g2 r3).2.2]
   refine⟨by simp, ?_⟩
   refine zAdd_calls ((nq.mono hl8).nn (wbig hbq (by omega))) (no.nn (wbig w1 (by omega))) (wbig hbq (by omega)) (wbig w1 (by omega)) (add_big hbq w1 (by omega)) fun s1 g9 hwg9 hl9 hs1=> ?_
   have r3:=hl9.2 _ _ r3
   have r4:=hl9.2 _ _ r4
   have l89:=H.le_trans hl8 hl9
   have hs2:=hs2.mono l89
   rw[sg_self,sg_self] at hs1
   obtain⟨v1,rfl,n1⟩:=zf_open hs1
   have hs1:=hs1.base (Nat.le_trans hb7 hl8.1)
   have ht9:=ht7.mono l89
   have hlg9:=hlg7.trans l89.lee
   simp only[go_sem]
   refine⟨by trivial,all2 n1.one,put2E hw hwg9 hlg9 (by omega) r3 rfl fun g10 hwg10 hlg10 _ r3' e10=> ?_⟩
   have hs1:=hs1.lee2 r3 e10
   have hs2:=hs2.lee2 r3 e10
   have ht9:=ht9.lee2 e10 (by omega)
   have n1:=n1.lee2 r3 e10
   have r4:=e10.2 _ _ (by omega) r4
   have r3:=r3'
   simp only[go_sem,(g2 r3).2.2,(g2 r4).2.2]
   refine⟨by trivial,all2 n1.one,put2E hw hwg10 hlg10 (by omega) r3 rfl fun k8 hwk8 hlk8 _ r3' e8=> ?_⟩
   have r4:=e8.2 _ _ (by omega) r4
   simp only[go_sem,(g2 r4).2.2]
   refine⟨by simp,by trivial,all2 n2.one,put2E hw hwk8 hlk8 (by omega) r4 rfl fun k9 hwk9 hlk9 hg9 _ e9=> ?_⟩
   have r3':=e9.2 _ _ (by omega) r3'
   simp only[go_sem,hg9,(g2 r3').2.2]
   exact fun _=>hk hy0 _ _ k9 _ _ hwk9 hlk9 ((ht9.lee2 e8 (by omega)).lee2 e9 (by omega)) ((hs1.lee2 r3 e8).lee2 r4 e9) ((hs2.lee2 r3 e8).lee2 r4 e9)
  ·rw[if_neg hs] at hk
   rw[decide_eq_false hs]
   simp only[go_sem,(g2 r3).2.2]
   refine zOf_calls (n:=1) (by decide) (by decide) fun o g8 hwg8 hl8 ho=> ?_
   obtain⟨vo,rfl,no⟩:=zf_open ho
   have r3:=hl8.2 _ _ r3
   have r4:=hl8.2 _ _ r4
   have w1:wlen (Int.natAbs 1)≤1:=by decide
   simp only[go_sem,(g2 r3).2.2]
   refine⟨by simp, ?_⟩
   refine zSub_calls ((nq.mono hl8).nn (wbig hbq (by omega))) (no.nn (wbig w1 (by omega))) (wbig hbq (by omega)) (wbig w1 (by omega)) (add_big hbq w1 (by omega)) fun s1 g9 hwg9 hl9 hs1=> ?_
   have r3:=hl9.2 _ _ r3
   have r4:=hl9.2 _ _ r4
   have l89:=H.le_trans hl8 hl9
   have hs2:=hs2.mono l89
   rw[sg_self,sg_self] at hs1
   obtain⟨v1,rfl,n1⟩:=zf_open hs1
   have hs1:=hs1.base (Nat.le_trans hb7 hl8.1)
   have ht9:=ht7.mono l89
   have hlg9:=hlg7.trans l89.lee
   simp only[go_sem]
   refine⟨by trivial,all2 n1.one,put2E hw hwg9 hlg9 (by omega) r3 rfl fun g10 hwg10 hlg10 _ r3' e10=> ?_⟩
   have hs1:=hs1.lee2 r3 e10
   have hs2:=hs2.lee2 r3 e10
   have ht9:=ht9.lee2 e10 (by omega)
   have n1:=n1.lee2 r3 e10
   have r4:=e10.2 _ _ (by omega) r4
   have r3:=r3'
   simp only[go_sem,(g2 r3).2.2,(g2 r4).2.2]
   refine⟨by trivial,all2 n1.one,put2E hw hwg10 hlg10 (by omega) r3 rfl fun k8 hwk8 hlk8 _ r3' e8=> ?_⟩
   have r4:=e8.2 _ _ (by omega) r4
   simp only[go_sem,(g2 r4).2.2]
   refine⟨by simp,by trivial,all2 n2.one,put2E hw hwk8 hlk8 (by omega) r4 rfl fun k9 hwk9 hlk9 hg9 _ e9=> ?_⟩
   have r3':=e9.2 _ _ (by omega) r3'
   simp only[go_sem,hg9,(g2 r3').2.2]
   exact fun _=>hk hy0 _ _ k9 _ _ hwk9 hlk9 ((ht9.lee2 e8 (by omega)).lee2 e9 (by omega)) ((hs1.lee2 r3 e8).lee2 r4 e9) ((hs2.lee2 r3 e8).lee2 r4 e9)
 ·rw[if_neg hz] at hk
  rw[if_neg hz] at hk
  simp only[go_sem,show(decide (zr.sign<0))=false by simp;omega]
  simp only[go_sem,(g2 r3).2.2,(g2 r4).2.2]
  refine⟨by trivial,all2 nq.one,put2E hw hwg4 hlg4 (by omega) r3 rfl fun g8 hwg8 hlg8 _ r3' e8=> ?_⟩
  have r4:=e8.2 _ _ (by omega) r4
  simp only[go_sem,(g2 r4).2.2]
  refine⟨by simp,by trivial,all2 nr.one,put2E hw hwg8 hlg8 (by omega) r4 rfl fun g9 hwg9 hlg9 hg9 _ e9=> ?_⟩
  have r3':=e9.2 _ _ (by omega) r3'
  simp only[go_sem,hg9,(g2 r3').2.2]
  exact fun _=>hk hy0 _ _ g9 _ _ hwg9 hlg9 ((ht4.lee2 e8 (by omega)).lee2 e9 (by omega)) ((fq.lee2 r3 e8).lee2 r4 e9) ((fr.lee2 r3 e8).lee2 r4 e9)
end
end
section
section
variable {t:Tb} {h:H} {K:AV→H→Prop}
theorem roNew_calls (hk:∀e u h',h'.wf→h.le h'→h.next≤u→u<e→Eng 8 h' e u→Tune h' u 0 0 0 (clampT t)→K (.ptr (some (e,0))) h'):ACalls Tryz.prog 116 [t.av] h K:=by
 refine in_root_New (by simp) fun hw=> ?_
 unfold c_root_New
 have hl1:=H.le_new hw (H.le_refl h) ⟨some 23,11,t.cells⟩
 have hn1:h.next<(h.new ⟨some 23,11,t.cells⟩).next:=Nat.lt_succ_self _
 simp only[go_sem,av_held,av_cells,cells_len,true_and,gsT (H.rows_new h _)]
 refine diNew_calls fun e u h1 hw1 hl2 hn2 _ he ht=> ?_
 simp only[go_sem,bldp]
 simp only[AV.held,AV.cells,true_and,go_sem]
 have hl3:=H.le_new hw1 (H.le_refl h1) ⟨some 133,1,[AV.ptr (some (e,0))]⟩
 exact fun hw'=>hk _ u _ hw' (H.le_trans hl1 (H.le_trans hl2 hl3)) (by omega) (H.row_lt hw1 ht) ⟨_,e,H.rows_new _ _,rfl,he.mono hl3⟩ (ht.mono hl3)
theorem raNew_calls (hk:∀e u h',h'.wf→h.le h'→h.next≤u→u<e→Eng 9 h' e u→Tune h' u 0 0 0 (clampT t)→K (.ptr (some (e,0))) h'):ACalls Tryz.prog 84 [t.av] h K:=by
 refine in_radix_New (by simp) fun hw=> ?_
 unfold c_radix_New
 have hl1:=H.le_new hw (H.le_refl h) ⟨some 23,11,t.cells⟩
 have hn1:h.next<(h.new ⟨some 23,11,t.cells⟩).next:=Nat.lt_succ_self _
 simp only[go_sem,av_held,av_cells,cells_len,true_and,gsT (H.rows_new h _)]
 refine roNew_calls fun e u h1 hw1 hl2 hn2 _ he ht=> ?_
 simp only[go_sem,bldp]
 simp only[AV.held,AV.cells,true_and,go_sem]
 have hl3:=H.le_new hw1 (H.le_refl h1) ⟨some 130,1,[AV.ptr (some (e,0))]⟩
 exact fun hw'=>hk _ u _ hw' (H.le_trans hl1 (H.le_trans hl2 hl3)) (by omega) (H.row_lt hw1 ht) ⟨_,e,H.rows_new _ _,rfl,he.mono hl3⟩ (ht.mono hl3)
theorem nuNew_calls (hk:∀e u h',h'.wf→h.le h'→h.next≤u→u<e→Eng 10 h' e u→Tune h' u 0 0 0 (clampT t)→K (.ptr (some (e,0))) h'):ACalls Tryz.prog 40 [t.av] h K:=by
 refine in_num_New (by simp) fun hw=> ?_
 unfold c_num_New
 have hl1:=H.le_new hw (H.le_refl h) ⟨some 23,11,t.cells⟩
 have hn1:h.next<(h.new ⟨some 23,11,t.cells⟩).next:=Nat.lt_succ_self _
 simp only[go_sem,av_held,av_cells,cells_len,true_and,gsT (H.rows_new h _)]
 refine raNew_calls fun e u h1 hw1 hl2 hn2 _ he ht=> ?_
 simp only[go_sem,bldp]
 simp only[AV.held,AV.cells,true_and,go_sem]
 have hl3:=H.le_new hw1 (H.le_refl h1) ⟨some 125,1,[AV.ptr (some (e,0))]⟩
 exact fun hw'=>hk _ u _ hw' (H.le_trans hl1 (H.le_trans hl2 hl3)) (by omega) (H.row_lt hw1 ht) ⟨_,e,H.rows_new _ _,rfl,he.mono hl3⟩ (ht.mono hl3)
end
section
variable {wa wb:AV} {ba bb:Bool} {x y n:Nat} {xs:List Nat} {h:H} {K:AV→H→Prop}
theorem CutInt_calls (ha:IsN h wa xs) (hn:n<9223372036854775808) (hk:∀w h',h'.wf→h.le h'→IsN h' w (xs.take n)→K (.agg [w, .bool ba]) h'):ACalls Tryz.prog 22 [.agg [wa, .bool ba], .int .i64 (n:Int)] h K:=by
 refine in_keep_CutInt (by simp) fun hw=> ?_
 unfold c_keep_CutInt
 simp only[go_sem]
 simp only[AV.cells,List.length_cons,List.length_nil,Nat.zero_add,Nat.reduceAdd]
 refine⟨rfl, ?_⟩
 generalize hh:(h.new ⟨some 27,2,_⟩).new ⟨some 27,2,_⟩=h1
 obtain⟨hl1,hw1,hn1,r1,r2⟩:=new2 hw hh
 have hR:(h.new ⟨some 27,2,[wa, .bool ba]⟩).next=h.next+1:=rfl
 simp only[go_sem,hR,(g2 r1).1,(g2 r1).2.1,Nat.zero_add]
 refine Cut_calls (n:=n) (ha.mono hl1) fun a hca=> ?_
 have hone:a.one=true:=by obtain⟨_,_,_,rfl,_⟩:=hca;rfl
 simp only[go_sem,hR,(g2 r1).2.1,Nat.zero_add]
 refine⟨by simp, ?_⟩
 simp only[go_sem,bldI hone]
 refine⟨by trivial,all2 hone,put2 hw hw1 hl1 (by omega) r2 rfl fun g hwg hlg hg _ e1=> ?_⟩
 simp only[go_sem,hg]
 exact fun _=>hk _ g hwg hlg (IsW.monoE r2 (by simp) (by simp) hca e1)
theorem kInt_calls (na:Nt h wa x) (nb:Nt h wb x) (hx:Big x) (hk:∀h',h'.wf→h.le h'→K (.bool true) h'):ACalls Tryz.prog 29 [.agg [wa, .bool ba], .agg [wb, .bool ba]] h K:=by
 refine in_keep_Int (by simp) fun hw=> ?_
 unfold c_keep_Int
 simp only[go_sem]
 simp only[AV.cells,List.length_cons,List.length_nil,Nat.zero_add,Nat.reduceAdd]
 refine⟨rfl,rfl, ?_⟩
 generalize hh:(h.new ⟨some 27,2,_⟩).new ⟨some 27,2,_⟩=h1
 obtain⟨hl1,hw1,hn1,r1,r2⟩:=new2 hw hh
 have hR:(h.new ⟨some 27,2,[wa, .bool ba]⟩).next=h.next+1:=rfl
 simp only[go_sem,hR,(g2 r1).1,(g2 r1).2.1,(g2 r2).1,(g2 r2).2.1,Nat.zero_add,beq_self_eq_true]
 refine kSameT_calls (na.mono hl1) (nb.mono hl1) hx ?_
 simp only[go_sem]
 exact fun hw'=>hk _ hw' hl1
theorem IsN.lee2 {v:AV} {i:Nat} {T:TypeId} {l:List AV} {g:H} (hv:IsN h v xs) (hr:h.rows i=some ⟨some T,2,l⟩) (hl:H.lee i h g):IsN g v xs:=IsW.monoE hr (by simp) (by simp) hv hl
theorem of18_calls (ha:IsN h wa xs) (hd:Dig xs) (hk:∀w r h',h'.wf→h.le h'→IsN h' w (xs.take 20)→Zr h' r (sg ba (val 18446744073709551616 (xs.take 20)))→K (.tup [.agg [w, .bool ba],r]) h'):ACalls Tryz.prog 39 [.agg [wa, .bool ba]] h K:=by
 refine in_law18_of (by simp) fun hw=> ?_
 unfold c_law18_of
 simp only[go_sem]
 simp only[AV.cells,List.length_cons,List.length_nil,Nat.zero_add,Nat.reduceAdd]
 refine⟨rfl, ?_⟩
 generalize hh:((h.new ⟨some 27,2,_⟩).new ⟨some 27,2,_⟩).new ⟨some 38,2,_⟩=h1
 obtain⟨hl1,hw1,hn1,r1,r2,r3⟩:=new3 hw hh
 have hR:(h.new ⟨some 27,2,[wa, .bool ba]⟩).next=h.next+1:=rfl
 have hR2:((h.new ⟨some 27,2,[wa, .bool ba]⟩).new ⟨some 27,2,[.sl none 0 0 none, .bool false]⟩).next=h.next+2:=rfl
 simp only[go_sem,hR,hR2,(g2 r1).2.2]
 refine CutInt_calls (n:=20) (ha.mono hl1) (by decide) fun w h2 hw2 hl2 hca=> ?_
 have hone:w.one=true:=by obtain⟨_,_,_,rfl,_⟩:=hca;rfl
 have hone':(AV.bool ba).one=true:=rfl
 have r1:=hl2.2 _ _ r1
 have r2:=hl2.2 _ _ r2
 have r3:=hl2.2 _ _ r3
 simp only[go_sem]
 refine⟨by trivial,all2 hone,put2 hw hw2 (H.le_trans hl1 hl2) (by omega) r1 rfl fun g1 hwg1 hlg1 hg1 r1n e1=> ?_⟩
 have hca:=hca.lee2 r1 e1
 have r2:=e1.2 _ _ (by omega) r2
 have r3:=e1.2 _ _ (by omega) r3
 simp only[go_sem,hg1]
 have hl20:(xs.take 20).length≤20:=by rw[List.length_take];omega
 refine zrFrom_calls (hca.nn (Dig.take hd 20) (by omega)) fun r g2' hwg2 hl2' hr=> ?_
 have r1n:=hl2'.2 _ _ r1n
 have r2:=hl2'.2 _ _ r2
 have r3:=hl2'.2 _ _ r3
 obtain⟨ra,rb,rfl,o1,o2⟩:=hr.two
 have hca:=hca.mono hl2'
 simp only[go_sem,(g2 r1n).2.2]
 refine⟨by simp,by trivial,all2 hone,put2 hw hwg2 (H.le_trans hlg1 hl2') (by omega) r2 rfl fun g3 hwg3 hlg3 hg3 r2n e3=> ?_⟩
 have hca:=hca.lee2 r2 e3
 have hr:=hr.lee2 r2 e3
 have r3:=e3.2 _ _ (by omega) r3
 simp only[go_sem,hR2]
 refine⟨by trivial,all22 o1 o2,put2 hw hwg3 hlg3 (by omega) r3 rfl fun g4 hwg4 hlg4 hg4 _ e4=> ?_⟩
 have r2n:=e4.2 _ _ (by omega) r2n
 simp only[go_sem,hg4,(g2 r2n).2.2]
 exact fun _=>hk w _ g4 hwg4 hlg4 (hca.lee2 r3 e4) (hr.lee2 r3 e4)
theorem same18_calls {z:Int} {c:Nat} {r v:AV} (hr:Zr h r z) (hv:Zf c h v z) (hb:Big z.natAbs) (hk:∀h',h'.wf→h.le h'→K (.bool true) h'):ACalls Tryz.prog 41 [r,v] h K:=by
 obtain⟨w,rfl,n1⟩:=zr_open hr
 obtain⟨u,rfl,n2⟩:=zf_open hv
 refine in_law18_same (by simp) fun hw=> ?_
 unfold c_law18_same
 simp only[go_sem]
 simp only[AV.cells,List.length_cons,List.length_nil,Nat.zero_add,Nat.reduceAdd]
 refine⟨rfl,rfl, ?_⟩
 generalize hh:(h.new ⟨some 38,2,_⟩).new ⟨some 27,2,_⟩=h1
 obtain⟨hl1,hw1,hn1,r1,r2⟩:=new2 hw hh
 have hR:(h.new ⟨some 38,2,[w, .bool (decide (z<0))]⟩).next=h.next+1:=rfl
 simp only[go_sem,hR,(g2 r1).2.2,(g2 r2).2.2]
 refine zrTo_calls (n1.mono hl1) hb (fun h0=>by simp;omega) fun r h2 hw2 hl2 hr=> ?_
 rw[sg_self] at hr
 obtain⟨w',rfl,n3⟩:=zf_open hr
 have r2:=hl2.2 _ _ r2
 simp only[go_sem,hR,(g2 r2).2.2]
 refine⟨by simp, ?_⟩
 refine kInt_calls n3.nt ((n2.mono hl1).mono hl2).nt hb fun h3 hw3 hl3=> ?_
 simp only[go_sem]
 exact fun hw'=>hk _ hw' (H.le_trans hl1 (H.le_trans hl2 hl3))
end
end
section
theorem Eng.lee2 {R u:Nat} {T:TypeId} {a b:AV} {h g:H} (hr:h.rows R=some ⟨some T,2,[a,b]⟩) (hl:H.lee R h g):∀{d e:Nat},Eng d h e u→Eng d g e u
 |0,_,he=>he
 |_+1,e,⟨r,e',h1,h2,h3⟩=>⟨r,e',hl.2 _ _ (by
   rintro rfl
   rw[hr] at h1
   injection h1 with h1
   rw[←h1] at h2
   simp at h2) h1,h2,Eng.lee2 hr hl h3⟩
theorem le_over {u:Nat} {a b c:H} (hw:a.wf) (h1:a.le b) (hu:a.next≤u) (h2:H.lee u b c):a.le c:=
 ⟨Nat.le_trans h1.1 h2.1,fun i r e=>h2.2 i r (by have:=H.row_lt hw e;omega) (h1.2 i r e)⟩
section
variable {h:H} {K:AV→H→Prop}
theorem wakes18_calls (hk:∀h',h'.wf→h.le h'→K (.bool true) h'):ACalls Tryz.prog 44 [] h K:=by
 refine in_law18_wakes (by simp) fun hw=> ?_
 unfold c_law18_wakes
 simp only[go_sem]
 refine nuNew_calls (t:=⟨0,0,0,0,0,0,0,0,0,0,0⟩) fun e u h1 hw1 hl1 hn1 hue he ht=> ?_
 simp only[go_sem,Option.isNone,Bool.false_bne]
 refine⟨trivial, ?_⟩
 refine zOf_calls (n:= -7) (by decide) (by decide) fun v1 h2 hw2 hl2 hv1=> ?_
 obtain⟨w1,rfl,n1⟩:=zf_open hv1
 simp only[go_sem]
 refine zOf_calls (n:=2) (by decide) (by decide) fun v2 h3 hw3 hl3 hv2=> ?_
 obtain⟨w2,rfl,n2⟩:=zf_open hv2
 have l13:=H.le_trans hl2 hl3
 have d1:wlen (Int.natAbs (-7))≤1:=by decide
 have d2:wlen (Int.natAbs 2)≤1:=by decide
 simp only[go_sem]
 refine zFloor_calls (clamp_ok _) (he.mono l13) (ht.mono l13) ((n1.mono hl3).nn (wbig d1 (by omega))) (n2.nn (wbig d2 (by omega))) (by omega) (by omega) (by omega) (fun h0=>absurd h0 (by decide)) fun _ q r h4 m4 dp4 hw4 hl4 ht4 hq hr=> ?_
 have l14:=le_over hw (H.le_trans hl1 l13) hn1 hl4
 rw[sg_self,sg_self,show floQ (-7) 2= -4 by decide] at hq
 rw[sg_self,sg_self,show floR (-7) 2=1 by decide] at hr
 obtain⟨w3,rfl,n3⟩:=zf_open hq
 obtain⟨w4,rfl,n4⟩:=zf_open hr
 simp only[go_sem]
 generalize hh:(h4.new ⟨some 27,_,_⟩).new ⟨some 27,_,_⟩=h5
 simp only[List.length_cons,List.length_nil,Nat.zero_add,Nat.reduceAdd] at hh
 obtain⟨hl5,hw5,hn5,r1,r2⟩:=new2 hw4 hh
 have hR:(h4.new ⟨some 27,2,[.sl none 0 0 none, .bool false]⟩).next=h4.next+1:=rfl
 simp only[List.length_cons,List.length_nil,Nat.zero_add,Nat.reduceAdd,hR]
 have l05:=H.le_trans l14 hl5
 have hb4:=l14.1
 refine⟨by trivial,all2 n3.one,put2 hw hw5 l05 (by omega) r1 rfl fun g1 hwg1 hlg1 _ r1n e1=> ?_⟩
 have hq:=(hq.mono hl5).lee2 r1 e1
 have hr:=(hr.mono hl5).lee2 r1 e1
 have r2:=e1.2 _ _ (by omega) r2
 simp only[go_sem]
 refine⟨by trivial,all2 n4.one,put2 hw hwg1 hlg1 (by omega) r2 rfl fun g2' hwg2 hlg2 _ r2n e2=> ?_⟩
 have hq:=hq.lee2 r2 e2
 have hr:=hr.lee2 r2 e2
 have r1n:=e2.2 _ _ (by omega) r1n
 simp only[go_sem,show((0:Int)==0)=true from rfl,(g2 r1n).2.2]
 refine zrSmall_calls (n:= -4) (by decide) (by decide) fun o g3 hwg3 hl3 ho=> ?_
 have r1n:=hl3.2 _ _ r1n
 have r2n:=hl3.2 _ _ r2n
 simp only[go_sem,(g2 r1n).2.2]
 refine⟨by simp, ?_⟩
 refine same18_calls ho (hq.mono hl3) (Big.w1 (by decide)) fun g4 hwg4 hl4=> ?_
 have r1n:=hl4.2 _ _ r1n
 have r2n:=hl4.2 _ _ r2n
 simp only[go_sem,(g2 r2n).2.2]
 refine zrSmall_calls (n:=1) (by decide) (by decide) fun o g5 hwg5 hl5 ho=> ?_
 have r1n:=hl5.2 _ _ r1n
 have r2n:=hl5.2 _ _ r2n
 simp only[go_sem,(g2 r2n).2.2]
 refine⟨by simp, ?_⟩
 refine same18_calls ho (hr.mono (H.le_trans hl3 (H.le_trans hl4 hl5))) (Big.w1 (by decide)) fun g6 hwg6 hl6=> ?_
 simp only[go_sem]
 exact fun hw'=>hk _ hw' (H.le_trans hlg2 (H.le_trans hl3 (H.le_trans hl4 (H.le_trans hl5 hl6))))
end
end
theorem cell_bool {t:TypeId} (ht:Tryz.prog.underlying t=some .bool) {h:H} {l:List AV} (r:Reads Tryz.prog h t l):∃b:Bool,l=[.bool b]:=by
 cases r with
 |int ht' hw=>rw[ht] at ht';cases ht'
 |bool ht'=>exact⟨_,rfl⟩
 |str ht'=>rw[ht] at ht';cases ht'
 |snil ht'=>rw[ht] at ht';cases ht'
 |sl ht'=>rw[ht] at ht';cases ht'
 |struct ht'=>rw[ht] at ht';cases ht'
set_option maxRecDepth 100000 in
theorem cell_whole {h:H} {l:List AV} (r:Reads Tryz.prog h 27 l):∃(v:AV) (b:Bool) (xs:List Nat),l=[v, .bool b]∧IsN h v xs∧Dig xs∧xs.length≤maxLen:=by
 have hc:Tryz.prog.cellsOf 27=2:=by kernel_rfl
 have hz:Tryz.prog.cellsOf 25=1:=by kernel_rfl
 have hb:Tryz.prog.cellsOf 4=1:=by kernel_rfl
 cases r with
 |int ht' hw=>rw[Tryz.underlying27] at ht';cases ht'
 |bool ht'=>rw[Tryz.underlying27] at ht';cases ht'
 |str ht'=>rw[Tryz.underlying27] at ht';cases ht'
 |snil ht'=>rw[Tryz.underlying27] at ht';cases ht'
 |sl ht'=>rw[Tryz.underlying27] at ht';cases ht'
 |struct ht' hl hf=>
  rw[Tryz.underlying27] at ht'
  injection ht' with ht'
  injection ht' with ht'
  subst ht'
  rw[hc] at hl
  simp only[List.mem_cons,List.not_mem_nil,or_false,forall_eq_or_imp,forall_eq,hz,hb] at hf
  obtain⟨f0,f1⟩:=hf
  obtain⟨v,xs,g0,h1,h2,h3⟩:=cell_words (by kernel_rfl) f0
  obtain⟨b,g1⟩:=cell_bool (by kernel_rfl) f1
  match l,hl with
  |[x0,x1],_=>
   simp only[List.drop_zero,List.drop_succ_cons,List.take_succ_cons,List.take_zero,List.cons.injEq,and_true] at g0 g1
   exact⟨v,b,xs,by rw[g0,g1],h1,h2,h3⟩
set_option maxRecDepth 100000 in
theorem reads_whole {h:H} {u:AV} (r:ReadsV Tryz.prog h 27 u):∃(v:AV) (b:Bool) (xs:List Nat),u= .agg [v, .bool b]∧IsN h v xs∧Dig xs∧xs.length≤maxLen:=by
 unfold ReadsV at r
 rw[Tryz.underlying27] at r
 obtain⟨l,rfl,r⟩:=r
 obtain⟨v,b,xs,rfl,h1⟩:=cell_whole r
 exact⟨v,b,xs,rfl,h1⟩
theorem mul_wlen' {x y n k:Nat} (hx:wlen x≤n) (hy:wlen y≤k):wlen (x*y)≤n+k:=by
 have h1:x*y<18446744073709551616^n*18446744073709551616^k:=Nat.mul_lt_mul_of_lt_of_le (wlen_le.1 hx) (Nat.le_of_lt (wlen_le.1 hy)) (Nat.pow_pos (by omega))
 rw[←Nat.pow_add] at h1
 exact wlen_le.2 h1
section
structure NL (h g:H) (B e u RE:Nat) (t:Tb) (T:TypeId) (l:List (Nat×AV×Bool×Nat)):Prop where
 wf:g.wf
 le:h.le g
 ht:∃m d,Tune g u m 0 d t
 he:Eng 10 g e u
 rE:g.rows RE=some ⟨some T,1,[.ptr (some (e,0))]⟩
 hu:h.next≤u
 huE:RE≠u
 huB:u<B
 hEB:RE<B
 hB:B≤g.next
 bx:∀p∈l,g.rows p.1=some ⟨some 27,2,[p.2.1, .bool p.2.2.1]⟩∧Nn g p.2.1 p.2.2.2∧p.1≠u∧p.1<B
section
variable {h g g':H} {B e u RE:Nat} {t:Tb} {T:TypeId} {l:List (Nat×AV×Bool×Nat)} {K:AV→H→Prop}
theorem NL.mono (s:NL h g B e u RE t T l) (hw:g'.wf) (hl:g.le g'):NL h g' B e u RE t T l:=by
 obtain⟨n,d,ht⟩:=s.ht
 exact⟨hw,H.le_trans s.le hl,⟨n,d,ht.mono hl⟩,s.he.mono hl,hl.2 _ _ s.rE,s.hu,s.huE,s.huB,s.hEB,Nat.le_trans s.hB hl.1,fun p hp=>⟨hl.2 _ _ (s.bx p hp).1,(s.bx p hp).2.1.mono hl,(s.bx p hp).2.2⟩⟩
theorem NL.over {n d:Nat} (hw0:h.wf) (s:NL h g B e u RE t T l) (hw:g'.wf) (hl:H.lee u g g') (hT:Tune g' u n 0 d t):NL h g' B e u RE t T l:=by
 obtain⟨n,d,ht⟩:=s.ht
 exact⟨hw,le_over hw0 s.le s.hu hl,⟨_,_,hT⟩,s.he.monoE ht hl,hl.2 _ _ s.huE s.rE,s.hu,s.huE,s.huB,s.hEB,Nat.le_trans s.hB hl.1,fun p hp=>⟨hl.2 _ _ (s.bx p hp).2.2.1 (s.bx p hp).1,(s.bx p hp).2.1.monoE' ht hl,(s.bx p hp).2.2⟩⟩
theorem NL.put {Q:Nat} {T':TypeId} {v w:AV} (s:NL h g B e u RE t T l) (hw:g'.wf) (hle:h.le g') (hQ:B≤Q) (hr:g.rows Q=some ⟨some T',2,[v,w]⟩) (hl:H.lee Q g g'):NL h g' B e u RE t T l:=by
 obtain⟨n,d,ht⟩:=s.ht
 have:=s.huB
 have:=s.hEB
 exact⟨hw,hle,⟨n,d,ht.lee2 hl (by omega)⟩,Eng.lee2 hr hl s.he,hl.2 _ _ (by omega) s.rE,s.hu,s.huE,s.huB,s.hEB,Nat.le_trans s.hB hl.1,fun p hp=>⟨hl.2 _ _ (by have:=(s.bx p hp).2.2.2;omega) (s.bx p hp).1,(s.bx p hp).2.1.lee2 hr hl,(s.bx p hp).2.2⟩⟩
theorem NL.up (s:NL h g B e u RE t T l):NL h g g.next e u RE t T l:=
 ⟨s.wf,s.le,s.ht,s.he,s.rE,s.hu,s.huE,Nat.lt_of_lt_of_le s.huB s.hB,Nat.lt_of_lt_of_le s.hEB s.hB,Nat.le_refl _,fun p hp=>⟨(s.bx p hp).1,(s.bx p hp).2.1,(s.bx p hp).2.2.1,Nat.lt_of_lt_of_le (s.bx p hp).2.2.2 s.hB⟩⟩
theorem NL.add {Q x:Nat} {w:AV} {b:Bool} (s:NL h g B e u RE t T l) (hr:g.rows Q=some ⟨some 27,2,[w, .bool b]⟩) (hn:Nn g w x) (hQ:Q≠u):NL h g g.next e u RE t T ((Q,w,b,x)::l):=
 ⟨s.wf,s.le,s.ht,s.he,s.rE,s.hu,s.huE,Nat.lt_of_lt_of_le s.huB s.hB,Nat.lt_of_lt_of_le s.hEB s.hB,Nat.le_refl _,fun p hp=>by
  rcases List.mem_cons.1 hp with rfl|hp
  ·exact⟨hr,hn,hQ,H.row_lt s.wf hr⟩
  ·exact s.up.bx p hp⟩
theorem NL.get (s:NL h g B e u RE t T l) {R x:Nat} {w:AV} {b:Bool} (hp:(R,w,b,x)∈l):g.rows R=some ⟨some 27,2,[w, .bool b]⟩∧Nn g w x∧R≠u∧R<B:=s.bx _ hp
theorem NL.ptr (s:NL h g B e u RE t T l):g.get RE 0=some (.ptr (some (e,0))):=by
 unfold H.get
 rw[s.rE]
 rfl
theorem cmpZ_lt {a b:Nat} (h:a<b):cmpZ (a:Int) (b:Int)= -1:=by
 unfold cmpZ
 rw[if_pos (by omega)]
theorem kIntN {h:H} {K:AV→H→Prop} {c d:Nat} {a b:AV} {z:Int} (na:Zf c h a z) (nb:Zf d h b z) (hz:Big z.natAbs) (hk:∀h',h'.wf→h.le h'→K (.bool true) h'):ACalls Tryz.prog 29 [a,b] h K:=by
 obtain⟨w,rfl,n1⟩:=zf_open na
 obtain⟨u,e,n2⟩:=zf_open nb
 rw[e]
 exact kInt_calls n1.nt n2.nt hz hk
set_option maxHeartbeats 1000000 in
theorem back_calls (hw0:h.wf) (s:NL h g B e u RE t T l) {R5 R8 y xn xq xr c:Nat} {wb wn wq wr:AV} {bb bn bq br:Bool} (hb:(R5,wb,bb,y)∈l) (hn:(R8,wn,bn,xn)∈l) (hz:Zf c g (.agg [wn, .bool bn]) (sg bn xn)) (hc:u<c)
  (nq:Nn g wq xq) (nr:Nn g wr xr) (wwq:wlen xq≤40) (wwy:wlen y≤40) (wwr:wlen xr≤40) (he:sg bq xq*sg bb y+sg br xr=sg bn xn) (hlt:xr<y)
  (hk:∀g',g'.wf→NL h g' B e u RE t T l→H.lee u g g'→K (.bool true) g'):ACalls Tryz.prog 75 [.agg [wq, .bool bq], .agg [wr, .bool br], .ptr (some (RE,0)), .ptr (some (R5,0)), .ptr (some (R8,0))] g K:=by
 refine in_law18_NumLaws_1 (by simp) fun hw=> ?_
 unfold c_law18_NumLaws_1
 simp only[go_sem]
 simp only[AV.cells,List.length_cons,List.length_nil,Nat.zero_add,Nat.reduceAdd]
 refine⟨rfl,rfl, ?_⟩
 generalize hh:(g.new ⟨some 27,2,_⟩).new ⟨some 27,2,_⟩=g1
 obtain⟨hl1,hw1,hn1,r1,r2⟩:=new2 hw hh
 have hR:(g.new ⟨some 27,2,[wq, .bool bq]⟩).next=g.next+1:=rfl
 have s1:=s.mono hw1 hl1
 have huB:=s.huB
 have hBn:=s.hB
 simp only[go_sem,hR,s1.ptr,(g2 r1).2.2,(g2 r2).2.2,(g2 (s1.get hb).1).2.2,(g2 (s1.get hn).1).2.2]
 obtain⟨m,d,ht⟩:=s1.ht
 refine zTimes_calls s1.he ht (nq.mono hl1) (s1.get hb).2.1 (by omega) (by omega) (by omega) fun p g2' m' d' hw2 hl2 ht2 hp=> ?_
 have s2:=s1.over hw0 hw2 hl2 ht2
 have r1:=hl2.2 _ _ (by omega) r1
 have r2:=hl2.2 _ _ (by omega) r2
 have l12:=hl1.lee.trans hl2
 have nr2:=(nr.mono hl1).monoE' ht hl2
 have hza:(sg bq xq*sg bb y).natAbs=xq*y:=by rw[sg_mul,sg_abs]
 generalize sg bq xq*sg bb y=z at*
 obtain⟨wp,rfl,np⟩:=zf_open hp
 have wpy:=mul_wlen' wwq wwy
 have bpy:Big z.natAbs:=by
  rw[hza]
  exact wbig wpy (by omega)
 have br':Big xr:=wbig wwr (by omega)
 have hbig:Big (z.natAbs+xr):=by
  have h1:=wlen_le.1 wpy
  have h2:=wlen_le.1 (Nat.le_trans wwr (show 40≤40+40 by omega))
  refine lt_bigW (k:=81) ?_ (by omega)
  have h3:18446744073709551616^81=18446744073709551616^(40+40)*18446744073709551616:=Nat.pow_succ ..
  rw[hza]
  omega
 simp only[go_sem,hR,(g2 r2).2.2,(g2 (s2.get hn).1).2.2,true_and]
 refine zAdd_calls (np.nn bpy) nr2 bpy br' hbig fun a g3 hw3 hl3 ha=> ?_
 rw[sg_self,he] at ha
 have s3:=s2.mono hw3 hl3
 have r1:=hl3.2 _ _ r1
 have r2:=hl3.2 _ _ r2
 have hz3:=((hz.mono hl1).monoE hc hl2).mono hl3
 have hbn:Big (sg bn xn).natAbs:=by
  refine hbig.le ?_
  have:=sg_abs br xr
  rw[←he]
  omega
 simp only[go_sem,hR,(g2 r2).2.2,(g2 (s3.get hn).1).2.2,true_and]
 refine kIntN ha hz3 hbn fun g4 hw4 hl4=> ?_
 have s4:=s3.mono hw4 hl4
 have r1:=hl4.2 _ _ r1
 have r2:=hl4.2 _ _ r2
 have nr4:=(nr2.mono hl3).mono hl4
 simp only[go_sem,hR,(g2 r2).2.2,(g2 (s4.get hb).1).2.2]
 refine zAbs_calls nr4 br' fun ar g5 hw5 hl5 har=> ?_
 have s5:=s4.mono hw5 hl5
 have r1:=hl5.2 _ _ r1
 have r2:=hl5.2 _ _ r2
 obtain⟨w5,rfl,n5⟩:=zf_open har
 have by':Big y:=wbig wwy (by omega)
 simp only[go_sem,hR,(g2 r2).2.2,(g2 (s5.get hb).1).2.2,true_and]
 refine zAbs_calls (s5.get hb).2.1 by' fun ab g6 hw6 hl6 hab=> ?_
 have s6:=s5.mono hw6 hl6
 obtain⟨w6,rfl,n6⟩:=zf_open hab
 simp only[go_sem]
 refine zCmp_calls ((n5.mono hl6).nn (show Big (xr:Int).natAbs from br')) (n6.nn (show Big (y:Int).natAbs from by')) fun g7 hw7 hl7=> ?_
 rw[sg_self,sg_self,cmpZ_lt hlt]
 simp only[go_sem,show decide ((-1:Int)<0)=true from rfl]
 exact fun hw'=>hk _ hw' (s6.mono hw' hl7) (l12.trans ((H.le_trans hl3 (H.le_trans hl4 (H.le_trans hl5 (H.le_trans hl6 hl7))))).lee)
theorem put1 {h h':H} {R:Nat} {T:TypeId} {a b:AV} {K:AV→H→Prop} (hw:h.wf) (hw':h'.wf) (hl:h.le h') (hge:h.next≤R) (hr:h'.rows R=some ⟨some T,1,[b]⟩)
  (hk:∀g:H,g.wf→h.le g→g.rows R=some ⟨some T,1,[a]⟩→H.lee R h' g→K .junk g):putK (h'.rows R) R 0 1 [a] h' K:=by
 have e:putAt [b] 0 [a]=[a]:=by simp[putAt]
 rw[hr]
 refine⟨by simp,by simp, ?_⟩
 show K .junk (h'.set R ⟨some T,1,putAt [b] 0 [a]⟩)
 rw[e]
 exact hk _ (H.wf_set hw' (H.row_lt hw' hr) _) (H.le_set hw hl hge _) (H.rows_set _ _ _) (H.lee_set _)
end
theorem quo_wlen {x y:Nat} {ba bb:Bool} (wx:wlen x≤20) (wy:wlen y≤20):wlen ((sg ba x).tdiv (sg bb y)).natAbs≤21∧wlen ((sg ba x).tmod (sg bb y)).natAbs≤21∧wlen (floQ (sg ba x) (sg bb y)).natAbs≤21∧wlen (floR (sg ba x) (sg bb y)).natAbs≤21∧wlen (eucQ (sg ba x) (sg bb y)).natAbs≤21∧wlen (eucR (sg ba x) (sg bb y)).natAbs≤21:=by
 have hs:wlen (x+y+1)≤21:=by
  have h1:=wlen_le.1 wx
  have h2:=wlen_le.1 wy
  refine wlen_le.2 ?_
  have h3:18446744073709551616^21=18446744073709551616^20*18446744073709551616:=Nat.pow_succ ..
  omega
 have h1:((sg ba x).tdiv (sg bb y)).natAbs≤x:=by rw[sg_tdiv,sg_abs];exact Nat.div_le_self _ _
 have h2:((sg ba x).tmod (sg bb y)).natAbs≤x:=by rw[sg_tmod,sg_abs];exact Nat.mod_le _ _
 have h3:(sg bb y).natAbs=y:=sg_abs _ _
 have hm:∀{z:Nat},z≤x+y+1→wlen z≤21:=fun h=>Nat.le_trans (wlen_mono h) hs
 unfold floQ floR eucQ eucR
 generalize (sg ba x).tdiv (sg bb y)=q at*
 generalize (sg ba x).tmod (sg bb y)=r at*
 generalize sg bb y=s at*
 refine⟨hm (by omega),hm (by omega),hm ?_,hm ?_,hm ?_,hm ?_⟩<;>(repeat' split)<;>omega
theorem tr_law {a b:Int} (hb:b≠0):a.tdiv b*b+a.tmod b=a∧(a.tmod b).natAbs<b.natAbs∧((a.tmod b).sign=0∨(a.tmod b).sign=a.sign):=by
 refine⟨by rw[Int.mul_comm];exact Int.mul_tdiv_add_tmod a b, ?_, ?_⟩
 ·rw[Int.natAbs_tmod]
  exact Nat.mod_lt _ (by omega)
 ·have h1:=Int.sign_tmod a b
  split at h1
  ·exact .inl h1
  ·exact .inr h1
theorem fl_law {a b:Int} (hb:b≠0):floQ a b*b+floR a b=a∧(floR a b).natAbs<b.natAbs∧((floR a b).sign=0∨(floR a b).sign=b.sign):=by
 obtain⟨h1,h2,_⟩:=tr_law (a:=a) hb
 unfold floQ floR
 generalize a.tdiv b=q at*
 generalize a.tmod b=r at*
 split
 ·rename_i h
  have h3:(q-1)*b=q*b-b:=by rw[Int.sub_mul,Int.one_mul]
  refine⟨by omega, ?_, .inr ?_⟩
  ·have h4:¬((r<0)↔(b<0)):=fun h5=>h.2 (decide_eq_decide.2 h5)
   omega
  ·have h4:¬((r<0)↔(b<0)):=fun h5=>h.2 (decide_eq_decide.2 h5)
   by_cases h5:b<0
   ·rw[Int.sign_eq_neg_one_of_neg h5,Int.sign_eq_neg_one_of_neg (by omega)]
   ·rw[Int.sign_eq_one_of_pos (show 0<b by omega),Int.sign_eq_one_of_pos (by omega)]
 ·rename_i h
  refine⟨h1,h2, ?_⟩
  by_cases h6:r=0
  ·rw[h6]
   exact .inl rfl
  ·right
   have h4:(r<0)↔(b<0):=by
    by_cases h7:decide (r<0)=decide (b<0)
    ·exact decide_eq_decide.1 h7
    ·exact absurd ⟨h6,h7⟩ h
   by_cases h5:b<0
   ·rw[Int.sign_eq_neg_one_of_neg h5,Int.sign_eq_neg_one_of_neg (h4.2 h5)]
   ·rw[Int.sign_eq_one_of_pos (show 0<b by omega),Int.sign_eq_one_of_pos (by omega)]
theorem eu_law {a b:Int} (hb:b≠0):eucQ a b*b+eucR a b=a∧(eucR a b).natAbs<b.natAbs∧0≤eucR a b:=by
 obtain⟨h1,h2,_⟩:=tr_law (a:=a) hb
 unfold eucQ eucR
 generalize a.tdiv b=q at*
 generalize a.tmod b=r at*
 split
 ·split
  ·have h3:(q+1)*b=q*b+b:=by rw[Int.add_mul,Int.one_mul]
   exact⟨by omega,by omega,by omega⟩
  ·have h3:(q-1)*b=q*b-b:=by rw[Int.sub_mul,Int.one_mul]
   exact⟨by omega,by omega,by omega⟩
 ·exact⟨h1,h2,by omega⟩
end
section
section
variable {t:Tb} {wa wb:AV} {ba bb:Bool} {xs ys:List Nat} {h:H} {K:AV→H→Prop}
set_option maxHeartbeats 2000000 in
theorem NumLaws_law (ha:IsN h wa xs) (hd:Dig xs) (hb:IsN h wb ys) (he:Dig ys) (hk:∀h',h'.wf→K (.bool true) h'):ACalls Tryz.prog 12 [t.av, .agg [wa, .bool ba], .agg [wb, .bool bb]] h K:=by
 refine in_law18_NumLaws (by simp) fun hw=> ?_
 unfold c_law18_NumLaws
 simp only[go_sem,av_held,av_cells,cells_len,true_and]
 simp only[AV.cells,List.length_cons,List.length_nil,Nat.zero_add,Nat.reduceAdd]
 refine⟨rfl,rfl, ?_⟩
 have hlT:=H.le_new hw (H.le_refl h) ⟨some 23,11,t.cells⟩
 have hwT:=H.wf_new hw ⟨some 23,11,t.cells⟩
 have r0:=H.rows_new h ⟨some 23,11,t.cells⟩
 have hnT:(h.new ⟨some 23,11,t.cells⟩).next=h.next+1:=rfl
 generalize h.new ⟨some 23,11,t.cells⟩=hT at*
 generalize hh:(hT.new ⟨some 27,2,_⟩).new ⟨some 27,2,_⟩=h1
 obtain⟨hl1,hw1,hn1,r1,r2⟩:=new2 hwT hh
 have hR:(hT.new ⟨some 27,2,[wa, .bool ba]⟩).next=hT.next+1:=rfl
 clear hh
 have r0:=hl1.2 _ _ r0
 have l01:=H.le_trans hlT hl1
 simp only[go_sem,hR,(g2 r1).2.2]
 refine of18_calls (ha.mono l01) hd fun w1 ux h2 hw2 hl2 hca hrx=> ?_
 have hone1:w1.one=true:=by obtain⟨_,_,_,rfl,_⟩:=hca;rfl
 have nx:=IsN.nn hca (Dig.take hd 20) (by rw[List.length_take];omega)
 have wx:wlen (val 18446744073709551616 (xs.take 20))≤20:=Nat.le_trans (wlen_len (Dig.take hd 20)) (by rw[List.length_take];omega)
 generalize val 18446744073709551616 (xs.take 20)=x at*
 have r0:=hl2.2 _ _ r0
 have r1:=hl2.2 _ _ r1
 have r2:=hl2.2 _ _ r2
 have l02:=H.le_trans l01 hl2
 simp only[go_sem]
 refine⟨by trivial,all2 hone1,put2 hw hw2 l02 (by omega) r1 rfl fun g1 hwg1 hlg1 hg1 r1n e1=> ?_⟩
 have nx:=nx.lee2 r1 e1
 have r0:=e1.2 _ _ (by omega) r0
 have r2:=e1.2 _ _ (by omega) r2
 simp only[go_sem,(g2 r2).2.2]
 refine of18_calls (hb.mono hlg1) he fun w2 uy h4 hw4 hl4 hcb hry=> ?_
 have hone2:w2.one=true:=by obtain⟨_,_,_,rfl,_⟩:=hcb;rfl
 have ny:=IsN.nn hcb (Dig.take he 20) (by rw[List.length_take];omega)
 have wy:wlen (val 18446744073709551616 (ys.take 20))≤20:=Nat.le_trans (wlen_len (Dig.take he 20)) (by rw[List.length_take];omega)
 generalize val 18446744073709551616 (ys.take 20)=y at*
 have r0:=hl4.2 _ _ r0
 have r1n:=hl4.2 _ _ r1n
 have r2:=hl4.2 _ _ r2
 have nx:=nx.mono hl4
 have l04:=H.le_trans hlg1 hl4
 simp only[go_sem]
 refine⟨by trivial,all2 hone2,put2 hw hw4 l04 (by omega) r2 rfl fun g2' hwg2 hlg2 hg2 r2n e2=> ?_⟩
 have nx:=nx.lee2 r2 e2
 have ny:=ny.lee2 r2 e2
 have r0:=e2.2 _ _ (by omega) r0
 have r1n:=e2.2 _ _ (by omega) r1n
 have hb1:=H.row_lt hwg2 r1n
 have hb2:=H.row_lt hwg2 r2n
 clear ha hd hb he hl1 hl2 hl4 e1 e2 r1 r2 hg1 hg2 hlg1 hca hcb hrx hry l01 l02 l04 hw1 hw2 hw4
 generalize hA:hT.next=A at*
 generalize hC:A+1=C at*
 simp only[go_sem,gsT r0]
 refine nuNew_calls fun e u g3 hw3 hl3 hn3 hue he ht=> ?_
 have r1n:=hl3.2 _ _ r1n
 have r2n:=hl3.2 _ _ r2n
 have nx:=nx.mono hl3
 have ny:=ny.mono hl3
 have hu3:=H.row_lt hw3 ht
 have l3:=H.le_trans hlg2 hl3
 have hn0:=hlg2.1
 simp only[go_sem]
 have r7:=H.rows_new g3 ⟨some 60,1,[.ptr none]⟩
 have hl7:=H.le_new hw3 (H.le_refl g3) ⟨some 60,1,[.ptr none]⟩
 have hw7:=H.wf_new hw3 ⟨some 60,1,[.ptr none]⟩
 have hn7:(g3.new ⟨some 60,1,[.ptr none]⟩).next=g3.next+1:=rfl
 simp only[List.length_cons,List.length_nil,Nat.zero_add,Nat.reduceAdd]
 generalize hE:g3.next=RE at*
 generalize g3.new ⟨some 60,1,[.ptr none]⟩=g4 at*
 refine put1 hw3 hw7 hl7 (by omega) r7 fun g5 hwg5 hlg5 rE _=> ?_
 have r1n:=hlg5.2 _ _ r1n
 have r2n:=hlg5.2 _ _ r2n
 have nx:=nx.mono hlg5
 have ny:=ny.mono hlg5
 have hA1:=H.row_lt hwg5 r1n
 have hC1:=H.row_lt hwg5 r2n
 have hE1:=H.row_lt hwg5 rE
 have hg53:=hlg5.1
 have s:NL h g5 g5.next e u RE (clampT t) 60 [(C,w2,bb,y),(A,w1,ba,x)]:=⟨hwg5,H.le_trans l3 hlg5,⟨_,_,ht.mono hlg5⟩,he.mono hlg5,rE,by omega,by omega,by omega,by omega,Nat.le_refl _,by
  intro p hp
  simp only[List.mem_cons,List.not_mem_nil,or_false] at hp
  rcases hp with rfl|rfl
  ·exact⟨r2n,ny,by omega,by omega⟩
  ·exact⟨r1n,nx,by omega,by omega⟩⟩
 have hu5:=s.huB
 have bx:Big x:=wbig wx (by omega)
 have by':Big y:=wbig wy (by omega)
 clear r7 hl7 hw7 hlg5 nx ny r1n r2n hg53 hA1 hC1 hE1 rE ht he
 simp only[go_sem,s.ptr,Option.isNone,Bool.false_bne,(g2 (s.get (.head _)).1).1]
 refine Zero_calls (s.get (.head _)).2.1 ?_
 rcases Nat.eq_zero_or_pos y with h0|h0
 ·simp only[go_sem,decide_eq_true h0]
  refine wakes18_calls fun g6 hw6 hl6=> ?_
  simp only[go_sem]
  exact fun _=>hk g6 hw6
 simp only[go_sem,decide_eq_false (show¬y=0 by omega),(g2 (s.get (.tail _ (.head _))).1).2.2]
 refine zNorm_calls (s.get (.tail _ (.head _))).2.1 bx fun r g6 hw6 hl6 hr=> ?_
 have s:=s.mono hw6 hl6
 obtain⟨wn,bn,xn,rfl,nn,_,ez⟩:=id hr
 have exn:xn=x:=by
  have:=congrArg Int.natAbs ez
  rw[sg_abs,sg_abs] at this
  exact this.symm
 have nnn:=nn.nn (show Big xn by rw[exn];exact bx)
 have on:=nnn.one
 simp only[go_sem]
 have rZ:=H.rows_new g6 ⟨some 27,2,[.sl none 0 0 none, .bool false]⟩
 have hlZ:=H.le_new hw6 (H.le_refl g6) ⟨some 27,2,[.sl none 0 0 none, .bool false]⟩
 have hwZ:=H.wf_new hw6 ⟨some 27,2,[.sl none 0 0 none, .bool false]⟩
 have s:=s.up
 have hbu:=s.huB
 simp only[List.length_cons,List.length_nil,Nat.zero_add,Nat.reduceAdd]
 generalize hRN:g6.next=RN at*
 generalize g6.new ⟨some 27,2,[.sl none 0 0 none, .bool false]⟩=g7 at*
 have s:=s.mono hwZ hlZ
 have hhu:=s.hu
 refine⟨by trivial,all2 on,put2 hw hwZ s.le (by omega) rZ rfl fun g8 hwg8 hlg8 _ rN e1=> ?_⟩
 have nnn:=(nnn.mono hlZ).lee2 rZ e1
 have hz:=(hr.mono hlZ).lee2 rZ e1
 have s:=(s.put hwg8 hlg8 (Nat.le_refl _) rZ e1).add rN nnn (by omega)
 clear rZ hlZ hwZ rN e1 hlg8 hr nn nnn
 have hQ:=quo_wlen (ba:=ba) (bb:=bb) wx wy
 have hy0:sg bb y≠0:=by
  have:=sg_abs bb y
  omega
 obtain⟨L1,L2,L3⟩:=tr_law (a:=sg ba x) hy0
 obtain⟨M1,M2,M3⟩:=fl_law (a:=sg ba x) hy0
 obtain⟨N1,N2,N3⟩:=eu_law (a:=sg ba x) hy0
 simp only[go_sem,s.ptr,(g2 (s.get (.tail _ (.head _))).1).2.2,(g2 (s.get (.tail _ (.tail _ (.head _)))).1).2.2]
 obtain⟨md,dd,ht⟩:=s.ht
 refine zTrunc_calls (clamp_ok _) s.he ht (s.get (.tail _ (.tail _ (.head _)))).2.1 (s.get (.tail _ (.head _))).2.1 (by omega) (by omega) (by omega) (fun h=>absurd h (by omega)) fun _ q r g1 m1 d1 hw1 hl1 ht1 hq hr=> ?_
 have hz:=hz.monoE (by omega) hl1
 have s:=s.over hw hw1 hl1 ht1
 obtain⟨wq0,bq0,xq0,rfl,nq,_,eq0⟩:=id hq
 obtain⟨wr0,br0,xr0,rfl,nr,_,er0⟩:=id hr
 have vq0:wlen xq0≤21:=by
  have h:=hQ.1
  rw[eq0,sg_abs] at h
  exact h
 have vr0:wlen xr0≤21:=by
  have h:=hQ.2.1
  rw[er0,sg_abs] at h
  exact h
 have nq:=nq.nn (wbig vq0 (by omega))
 have nr:=nr.nn (wbig vr0 (by omega))
 have oq:=nq.one
 have or:=nr.one
 simp only[go_sem]
 have s:=s.up
 have hbu:=s.huB
 generalize hhA:(g1.new ⟨some 27,_,_⟩).new ⟨some 27,_,_⟩=g2'
 simp only[List.length_cons,List.length_nil,Nat.zero_add,Nat.reduceAdd] at hhA
 obtain⟨hlA,hwA,hnA,ra,rb⟩:=new2 hw1 hhA
 clear hhA
 have hR9:(g1.new ⟨some 27,2,[.sl none 0 0 none, .bool false]⟩).next=g1.next+1:=rfl
 simp only[List.length_cons,List.length_nil,Nat.zero_add,Nat.reduceAdd,hR9]
 generalize hQ0:g1.next=Q0 at*
 generalize hP0:Q0+1=P0 at*
 have s:=s.mono hwA hlA
 have hhu:=s.hu
 refine⟨by trivial,all2 oq,put2 hw hwA s.le (by omega) ra rfl fun g3 hw3 hl3 _ ran e1=> ?_⟩
 have s:=s.put hw3 hl3 (Nat.le_refl _) ra e1
 have nq:=(nq.mono hlA).lee2 ra e1
 have nr:=(nr.mono hlA).lee2 ra e1
 have hz:=(hz.mono hlA).lee2 ra e1
 have rb:=e1.2 _ _ (by omega) rb
 simp only[go_sem]
 refine⟨by trivial,all2 or,put2 hw hw3 hl3 (by omega) rb rfl fun g4 hw4 hl4 _ rbn e2=> ?_⟩
 have s:=s.put hw4 hl4 (by omega) rb e2
 have nq:=nq.lee2 rb e2
 have nr:=nr.lee2 rb e2
 have hz:=hz.lee2 rb e2
 have ran:=e2.2 _ _ (by omega) ran
 have s:=(s.add ran nq (by omega)).add rbn nr (by omega)
 clear ra rb ran rbn e1 e2 hlA hwA hw3 hl3 hl1 hw1 ht1 ht hq hr nq nr hnA
 simp only[go_sem,s.ptr,(g2 (s.get (.tail _ (.tail _ (.tail _ (.head _))))).1).2.2,(g2 (s.get (.tail _ (.tail _ (.tail _ (.tail _ (.head _)))))).1).2.2]
 obtain⟨md,dd,ht⟩:=s.ht
 refine zFloor_calls (clamp_ok _) s.he ht (s.get (.tail _ (.tail _ (.tail _ (.tail _ (.head _)))))).2.1 (s.get (.tail _ (.tail _ (.tail _ (.head _))))).2.1 (by omega) (by omega) (by omega) (fun h=>absurd h (by omega)) fun _ q r g1 m1 d1 hw1 hl1 ht1 hq hr=> ?_
 have hz:=hz.monoE (by omega) hl1
 have s:=s.over hw hw1 hl1 ht1
 obtain⟨wq1,bq1,xq1,rfl,nq,_,eq1⟩:=id hq
 obtain⟨wr1,br1,xr1,rfl,nr,_,er1⟩:=id hr
 have vq1:wlen xq1≤21:=by
  have h:=hQ.2.2.1
  rw[eq1,sg_abs] at h
  exact h
 have vr1:wlen xr1≤21:=by
  have h:=hQ.2.2.2.1
  rw[er1,sg_abs] at h
  exact h
 have nq:=nq.nn (wbig vq1 (by omega))
 have nr:=nr.nn (wbig vr1 (by omega))
 have oq:=nq.one
 have or:=nr.one
 simp only[go_sem]
 have s:=s.up
 have hbu:=s.huB
 generalize hhA:(g1.new ⟨some 27,_,_⟩).new ⟨some 27,_,_⟩=g2'
 simp only[List.length_cons,List.length_nil,Nat.zero_add,Nat.reduceAdd] at hhA
 obtain⟨hlA,hwA,hnA,ra,rb⟩:=new2 hw1 hhA
 clear hhA
 have hR9:(g1.new ⟨some 27,2,[.sl none 0 0 none, .bool false]⟩).next=g1.next+1:=rfl
 simp only[List.length_cons,List.length_nil,Nat.zero_add,Nat.reduceAdd,hR9]
 generalize hQ1:g1.next=Q1 at*
 generalize hP1:Q1+1=P1 at*
 have s:=s.mono hwA hlA
 have hhu:=s.hu
 refine⟨by trivial,all2 oq,put2 hw hwA s.le (by omega) ra rfl fun g3 hw3 hl3 _ ran e1=> ?_⟩
 have s:=s.put hw3 hl3 (Nat.le_refl _) ra e1
 have nq:=(nq.mono hlA).lee2 ra e1
 have nr:=(nr.mono hlA).lee2 ra e1
 have hz:=(hz.mono hlA).lee2 ra e1
 have rb:=e1.2 _ _ (by omega) rb
 simp only[go_sem]
 refine⟨by trivial,all2 or,put2 hw hw3 hl3 (by omega) rb rfl fun g4 hw4 hl4 _ rbn e2=> ?_⟩
 have s:=s.put hw4 hl4 (by omega) rb e2
 have nq:=nq.lee2 rb e2
 have nr:=nr.lee2 rb e2
 have hz:=hz.lee2 rb e2
 have ran:=e2.2 _ _ (by omega) ran
 have s:=(s.add ran nq (by omega)).add rbn nr (by omega)
 clear ra rb ran rbn e1 e2 hlA hwA hw3 hl3 hl1 hw1 ht1 ht hq hr nq nr hnA
 simp only[go_sem,s.ptr,(g2 (s.get (.tail _ (.tail _ (.tail _ (.tail _ (.tail _ (.head _))))))).1).2.2,(g2 (s.get (.tail _ (.tail _ (.tail _ (.tail _ (.tail _ (.tail _ (.head _)))))))).1).2.2]
 obtain⟨md,dd,ht⟩:=s.ht
 refine zEuclid_calls (clamp_ok _) s.he ht (s.get (.tail _ (.tail _ (.tail _ (.tail _ (.tail _ (.tail _ (.head _)))))))).2.1 (s.get (.tail _ (.tail _ (.tail _ (.tail _ (.tail _ (.head _))))))).2.1 (by omega) (by omega) (by omega) (fun h=>absurd h (by omega)) fun _ q r g1 m1 d1 hw1 hl1 ht1 hq hr=> ?_
 have hz:=hz.monoE (by omega) hl1
 have s:=s.over hw hw1 hl1 ht1
 obtain⟨wq2,bq2,xq2,rfl,nq,_,eq2⟩:=id hq
 obtain⟨wr2,br2,xr2,rfl,nr,_,er2⟩:=id hr
 have vq2:wlen xq2≤21:=by
  have h:=hQ.2.2.2.2.1
  rw[eq2,sg_abs] at h
  exact h
 have vr2:wlen xr2≤21:=by
  have h:=hQ.2.2.2.2.2
  rw[er2,sg_abs] at h
  exact h
 have nq:=nq.nn (wbig vq2 (by omega))
 have nr:=nr.nn (wbig vr2 (by omega))
 have oq:=nq.one
 have or:=nr.one
 simp only[go_sem]
 have s:=s.up
 have hbu:=s.huB
 generalize hhA:(g1.new ⟨some 27,_,_⟩).new ⟨some 27,_,_⟩=g2'
 simp only[List.length_cons,List.length_nil,Nat.zero_add,Nat.reduceAdd] at hhA
 obtain⟨hlA,hwA,hnA,ra,rb⟩:=new2 hw1 hhA
 clear hhA
 have hR9:(g1.new ⟨some 27,2,[.sl none 0 0 none, .bool false]⟩).next=g1.next+1:=rfl
 simp only[List.length_cons,List.length_nil,Nat.zero_add,Nat.reduceAdd,hR9]
 generalize hQ2:g1.next=Q2 at*
 generalize hP2:Q2+1=P2 at*
 have s:=s.mono hwA hlA
 have hhu:=s.hu
 refine⟨by trivial,all2 oq,put2 hw hwA s.le (by omega) ra rfl fun g3 hw3 hl3 _ ran e1=> ?_⟩
 have s:=s.put hw3 hl3 (Nat.le_refl _) ra e1
 have nq:=(nq.mono hlA).lee2 ra e1
 have nr:=(nr.mono hlA).lee2 ra e1
 have hz:=(hz.mono hlA).lee2 ra e1
 have rb:=e1.2 _ _ (by omega) rb
 simp only[go_sem]
 refine⟨by trivial,all2 or,put2 hw hw3 hl3 (by omega) rb rfl fun g4 hw4 hl4 _ rbn e2=> ?_⟩
 have s:=s.put hw4 hl4 (by omega) rb e2
 have nq:=nq.lee2 rb e2
 have nr:=nr.lee2 rb e2
 have hz:=hz.lee2 rb e2
 have ran:=e2.2 _ _ (by omega) ran
 have s:=(s.add ran nq (by omega)).add rbn nr (by omega)
 clear ra rb ran rbn e1 e2 hlA hwA hw3 hl3 hl1 hw1 ht1 ht hq hr nq nr hnA
 simp only[go_sem]
 simp only[go_sem,(g2 (s.get (.tail _ (.tail _ (.tail _ (.tail _ (.tail _ (.head _))))))).1).2.2,(g2 (s.get (.tail _ (.tail _ (.tail _ (.tail _ (.head _)))))).1).2.2]
 have ltT':∀{r:Int} {b:Bool} {k:Nat},r.natAbs<(sg bb y).natAbs→r=sg b k→k<y:=by
  intro r b k h1 h2
  rw[h2,sg_abs,sg_abs] at h1
  exact h1
 have ey:sg bb y=sg bb y:=rfl
 have f0:sg bq0 xq0*sg bb y+sg br0 xr0=sg bn xn:=by rw[←eq0,←er0,←ez];exact L1
 have f1:sg bq1 xq1*sg bb y+sg br1 xr1=sg bn xn:=by rw[←eq1,←er1,←ez];exact M1
 have f2:sg bq2 xq2*sg bb y+sg br2 xr2=sg bn xn:=by rw[←eq2,←er2,←ez];exact N1
 rw[ez] at hz
 refine back_calls hw s (.tail _ (.tail _ (.tail _ (.tail _ (.tail _ (.tail _ (.tail _ (.head _)))))))) (.tail _ (.tail _ (.tail _ (.tail _ (.tail _ (.tail _ (.head _))))))) hz hu5 (s.get (.tail _ (.tail _ (.tail _ (.tail _ (.tail _ (.head _))))))).2.1 (s.get (.tail _ (.tail _ (.tail _ (.tail _ (.head _)))))).2.1 (by omega) (by omega) (by omega) f0 (ltT' L2 er0) fun g9 hw9 s9 hl9=> ?_
 have hz9:=hz.monoE hu5 hl9
 simp only[go_sem,Bool.not_true,(g2 (s9.get (.tail _ (.tail _ (.tail _ (.head _))))).1).2.2,(g2 (s9.get (.tail _ (.tail _ (.head _)))).1).2.2]
 refine back_calls hw s9 (.tail _ (.tail _ (.tail _ (.tail _ (.tail _ (.tail _ (.tail _ (.head _)))))))) (.tail _ (.tail _ (.tail _ (.tail _ (.tail _ (.tail _ (.head _))))))) hz9 hu5 (s9.get (.tail _ (.tail _ (.tail _ (.head _))))).2.1 (s9.get (.tail _ (.tail _ (.head _)))).2.1 (by omega) (by omega) (by omega) f1 (ltT' M2 er1) fun g10 hw10 s10 hl10=> ?_
 have hz10:=hz9.monoE hu5 hl10
 simp only[go_sem,Bool.not_true,(g2 (s10.get (.tail _ (.head _))).1).2.2,(g2 (s10.get (.head _)).1).2.2]
 refine back_calls hw s10 (.tail _ (.tail _ (.tail _ (.tail _ (.tail _ (.tail _ (.tail _ (.head _)))))))) (.tail _ (.tail _ (.tail _ (.tail _ (.tail _ (.tail _ (.head _))))))) hz10 hu5 (s10.get (.tail _ (.head _))).2.1 (s10.get (.head _)).2.1 (by omega) (by omega) (by omega) f2 (ltT' N2 er2) fun g11 hw11 s11 hl11=> ?_
 rw[er0,ez] at L3
 rw[er1] at M3
 rw[er2] at N3
 have N4:0≤(sg br2 xr2).sign:=Int.sign_nonneg_iff.2 N3
 simp only[go_sem,Bool.not_true,(g2 (s11.get (.tail _ (.tail _ (.tail _ (.tail _ (.head _)))))).1).2.2]
 refine zSign_calls (s11.get (.tail _ (.tail _ (.tail _ (.tail _ (.head _)))))).2.1 fun ga hwa hla=> ?_
 have sa:=s11.mono hwa hla
 by_cases hs:(sg br0 xr0).sign=0
 ·simp only[go_sem,eqT hs,true_and,and_self,(g2 (sa.get (.tail _ (.tail _ (.head _)))).1).2.2]
  refine zSign_calls (sa.get (.tail _ (.tail _ (.head _)))).2.1 fun ga hwa hla=> ?_
  have sa:=sa.mono hwa hla
  by_cases hs:(sg br1 xr1).sign=0
  ·simp only[go_sem,eqT hs,true_and,and_self,(g2 (sa.get (.head _)).1).2.2]
   refine zSign_calls (sa.get (.head _)).2.1 fun gz hwz hlz=> ?_
   simp only[go_sem,decide_eq_true N4]
   refine wakes18_calls fun gy hwy hly=> ?_
   simp only[go_sem]
   exact fun _=>hk gy hwy
  ·simp only[go_sem,eqF hs,(g2 (sa.get (.tail _ (.tail _ (.head _)))).1).2.2,(g2 (sa.get (.tail _ (.tail _ (.tail _ (.tail _ (.tail _ (.tail _ (.tail _ (.head _))))))))).1).2.2]
   refine zSign_calls (sa.get (.tail _ (.tail _ (.head _)))).2.1 fun gb hwb hlb=> ?_
   have sb:=sa.mono hwb hlb
   simp only[go_sem,(g2 (sb.get (.tail _ (.tail _ (.tail _ (.tail _ (.tail _ (.tail _ (.tail _ (.head _))))))))).1).2.2,true_and]
   refine zSign_calls (sb.get (.tail _ (.tail _ (.tail _ (.tail _ (.tail _ (.tail _ (.tail _ (.head _))))))))).2.1 fun gc hwc hlc=> ?_
   have sc:=sb.mono hwc hlc
   have heq:=eqT (M3.resolve_left hs)
   simp only[go_sem,heq,(g2 (sc.get (.head _)).1).2.2]
   refine zSign_calls (sc.get (.head _)).2.1 fun gz hwz hlz=> ?_
   simp only[go_sem,decide_eq_true N4]
   refine wakes18_calls fun gy hwy hly=> ?_
   simp only[go_sem]
   exact fun _=>hk gy hwy
 ·simp only[go_sem,eqF hs,(g2 (sa.get (.tail _ (.tail _ (.tail _ (.tail _ (.head _)))))).1).2.2,(g2 (sa.get (.tail _ (.tail _ (.tail _ (.tail _ (.tail _ (.tail _ (.head _)))))))).1).2.2]
  refine zSign_calls (sa.get (.tail _ (.tail _ (.tail _ (.tail _ (.head _)))))).2.1 fun gb hwb hlb=> ?_
  have sb:=sa.mono hwb hlb
  simp only[go_sem,(g2 (sb.get (.tail _ (.tail _ (.tail _ (.tail _ (.tail _ (.tail _ (.head _)))))))).1).2.2,true_and]
  refine zSign_calls (sb.get (.tail _ (.tail _ (.tail _ (.tail _ (.tail _ (.tail _ (.head _)))))))).2.1 fun gc hwc hlc=> ?_
  have sc:=sb.mono hwc hlc
  have heq:=eqT (L3.resolve_left hs)
  simp only[go_sem,heq,(g2 (sc.get (.tail _ (.tail _ (.head _)))).1).2.2]
  refine zSign_calls (sc.get (.tail _ (.tail _ (.head _)))).2.1 fun ga hwa hla=> ?_
  have sa:=sc.mono hwa hla
  by_cases hs:(sg br1 xr1).sign=0
  ·simp only[go_sem,eqT hs,true_and,and_self,(g2 (sa.get (.head _)).1).2.2]
   refine zSign_calls (sa.get (.head _)).2.1 fun gz hwz hlz=> ?_
   simp only[go_sem,decide_eq_true N4]
   refine wakes18_calls fun gy hwy hly=> ?_
   simp only[go_sem]
   exact fun _=>hk gy hwy
  ·simp only[go_sem,eqF hs,(g2 (sa.get (.tail _ (.tail _ (.head _)))).1).2.2,(g2 (sa.get (.tail _ (.tail _ (.tail _ (.tail _ (.tail _ (.tail _ (.tail _ (.head _))))))))).1).2.2]
   refine zSign_calls (sa.get (.tail _ (.tail _ (.head _)))).2.1 fun gb hwb hlb=> ?_
   have sb:=sa.mono hwb hlb
   simp only[go_sem,(g2 (sb.get (.tail _ (.tail _ (.tail _ (.tail _ (.tail _ (.tail _ (.tail _ (.head _))))))))).1).2.2,true_and]
   refine zSign_calls (sb.get (.tail _ (.tail _ (.tail _ (.tail _ (.tail _ (.tail _ (.tail _ (.head _))))))))).2.1 fun gc hwc hlc=> ?_
   have sc:=sb.mono hwc hlc
   have heq:=eqT (M3.resolve_left hs)
   simp only[go_sem,heq,(g2 (sc.get (.head _)).1).2.2]
   refine zSign_calls (sc.get (.head _)).2.1 fun gz hwz hlz=> ?_
   simp only[go_sem,decide_eq_true N4]
   refine wakes18_calls fun gy hwy hly=> ?_
   simp only[go_sem]
   exact fun _=>hk gy hwy
set_option maxRecDepth 100000 in
theorem NumLaws_row (h:H) (avs:List AV) (_:h.wf) (r:ReadsAll Tryz.prog h [23,27,27] avs):ACalls Tryz.prog 12 avs h (fun r _=>r= .bool true):=by
 match avs,r with
 |[_,_,_],⟨r0,r1,r2,_⟩=>
  obtain⟨t0,rfl⟩:=reads_table r0
  obtain⟨_,_,xs,rfl,h1,hx,_⟩:=reads_whole r1
  obtain⟨_,_,ys,rfl,h2,hy,_⟩:=reads_whole r2
  exact NumLaws_law h1 hx h2 hy fun _ _=>rfl
end
end
end Ab
end Go.Proofs.YtnlkbdmmoplkoaaGreatDoor
