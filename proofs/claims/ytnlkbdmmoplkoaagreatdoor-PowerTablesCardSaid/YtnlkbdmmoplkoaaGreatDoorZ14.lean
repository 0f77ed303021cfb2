/- Joined texts: I1 I2 I3 I4 I5 I6 I8 J1 J8 W7 W8 I9 W10 W11 W13 W15 W16 I10 W17. No condition. -/
import Derived.Test.YtnlkbdmmoplkoaaGreatDoorZ13
import Derived.Test.YtnlkbdmmoplkoaaGreatDoorProg
import Derived.KernelRfl
namespace Go.Proofs.YtnlkbdmmoplkoaaGreatDoor
namespace Ab
open Go Go.RowKit
set_option linter.unusedSimpArgs false
set_option linter.unusedVariables false
attribute [local go_sem ↓] x_mv x_pick x_bin x_beq x_peq x_seq x_cat x_aeq x_idxS x_idxV x_un x_cvI x_bts x_idx x_idxA x_fld x_ld x_st x_nn x_prt x_slc x_mk x_bsl x_bld x_box x_alloc x_len x_capo x_mnx x_app x_cpy x_mkf x_ext x_call x_callV x_bad s_none s_some s_nil s_cons s_chks w_skip w_reg tP_fin tP_no tP_alt w_seq w_cond w_block w_exit w_ret t_normal t_exit t_ret b_normal b_ret b_exit n_normal n_exit n_ret p_normal p_ret f_nil f_t f_c k_ops k_chk k_fin
attribute [local go_sem] e_t e_c e_f u_some u_none u_at env_at k_v k_pick k_add k_sub k_mul k_quo k_rem k_and k_or k_xor k_shl k_shr k_eql k_neq k_lss k_leq k_gtr k_geq k_beq k_peqn k_peqs k_neg k_not k_com k_cvI k_idxS k_idxV1 k_idxVn k_idx k_idxA k_idxG k_ldG k_gld k_seq k_cat k_aeq k_eqs k_fld k_ld1 k_ldn k_get k_gets k_sti k_stb k_stp k_sts k_stf k_sta k_put k_nn k_prt1 k_prtn k_slc_a k_slc_b k_slc_c k_mk k_agg k_bsl k_box k_len k_lenS k_cap k_max k_min k_ext k_callV k_true k_false k_gtt k_gtf k_gft k_gsk k_gff k_lit1i k_lit2i k_lit3i k_c0 k_c1 k_ck List.getElem?_cons_zero List.getElem?_cons_succ List.getElem?_nil Option.getD_some Option.getD_none tupOf List.map_cons List.map_nil Option.map_some Option.map_none List.nil_append List.cons_append List.append_nil Nat.mul_one Int.toNat_natCast Nat.zero_add
attribute [local go_sem] e_t e_c e_f u_some u_none u_at env_at k_v k_pick k_add k_sub k_mul k_quo k_rem k_and k_or k_xor k_shl k_shr k_eql k_neq k_lss k_leq k_gtr k_geq k_beq k_peqn k_peqs k_neg k_not k_com k_cvI k_idxS k_idxV1 k_idxVn k_idx k_idxA k_idxG k_ldG k_gld k_seq k_cat k_aeq k_eqs k_fld k_ld1 k_ldn k_get k_gets k_sti k_stb k_stp k_sts k_stf k_sta k_put k_nn k_prt1 k_prtn k_slc_a k_slc_b k_slc_c k_mk k_agg k_bsl k_box k_len k_lenS k_cap k_max k_min k_ext k_callV k_true k_false k_gtt k_gtf k_gft k_gsk k_gff k_lit1i k_lit2i k_lit3i k_c0 k_c1 k_ck List.getElem?_cons_zero List.getElem?_cons_succ List.getElem?_nil Option.getD_some Option.getD_none tupOf List.map_cons List.map_nil Option.map_some Option.map_none List.nil_append List.cons_append List.append_nil Nat.mul_one Int.toNat_natCast Nat.zero_add
--what a store into a cell of two leaves
attribute [local go_sem_proc] Nat.reduceEqDiff Nat.reduceAdd Int.reduceToNat
attribute [local go_sem_proc ↓] reduceIte
attribute [local go_sem] Bool.false_eq_true
section
def sg (b:Bool) (x:Nat):Int:=if b=true then-(x:Int) else(x:Int)
theorem sg_abs (b:Bool) (x:Nat):(sg b x).natAbs=x:=by cases b<;>simp[sg]
theorem sg_zero (b:Bool):sg b 0=0:=by cases b<;>rfl
theorem sg_made {b:Bool} {x:Nat}:sg (b&&decide (x≠0)) x=sg b x:=by
 by_cases h:x=0
 ·subst h;rw[sg_zero,sg_zero]
 ·rw[decide_eq_true h,Bool.and_true]
theorem sg_mul {a b:Bool} {x y:Nat}:sg a x*sg b y=sg (a !=b) (x*y):=by
 cases a<;>cases b<;>simp[sg,Int.neg_mul,Int.mul_neg]
def Zf (c:Nat) (h:H) (v:AV) (z:Int):Prop:=∃w b x,v= .agg [w, .bool b]∧Nf c h w x∧(x=0→b=false)∧z=sg b x
def Zr (h:H) (v:AV) (z:Int):Prop:=∃w b x,v= .agg [w, .bool b]∧Num 4294967296 h w x∧(x=0→b=false)∧z=sg b x
theorem Zf.mono {c:Nat} {h h':H} {v:AV} {z:Int} (hv:Zf c h v z) (hl:h.le h'):Zf c h' v z:=by
 obtain⟨w,b,x,e,h1,h2⟩:=hv
 exact⟨w,b,x,e,h1.mono hl,h2⟩
theorem Zf.monoE {c u:Nat} {h h':H} {v:AV} {z:Int} (hub:u<c) (hv:Zf c h v z) (hl:H.lee u h h'):Zf c h' v z:=by
 obtain⟨w,b,x,e,h1,h2⟩:=hv
 exact⟨w,b,x,e,h1.monoE hub hl,h2⟩
theorem Zf.base {c d:Nat} {h:H} {v:AV} {z:Int} (hv:Zf c h v z) (hd:d≤c):Zf d h v z:=by
 obtain⟨w,b,x,e,h1,h2⟩:=hv
 exact⟨w,b,x,e,h1.base hd,h2⟩
theorem Nf.leeT {b i x:Nat} {h g:H} {v:AV} {r:Row} {T:TypeId} (hv:Nf b h v x) (hr:h.rows i=some r) (ho:r.own=some T) (hT:T≠54) (hl:H.lee i h g):Nf b g v x:=by
 obtain⟨xs,⟨id,c,rfl,h1⟩,h2⟩:=hv
 refine⟨xs,⟨id,c,rfl, ?_⟩,h2⟩
 rcases h1 with h1|⟨j,q,rfl,hb,hq,hqo,h3⟩
 ·exact .inl h1
 ·refine .inr ⟨j,q,rfl,hb,hl.2 j q ?_ hq,hqo,h3⟩
  rintro rfl
  rw[hr] at hq
  injection hq with hq
  rw[←hq,ho] at hqo
  injection hqo with hqo
  exact hT hqo
theorem Num.leeT {B i n:Nat} {h g:H} {v:AV} {r:Row} (hv:Num B h v n) (hr:h.rows i=some r) (ho:r.own≠none∧r.esz≠1) (hl:H.lee i h g):Num B g v n:=by
 obtain⟨xs,h1,h2⟩:=hv
 exact⟨xs,IsW.monoE hr ho.1 ho.2 h1 hl,h2⟩
--rows made
theorem new2 {h h':H} {r1 r2:Row} (hw:h.wf) (hh:(h.new r1).new r2=h'):h.le h'∧h'.wf∧h'.next=h.next+2∧h'.rows h.next=some r1∧h'.rows (h.next+1)=some r2:=by
 subst hh
 have hw1:=H.wf_new hw r1
 refine⟨H.le_new hw1 (H.le_new hw (H.le_refl h) r1) r2,H.wf_new hw1 r2,rfl, ?_,H.rows_new _ _⟩
 rw[H.rows_new_ne (by simp[H.new]),H.rows_new]
theorem g2 {h:H} {i:Nat} {T:Option TypeId} {a b:AV} (hr:h.rows i=some ⟨T,2,[a,b]⟩):h.get i 0=some a∧h.get i 1=some b∧h.gets i 0 2=some [a,b]:=by
 rw[H.get_of hr,H.get_of hr,H.gets_of hr (by simp)]
 exact⟨rfl,rfl,rfl⟩
theorem bldI {s:AV} {b:Bool} (hs:s.one=true):abuild [.sl none 0 0 none, .bool false] [(0,1,s),(1,1, .bool b)]=some [s, .bool b]:=by
 cases s<;>first|rfl|simp[AV.one] at hs
theorem all2 {s:AV} {b:Bool} (hs:s.one=true):([s, .bool b].all fun x=>x.one)=true:=by
 simp only[List.all_cons,List.all_nil,hs,Bool.true_and,Bool.and_true]
 rfl
theorem put2 {h h':H} {R:Nat} {T:TypeId} {a b:AV} {l:List AV} {K:AV→H→Prop} (hw:h.wf) (hw':h'.wf) (hl:h.le h') (hge:h.next≤R) (hr:h'.rows R=some ⟨some T,2,l⟩) (hll:l.length=2)
  (hk:∀g:H,g.wf→h.le g→g.gets R 0 2=some [a,b]→g.rows R=some ⟨some T,2,[a,b]⟩→H.lee R h' g→K .junk g):putK (h'.rows R) R 0 2 [a,b] h' K:=by
 have e:putAt l 0 [a,b]=[a,b]:=by simp[putAt,hll]
 rw[hr]
 refine⟨by simp,by simp[hll], ?_⟩
 show K .junk (h'.set R ⟨some T,2,putAt l 0 [a,b]⟩)
 rw[e]
 exact hk _ (H.wf_set hw' (H.row_lt hw' hr) _) (H.le_set hw hl hge _) (g2 (H.rows_set _ _ _)).2.2 (H.rows_set _ _ _) (H.lee_set _)
section
variable {v u wa wb:AV} {ba bb:Bool} {x y:Nat} {h:H} {K:AV→H→Prop}
theorem made_calls (nv:Nn h v x) (hk:∀h',h'.wf→h.le h'→K (.agg [v, .bool (ba&&decide (x≠0))]) h'):ACalls Tryz.prog 103 [v, .bool ba] h K:=by
 refine in_num_made (by simp) fun hw=> ?_
 unfold c_num_made
 have hl1:=H.le_new hw (H.le_refl h) ⟨some 27,2,[.sl none 0 0 none, .bool false]⟩
 have hw1:=H.wf_new hw ⟨some 27,2,[.sl none 0 0 none, .bool false]⟩
 have hr1:=H.rows_new h ⟨some 27,2,[.sl none 0 0 none, .bool false]⟩
 have e1:(!decide (x=0))=decide (x≠0):=by simp
 cases ba
 ·simp only[go_sem,bldI nv.one]
  simp only[List.length_cons,List.length_nil,Nat.zero_add,Nat.reduceAdd]
  refine⟨trivial,all2 nv.one,put2 hw hw1 hl1 (Nat.le_refl _) hr1 rfl fun g hwg hlg hg _ _=> ?_⟩
  simp only[go_sem,hg]
  exact fun _=>hk g hwg hlg
 ·simp only[go_sem]
  simp only[List.length_cons,List.length_nil,Nat.zero_add,Nat.reduceAdd]
  refine Zero_calls (nv.mono hl1) ?_
  simp only[go_sem,bldI nv.one]
  simp only[List.length_cons,List.length_nil,Nat.zero_add,Nat.reduceAdd]
  refine⟨trivial,all2 nv.one,put2 hw hw1 hl1 (Nat.le_refl _) hr1 rfl fun g hwg hlg hg _ _=> ?_⟩
  simp only[go_sem,hg,e1]
  exact fun _=>hk g hwg hlg
theorem Num.one {B n:Nat} {h:H} {v:AV} (hv:Num B h v n):v.one=true:=by
 obtain⟨xs,h1,_⟩:=hv
 obtain⟨i,o,c,rfl⟩:=h1.form
 rfl
theorem rZero_calls (nv:Num 4294967296 h v x) (hk:K (.bool (decide (x=0))) h):ACalls Tryz.prog 108 [v] h K:=by
 obtain⟨xs,h1,h2,h3,rfl⟩:=nv
 obtain⟨id,off,c,rfl⟩:=h1.form
 refine in_ref02_Zero (by simp) fun hw=> ?_
 unfold c_ref02_Zero
 have e:((xs.length:Int)==0)=decide (val 4294967296 xs=0):=by
  rw[Bool.eq_iff_iff]
  simp only[beq_iff_eq,decide_eq_true_eq]
  constructor
  ·intro h0
   have:xs=[]:=List.eq_nil_of_length_eq_zero (by omega)
   subst this
   rfl
  ·intro h0
   rcases Nat.eq_zero_or_pos xs.length with h|h
   ·omega
   ·exfalso
    have h4:xs≠ []:=by intro e;subst e;simp at h
    have h5:=val_ge 4294967296 xs h3 h4
    have h6:0<4294967296^(xs.length-1):=Nat.pow_pos (by omega)
    omega
 simp only[go_sem,e]
 exact fun _=>hk
theorem rmade_calls (nv:Num 4294967296 h v x) (hk:∀h',h'.wf→h.le h'→K (.agg [v, .bool (ba&&decide (x≠0))]) h'):ACalls Tryz.prog 99 [v, .bool ba] h K:=by
 refine in_ref17_made (by simp) fun hw=> ?_
 unfold c_ref17_made
 have hl1:=H.le_new hw (H.le_refl h) ⟨some 38,2,[.sl none 0 0 none, .bool false]⟩
 have hw1:=H.wf_new hw ⟨some 38,2,[.sl none 0 0 none, .bool false]⟩
 have hr1:=H.rows_new h ⟨some 38,2,[.sl none 0 0 none, .bool false]⟩
 have e1:(!decide (x=0))=decide (x≠0):=by simp
 have nv1:=nv.one
 cases ba
 ·simp only[go_sem,bldI nv1]
  simp only[List.length_cons,List.length_nil,Nat.zero_add,Nat.reduceAdd]
  refine⟨trivial,all2 nv1,put2 hw hw1 hl1 (Nat.le_refl _) hr1 rfl fun g hwg hlg hg _ _=> ?_⟩
  simp only[go_sem,hg]
  exact fun _=>hk g hwg hlg
 ·simp only[go_sem]
  simp only[List.length_cons,List.length_nil,Nat.zero_add,Nat.reduceAdd]
  refine rZero_calls (nv.mono hl1) ?_
  simp only[go_sem,bldI nv1]
  simp only[List.length_cons,List.length_nil,Nat.zero_add,Nat.reduceAdd]
  refine⟨trivial,all2 nv1,put2 hw hw1 hl1 (Nat.le_refl _) hr1 rfl fun g hwg hlg hg _ _=> ?_⟩
  simp only[go_sem,hg,e1]
  exact fun _=>hk g hwg hlg
theorem sg_zf {c:Nat} {w:AV} {b:Bool} (hw:Nf c h w x):Zf c h (.agg [w, .bool (b&&decide (x≠0))]) (sg b x):=
 ⟨w,_,x,rfl,hw,fun h0=>by simp[h0],sg_made.symm⟩
theorem sg_zr {w:AV} {b:Bool} (hw:Num 4294967296 h w x):Zr h (.agg [w, .bool (b&&decide (x≠0))]) (sg b x):=
 ⟨w,_,x,rfl,hw,fun h0=>by simp[h0],sg_made.symm⟩
end
end
section
section
variable {v u wa wb:AV} {ba bb:Bool} {x y:Nat} {h:H} {K:AV→H→Prop}
theorem zrTo_calls (nv:Num 4294967296 h v x) (hx:Big x) (h0:x=0→ba=false) (hk:∀r h',h'.wf→h.le h'→Zf h.next h' r (sg ba x)→K r h'):ACalls Tryz.prog 30 [.agg [v, .bool ba]] h K:=by
 refine in_ref17_To (by simp) fun hw=> ?_
 unfold c_ref17_To
 simp only[go_sem]
 simp only[AV.cells,List.length_cons,List.length_nil,Nat.zero_add,Nat.reduceAdd]
 refine⟨rfl, ?_⟩
 generalize hh:(h.new ⟨some 38,2,_⟩).new ⟨some 27,2,_⟩=h1
 obtain⟨hl1,hw1,hn1,r1,r2⟩:=new2 hw hh
 obtain⟨a1,a2,a3⟩:=g2 r1
 have hR:(h.new ⟨some 38,2,[v, .bool ba]⟩).next=h.next+1:=rfl
 simp only[go_sem,hR,a1,a2,Nat.zero_add]
 refine To_calls (nv.mono hl1) hx fun r h2 hw2 hl2 hr=> ?_
 obtain⟨b1,b2,b3⟩:=g2 (hl2.2 _ _ r1)
 simp only[go_sem,hR,b1,b2,Nat.zero_add]
 refine⟨by simp, ?_⟩
 simp only[go_sem,bldI hr.one,hR]
 refine⟨rfl,all2 hr.one,put2 hw hw2 (H.le_trans hl1 hl2) (by omega) (hl2.2 _ _ r2) rfl fun g hwg hlg hg _ hle=> ?_⟩
 simp only[go_sem,hg]
 exact fun _=>hk _ g hwg hlg ⟨r,ba,x,rfl,(hr.base hl1.1).leeT (hl2.2 _ _ r2) rfl (by decide) hle,h0,rfl⟩
end
end
section
section
variable {c i n x:Nat} {z:Int} {h g:H} {v:AV} {T:TypeId} {l:List AV}
theorem Nn.lee2 (hv:Nn h v x) (hr:h.rows i=some ⟨some T,2,l⟩) (hl:H.lee i h g):Nn g v x:=by
 obtain⟨xs,h1,h2⟩:=hv
 exact⟨xs,IsW.monoE hr (by simp) (by simp) h1 hl,h2⟩
theorem Num.lee2 {B:Nat} (hv:Num B h v n) (hr:h.rows i=some ⟨some T,2,l⟩) (hl:H.lee i h g):Num B g v n:=hv.leeT hr (by simp) hl
theorem Nf.lee2 (hv:Nf c h v x) (hr:h.rows i=some ⟨some T,2,l⟩) (hl:H.lee i h g):Nf c g v x:=by
 obtain⟨xs,⟨id,cc,rfl,h1⟩,h2⟩:=hv
 refine⟨xs,⟨id,cc,rfl, ?_⟩,h2⟩
 rcases h1 with h1|⟨j,q,rfl,hb,hq,hqo,hz,h3⟩
 ·exact .inl h1
 ·refine .inr ⟨j,q,rfl,hb,hl.2 j q ?_ hq,hqo,hz,h3⟩
  rintro rfl
  rw[hr] at hq
  injection hq with hq
  rw[←hq] at hz
  cases hz
theorem Zf.lee2 (hv:Zf c h v z) (hr:h.rows i=some ⟨some T,2,l⟩) (hl:H.lee i h g):Zf c g v z:=by
 obtain⟨w,b,x,e,h1,h2⟩:=hv
 exact⟨w,b,x,e,h1.lee2 hr hl,h2⟩
theorem Zf.two (hv:Zf c h v z):∃a b:AV,v= .agg [a,b]∧a.one=true∧b.one=true:=by
 obtain⟨w,b,x,rfl,h1,_⟩:=hv
 exact⟨w,_,rfl,h1.one,rfl⟩
end
theorem all22 {a b:AV} (ha:a.one=true) (hb:b.one=true):([a,b].all fun x=>x.one)=true:=by simp[ha,hb]
section
variable {v u wa wb:AV} {ba bb:Bool} {x y:Nat} {h:H} {K:AV→H→Prop}
theorem zOf_calls {n:Int} (h1: -9223372036854775808≤n) (h2:n<9223372036854775808) (hk:∀r h',h'.wf→h.le h'→Zf h.next h' r n→K r h'):ACalls Tryz.prog 49 [.int .i64 n] h K:=by
 refine in_num_Of (by simp) fun hw=> ?_
 unfold c_num_Of
 have hl1:=H.le_new hw (H.le_refl h) ⟨some 27,2,[.sl none 0 0 none, .bool false]⟩
 have hw1:=H.wf_new hw ⟨some 27,2,[.sl none 0 0 none, .bool false]⟩
 have hr1:=H.rows_new h ⟨some 27,2,[.sl none 0 0 none, .bool false]⟩
 have fin:∀(b:Bool) (k:Nat),n=sg b k→k<18446744073709551616→∀(h3:H) (r:AV) (Q:AV→H→Prop),h3.wf→(h.new ⟨some 27,2,[.sl none 0 0 none, .bool false]⟩).le h3→Nf (h.next+1) h3 r k→(∀g:H,g.wf→h.le g→g.gets h.next 0 2=some [r, .bool (b&&decide (k≠0))]→Zf h.next g (.agg [r, .bool (b&&decide (k≠0))]) n→Q .junk g)→putK (h3.rows h.next) h.next 0 2 [r, .bool (b&&decide (k≠0))] h3 Q:=fun b k hn hk3 h3 r Q hw3 hl3 hr hQ=>
  put2 hw hw3 (H.le_trans hl1 hl3) (Nat.le_refl _) (hl3.2 _ _ hr1) rfl fun g hwg hlg hg _ hle=>hQ g hwg hlg hg (by rw[hn];exact sg_zf ((hr.base (Nat.le_succ _)).lee2 (hl3.2 _ _ hr1) hle))
 by_cases hn:n<0
 ·obtain⟨k,hkn⟩:∃k:Nat,n= -(k:Int):=⟨n.natAbs,by omega⟩
  have e1:IntKind.u64.wrap (0-IntKind.u64.wrap n)=(k:Int):=by
   rw[wUm,wUm,hkn]
   omega
  simp only[go_sem,decide_eq_true hn]
  simp only[List.length_cons,List.length_nil,Nat.zero_add,Nat.reduceAdd]
  simp only[go_sem,e1]
  refine One_calls (x:=k) (by omega) fun r h2 hw2 hl2 hr=> ?_
  simp only[go_sem]
  refine made_calls (hr.nn (word_big (by omega))) fun h3 hw3 hl3=> ?_
  simp only[go_sem]
  refine⟨rfl,all2 hr.one,fin true k (by simp[sg,hkn]) (by omega) h3 r _ hw3 (H.le_trans hl2 hl3) (hr.mono hl3) fun g hwg hlg hg hz=> ?_⟩
  simp only[go_sem,hg]
  exact fun _=>hk _ g hwg hlg hz
 ·obtain⟨k,hkn⟩:∃k:Nat,n=(k:Int):=⟨n.toNat,by omega⟩
  have e1:IntKind.u64.wrap n=(k:Int):=by
   rw[hkn,wU]<;>omega
  simp only[go_sem,decide_eq_false hn]
  simp only[List.length_cons,List.length_nil,Nat.zero_add,Nat.reduceAdd]
  simp only[go_sem,e1]
  refine One_calls (x:=k) (by omega) fun r h2 hw2 hl2 hr=> ?_
  simp only[go_sem]
  refine made_calls (hr.nn (word_big (by omega))) fun h3 hw3 hl3=> ?_
  simp only[go_sem]
  refine⟨rfl,all2 hr.one,fin false k (by simp[sg,hkn]) (by omega) h3 r _ hw3 (H.le_trans hl2 hl3) (hr.mono hl3) fun g hwg hlg hg hz=> ?_⟩
  simp only[go_sem,hg]
  exact fun _=>hk _ g hwg hlg hz
end
end
section
theorem sg_lt0 {b:Bool} {x:Nat} (h:x=0→b=false):b=decide (sg b x<0):=by
 cases b
 ·simp[sg]
 ·have:x≠0:=fun h0=>by cases h h0
  simp[sg];omega
section
variable {v u wa wb:AV} {ba bb:Bool} {x y:Nat} {h:H} {K:AV→H→Prop}
theorem zrSmall_calls {n:Int} (h1: -9223372036854775808<n) (h2:n<9223372036854775808) (hk:∀r h',h'.wf→h.le h'→Zr h' r n→K r h'):ACalls Tryz.prog 47 [.int .i64 n] h K:=by
 refine in_ref17_Small (by simp) fun hw=> ?_
 unfold c_ref17_Small
 have hl1:=H.le_new hw (H.le_refl h) ⟨some 38,2,[.sl none 0 0 none, .bool false]⟩
 have hw1:=H.wf_new hw ⟨some 38,2,[.sl none 0 0 none, .bool false]⟩
 have hr1:=H.rows_new h ⟨some 38,2,[.sl none 0 0 none, .bool false]⟩
 have fin:∀(b:Bool) (k:Nat),n=sg b k→∀(h3:H) (r:AV) (Q:AV→H→Prop),h3.wf→(h.new ⟨some 38,2,[.sl none 0 0 none, .bool false]⟩).le h3→Num 4294967296 h3 r k→(∀g:H,g.wf→h.le g→g.gets h.next 0 2=some [r, .bool (b&&decide (k≠0))]→Zr g (.agg [r, .bool (b&&decide (k≠0))]) n→Q .junk g)→putK (h3.rows h.next) h.next 0 2 [r, .bool (b&&decide (k≠0))] h3 Q:=fun b k hn h3 r Q hw3 hl3 hr hQ=>
  put2 hw hw3 (H.le_trans hl1 hl3) (Nat.le_refl _) (hl3.2 _ _ hr1) rfl fun g hwg hlg hg _ hle=>hQ g hwg hlg hg (by rw[hn];exact sg_zr (hr.lee2 (hl3.2 _ _ hr1) hle))
 by_cases hn:n<0
 ·obtain⟨k,hkn⟩:∃k:Nat,n= -(k:Int):=⟨n.natAbs,by omega⟩
  have e0:IntKind.i64.wrap (0-n)=(k:Int):=(wI (by omega) (by omega)).trans (by omega)
  have e1:IntKind.u64.wrap (k:Int)=(k:Int):=wUn (by omega)
  simp only[go_sem,decide_eq_true hn]
  simp only[List.length_cons,List.length_nil,Nat.zero_add,Nat.reduceAdd]
  simp only[go_sem,e0,e1]
  refine Small_calls (x:=k) (by omega) fun r h2 hw2 hl2 hr=> ?_
  simp only[go_sem]
  refine rmade_calls hr fun h3 hw3 hl3=> ?_
  simp only[go_sem]
  refine⟨rfl,all2 hr.one,fin true k (by simp[sg,hkn]) h3 r _ hw3 (H.le_trans hl2 hl3) (hr.mono hl3) fun g hwg hlg hg hz=> ?_⟩
  simp only[go_sem,hg]
  exact fun _=>hk _ g hwg hlg hz
 ·obtain⟨k,hkn⟩:∃k:Nat,n=(k:Int):=⟨n.toNat,by omega⟩
  have e1:IntKind.u64.wrap n=(k:Int):=by
   rw[hkn,wU]<;>omega
  simp only[go_sem,decide_eq_false hn]
  simp only[List.length_cons,List.length_nil,Nat.zero_add,Nat.reduceAdd]
  simp only[go_sem,e1]
  refine Small_calls (x:=k) (by omega) fun r h2 hw2 hl2 hr=> ?_
  simp only[go_sem]
  refine rmade_calls hr fun h3 hw3 hl3=> ?_
  simp only[go_sem]
  refine⟨rfl,all2 hr.one,fin false k (by simp[sg,hkn]) h3 r _ hw3 (H.le_trans hl2 hl3) (hr.mono hl3) fun g hwg hlg hg hz=> ?_⟩
  simp only[go_sem,hg]
  exact fun _=>hk _ g hwg hlg hz
end
end
theorem zr_open {h:H} {v:AV} {z:Int} (hv:Zr h v z):∃w,v= .agg [w, .bool (decide (z<0))]∧Num 4294967296 h w z.natAbs:=by
 obtain⟨w,b,x,rfl,h1,h2,rfl⟩:=hv
 rw[sg_abs,←sg_lt0 h2]
 exact⟨w,rfl,h1⟩
theorem zf_open {c:Nat} {h:H} {v:AV} {z:Int} (hv:Zf c h v z):∃w,v= .agg [w, .bool (decide (z<0))]∧Nf c h w z.natAbs:=by
 obtain⟨w,b,x,rfl,h1,h2,rfl⟩:=hv
 rw[sg_abs,←sg_lt0 h2]
 exact⟨w,rfl,h1⟩
theorem sg_self {z:Int}:sg (decide (z<0)) z.natAbs=z:=by
 unfold sg
 by_cases h:z<0
 ·rw[decide_eq_true h,if_pos rfl];omega
 ·rw[decide_eq_false h,if_neg (by simp)];omega
theorem put2E {u:Nat} {h h':H} {R:Nat} {T:TypeId} {a b:AV} {l:List AV} {K:AV→H→Prop} (hw:h.wf) (hw':h'.wf) (hl:H.lee u h h') (hge:h.next≤R) (hr:h'.rows R=some ⟨some T,2,l⟩) (hll:l.length=2)
  (hk:∀g:H,g.wf→H.lee u h g→g.gets R 0 2=some [a,b]→g.rows R=some ⟨some T,2,[a,b]⟩→H.lee R h' g→K .junk g):putK (h'.rows R) R 0 2 [a,b] h' K:=by
 have e:putAt l 0 [a,b]=[a,b]:=by simp[putAt,hll]
 rw[hr]
 refine⟨by simp,by simp[hll], ?_⟩
 show K .junk (h'.set R ⟨some T,2,putAt l 0 [a,b]⟩)
 rw[e]
 exact hk _ (H.wf_set hw' (H.row_lt hw' hr) _) (H.lee_put hw hl hge _) (g2 (H.rows_set _ _ _)).2.2 (H.rows_set _ _ _) (H.lee_set _)
theorem Tune.lee2 {u R m nw dp:Nat} {t:Tb} {h g:H} (ht:Tune h u m nw dp t) (hl:H.lee R h g) (hR:u≠R):Tune g u m nw dp t:=hl.2 _ _ hR ht
theorem zeroI:abuild [.sl none 0 0 none, .bool false] []=some [.sl none 0 0 none, .bool false]:=rfl
section
section
variable {t:Tb} {h:H} {K:AV→H→Prop}
theorem roNew_calls (hk:∀e u h',h'.wf→h.le h'→h.next≤u→u<e→Eng 8 h' e u→Tune h' u 0 0 0 (clampT t)→K (.ptr (some (e,0))) h'):ACalls Tryz.prog 116 [t.av] h K:=by
 refine in_root_New (by simp) fun hw=> ?_
 unfold c_root_New
 have hl1:=H.le_new hw (H.le_refl h) ⟨some 23,11,t.cells⟩
 have hn1:h.next<(h.new ⟨some 23,11,t.cells⟩).next:=Nat.lt_succ_self _
 simp only[go_sem,av_held,av_cells,cells_len,true_and,gsT (H.rows_new h _)]
 refine diNew_calls fun e u h1 hw1 hl2 hn2 _ he ht=> ?_
 simp only[go_sem,bldp]
 simp only[AV.held,AV.cells,true_and,go_sem]
 have hl3:=H.le_new hw1 (H.le_refl h1) ⟨some 133,1,[AV.ptr (some (e,0))]⟩
 exact fun hw'=>hk _ u _ hw' (H.le_trans hl1 (H.le_trans hl2 hl3)) (by omega) (H.row_lt hw1 ht) ⟨_,e,H.rows_new _ _,rfl,he.mono hl3⟩ (ht.mono hl3)
theorem raNew_calls (hk:∀e u h',h'.wf→h.le h'→h.next≤u→u<e→Eng 9 h' e u→Tune h' u 0 0 0 (clampT t)→K (.ptr (some (e,0))) h'):ACalls Tryz.prog 84 [t.av] h K:=by
 refine in_radix_New (by simp) fun hw=> ?_
 unfold c_radix_New
 have hl1:=H.le_new hw (H.le_refl h) ⟨some 23,11,t.cells⟩
 have hn1:h.next<(h.new ⟨some 23,11,t.cells⟩).next:=Nat.lt_succ_self _
 simp only[go_sem,av_held,av_cells,cells_len,true_and,gsT (H.rows_new h _)]
 refine roNew_calls fun e u h1 hw1 hl2 hn2 _ he ht=> ?_
 simp only[go_sem,bldp]
 simp only[AV.held,AV.cells,true_and,go_sem]
 have hl3:=H.le_new hw1 (H.le_refl h1) ⟨some 130,1,[AV.ptr (some (e,0))]⟩
 exact fun hw'=>hk _ u _ hw' (H.le_trans hl1 (H.le_trans hl2 hl3)) (by omega) (H.row_lt hw1 ht) ⟨_,e,H.rows_new _ _,rfl,he.mono hl3⟩ (ht.mono hl3)
theorem nuNew_calls (hk:∀e u h',h'.wf→h.le h'→h.next≤u→u<e→Eng 10 h' e u→Tune h' u 0 0 0 (clampT t)→K (.ptr (some (e,0))) h'):ACalls Tryz.prog 40 [t.av] h K:=by
 refine in_num_New (by simp) fun hw=> ?_
 unfold c_num_New
 have hl1:=H.le_new hw (H.le_refl h) ⟨some 23,11,t.cells⟩
 have hn1:h.next<(h.new ⟨some 23,11,t.cells⟩).next:=Nat.lt_succ_self _
 simp only[go_sem,av_held,av_cells,cells_len,true_and,gsT (H.rows_new h _)]
 refine raNew_calls fun e u h1 hw1 hl2 hn2 _ he ht=> ?_
 simp only[go_sem,bldp]
 simp only[AV.held,AV.cells,true_and,go_sem]
 have hl3:=H.le_new hw1 (H.le_refl h1) ⟨some 125,1,[AV.ptr (some (e,0))]⟩
 exact fun hw'=>hk _ u _ hw' (H.le_trans hl1 (H.le_trans hl2 hl3)) (by omega) (H.row_lt hw1 ht) ⟨_,e,H.rows_new _ _,rfl,he.mono hl3⟩ (ht.mono hl3)
end
section
variable {wa wb:AV} {ba bb:Bool} {x y n:Nat} {xs:List Nat} {h:H} {K:AV→H→Prop}
theorem CutInt_calls (ha:IsN h wa xs) (hn:n<9223372036854775808) (hk:∀w h',h'.wf→h.le h'→IsN h' w (xs.take n)→K (.agg [w, .bool ba]) h'):ACalls Tryz.prog 22 [.agg [wa, .bool ba], .int .i64 (n:Int)] h K:=by
 refine in_keep_CutInt (by simp) fun hw=> ?_
 unfold c_keep_CutInt
 simp only[go_sem]
 simp only[AV.cells,List.length_cons,List.length_nil,Nat.zero_add,Nat.reduceAdd]
 refine⟨rfl, ?_⟩
 generalize hh:(h.new ⟨some 27,2,_⟩).new ⟨some 27,2,_⟩=h1
 obtain⟨hl1,hw1,hn1,r1,r2⟩:=new2 hw hh
 have hR:(h.new ⟨some 27,2,[wa, .bool ba]⟩).next=h.next+1:=rfl
 simp only[go_sem,hR,(g2 r1).1,(g2 r1).2.1,Nat.zero_add]
 refine Cut_calls (n:=n) (ha.mono hl1) fun a hca=> ?_
 have hone:a.one=true:=by obtain⟨_,_,_,rfl,_⟩:=hca;rfl
 simp only[go_sem,hR,(g2 r1).2.1,Nat.zero_add]
 refine⟨by simp, ?_⟩
 simp only[go_sem,bldI hone]
 refine⟨by trivial,all2 hone,put2 hw hw1 hl1 (by omega) r2 rfl fun g hwg hlg hg _ e1=> ?_⟩
 simp only[go_sem,hg]
 exact fun _=>hk _ g hwg hlg (IsW.monoE r2 (by simp) (by simp) hca e1)
theorem kInt_calls (na:Nt h wa x) (nb:Nt h wb x) (hx:Big x) (hk:∀h',h'.wf→h.le h'→K (.bool true) h'):ACalls Tryz.prog 29 [.agg [wa, .bool ba], .agg [wb, .bool ba]] h K:=by
 refine in_keep_Int (by simp) fun hw=> ?_
 unfold c_keep_Int
 simp only[go_sem]
 simp only[AV.cells,List.length_cons,List.length_nil,Nat.zero_add,Nat.reduceAdd]
 refine⟨rfl,rfl, ?_⟩
 generalize hh:(h.new ⟨some 27,2,_⟩).new ⟨some 27,2,_⟩=h1
 obtain⟨hl1,hw1,hn1,r1,r2⟩:=new2 hw hh
 have hR:(h.new ⟨some 27,2,[wa, .bool ba]⟩).next=h.next+1:=rfl
 simp only[go_sem,hR,(g2 r1).1,(g2 r1).2.1,(g2 r2).1,(g2 r2).2.1,Nat.zero_add,beq_self_eq_true]
 refine kSameT_calls (na.mono hl1) (nb.mono hl1) hx ?_
 simp only[go_sem]
 exact fun hw'=>hk _ hw' hl1
theorem IsN.lee2 {v:AV} {i:Nat} {T:TypeId} {l:List AV} {g:H} (hv:IsN h v xs) (hr:h.rows i=some ⟨some T,2,l⟩) (hl:H.lee i h g):IsN g v xs:=IsW.monoE hr (by simp) (by simp) hv hl
end
end
theorem Eng.monoO {h h':H} {u w m nw dp:Nat} {t:Tb} (ht:Tune h u m nw dp t) (hl:H.lee u h h'):∀{d e:Nat},Eng d h e w→Eng d h' e w
 |0,_,he=>he
 |_+1,e,⟨r,e',h1,h2,h3⟩=>⟨r,e',hl.2 _ _ (by
   rintro rfl
   rw[ht] at h1
   injection h1 with h1
   rw[←h1] at h2
   have:=congrArg List.length h2
   simp[tuneRow,Tb.cells] at this) h1,h2,Eng.monoO ht hl h3⟩
theorem two_and {p:Prop}:((2:Int)≠0∧p)=p:=by simp
theorem mul_wlen' {x y n k:Nat} (hx:wlen x≤n) (hy:wlen y≤k):wlen (x*y)≤n+k:=by
 have h1:x*y<18446744073709551616^n*18446744073709551616^k:=Nat.mul_lt_mul_of_lt_of_le (wlen_le.1 hx) (Nat.le_of_lt (wlen_le.1 hy)) (Nat.pow_pos (by omega))
 rw[←Nat.pow_add] at h1
 exact wlen_le.2 h1
theorem pow_half {x k:Nat}:x^k=(x*x)^(k/2)*x^(k%2):=by
 rw[←Nat.pow_two,←Nat.pow_mul,←Nat.pow_add]
 congr 1
 omega
section
theorem bit_eq64 (xs:List Nat) (hx:Dig xs) (i:Nat) (h:i/64<xs.length):xs[i/64]/2^(i%64)%2=val 18446744073709551616 xs/2^i%2:=by
 have h1:=val_cut 18446744073709551616 xs (i/64) (by omega)
 have h2:=val_lt_take 18446744073709551616 (by omega) xs hx (i/64)
 have h3:val 18446744073709551616 xs/2^(64*(i/64))=val 18446744073709551616 (xs.drop (i/64)):=by
  rw[h1,two_B,Nat.add_mul_div_left _ _ (Nat.pow_pos (by omega)),Nat.div_eq_of_lt (by rw[←two_B];exact h2),Nat.zero_add]
 have h4:val 18446744073709551616 (xs.drop (i/64))%18446744073709551616=xs[i/64]:=by
  rw[List.drop_eq_getElem_cons h]
  show(xs[i/64]+18446744073709551616*val 18446744073709551616 (xs.drop (i/64+1)))%18446744073709551616=_
  rw[Nat.add_mul_mod_self_left,Nat.mod_eq_of_lt (hx _ (List.getElem_mem h))]
 have e:2^i=2^(64*(i/64))*2^(i%64):=by rw[←Nat.pow_add,Nat.div_add_mod]
 rw[e,←Nat.div_div_eq_div_mul,h3,←h4]
 generalize val 18446744073709551616 (xs.drop (i/64))=m
 have hr:i%64<64:=Nat.mod_lt _ (by decide)
 generalize i%64=r at*
 have e2:18446744073709551616=2^r*2^(64-r):=by rw[←Nat.pow_add,show r+(64-r)=64 from by omega]
 have e3:m%18446744073709551616/2^r=m/2^r%2^(64-r):=by rw[e2,Nat.mod_mul_right_div_self]
 rw[e3,Nat.mod_mod_of_dvd _ (by exact⟨2^(63-r),by rw[←Nat.pow_succ'];congr 1;omega⟩)]
section
variable {e u m nw dp a x k n i:Nat} {t:Tb} {va vx:AV} {h:H} {K:AV→H→Prop}
theorem natBit_calls (nv:Nn h va x) (hi:i<4611686018427387904) (hk:K (.int .u64 ((x/2^i%2:Nat):Int)) h):ACalls Tryz.prog 55 [va, .int .i64 (i:Int)] h K:=by
 obtain⟨xs,hv,hxd,hxl,rfl⟩:=nv
 obtain⟨id,off,c,rfl⟩:=hv.form
 refine in_api_Nat_Bit (by simp) fun hw=> ?_
 unfold c_api_Nat_Bit
 have eq:IntKind.i64.wrap ((i:Int).tdiv 64)=((i/64:Nat):Int):=by
  rw[show(i:Int).tdiv 64=((i/64:Nat):Int) from tdivN (b:=64)]
  exact wNI (by omega)
 have em:(i:Int).tmod 64=((i%64:Nat):Int):=tmodN (b:=64)
 rcases Nat.lt_or_ge (i/64) xs.length with h1|h1
 ·obtain⟨j,rfl,_,hg⟩:=hv.at h1
  have hb:=hxd _ (List.getElem_mem h1)
  have e3:bAnd .u64 ((xs[i/64]/2^(i%64):Nat):Int) 1=((xs[i/64]/2^(i%64)%2:Nat):Int):=by
   have:=bandL (a:=xs[i/64]/2^(i%64)) (b:=1) (Nat.lt_of_le_of_lt (Nat.div_le_self _ _) (by omega)) (by omega)
   rw[Nat.and_one_is_mod] at this
   exact this
  have e4:=wNI (n:=i%64) (by omega)
  simp only[go_sem,show decide ((i:Int)<0)=false from decide_eq_false (by omega)]
  refine⟨by decide, ?_⟩
  simp only[go_sem,eq,show decide (((xs.length:Nat):Int)≤((i/64:Nat):Int))=false from decide_eq_false (by omega)]
  refine⟨by decide,by omega,by omega, ?_⟩
  simp only[go_sem,hg,em,e4,wUn (x:=i%64) (by omega),Int.toNat_natCast,shrU (x:=xs[i/64]) (n:=i%64) (by omega),e3]
  refine⟨by decide,by omega,fun _=> ?_⟩
  rw[bit_eq64 xs hxd i h1]
  exact hk
 ·have hz:val 18446744073709551616 xs/2^i=0:=by
   refine Nat.div_eq_of_lt (Nat.lt_of_lt_of_le (val_lt 18446744073709551616 (by omega) xs hxd) ?_)
   rw[two_B]
   exact Nat.pow_le_pow_right (by omega) (by omega)
  rw[hz] at hk
  simp only[go_sem,show decide ((i:Int)<0)=false from decide_eq_false (by omega)]
  refine⟨by decide, ?_⟩
  simp only[go_sem,eq,show decide (((xs.length:Nat):Int)≤((i/64:Nat):Int))=true from decide_eq_true (by omega)]
  exact fun _=>hk
theorem poNew_calls (hk:∀e u h',h'.wf→h.le h'→h.next≤u→u<e→Eng 11 h' e u→Tune h' u 0 0 0 (clampT t)→K (.ptr (some (e,0))) h'):ACalls Tryz.prog 23 [t.av] h K:=by
 refine in_power_New (by simp) fun hw=> ?_
 unfold c_power_New
 have hl1:=H.le_new hw (H.le_refl h) ⟨some 23,11,t.cells⟩
 have hn1:h.next<(h.new ⟨some 23,11,t.cells⟩).next:=Nat.lt_succ_self _
 simp only[go_sem,av_held,av_cells,cells_len,true_and,gsT (H.rows_new h _)]
 refine nuNew_calls fun e u h1 hw1 hl2 hn2 _ he ht=> ?_
 simp only[go_sem,bldp]
 simp only[AV.held,AV.cells,true_and,go_sem]
 have hl3:=H.le_new hw1 (H.le_refl h1) ⟨some 116,1,[AV.ptr (some (e,0))]⟩
 exact fun hw'=>hk _ u _ hw' (H.le_trans hl1 (H.le_trans hl2 hl3)) (by omega) (H.row_lt hw1 ht) ⟨_,e,H.rows_new _ _,rfl,he.mono hl3⟩ (ht.mono hl3)
set_option maxHeartbeats 1000000 in
theorem praise_calls (he:Eng 11 h e u) (ht:Tune h u m nw dp t) (nx:Nn h vx x) (hx:0<x) (hT:wlen (x^k)≤8000) (hk9:k≤1000000) (hnw:nw≤600000000)
  (hk:∀r h' m' dp',h'.wf→H.lee u h h'→Tune h' u m' nw dp' t→Nf h.next h' r (x^k)→K r h'):
  ACalls Tryz.prog 98 [.ptr (some (e,0)),vx, .int .i64 (k:Int)] h K:=by
 refine in_power_Engine_raise (by simp) fun hw=> ?_
 unfold c_power_Engine_raise
 obtain⟨f,rfl,rfl,G,E⟩:=Eng.path ht he
 have hu:=H.row_lt hw ht
 have hT0:0<x^k:=Nat.pow_pos hx
 generalize hTT:x^k=T at*
 have small:∀{z:Nat},z≤T→wlen z≤8000∧Big z:=fun hz=>⟨Nat.le_trans (wlen_mono hz) hT,wbig (Nat.le_trans (wlen_mono hz) hT) (by omega)⟩
 simp only[go_sem]
 refine One_calls (x:=1) (by decide) fun o h1 hw1 hl1 ho=> ?_
 simp only[go_sem]
 refine loop_cut (fun ρ h'=>h'.wf∧H.lee (f 11) h h'∧(∃m' dp',Tune h' (f 11) m' nw dp' t)∧Nf h.next h' (ρ 7) T) ?_ ?_
 ·refine⟨fun j ρ h'=>h'.wf∧H.lee (f 11) h h'∧(∃m' dp',Tune h' (f 11) m' nw dp' t)∧ρ 0= .ptr (some (f 0,0))∧ρ 2= .int .i64 (j:Int)∧j≤k∧∃O ξ,0<O∧0<ξ∧Nf h.next h' (ρ 7) O∧Nn h' (ρ 1) ξ∧O*ξ^j=T,k,
   ⟨hw1,hl1.lee,⟨_,_,ht.mono hl1⟩,by first|rfl|trivial|assumption,by first|rfl|trivial|assumption,Nat.le_refl _,1,x,by omega,hx,ho,nx.mono hl1,by rw[Nat.one_mul];exact hTT⟩, ?_⟩
  rintro j ρ h2 ⟨hw2,hl2,⟨m2,dp2,ht2⟩,q0,q2,hjk,O,ξ,hO,hξ,n7,n1,hinv⟩
  rcases Nat.eq_zero_or_pos j with h0|h0
  ·subst h0
   rw[Nat.pow_zero,Nat.mul_one] at hinv
   subst hinv
   simp only[go_sem,q0,q2,show decide ((0:Int)<((0:Nat):Int))=false from rfl]
   exact⟨hw2,hl2,⟨_,_,ht2⟩,n7⟩
  have hO1:O*ξ≤T:=by
   rw[←hinv]
   refine Nat.mul_le_mul_left _ ?_
   calc ξ=ξ^1:=(Nat.pow_one ξ).symm
    _≤ξ^j:=Nat.pow_le_pow_right hξ h0
  have hO2:O≤T:=Nat.le_trans (Nat.le_mul_of_pos_right _ hξ) hO1
  have hξ1:ξ≤T:=Nat.le_trans (Nat.le_mul_of_pos_left _ hO) hO1
  have hpw:=pow_half (x:=ξ) (k:=j)
  have e1:((j:Nat):Int).tmod 2=((j%2:Nat):Int):=tmodN (a:=j) (b:=2)
  have e2:((j:Nat):Int).tdiv 2=((j/2:Nat):Int):=tdivN (a:=j) (b:=2)
  have e3:=wNI (n:=j%2) (by omega)
  have e4:=wNI (n:=j/2) (by omega)
  simp only[go_sem,q0,q2,show decide ((0:Int)<((j:Nat):Int))=true from decide_eq_true (by omega),e1,e3,two_and]
  refine cond_cut (fun ρ' h3=>h3.wf∧H.lee (f 11) h h3∧(∃m' dp',Tune h3 (f 11) m' nw dp' t)∧ρ' 0= .ptr (some (f 0,0))∧ρ' 2= .int .i64 (j:Int)∧∃O',0<O'∧Nf h.next h3 (ρ' 7) O'∧Nn h3 (ρ' 1) ξ∧O'*(ξ*ξ)^(j/2)=T) ?_ ?_
  ·rcases Nat.mod_two_eq_zero_or_one j with h1'|h1'
   ·rw[h1',Nat.pow_zero,Nat.mul_one] at hpw
    simp only[go_sem,h1',show(((0:Nat):Int)==1)=false from rfl]
    exact⟨hw2,hl2,⟨_,_,ht2⟩,q0,q2,O,hO,n7,n1,by rw[←hpw];exact hinv⟩
   ·rw[h1',Nat.pow_one] at hpw
    simp only[go_sem,h1',show(((1:Nat):Int)==1)=true from rfl,q0,G 0 (by omega) _ hl2,G 1 (by omega) _ hl2,G 2 (by omega) _ hl2,G 3 (by omega) _ hl2,G 4 (by omega) _ hl2,G 5 (by omega) _ hl2,G 6 (by omega) _ hl2]
    refine Mul2_calls ((E 7 (by omega)).monoE ht hl2) ht2 (n7.nn (small hO2).2) n1 (by have:=(small hO2).1;omega) (by have:=(small hξ1).1;omega) (by omega) fun p h3 m3 dp3 hw3 hl3 ht3 _ hp=> ?_
    simp only[go_sem,q0,q2]
    refine⟨hw3,hl2.trans hl3,⟨_,_,ht3⟩,by first|rfl|trivial|assumption,by first|rfl|trivial|assumption,O*ξ,Nat.mul_pos hO hξ,hp.base hl2.1,n1.monoE' ht2 hl3, ?_⟩
    rw[←hinv,hpw]
    ac_rfl
  rintro ρ h3 ⟨hw3,hl3,⟨m3,dp3,ht3⟩,q0,q2,O',hO',n7,n1,hinv'⟩
  rcases Nat.lt_or_ge 1 j with h5|h5
  ·have hξ2:ξ*ξ≤T:=by
    rw[←hinv']
    have h6:ξ*ξ≤(ξ*ξ)^(j/2):=by
     calc ξ*ξ=(ξ*ξ)^1:=(Nat.pow_one _).symm
      _≤(ξ*ξ)^(j/2):=Nat.pow_le_pow_right (Nat.mul_pos hξ hξ) (by omega)
    exact Nat.le_trans h6 (Nat.le_mul_of_pos_left _ hO')
   simp only[go_sem,q0,q2,show decide ((1:Int)<((j:Nat):Int))=true from decide_eq_true (by omega),G 0 (by omega) _ hl3,G 1 (by omega) _ hl3,G 2 (by omega) _ hl3,G 3 (by omega) _ hl3,G 4 (by omega) _ hl3,G 5 (by omega) _ hl3,G 6 (by omega) _ hl3]
   refine Sqr_calls ((E 7 (by omega)).monoE ht hl3) ht3 n1 (by have:=(small hξ1).1;omega) (by omega) fun p h4 m4 dp4 hw4 hl4 ht4 hp=> ?_
   simp only[go_sem,q0,q2,e2,e4,two_and]
   exact⟨j/2,by omega,hw4,hl3.trans hl4,⟨_,_,ht4⟩,by first|rfl|trivial|assumption,by first|rfl|trivial|assumption,by omega,O',ξ*ξ,hO',Nat.mul_pos hξ hξ,n7.monoE hu hl4,hp.nn (small hξ2).2,hinv'⟩
  ·obtain rfl:j=1:=by omega
   simp only[go_sem,q0,q2,show decide ((1:Int)<((1:Nat):Int))=false from rfl,show(((1:Nat):Int)).tdiv 2=((0:Nat):Int) from rfl,show IntKind.i64.wrap ((0:Nat):Int)=((0:Nat):Int) from rfl,two_and]
   exact⟨0,by omega,hw3,hl3,⟨_,_,ht3⟩,by first|rfl|trivial|assumption,by first|rfl|trivial|assumption,by omega,O',ξ,hO',hξ,n7,n1,by simpa using hinv'⟩
 ·rintro ρ h2 ⟨hw2,hl2,⟨m2,dp2,ht2⟩,n7⟩
  simp only[go_sem]
  exact fun hw'=>hk _ h2 _ _ hw' hl2 ht2 n7
end
theorem powmod_sq {A M N j b:Nat} (hb:b=N/2^j%2):(A^(N/2^(j+1))%M*(A^(N/2^(j+1))%M)%M)*(A%M)^b%M=A^(N/2^j)%M:=by
 have e:N/2^j=N/2^(j+1)+N/2^(j+1)+b:=by
  rw[Nat.pow_succ,←Nat.div_div_eq_div_mul,hb]
  omega
 generalize N/2^(j+1)=K at*
 rw[e,Nat.pow_add A (K+K) b,Nat.pow_add A K K]
 generalize A^K=Q
 rw[←Nat.mul_mod,Nat.mul_mod (Q*Q%M),Nat.mod_mod,←Nat.pow_mod,←Nat.mul_mod]
section
variable {e u m nw dp A N M:Nat} {t:Tb} {va vn vm:AV} {h:H} {K:AV→H→Prop}
set_option maxHeartbeats 1000000 in
theorem PowMod_calls (hT:TbOK t) (he:Eng 11 h e u) (ht:Tune h u m nw dp t) (na:Nn h va A) (nn:Nn h vn N) (nm:Nn h vm M) (wA:wlen A≤500) (wN:wlen N≤500) (wM:wlen M≤500) (hnw:nw≤500000000)
  (hk0:M=0→h.wf→K (.tup [.sl none 0 0 none, .int .i64 2]) h)
  (hk:0<M→∀r h' m' dp',h'.wf→H.lee u h h'→Tune h' u m' nw dp' t→Nf h.next h' r (A^N%M)→K (.tup [r, .int .i64 0]) h'):
  ACalls Tryz.prog 77 [.ptr (some (e,0)),va,vn,vm] h K:=by
 refine in_power_Engine_PowMod (by simp) fun hw=> ?_
 unfold c_power_Engine_PowMod
 obtain⟨f,rfl,rfl,G,E⟩:=Eng.path ht he
 have hu:=H.row_lt hw ht
 have l0:=H.lee_refl (f 11) h
 have bM:Big M:=wbig wM (by omega)
 simp only[go_sem,G 0 (by omega) _ l0,G 1 (by omega) _ l0,G 2 (by omega) _ l0,G 3 (by omega) _ l0]
 refine DivMod2_calls hT (E 4 (by omega)) ht na nm (by omega) (by omega) (by omega) (fun h0 hw1=> ?_) fun h0 q x h1 m1 dp1 hw1 hl1 ht1 _ _ hx=> ?_
 ·simp only[go_sem,show((2:Int) !=0)=true from rfl]
  exact hk0 h0
 have hu1:f 11<h1.next:=Nat.lt_of_lt_of_le hu hl1.1
 have hAM:=Nat.mod_lt A h0
 simp only[go_sem,show((0:Int) !=0)=false from rfl,G 0 (by omega) _ hl1,G 1 (by omega) _ hl1,G 2 (by omega) _ hl1,G 3 (by omega) _ hl1]
 refine One_calls (x:=1) (by decide) fun o h2 hw2 hl2 ho=> ?_
 have l02:=hl1.trans hl2.lee
 simp only[go_sem,G 0 (by omega) _ l02,G 1 (by omega) _ l02,G 2 (by omega) _ l02,G 3 (by omega) _ l02,true_and]
 refine DivMod2_calls hT ((E 4 (by omega)).monoE ht l02) (ht1.mono hl2) (ho.nn (word_big (by decide))) (nm.monoE' ht l02) (by decide) (by omega) (by omega) (fun h1=>absurd h1 (by omega)) fun _ q1 o1 h3 m3 dp3 hw3 hl3 ht3 _ _ ho1=> ?_
 have l03:=l02.trans hl3
 have hx3:=(hx.mono hl2).monoE hu hl3
 simp only[go_sem]
 refine nBits_calls (nn.monoE' ht l03) ?_
 have hbN:=blen_lt N
 have hbl:blen N≤32000:=by have:=wlen_blen N;omega
 generalize hB:blen N=L at*
 simp only[go_sem]
 refine loop_cut (fun ρ h'=>h'.wf∧H.lee (f 11) h h'∧(∃m' dp',Tune h' (f 11) m' nw dp' t)∧Nf h.next h' (ρ 14) (A^N%M)) ?_ ?_
 ·refine⟨fun j ρ h'=>h'.wf∧H.lee (f 11) h h'∧(∃m' dp',Tune h' (f 11) m' nw dp' t)∧ρ 0= .ptr (some (f 0,0))∧ρ 2=vn∧ρ 3=vm∧ρ 11=x∧ρ 16= .int .i64 ((j:Int)-1)∧j≤L∧Nf h.next h' x (A%M)∧Nf h.next h' (ρ 14) (A^(N/2^j)%M),L,
   ⟨hw3,l03,⟨_,_,ht3⟩,by first|rfl|trivial|assumption,by first|rfl|trivial|assumption,by first|rfl|trivial|assumption,by first|rfl|trivial|assumption, ?_,Nat.le_refl _,hx3, ?_⟩, ?_⟩
  ·simp only[go_sem]
   congr 1
   exact wI (by omega) (by omega)
  ·rw[Nat.div_eq_of_lt hbN,Nat.pow_zero]
   exact ho1.base l02.1
  rintro j ρ h4 ⟨hw4,hl4,⟨m4,dp4,ht4⟩,q0,q2,q3,q11,q16,hjL,hx4,n14⟩
  rcases Nat.eq_zero_or_pos j with hj|hj
  ·subst hj
   rw[Nat.pow_zero,Nat.div_one] at n14
   simp only[go_sem,q0,q2,q3,q11,q16,show decide ((0:Int)≤((0:Nat):Int)-1)=false by decide]
   exact⟨hw4,hl4,⟨_,_,ht4⟩,n14⟩
  obtain⟨i,rfl⟩:∃i,j=i+1:=⟨j-1,by omega⟩
  have e6:((i+1:Nat):Int)-1=(i:Int):=by omega
  rw[e6] at q16
  have hps:=powmod_sq (A:=A) (M:=M) (N:=N) (j:=i) rfl
  have d6:IntKind.i64.wrap ((i:Int)-1)=(i:Int)-1:=wI (by omega) (by omega)
  have hO:=Nat.mod_lt (A^(N/2^(i+1))) h0
  generalize A^(N/2^(i+1))%M=O at*
  have wO:wlen O≤500:=Nat.le_trans (wlen_mono (Nat.le_of_lt hO)) wM
  have wOO:=mul_wlen' wO wO
  simp only[go_sem,q0,q2,q3,q11,q16,show decide ((0:Int)≤(i:Int))=true from decide_eq_true (by omega),G 0 (by omega) _ hl4,G 1 (by omega) _ hl4,G 2 (by omega) _ hl4,G 3 (by omega) _ hl4,G 4 (by omega) _ hl4,G 5 (by omega) _ hl4,G 6 (by omega) _ hl4]
  refine Sqr_calls ((E 7 (by omega)).monoE ht hl4) ht4 (n14.nn (wbig wO (by omega))) (by omega) (by omega) fun p h5 m5 dp5 hw5 hl5 ht5 hp=> ?_
  have l05:=hl4.trans hl5
  have hx5:=hx4.monoE hu hl5
  simp only[go_sem,q0,q2,q3,q11,q16,G 0 (by omega) _ l05,G 1 (by omega) _ l05,G 2 (by omega) _ l05,G 3 (by omega) _ l05,true_and]
  refine DivMod2_calls hT ((E 4 (by omega)).monoE ht l05) ht5 (hp.nn (wbig wOO (by omega))) (nm.monoE' ht l05) (by omega) (by omega) (by omega) (fun h1=>absurd h1 (by omega)) fun _ q5 o5 h6 m6 dp6 hw6 hl6 ht6 _ _ ho6=> ?_
  have l06:=l05.trans hl6
  have hx6:=hx5.monoE hu hl6
  have hO2:=Nat.mod_lt (O*O) h0
  simp only[go_sem,q0,q2,q3,q11,q16]
  refine natBit_calls (nn.monoE' ht l06) (by omega) ?_
  rcases Nat.mod_two_eq_zero_or_one (N/2^i) with hb|hb
  ·rw[hb,Nat.pow_zero,Nat.mul_one,Nat.mod_mod] at hps
   rw[hb]
   simp only[go_sem,show(((0:Nat):Int)==1)=false from rfl,q0,q2,q3,q11,q16,d6]
   exact⟨i,by omega,hw6,l06,⟨_,_,ht6⟩,by first|rfl|trivial|assumption,by first|rfl|trivial|assumption,by first|rfl|trivial|assumption,by first|rfl|trivial|assumption,by first|rfl|trivial|assumption,by omega,hx6,by rw[←hps];exact ho6.base l05.1⟩
  ·rw[hb,Nat.pow_one] at hps
   rw[hb]
   generalize O*O%M=P at*
   have wP:wlen P≤500:=Nat.le_trans (wlen_mono (Nat.le_of_lt hO2)) wM
   have wX:wlen (A%M)≤500:=Nat.le_trans (wlen_mono (Nat.le_of_lt hAM)) wM
   have wPX:=mul_wlen' wP wX
   simp only[go_sem,show(((1:Nat):Int)==1)=true from rfl,q0,q2,q3,q11,q16,G 0 (by omega) _ l06,G 1 (by omega) _ l06,G 2 (by omega) _ l06,G 3 (by omega) _ l06,G 4 (by omega) _ l06,G 5 (by omega) _ l06,G 6 (by omega) _ l06]
   refine Mul2_calls ((E 7 (by omega)).monoE ht l06) ht6 (ho6.nn (wbig wP (by omega))) (hx6.nn (wbig wX (by omega))) (by omega) (by omega) (by omega) fun p2 h7 m7 dp7 hw7 hl7 ht7 _ hp2=> ?_
   have l07:=l06.trans hl7
   simp only[go_sem,q0,q2,q3,q11,q16,G 0 (by omega) _ l07,G 1 (by omega) _ l07,G 2 (by omega) _ l07,G 3 (by omega) _ l07,true_and]
   refine DivMod2_calls hT ((E 4 (by omega)).monoE ht l07) ht7 (hp2.nn (wbig wPX (by omega))) (nm.monoE' ht l07) (by omega) (by omega) (by omega) (fun h1=>absurd h1 (by omega)) fun _ q7 o7 h8 m8 dp8 hw8 hl8 ht8 _ _ ho8=> ?_
   have hx8:=(hx6.monoE hu hl7).monoE hu hl8
   simp only[go_sem,q0,q2,q3,q11,q16,d6]
   exact⟨i,by omega,hw8,l07.trans hl8,⟨_,_,ht8⟩,by first|rfl|trivial|assumption,by first|rfl|trivial|assumption,by first|rfl|trivial|assumption,by first|rfl|trivial|assumption,by first|rfl|trivial|assumption,by omega,hx8,by rw[←hps];exact ho8.base l07.1⟩
 ·rintro ρ h4 ⟨hw4,hl4,⟨m4,dp4,ht4⟩,n14⟩
  simp only[go_sem]
  exact fun hw'=>hk h0 _ h4 _ _ hw' hl4 ht4 n14
end
end
section
def ppL (s:Nat) (n:Int):Int:=if n<1∨s=0 then 0 else if s=1 then 1 else((s:Int)-1)*min n 1048576+1
def ppM (s:Nat) (n:Int):Int:=if n<1∨s=0 then 1 else if s=1 then 1 else(s:Int)*min n 1048576
theorem blen_pow {x n:Nat} (hx:0<x) (hn:1≤n):(blen x-1)*n+1≤blen (x^n)∧blen (x^n)≤blen x*n:=by
 have h1:=blen_ge hx
 have h2:=blen_lt x
 constructor
 ·have h3:2^((blen x-1)*n)≤x^n:=by
   rw[Nat.pow_mul]
   exact Nat.pow_le_pow_left h1.2 n
  have h4:=blen_lt (x^n)
  have h5:=Nat.lt_of_le_of_lt h3 h4
  have:=(Nat.pow_lt_pow_iff_right (a:=2) (by omega)).1 h5
  omega
 ·refine blen_le ?_
  rw[Nat.pow_mul]
  exact Nat.pow_lt_pow_left h2 (by omega)
theorem grd_symF {P:Program} {b:Bool} {o:AOp} {ρ:Env} {h:H} {K:AV→H→Prop} (v:AV) (h1:b=false→∀K':AV→H→Prop,aexec P o ρ h K'=K' v h) (h2:K (if b=true then .tup [] else v) h):grdK P (.bool b) false o ρ h K:=by
 cases b
 ·show aexec P o ρ h K
  rw[h1 rfl]
  exact h2
 ·exact h2
theorem cond_cutB {P:Program} {x y:AC} {v:AV} {id:Nat} {next:Env→H→Prop} {Q:Post} {ρ:Env} {h:H} (M:Env→H→Prop) (h1:condK v (awp P x (ablk id (onN M Q))) (awp P y (ablk id (onN M Q))) ρ h) (h2:∀ρ h,M ρ h→next ρ h):condK v (awp P x (ablk id (athen next Q))) (awp P y (ablk id (athen next Q))) ρ h:=by
 have key:∀e ρ h,ablk id (onN M Q) e ρ h→ablk id (athen next Q) e ρ h:=by
  intro e ρ h hh
  cases e with
  |exit id'=>
   simp only[ablk] at hh⊢
   split
   ·rename_i hi;rw[if_pos hi] at hh;exact h2 _ _ hh
   ·rename_i hi;rw[if_neg hi] at hh;exact hh
  |normal=>exact h2 _ _ hh
  |_=>exact hh
 cases v<;>try exact h1
 exact⟨fun e=>awp_mono key (h1.1 e),fun e=>awp_mono key (h1.2 e)⟩
theorem sg_pow {b:Bool} {x:Nat}:∀n:Nat,(sg b x)^n=sg (b&&decide (n%2=1)) (x^n):=by
 intro n
 induction n with
 |zero=>simp[sg]
 |succ n ih=>
  rw[Int.pow_succ,ih,sg_mul,Nat.pow_succ]
  congr 1
  cases b
  ·simp
  ·rcases Nat.mod_two_eq_zero_or_one n with h|h
   ·simp[h,show(n+1)%2=1 by omega]
   ·simp[h,show(n+1)%2=0 by omega]
section
variable {e u m nw dp x n b:Nat} {t:Tb} {ba:Bool} {wa:AV} {h:H} {K:AV→H→Prop}
theorem pmay_calls {n:Int} (hk:K (.bool (decide (0≤n∧n≤1048576))) h):ACalls Tryz.prog 96 [.int .i64 n] h K:=by
 refine in_power_may (by simp) fun hw=> ?_
 unfold c_power_may
 by_cases h1:0≤n
 ·by_cases h2:n≤1048576
  ·rw[decide_eq_true ⟨h1,h2⟩] at hk
   simp only[go_sem,decide_eq_true h1,decide_eq_true h2]
   exact fun _=>hk
  ·rw[decide_eq_false (fun h=>h2 h.2)] at hk
   simp only[go_sem,decide_eq_true h1,decide_eq_false h2]
   exact fun _=>hk
 ·rw[decide_eq_false (fun h=>h1 h.1)] at hk
  simp only[go_sem,decide_eq_false h1]
  exact fun _=>hk
theorem pBits_calls {n:Int} (na:Nn h wa x) (hx:wlen x≤8000) (hk:∀h',h'.wf→h.le h'→K (.tup [.int .i64 (ppL (blen x) n), .int .i64 (ppM (blen x) n)]) h'):ACalls Tryz.prog 31 [.agg [wa, .bool ba], .int .i64 n] h K:=by
 refine in_power_Bits (by simp) fun hw=> ?_
 unfold c_power_Bits
 simp only[go_sem]
 simp only[AV.cells,List.length_cons,List.length_nil,Nat.zero_add,Nat.reduceAdd]
 refine⟨rfl, ?_⟩
 have r1:=H.rows_new h ⟨some 27,2,[wa, .bool ba]⟩
 have hl1:=H.le_new hw (H.le_refl h) ⟨some 27,2,[wa, .bool ba]⟩
 obtain⟨a1,a2,a3⟩:=g2 r1
 simp only[go_sem,a1,Nat.zero_add]
 refine nBits_calls (na.mono hl1) ?_
 have hs:blen x≤512000:=by have:=wlen_blen x;omega
 unfold ppL ppM at hk
 generalize blen x=s at*
 by_cases h1:n<1
 ·rw[if_pos (.inl h1),if_pos (.inl h1)] at hk
  simp only[go_sem,decide_eq_true h1]
  exact fun hw'=>hk _ hw' hl1
 by_cases h2:s=0
 ·rw[if_pos (.inr h2),if_pos (.inr h2)] at hk
  simp only[go_sem,decide_eq_false h1,eqT (show((s:Nat):Int)=0 by omega)]
  exact fun hw'=>hk _ hw' hl1
 have hne:¬(n<1∨s=0):=by omega
 rw[if_neg hne,if_neg hne] at hk
 by_cases h3:s=1
 ·rw[if_pos h3,if_pos h3] at hk
  simp only[go_sem,decide_eq_false h1,eqF (show((s:Nat):Int)≠0 by omega),eqT (show((s:Nat):Int)=1 by omega)]
  exact fun hw'=>hk _ hw' hl1
 ·rw[if_neg h3,if_neg h3] at hk
  obtain⟨k,hkk⟩:∃k:Nat,min n 1048576=(k:Int):=⟨(min n 1048576).toNat,by omega⟩
  have hk2:k≤1048576:=by omega
  rw[hkk] at hk
  have p1:(s-1)*k≤512000*1048576:=Nat.mul_le_mul (by omega) hk2
  have p2:s*k≤512000*1048576:=Nat.mul_le_mul hs hk2
  have e1:IntKind.i64.wrap ((s:Int)-1)=((s-1:Nat):Int):=(wI (by omega) (by omega)).trans (by omega)
  have e2:IntKind.i64.wrap (((s-1:Nat):Int)*(k:Int))=(((s-1)*k:Nat):Int):=mulI (by omega)
  have e3:IntKind.i64.wrap ((((s-1)*k:Nat):Int)+1)=(((s-1)*k+1:Nat):Int):=incI (by omega)
  have e4:IntKind.i64.wrap ((s:Int)*(k:Int))=((s*k:Nat):Int):=mulI (by omega)
  have f1:((s:Int)-1)*(k:Int)+1=(((s-1)*k+1:Nat):Int):=by
   rw[Int.natCast_add,Int.natCast_mul,Int.natCast_sub (by omega)]
   rfl
  have f2:(s:Int)*(k:Int)=((s*k:Nat):Int):=by simp
  rw[f1,f2] at hk
  simp only[go_sem,decide_eq_false h1,eqF (show((s:Nat):Int)≠0 by omega),eqF (show((s:Nat):Int)≠1 by omega),hkk,e1,e2,e3,e4]
  exact fun hw'=>hk _ hw' hl1
end
theorem ppL_le {x n:Nat}:ppL (blen x) (n:Int)≤(blen (x^n):Int):=by
 unfold ppL
 by_cases h1:(n:Int)<1∨blen x=0
 ·rw[if_pos h1]
  omega
 rw[if_neg h1]
 have hx:0<x:=by
  rcases Nat.eq_zero_or_pos x with h|h
  ·subst h
   exact absurd (.inr (by decide)) h1
  ·exact h
 have h2:=(blen_pow (n:=n) hx (by omega)).1
 by_cases h3:blen x=1
 ·rw[if_pos h3]
  omega
 rw[if_neg h3]
 obtain⟨k,hk⟩:∃k:Nat,min (n:Int) 1048576=(k:Int):=⟨min n 1048576,by omega⟩
 rw[hk]
 have h4:(blen x-1)*k≤(blen x-1)*n:=Nat.mul_le_mul_left _ (by omega)
 have f1:((blen x:Int)-1)*(k:Int)=(((blen x-1)*k:Nat):Int):=by
  rw[Int.natCast_mul,Int.natCast_sub (by omega)]
  rfl
 rw[f1]
 omega
section
variable {e u m nw dp x n b:Nat} {t:Tb} {ba:Bool} {wa:AV} {h:H} {K:AV→H→Prop}
theorem Pow_calls (he:Eng 11 h e u) (ht:Tune h u m nw dp t) (na:Nn h wa x) (hx:wlen x≤500) (hn:n<9223372036854775808) (hb:b≤100000) (hnw:nw≤600000000)
  (hk0:b<blen (x^n)→∀h' m' dp',h'.wf→H.lee u h h'→Tune h' u m' nw dp' t→K (.tup [.agg [.sl none 0 0 none, .bool false], .int .i64 10]) h')
  (hk:blen (x^n)≤b→∀r h' m' dp',h'.wf→H.lee u h h'→Tune h' u m' nw dp' t→Zf h.next h' r (sg ba x^n)→K (.tup [r, .int .i64 0]) h'):
  ACalls Tryz.prog 25 [.ptr (some (e,0)), .agg [wa, .bool ba], .int .i64 (n:Int), .int .i64 (b:Int)] h K:=by
 refine in_power_Engine_Pow (by simp) fun hw=> ?_
 unfold c_power_Engine_Pow
 have hub:=H.row_lt hw ht
 rw[sg_pow] at hk
 simp only[go_sem]
 simp only[AV.cells,List.length_cons,List.length_nil,Nat.zero_add,Nat.reduceAdd]
 refine⟨rfl, ?_⟩
 generalize hh:(h.new ⟨some 27,2,_⟩).new ⟨some 27,2,_⟩=h1
 obtain⟨hl1,hw1,hn1,r1,r2⟩:=new2 hw hh
 have hR:(h.new ⟨some 27,2,[wa, .bool ba]⟩).next=h.next+1:=rfl
 have ht1:=ht.mono hl1
 simp only[go_sem,hR,show decide ((n:Int)<0)=false from decide_eq_false (by omega)]
 refine pmay_calls ?_
 rw[decide_eq_true (show 0≤(b:Int)∧(b:Int)≤1048576 by omega)]
 simp only[go_sem,hR,Bool.not_true,(g2 r1).2.2]
 refine pBits_calls (na.mono hl1) (by omega) fun h2 hw2 hl2=> ?_
 have r1:=hl2.2 _ _ r1
 have r2:=hl2.2 _ _ r2
 have l02:=H.le_trans hl1 hl2
 have ht2:=ht.mono l02
 have hL:=ppL_le (x:=x) (n:=n)
 by_cases c1:(b:Int)<ppL (blen x) n
 ·simp only[go_sem,hR,decide_eq_true c1,zeroI]
  refine⟨by trivial,by trivial,put2E hw hw2 (l02.lee (u:=u)) (by omega) r2 rfl fun g hwg hlg hg _ e1=> ?_⟩
  simp only[go_sem,hg]
  exact fun _=>hk0 (by omega) g _ _ hwg hlg (ht2.lee2 e1 (by omega))
 simp only[go_sem,hR,decide_eq_false c1]
 refine One_calls (x:=1) (by decide) fun o h3 hw3 hl3 ho=> ?_
 have r1:=hl3.2 _ _ r1
 have r2:=hl3.2 _ _ r2
 have l03:=H.le_trans l02 hl3
 have ht3:=ht.mono l03
 simp only[go_sem,hR,(g2 r1).1,Nat.zero_add]
 refine nBits_calls (na.mono l03) ?_
 simp only[go_sem,hR]
 refine grd_symF (.int .i64 (blen x:Int)) (fun _ _=>by simp only[go_sem]) ?_
 simp only[go_sem]
 refine grd_symF (.bool ((blen x:Int)==1)) (fun hb _=>by simp only[go_sem,hb]) ?_
 simp only[go_sem]
 have hu1:u<h.next:=hub
 refine cond_cutB (fun ρ' h4=>h4.wf∧H.lee u h h4∧(∃m' dp',Tune h4 u m' nw dp' t)∧ρ' 2= .int .i64 (n:Int)∧ρ' 3= .int .i64 (b:Int)∧ρ' 5= .ptr (some (h.next,0))∧ρ' 8= .ptr (some (h.next+1,0))∧h4.rows h.next=some ⟨some 27,2,[wa, .bool ba]⟩∧h4.rows (h.next+1)=some ⟨some 27,2,[.sl none 0 0 none, .bool false]⟩∧Nf h.next h4 (ρ' 12) (x^n)∧wlen (x^n)≤8000) ?_ ?_
 ·have ho:=ho.base (show h.next≤h2.next from l02.1)
  rcases Nat.eq_zero_or_pos n with c2|c2
  ·subst c2
   simp only[go_sem,eqT (show((0:Nat):Int)=0 from rfl)]
   exact⟨hw3,l03.lee,⟨_,_,ht3⟩,by first|rfl|trivial|assumption,by first|rfl|trivial|assumption,by first|rfl|trivial|assumption,by first|rfl|trivial|assumption,r1,r2,ho,by rw[Nat.pow_zero];decide⟩
  by_cases c3:blen x=1
  ·obtain rfl:x=1:=by
    have h0:0<x:=by
     rcases Nat.eq_zero_or_pos x with h|h
     ·subst h
      exact absurd c3 (by decide)
     ·exact h
    have:=blen_lt x
    rw[c3] at this
    omega
   simp only[go_sem,eqF (show(n:Int)≠0 by omega),eqT (show(blen 1:Int)=1 from rfl)]
   exact⟨hw3,l03.lee,⟨_,_,ht3⟩,by first|rfl|trivial|assumption,by first|rfl|trivial|assumption,by first|rfl|trivial|assumption,by first|rfl|trivial|assumption,r1,r2,by rw[Nat.one_pow];exact ho,by rw[Nat.one_pow];decide⟩
  rcases Nat.eq_zero_or_pos x with c4|c4
  ·subst c4
   simp only[go_sem,eqF (show(n:Int)≠0 by omega),eqF (show(blen 0:Int)≠1 by decide),eqT (show(blen 0:Int)=0 from rfl)]
   exact⟨hw3,l03.lee,⟨_,_,ht3⟩,by first|rfl|trivial|assumption,by first|rfl|trivial|assumption,by first|rfl|trivial|assumption,by first|rfl|trivial|assumption,r1,r2,by rw[Nat.zero_pow c2];exact Nf.nil _ _ _,by rw[Nat.zero_pow c2];decide⟩
  have hbx:=(blen_ge c4).1
  have hpl:ppL (blen x) n=((blen x:Int)-1)*min (n:Int) 1048576+1:=by
   unfold ppL
   rw[if_neg (by omega),if_neg c3]
  have hn5:n≤100000:=by
   obtain⟨k,hk⟩:∃k:Nat,min (n:Int) 1048576=(k:Int):=⟨min n 1048576,by omega⟩
   rw[hk] at hpl
   have h4:1*k≤(blen x-1)*k:=Nat.mul_le_mul_right _ (by omega)
   have f1:((blen x:Int)-1)*(k:Int)=(((blen x-1)*k:Nat):Int):=by
    rw[Int.natCast_mul,Int.natCast_sub (by omega)]
    rfl
   rw[f1] at hpl
   omega
  have hw5:wlen (x^n)≤8000:=by
   have h6:=(blen_pow (n:=n) c4 c2).2
   have h7:blen x*n≤2*((blen x-1)*n):=by
    rw[←Nat.mul_assoc]
    exact Nat.mul_le_mul_right _ (by omega)
   have f1:((blen x:Int)-1)*(n:Int)=(((blen x-1)*n:Nat):Int):=by
    rw[Int.natCast_mul,Int.natCast_sub (by omega)]
    rfl
   rw[show min (n:Int) 1048576=(n:Int) by omega,f1] at hpl
   rw[wlen_blen]
   omega
  simp only[go_sem,eqF (show(n:Int)≠0 by omega),eqF (show(blen x:Int)≠1 by omega),eqF (show(blen x:Int)≠0 by omega),(g2 r1).1,Nat.zero_add]
  refine praise_calls (he.mono l03) ht3 (na.mono l03) c4 hw5 (by omega) (by omega) fun r h4 m4 dp4 hw4 hl4 ht4 hr=> ?_
  have r1:=hl4.2 _ _ (by omega) r1
  have r2:=hl4.2 _ _ (by omega) r2
  simp only[go_sem]
  exact⟨hw4,l03.lee.trans hl4,⟨_,_,ht4⟩,by first|rfl|trivial|assumption,by first|rfl|trivial|assumption,by first|rfl|trivial|assumption,by first|rfl|trivial|assumption,r1,r2,hr.base l03.1,hw5⟩
 rintro ρ h4 ⟨hw4,hl4,⟨m4,dp4,ht4⟩,q2,q3,q5,q8,r1,r2,nr,hw5⟩
 have nn:=nr.nn (wbig hw5 (by omega))
 simp only[go_sem]
 refine nBits_calls nn ?_
 by_cases c5:b<blen (x^n)
 ·simp only[go_sem,q2,q3,q5,q8,show decide ((b:Int)<(blen (x^n):Int))=true from decide_eq_true (by omega),zeroI]
  refine⟨by trivial,by trivial,put2E hw hw4 hl4 (by omega) r2 rfl fun g hwg hlg hg _ e1=> ?_⟩
  simp only[go_sem,q8,hg]
  exact fun _=>hk0 c5 g _ _ hwg hlg (ht4.lee2 e1 (by omega))
 simp only[go_sem,q2,q3,q5,q8,show decide ((b:Int)<(blen (x^n):Int))=false from decide_eq_false (by omega),(g2 r1).2.1,Nat.zero_add]
 have hone:=nn.one
 have e1:((n:Nat):Int).tmod 2=((n%2:Nat):Int):=tmodN (a:=n) (b:=2)
 have e3:=wNI (n:=n%2) (by omega)
 cases ba with
 |false=>
  simp only[go_sem,q8,bldI hone]
  refine⟨by trivial,all2 hone,put2E hw hw4 hl4 (by omega) r2 rfl fun g hwg hlg hg _ e1=> ?_⟩
  simp only[go_sem,q8,hg]
  exact fun _=>hk (by omega) _ g _ _ hwg hlg (ht4.lee2 e1 (by omega)) ⟨_,_,_,rfl,nr.lee2 r2 e1,fun _=>rfl,rfl⟩
 |true=>
  rcases Nat.mod_two_eq_zero_or_one n with hp|hp
  ·rw[hp] at e1 e3
   rw[hp] at hk
   simp only[go_sem,q2,e1,e3,two_and,show(((0:Nat):Int)==1)=false from rfl,q8,bldI hone]
   refine⟨by trivial,all2 hone,put2E hw hw4 hl4 (by omega) r2 rfl fun g hwg hlg hg _ e1=> ?_⟩
   simp only[go_sem,q8,hg]
   exact fun _=>hk (by omega) _ g _ _ hwg hlg (ht4.lee2 e1 (by omega)) ⟨_,_,_,rfl,nr.lee2 r2 e1,fun _=>rfl,rfl⟩
  ·rw[hp] at e1 e3
   rw[hp] at hk
   simp only[go_sem,q2,e1,e3,two_and,show(((1:Nat):Int)==1)=true from rfl]
   refine Zero_calls nn ?_
   have ez:(!decide (x^n=0))=decide (x^n≠0):=by simp
   simp only[go_sem,q8,bldI hone]
   refine⟨by trivial,all2 hone,put2E hw hw4 hl4 (by omega) r2 rfl fun g hwg hlg hg _ e1=> ?_⟩
   simp only[go_sem,q8,hg,ez]
   exact fun _=>hk (by omega) _ g _ _ hwg hlg (ht4.lee2 e1 (by omega)) (sg_zf (b:=true) (nr.lee2 r2 e1))
end
end
theorem Eng.lee2 {R u:Nat} {T:TypeId} {a b:AV} {h g:H} (hr:h.rows R=some ⟨some T,2,[a,b]⟩) (hl:H.lee R h g):∀{d e:Nat},Eng d h e u→Eng d g e u
 |0,_,he=>he
 |_+1,e,⟨r,e',h1,h2,h3⟩=>⟨r,e',hl.2 _ _ (by
   rintro rfl
   rw[hr] at h1
   injection h1 with h1
   rw[←h1] at h2
   simp at h2) h1,h2,Eng.lee2 hr hl h3⟩
theorem le_over {u:Nat} {a b c:H} (hw:a.wf) (h1:a.le b) (hu:a.next≤u) (h2:H.lee u b c):a.le c:=
 ⟨Nat.le_trans h1.1 h2.1,fun i r e=>h2.2 i r (by have:=H.row_lt hw e;omega) (h1.2 i r e)⟩
section
section
variable {a:AV} {z:Int} {n b:Nat} {h:H} {K:AV→H→Prop}
theorem natAbs_pow' {z:Int} (k:Nat):(z^k).natAbs=z.natAbs^k:=Int.natAbs_pow z k
end
end
section
section
variable {h:H} {K:AV→H→Prop}
theorem kIntZ {c d:Nat} {a b:AV} {z:Int} (na:Zf c h a z) (nb:Zf d h b z) (hz:Big z.natAbs) (hk:∀h',h'.wf→h.le h'→K (.bool true) h'):ACalls Tryz.prog 29 [a,b] h K:=by
 obtain⟨w,rfl,n1⟩:=zf_open na
 obtain⟨u,rfl,n2⟩:=zf_open nb
 exact kInt_calls n1.nt n2.nt hz hk
theorem zrTo' {a:AV} {z:Int} (ha:Zr h a z) (hz:Big z.natAbs) (hk:∀r h',h'.wf→h.le h'→Zf h.next h' r z→K r h'):ACalls Tryz.prog 30 [a] h K:=by
 obtain⟨w,rfl,n1⟩:=zr_open ha
 refine zrTo_calls n1 hz (fun h0=>by simp;omega) fun r h2 hw2 hl2 hr=> ?_
 rw[sg_self] at hr
 exact hk r h2 hw2 hl2 hr
theorem wakes19_calls (hk:∀h',h'.wf→h.le h'→K (.bool true) h'):ACalls Tryz.prog 26 [] h K:=by
 refine in_law19_wakes (by simp) fun hw=> ?_
 unfold c_law19_wakes
 simp only[go_sem]
 refine poNew_calls (t:=⟨0,0,0,0,0,0,0,0,0,0,0⟩) fun e u h1 hw1 hl1 hn1 hue he ht=> ?_
 simp only[go_sem,Option.isNone,Bool.false_bne]
 refine⟨trivial, ?_⟩
 refine zOf_calls (n:= -2) (by decide) (by decide) fun v1 h2 hw2 hl2 hv1=> ?_
 obtain⟨w1,rfl,n1⟩:=zf_open hv1
 have d1:wlen (Int.natAbs (-2))≤1:=by decide
 simp only[go_sem]
 refine Pow_calls (n:=3) (b:=4) (he.mono hl2) (ht.mono hl2) (n1.nn (wbig d1 (by omega))) (by omega) (by decide) (by decide) (by omega) (fun h0=>absurd h0 (by decide)) fun _ r h3 m3 dp3 hw3 hl3 ht3 hr=> ?_
 have l13:=le_over hw (H.le_trans hl1 hl2) hn1 hl3
 rw[sg_self,show(-2:Int)^3= -8 by decide] at hr
 obtain⟨w3,rfl,n3⟩:=zf_open hr
 simp only[go_sem]
 have r1:=H.rows_new h3 ⟨some 27,2,[.sl none 0 0 none, .bool false]⟩
 have hl4:=H.le_new hw3 (H.le_refl h3) ⟨some 27,2,[.sl none 0 0 none, .bool false]⟩
 have hw4:=H.wf_new hw3 ⟨some 27,2,[.sl none 0 0 none, .bool false]⟩
 have hn3:=l13.1
 have hu2:=H.row_lt hw2 (ht.mono hl2)
 have hu3:=H.row_lt hw3 ht3
 simp only[List.length_cons,List.length_nil,Nat.zero_add,Nat.reduceAdd]
 generalize hR1:h3.next=R1 at*
 generalize h3.new ⟨some 27,2,[.sl none 0 0 none, .bool false]⟩=h4 at*
 refine⟨by trivial,all2 n3.one,put2 hw hw4 (H.le_trans l13 hl4) (by omega) r1 rfl fun g1 hwg1 hlg1 _ r1n e1=> ?_⟩
 have hr:=(hr.mono hl4).lee2 r1 e1
 have he:=Eng.lee2 r1 e1 (((he.mono hl2).monoE (ht.mono hl2) hl3).mono hl4)
 have ht:=(ht3.mono hl4).lee2 e1 (by omega)
 simp only[go_sem]
 refine zOf_calls (n:= -2) (by decide) (by decide) fun v1 h5 hw5 hl5 hv1=> ?_
 obtain⟨w1,rfl,n1⟩:=zf_open hv1
 have r1n:=hl5.2 _ _ r1n
 simp only[go_sem]
 refine Pow_calls (n:=3) (b:=3) (he.mono hl5) (ht.mono hl5) (n1.nn (wbig d1 (by omega))) (by omega) (by decide) (by decide) (by omega) (fun _ h6 m6 dp6 hw6 hl6 ht6=> ?_) fun h0=>absurd h0 (by decide)
 have hub:=H.row_lt hwg1 ht
 have l16:=le_over hw (H.le_trans hlg1 hl5) hn1 hl6
 have r1:=hl6.2 _ _ (by omega) r1n
 have hr:=(hr.mono hl5).monoE (by omega) hl6
 simp only[go_sem]
 have r2:=H.rows_new h6 ⟨some 27,2,[.sl none 0 0 none, .bool false]⟩
 have hl7:=H.le_new hw6 (H.le_refl h6) ⟨some 27,2,[.sl none 0 0 none, .bool false]⟩
 have hw7:=H.wf_new hw6 ⟨some 27,2,[.sl none 0 0 none, .bool false]⟩
 have hn6:=l16.1
 have hu6:=H.row_lt hw6 r1
 simp only[List.length_cons,List.length_nil,Nat.zero_add,Nat.reduceAdd]
 generalize hR2:h6.next=R2 at*
 generalize h6.new ⟨some 27,2,[.sl none 0 0 none, .bool false]⟩=h7 at*
 have r1:=hl7.2 _ _ r1
 refine⟨by trivial,by trivial,put2 hw hw7 (H.le_trans l16 hl7) (by omega) r2 rfl fun g2' hwg2 hlg2 _ r2n e2=> ?_⟩
 have hr:=(hr.mono hl7).lee2 r2 e2
 have r1:=e2.2 _ _ (by omega) r1
 simp only[go_sem,show((0:Int)==0)=true from rfl,(g2 r1).2.2]
 refine zrSmall_calls (n:= -8) (by decide) (by decide) fun o g3 hwg3 hl3' ho=> ?_
 have r1:=hl3'.2 _ _ r1
 simp only[go_sem,(g2 r1).2.2,true_and]
 refine zrTo' ho (Big.w1 (by decide)) fun o2 g4 hwg4 hl4' ho2=> ?_
 have r1:=hl4'.2 _ _ r1
 simp only[go_sem,(g2 r1).2.2,true_and]
 refine kIntZ (hr.mono (H.le_trans hl3' hl4')) ho2 (Big.w1 (by decide)) fun g5 hwg5 hl5'=> ?_
 simp only[go_sem,show((10:Int)==10)=true from rfl]
 exact fun hw'=>hk _ hw' (H.le_trans hlg2 (H.le_trans hl3' (H.le_trans hl4' hl5')))
end
end
theorem pow_wlen {x n w m:Nat} (hx:wlen x≤w) (hn:n≤m):wlen (x^n)≤w*m+1:=by
 rcases Nat.eq_zero_or_pos n with h0|h0
 ·subst h0
  rw[Nat.pow_zero]
  exact Nat.le_trans (show wlen 1≤1 by decide) (by omega)
 rcases Nat.eq_zero_or_pos x with h1|h1
 ·subst h1
  rw[Nat.zero_pow h0]
  exact Nat.le_trans (show wlen 0≤0 by decide) (by omega)
 have h2:=(blen_pow (n:=n) h1 h0).2
 have h3:=wlen_blen x
 have h4:blen x*n≤64*w*m:=Nat.mul_le_mul (by omega) hn
 rw[wlen_blen]
 rw[Nat.mul_assoc] at h4
 omega
section
section
variable {t:Tb} {e u m nw dp x:Nat} {wa:AV} {ba:Bool} {xs:List Nat} {h:H} {K:AV→H→Prop}
theorem Pow2_calls {n b:Nat} (he:Eng 11 h e u) (ht:Tune h u m nw dp t) (na:Nn h wa x) (hx:wlen x≤500) (hn:n<9223372036854775808) (hb:b≤100000) (hnw:nw≤600000000)
  (hk:∀r0 r1 (c:Int) h' m' dp',h'.wf→H.lee u h h'→Tune h' u m' nw dp' t→r0.one=true→r1.one=true→(b<blen (x^n)∧c=10∧r0= .sl none 0 0 none∧r1= .bool false∨blen (x^n)≤b∧c=0∧Zf h.next h' (.agg [r0,r1]) (sg ba x^n))→K (.tup [.agg [r0,r1], .int .i64 c]) h'):
  ACalls Tryz.prog 25 [.ptr (some (e,0)), .agg [wa, .bool ba], .int .i64 (n:Int), .int .i64 (b:Int)] h K:=
 Pow_calls he ht na hx hn hb hnw (fun h1 h' _ _ hw hl ht=>hk _ _ _ h' _ _ hw hl ht rfl rfl (.inl ⟨h1,rfl,rfl,rfl⟩)) fun h1 r h' _ _ hw hl ht hr=>by
  obtain⟨r0,r1,rfl,o0,o1⟩:=hr.two
  exact hk _ _ _ h' _ _ hw hl ht o0 o1 (.inr ⟨h1,rfl,hr⟩)
end
end
section
structure PT (h g:H) (c e u e' u' R:Nat) (t t':Tb) (a vb vk vm:AV) (ba:Bool) (x y k m:Nat):Prop where
 wf:g.wf
 le:h.le g
 ht:∃n d,Tune g u n 0 d t
 ht':∃n d,Tune g u' n 0 d t'
 he:Eng 11 g e u
 he':Eng 11 g e' u'
 r:g.rows R=some ⟨some 27,2,[a, .bool ba]⟩
 nx:Nn g a x
 nb:Nn g vb y
 nk:Nn g vk k
 nm:Nn g vm m
 h1:h.next≤u
 h2:h.next≤u'
 h3:u≠u'
 h4:R≠u
 h5:R≠u'
 h6:R<c
 h7:u<c
 h8:u'<c
 h9:c≤g.next
section
variable {h g g':H} {c e u e' u' R x y k m:Nat} {t t':Tb} {a vb vk vm:AV} {ba:Bool} {K:AV→H→Prop}
theorem PT.symm (s:PT h g c e u e' u' R t t' a vb vk vm ba x y k m):PT h g c e' u' e u R t' t a vb vk vm ba x y k m:=
 ⟨s.wf,s.le,s.ht',s.ht,s.he',s.he,s.r,s.nx,s.nb,s.nk,s.nm,s.h2,s.h1,s.h3.symm,s.h5,s.h4,s.h6,s.h8,s.h7,s.h9⟩
theorem PT.mono (s:PT h g c e u e' u' R t t' a vb vk vm ba x y k m) (hw:g'.wf) (hl:g.le g'):PT h g' c e u e' u' R t t' a vb vk vm ba x y k m:=by
 obtain⟨n,d,ht⟩:=s.ht
 obtain⟨n',d',ht'⟩:=s.ht'
 exact⟨hw,H.le_trans s.le hl,⟨n,d,ht.mono hl⟩,⟨n',d',ht'.mono hl⟩,s.he.mono hl,s.he'.mono hl,hl.2 _ _ s.r,s.nx.mono hl,s.nb.mono hl,s.nk.mono hl,s.nm.mono hl,s.h1,s.h2,s.h3,s.h4,s.h5,s.h6,s.h7,s.h8,Nat.le_trans s.h9 hl.1⟩
theorem PT.over {n d:Nat} (hw0:h.wf) (s:PT h g c e u e' u' R t t' a vb vk vm ba x y k m) (hw:g'.wf) (hl:H.lee u g g') (hT:Tune g' u n 0 d t):PT h g' c e u e' u' R t t' a vb vk vm ba x y k m:=by
 obtain⟨n,d,ht⟩:=s.ht
 obtain⟨n',d',ht'⟩:=s.ht'
 exact⟨hw,le_over hw0 s.le s.h1 hl,⟨_,_,hT⟩,⟨n',d',hl.2 _ _ s.h3.symm ht'⟩,s.he.monoE ht hl,Eng.monoO ht hl s.he',hl.2 _ _ s.h4 s.r,s.nx.monoE' ht hl,s.nb.monoE' ht hl,s.nk.monoE' ht hl,s.nm.monoE' ht hl,s.h1,s.h2,s.h3,s.h4,s.h5,s.h6,s.h7,s.h8,Nat.le_trans s.h9 hl.1⟩
theorem PT.put {Q:Nat} {T:TypeId} {v w:AV} (s:PT h g c e u e' u' R t t' a vb vk vm ba x y k m) (hw:g'.wf) (hle:h.le g') (hQ:c≤Q) (hr:g.rows Q=some ⟨some T,2,[v,w]⟩) (hl:H.lee Q g g'):PT h g' c e u e' u' R t t' a vb vk vm ba x y k m:=by
 obtain⟨n,d,ht⟩:=s.ht
 obtain⟨n',d',ht'⟩:=s.ht'
 have:=s.h6
 have:=s.h7
 have:=s.h8
 exact⟨hw,hle,⟨n,d,ht.lee2 hl (by omega)⟩,⟨n',d',ht'.lee2 hl (by omega)⟩,Eng.lee2 hr hl s.he,Eng.lee2 hr hl s.he',hl.2 _ _ (by omega) s.r,s.nx.lee2 hr hl,s.nb.lee2 hr hl,s.nk.lee2 hr hl,s.nm.lee2 hr hl,s.h1,s.h2,s.h3,s.h4,s.h5,s.h6,s.h7,s.h8,Nat.le_trans s.h9 hl.1⟩
theorem PT.pow {j:Nat} (hw0:h.wf) (s:PT h g c e u e' u' R t t' a vb vk vm ba x y k m) (wx:wlen x≤4) (hj:j<60)
  (hk:∀r0 r1 g',PT h g' c e u e' u' R t t' a vb vk vm ba x y k m→H.lee u g g'→r0.one=true→r1.one=true→Zf c g' (.agg [r0,r1]) (sg ba x^j)→K (.tup [.agg [r0,r1], .int .i64 0]) g'):
  ACalls Tryz.prog 25 [.ptr (some (e,0)), .agg [a, .bool ba], .int .i64 (j:Int), .int .i64 20000] g K:=by
 obtain⟨n,d,ht⟩:=s.ht
 have hb:blen (x^j)≤20000:=by
  have:=pow_wlen wx (show j≤60 by omega)
  rw[wlen_blen] at this
  omega
 refine Pow2_calls (b:=20000) s.he ht s.nx (by omega) (by omega) (by omega) (by omega) fun r0 r1 f g' m' d' hw' hl' ht' o0 o1 hor=> ?_
 rcases hor with⟨h1,_⟩|⟨_,rfl,hz⟩
 ·exact absurd h1 (by omega)
 ·exact hk _ _ g' (s.over hw0 hw' hl' ht') hl' o0 o1 (hz.base s.h9)
theorem PT.powMod (hT:TbOK t) (hw0:h.wf) (s:PT h g c e u e' u' R t t' a vb vk vm ba x y k m) (wb:wlen y≤20) (wk:wlen k≤2) (wm:wlen m≤20)
  (hk:∀r (f:Int) g',PT h g' c e u e' u' R t t' a vb vk vm ba x y k m→H.lee u g g'→(m=0→f=2)→(m≠0→f=0)→Nf c g' r (if m=0 then 0 else y^k%m)→K (.tup [r, .int .i64 f]) g'):
  ACalls Tryz.prog 77 [.ptr (some (e,0)),vb,vk,vm] g K:=by
 obtain⟨n,d,ht⟩:=s.ht
 refine PowMod_calls hT s.he ht s.nb s.nk s.nm (by omega) (by omega) (by omega) (by omega) (fun h0 hw=> ?_) fun h0 r g' m' d' hw' hl' ht' hr=> ?_
 ·refine hk _ 2 g s (H.lee_refl _ _) (fun _=>rfl) (fun h=>absurd h0 h) ?_
  rw[if_pos h0]
  exact Nf.nil _ _ _
 ·refine hk _ 0 g' (s.over hw0 hw' hl' ht') hl' (fun h=>absurd h (by omega)) (fun _=>rfl) ?_
  rw[if_neg (by omega)]
  exact hr.base s.h9
set_option maxHeartbeats 2000000 in
theorem PowerTables_law {va vb vk vm:AV} {xs ys0 ks0 ms0:List Nat} {n:Int} {t t2:Tb} (ha:IsN h va xs) (hd:Dig xs) (hb0:IsN h vb ys0) (hy0:Dig ys0) (hk0:IsN h vk ks0) (hdk0:Dig ks0) (hm0:IsN h vm ms0) (hdm0:Dig ms0) (hk:∀h',h'.wf→K (.bool true) h'):ACalls Tryz.prog 15 [t.av,t2.av, .agg [va, .bool ba], .int .i64 n,vb,vk,vm] h K:=by
 refine in_law19_PowerTables (by simp) fun hw=> ?_
 unfold c_law19_PowerTables
 simp only[go_sem,av_held,av_cells,cells_len,true_and]
 simp only[AV.cells,List.length_cons,List.length_nil,Nat.zero_add,Nat.reduceAdd]
 refine⟨rfl, ?_⟩
 have hl0:=H.le_new hw (H.le_refl h) ⟨some 23,11,t.cells⟩
 have hw0:=H.wf_new hw ⟨some 23,11,t.cells⟩
 have hr0:=H.rows_new h ⟨some 23,11,t.cells⟩
 have hn0:(h.new ⟨some 23,11,t.cells⟩).next=h.next+1:=rfl
 generalize h.new ⟨some 23,11,t.cells⟩=g00 at*
 have hl00:=H.le_new hw0 (H.le_refl g00) ⟨some 23,11,t2.cells⟩
 have hw00:=H.wf_new hw0 ⟨some 23,11,t2.cells⟩
 have hr00:=H.rows_new g00 ⟨some 23,11,t2.cells⟩
 have hn00:(g00.new ⟨some 23,11,t2.cells⟩).next=g00.next+1:=rfl
 generalize g00.new ⟨some 23,11,t2.cells⟩=g0 at*
 have hr0:=hl00.2 _ _ hr0
 have r1:=H.rows_new g0 ⟨some 27,2,[va, .bool ba]⟩
 have hlb:=H.le_new hw00 (H.le_refl g0) ⟨some 27,2,[va, .bool ba]⟩
 have hwb:=H.wf_new hw00 ⟨some 27,2,[va, .bool ba]⟩
 have l01:=(H.le_trans hl0 (H.le_trans hl00 hlb))
 have hgR:h.next≤g0.next:=by omega
 generalize hR:g0.next=R at*
 generalize g0.new ⟨some 27,2,[va, .bool ba]⟩=h1 at*
 have hr0:=hlb.2 _ _ hr0
 have hr00:=hlb.2 _ _ hr00
 rw[hn0] at hr00⊢
 simp only[go_sem,(g2 r1).2.2]
 refine CutInt_calls (n:=4) (ha.mono l01) (by decide) fun a h2 hw2 hl2 hca=> ?_
 have r1:=hl2.2 _ _ r1
 have hr0:=hl2.2 _ _ hr0
 have hr00:=hl2.2 _ _ hr00
 have hone:a.one=true:=by obtain⟨_,_,_,rfl,_⟩:=hca;rfl
 simp only[go_sem]
 refine⟨by trivial,all2 hone,put2 hw hw2 (H.le_trans l01 hl2) (by omega) r1 rfl fun g1 hwg1 hlg1 hg1 r1n e1=> ?_⟩
 have hca:=hca.lee2 r1 e1
 have hr0:=e1.2 _ _ (by omega) hr0
 have hr00:=e1.2 _ _ (by omega) hr00
 have hxl:(xs.take 4).length≤4:=by rw[List.length_take];omega
 have nx:=hca.nn (Dig.take hd 4) (by omega)
 have wx:wlen (val 18446744073709551616 (xs.take 4))≤4:=Nat.le_trans (wlen_len (Dig.take hd 4)) hxl
 clear ha hd hca hxl r1 e1 hg1
 generalize val 18446744073709551616 (xs.take 4)=x at*
 simp only[go_sem]
 refine Cut_calls (n:=20) (hb0.mono hlg1) fun b hb=> ?_
 simp only[go_sem]
 refine Cut_calls (n:=2) (hk0.mono hlg1) fun kk hkk=> ?_
 simp only[go_sem]
 refine Cut_calls (n:=20) (hm0.mono hlg1) fun c hc=> ?_
 have hyd:Dig (ys0.take 20):=Dig.take hy0 20
 have hkd:Dig (ks0.take 2):=Dig.take hdk0 2
 have hzd:Dig (ms0.take 20):=Dig.take hdm0 20
 have hyl:(ys0.take 20).length≤20:=by simp;omega
 have hkl:(ks0.take 2).length≤2:=by simp;omega
 have hzl:(ms0.take 20).length≤20:=by simp;omega
 generalize ys0.take 20=ys at*
 generalize ks0.take 2=ks at*
 generalize ms0.take 20=zs at*
 simp only[go_sem,gsT hr0,gsT hr00]
 refine poNew_calls fun e u g3 hw3 hl3 hn3 hue he ht=> ?_
 simp only[go_sem,gsT (hl3.2 _ _ hr00),true_and]
 refine poNew_calls fun e' u' g4 hw4 hl4 hn4 hue' he' ht'=> ?_
 have wy:wlen (val 18446744073709551616 ys)≤20:=Nat.le_trans (wlen_len hyd) hyl
 have wk:wlen (val 18446744073709551616 ks)≤2:=Nat.le_trans (wlen_len hkd) hkl
 have wm:wlen (val 18446744073709551616 zs)≤20:=Nat.le_trans (wlen_len hzd) hzl
 have hu1:=H.row_lt hw3 ht
 have hu2:=H.row_lt hw4 ht'
 have hR1:=H.row_lt hwg1 r1n
 have hl34:=(H.le_trans hl3 hl4)
 have s:PT h g4 g4.next e u e' u' R (clampT t) (clampT t2) a b kk c ba x (val 18446744073709551616 ys) (val 18446744073709551616 ks) (val 18446744073709551616 zs):=
  ⟨hw4,(H.le_trans hlg1 hl34),⟨_,_,ht.mono hl4⟩,⟨_,_,ht'⟩,he.mono hl4,he',hl34.2 _ _ r1n,nx.mono hl34,(hb.mono hl34).nn hyd (by omega),(hkk.mono hl34).nn hkd (by omega),(hc.mono hl34).nn hzd (by omega),by have:=hlg1.1;omega,by have:=hlg1.1;omega,by omega,by omega,by omega,by omega,by omega,by omega,Nat.le_refl _⟩
 have bm:Big (val 18446744073709551616 zs):=wbig wm (by omega)
 clear hb hkk hc hb0 hk0 hm0 ht ht' he he' nx hyl hkl hzl hyd hkd hzd hy0 hdk0 hdm0 hr0 hr00
 generalize val 18446744073709551616 ys=y at*
 generalize val 18446744073709551616 ks=k at*
 generalize val 18446744073709551616 zs=m at*
 generalize hc0:g4.next=c0 at*
 obtain⟨j,hj,hjn⟩:∃j:Nat,j<60∧(j:Int)=n%60:=⟨(n%60).toNat,by omega,by omega⟩
 have wi:∀{P:AV→H→Prop} {g:H},P (.int .i64 (j:Int)) g→ACalls Tryz.prog 24 [.int .i64 n, .int .i64 60] g P:=by
  intro P g hP
  refine Within_calls (n:=60) (by omega) (by omega) fun q _ hq=> ?_
  obtain rfl:q=j:=by omega
  exact hP
 simp only[go_sem,Option.isNone,Bool.false_bne]
 refine awp_cut (fun ρ g=>PT h g c0 e u e' u' R (clampT t) (clampT t2) a b kk c ba x y k m∧ρ 3= .int .i64 n∧ρ 4=b∧ρ 5=kk∧ρ 6=c∧ρ 9= .ptr (some (R,0))∧ρ 15= .ptr (some (e,0))∧ρ 16= .ptr (some (e',0))∧ρ 18= .int .i64 0∧∃Q p0 p1,c0≤Q∧ρ 17= .ptr (some (Q,0))∧g.rows Q=some ⟨some 27,2,[p0,p1]⟩∧Zf c0 g (.agg [p0,p1]) (sg ba x^j)) ?_ ?_
 ·simp only[go_sem,w_regt,(g2 s.r).2.2]
  refine⟨wi ?_, ?_⟩
  ·simp only[go_sem,(g2 s.r).2.2,true_and]
   refine⟨?_, ?_⟩
   ·refine s.pow hw wx hj fun p0 p1 g5 s5 hl5 o0 o1 hz=> ?_
    have s5:=s5
    simp only[go_sem]
    have r2:=H.rows_new g5 ⟨some 27,2,[.sl none 0 0 none, .bool false]⟩
    have hlA:=H.le_new s5.wf (H.le_refl g5) ⟨some 27,2,[.sl none 0 0 none, .bool false]⟩
    have hwA:=H.wf_new s5.wf ⟨some 27,2,[.sl none 0 0 none, .bool false]⟩
    have hQ:=s5.h9
    simp only[List.length_cons,List.length_nil,Nat.zero_add,Nat.reduceAdd]
    generalize hQ2:g5.next=Q at*
    generalize g5.new ⟨some 27,2,[.sl none 0 0 none, .bool false]⟩=gA at*
    have sA:=s5.mono hwA hlA
    simp only[go_sem,(g2 sA.r).2.2,true_and,and_true]
    refine⟨all22 o0 o1,put2 hw hwA sA.le (by have:=sA.h1;have:=sA.h7;omega) r2 rfl fun g7 hw7 hl7 _ r2n e2=> ?_⟩
    simp only[go_sem]
    exact⟨sA.put hw7 hl7 hQ r2 e2,by first|rfl|trivial|assumption,by first|rfl|trivial|assumption,by first|rfl|trivial|assumption,by first|rfl|trivial|assumption,by first|rfl|trivial|assumption,by first|rfl|trivial|assumption,by first|rfl|trivial|assumption,by first|rfl|trivial|assumption,Q,p0,p1,hQ,by first|rfl|trivial|assumption,r2n,(hz.mono hlA).lee2 r2 e2⟩
   ·have r2:=H.rows_new g4 ⟨some 27,2,[.sl none 0 0 none, .bool false]⟩
    have hlA:=H.le_new s.wf (H.le_refl g4) ⟨some 27,2,[.sl none 0 0 none, .bool false]⟩
    have hwA:=H.wf_new s.wf ⟨some 27,2,[.sl none 0 0 none, .bool false]⟩
    have hQ:=s.h9
    simp only[List.length_cons,List.length_nil,Nat.zero_add,Nat.reduceAdd]
    generalize hQ2:g4.next=Q at*
    generalize g4.new ⟨some 27,2,[.sl none 0 0 none, .bool false]⟩=gA at*
    have sA:=s.mono hwA hlA
    simp only[go_sem,(g2 sA.r).2.2,true_and,and_true]
    refine sA.pow hw wx hj fun p0 p1 g5 s5 hl5 o0 o1 hz=> ?_
    have s5:=s5
    have hu0:=sA.h7
    have hu3:=sA.h1
    have hu4:=sA.h8
    have hu5:=sA.h2
    have r2:=hl5.2 _ _ (by omega) r2
    simp only[go_sem,and_true]
    refine⟨by trivial,all22 o0 o1,put2 hw s5.wf s5.le (by omega) r2 rfl fun g7 hw7 hl7 _ r2n e2=> ?_⟩
    simp only[go_sem]
    exact⟨s5.put hw7 hl7 hQ r2 e2,by first|rfl|trivial|assumption,by first|rfl|trivial|assumption,by first|rfl|trivial|assumption,by first|rfl|trivial|assumption,by first|rfl|trivial|assumption,by first|rfl|trivial|assumption,by first|rfl|trivial|assumption,by first|rfl|trivial|assumption,Q,p0,p1,hQ,by first|rfl|trivial|assumption,r2n,hz.lee2 r2 e2⟩
  ·have r2:=H.rows_new g4 ⟨some 27,2,[.sl none 0 0 none, .bool false]⟩
   have hlA:=H.le_new s.wf (H.le_refl g4) ⟨some 27,2,[.sl none 0 0 none, .bool false]⟩
   have hwA:=H.wf_new s.wf ⟨some 27,2,[.sl none 0 0 none, .bool false]⟩
   have hQ:=s.h9
   simp only[List.length_cons,List.length_nil,Nat.zero_add,Nat.reduceAdd]
   generalize hQ2:g4.next=Q at*
   generalize g4.new ⟨some 27,2,[.sl none 0 0 none, .bool false]⟩=gA at*
   have sA:=s.mono hwA hlA
   simp only[go_sem,(g2 sA.r).2.2,true_and,and_true]
   refine wi ?_
   simp only[go_sem,(g2 sA.r).2.2,true_and,and_true]
   refine sA.pow hw wx hj fun p0 p1 g5 s5 hl5 o0 o1 hz=> ?_
   have s5:=s5
   have hu0:=sA.h7
   have hu3:=sA.h1
   have hu4:=sA.h8
   have hu5:=sA.h2
   have r2:=hl5.2 _ _ (by omega) r2
   simp only[go_sem,and_true]
   refine⟨by trivial,all22 o0 o1,put2 hw s5.wf s5.le (by omega) r2 rfl fun g7 hw7 hl7 _ r2n e2=> ?_⟩
   simp only[go_sem]
   exact⟨s5.put hw7 hl7 hQ r2 e2,by first|rfl|trivial|assumption,by first|rfl|trivial|assumption,by first|rfl|trivial|assumption,by first|rfl|trivial|assumption,by first|rfl|trivial|assumption,by first|rfl|trivial|assumption,by first|rfl|trivial|assumption,by first|rfl|trivial|assumption,Q,p0,p1,hQ,by first|rfl|trivial|assumption,r2n,hz.lee2 r2 e2⟩
 clear s hn3 hn4 hue hue' hu1 hu2 hR1
 rintro ρ g4 ⟨s,q3,q4,q5,q6,q9,q15,q16,q18,Q1,v0,v1,hQ1,q17,rQ1,hz1⟩
 have hQn:=H.row_lt s.wf rQ1
 have hqu:=s.h7
 have hqv:=s.h8
 refine awp_cut (fun ρ g=>PT h g c0 e u e' u' R (clampT t) (clampT t2) a b kk c ba x y k m∧ρ 4=b∧ρ 5=kk∧ρ 6=c∧ρ 15= .ptr (some (e,0))∧ρ 16= .ptr (some (e',0))∧ρ 17= .ptr (some (Q1,0))∧ρ 18= .int .i64 0∧ρ 20= .int .i64 0∧∃Q p0 p1,c0≤Q∧ρ 19= .ptr (some (Q,0))∧g.rows Q=some ⟨some 27,2,[p0,p1]⟩∧Zf c0 g (.agg [p0,p1]) (sg ba x^j)∧g.rows Q1=some ⟨some 27,2,[v0,v1]⟩∧Zf c0 g (.agg [v0,v1]) (sg ba x^j)) ?_ ?_
 ·simp only[go_sem,w_regt,q3,q4,q5,q6,q9,q15,q16,q17,q18,(g2 s.r).2.2]
  refine⟨wi ?_, ?_⟩
  ·simp only[go_sem,q3,q4,q5,q6,q9,q15,q16,q17,q18,(g2 s.r).2.2,true_and]
   refine⟨?_, ?_⟩
   ·refine s.symm.pow hw wx hj fun p0 p1 g5 s5 hl5 o0 o1 hz=> ?_
    have s5:=s5.symm
    have hu6:=s.h7
    have hu7:=s.h8
    have rQ1:=hl5.2 _ _ (by omega) rQ1
    have hz1:=hz1.monoE (by omega) hl5
    have hQm:=H.row_lt s5.wf rQ1
    simp only[go_sem,q3,q4,q5,q6,q9,q15,q16,q17,q18,]
    have r2:=H.rows_new g5 ⟨some 27,2,[.sl none 0 0 none, .bool false]⟩
    have hlA:=H.le_new s5.wf (H.le_refl g5) ⟨some 27,2,[.sl none 0 0 none, .bool false]⟩
    have hwA:=H.wf_new s5.wf ⟨some 27,2,[.sl none 0 0 none, .bool false]⟩
    have hQ:=s5.h9
    simp only[List.length_cons,List.length_nil,Nat.zero_add,Nat.reduceAdd]
    generalize hQ2:g5.next=Q at*
    generalize g5.new ⟨some 27,2,[.sl none 0 0 none, .bool false]⟩=gA at*
    have sA:=s5.mono hwA hlA
    have rQ1:=hlA.2 _ _ rQ1
    have hz1:=hz1.mono hlA
    simp only[go_sem,q3,q4,q5,q6,q9,q15,q16,q17,q18,(g2 sA.r).2.2,true_and,and_true]
    refine⟨all22 o0 o1,put2 hw hwA sA.le (by have:=sA.h1;have:=sA.h7;omega) r2 rfl fun g7 hw7 hl7 _ r2n e2=> ?_⟩
    have rQ1:=e2.2 _ _ (by omega) rQ1
    have hz1:=hz1.lee2 r2 e2
    simp only[go_sem,q3,q4,q5,q6,q9,q15,q16,q17,q18,]
    exact⟨sA.put hw7 hl7 hQ r2 e2,by first|rfl|trivial|assumption,by first|rfl|trivial|assumption,by first|rfl|trivial|assumption,by first|rfl|trivial|assumption,by first|rfl|trivial|assumption,by first|rfl|trivial|assumption,by first|rfl|trivial|assumption,by first|rfl|trivial|assumption,Q,p0,p1,hQ,by first|rfl|trivial|assumption,r2n,(hz.mono hlA).lee2 r2 e2,rQ1,hz1⟩
   ·have r2:=H.rows_new g4 ⟨some 27,2,[.sl none 0 0 none, .bool false]⟩
    have hlA:=H.le_new s.wf (H.le_refl g4) ⟨some 27,2,[.sl none 0 0 none, .bool false]⟩
    have hwA:=H.wf_new s.wf ⟨some 27,2,[.sl none 0 0 none, .bool false]⟩
    have hQ:=s.h9
    simp only[List.length_cons,List.length_nil,Nat.zero_add,Nat.reduceAdd]
    generalize hQ2:g4.next=Q at*
    generalize g4.new ⟨some 27,2,[.sl none 0 0 none, .bool false]⟩=gA at*
    have sA:=s.mono hwA hlA
    have rQ1:=hlA.2 _ _ rQ1
    have hz1:=hz1.mono hlA
    simp only[go_sem,q3,q4,q5,q6,q9,q15,q16,q17,q18,(g2 sA.r).2.2,true_and,and_true]
    refine sA.symm.pow hw wx hj fun p0 p1 g5 s5 hl5 o0 o1 hz=> ?_
    have s5:=s5.symm
    have hu0:=sA.h7
    have hu3:=sA.h1
    have hu4:=sA.h8
    have hu5:=sA.h2
    have r2:=hl5.2 _ _ (by omega) r2
    have hu6:=s.h7
    have hu7:=s.h8
    have rQ1:=hl5.2 _ _ (by omega) rQ1
    have hz1:=hz1.monoE (by omega) hl5
    simp only[go_sem,q3,q4,q5,q6,q9,q15,q16,q17,q18,and_true]
    refine⟨by trivial,all22 o0 o1,put2 hw s5.wf s5.le (by omega) r2 rfl fun g7 hw7 hl7 _ r2n e2=> ?_⟩
    have rQ1:=e2.2 _ _ (by omega) rQ1
    have hz1:=hz1.lee2 r2 e2
    simp only[go_sem,q3,q4,q5,q6,q9,q15,q16,q17,q18,]
    exact⟨s5.put hw7 hl7 hQ r2 e2,by first|rfl|trivial|assumption,by first|rfl|trivial|assumption,by first|rfl|trivial|assumption,by first|rfl|trivial|assumption,by first|rfl|trivial|assumption,by first|rfl|trivial|assumption,by first|rfl|trivial|assumption,by first|rfl|trivial|assumption,Q,p0,p1,hQ,by first|rfl|trivial|assumption,r2n,hz.lee2 r2 e2,rQ1,hz1⟩
  ·have r2:=H.rows_new g4 ⟨some 27,2,[.sl none 0 0 none, .bool false]⟩
   have hlA:=H.le_new s.wf (H.le_refl g4) ⟨some 27,2,[.sl none 0 0 none, .bool false]⟩
   have hwA:=H.wf_new s.wf ⟨some 27,2,[.sl none 0 0 none, .bool false]⟩
   have hQ:=s.h9
   simp only[List.length_cons,List.length_nil,Nat.zero_add,Nat.reduceAdd]
   generalize hQ2:g4.next=Q at*
   generalize g4.new ⟨some 27,2,[.sl none 0 0 none, .bool false]⟩=gA at*
   have sA:=s.mono hwA hlA
   have rQ1:=hlA.2 _ _ rQ1
   have hz1:=hz1.mono hlA
   simp only[go_sem,q3,q4,q5,q6,q9,q15,q16,q17,q18,(g2 sA.r).2.2,true_and,and_true]
   refine wi ?_
   simp only[go_sem,q3,q4,q5,q6,q9,q15,q16,q17,q18,(g2 sA.r).2.2,true_and,and_true]
   refine sA.symm.pow hw wx hj fun p0 p1 g5 s5 hl5 o0 o1 hz=> ?_
   have s5:=s5.symm
   have hu0:=sA.h7
   have hu3:=sA.h1
   have hu4:=sA.h8
   have hu5:=sA.h2
   have r2:=hl5.2 _ _ (by omega) r2
   have hu6:=s.h7
   have hu7:=s.h8
   have rQ1:=hl5.2 _ _ (by omega) rQ1
   have hz1:=hz1.monoE (by omega) hl5
   simp only[go_sem,q3,q4,q5,q6,q9,q15,q16,q17,q18,and_true]
   refine⟨by trivial,all22 o0 o1,put2 hw s5.wf s5.le (by omega) r2 rfl fun g7 hw7 hl7 _ r2n e2=> ?_⟩
   have rQ1:=e2.2 _ _ (by omega) rQ1
   have hz1:=hz1.lee2 r2 e2
   simp only[go_sem,q3,q4,q5,q6,q9,q15,q16,q17,q18,]
   exact⟨s5.put hw7 hl7 hQ r2 e2,by first|rfl|trivial|assumption,by first|rfl|trivial|assumption,by first|rfl|trivial|assumption,by first|rfl|trivial|assumption,by first|rfl|trivial|assumption,by first|rfl|trivial|assumption,by first|rfl|trivial|assumption,by first|rfl|trivial|assumption,Q,p0,p1,hQ,by first|rfl|trivial|assumption,r2n,hz.lee2 r2 e2,rQ1,hz1⟩
 clear s hQn q3 q4 q5 q6 q9 q15 q16 q17 q18 rQ1 hz1
 rintro ρ g5 ⟨s,q4,q5,q6,q15,q16,q17,q18,q20,Q2,p0,p1,hQ2,q19,rQ2,hz2,rQ1,hz1⟩
 simp only[go_sem,q4,q5,q6,q15]
 refine s.powMod (clamp_ok _) hw wy wk wm fun w f g6 s6 hl6 hf0 hf1 hr=> ?_
 have rQ1:=hl6.2 _ _ (by omega) rQ1
 have rQ2:=hl6.2 _ _ (by omega) rQ2
 have hz1:=hz1.monoE hqu hl6
 have hz2:=hz2.monoE hqu hl6
 simp only[go_sem,q4,q5,q6,q16]
 refine s6.symm.powMod (clamp_ok _) hw wy wk wm fun w' f' g7 s7 hl7 hf0' hf1' hr'=> ?_
 have s7:=s7.symm
 have rQ1:=hl7.2 _ _ (by omega) rQ1
 have rQ2:=hl7.2 _ _ (by omega) rQ2
 have hz1:=hz1.monoE hqv hl7
 have hz2:=hz2.monoE hqv hl7
 have hr:=hr.monoE hqv hl7
 have hff:f=f':=by
  by_cases h0:m=0
  ·rw[hf0 h0,hf0' h0]
  ·rw[hf1 h0,hf1' h0]
 subst hff
 have hB:Big (sg ba x^j).natAbs:=by
  rw[natAbs_pow',sg_abs]
  exact wbig (pow_wlen wx (show j≤60 by omega)) (by omega)
 have hB2:Big (if m=0 then 0 else y^k%m):=by
  by_cases h0:m=0
  ·rw[if_pos h0]
   exact word_big (by decide)
  ·rw[if_neg h0]
   exact bm.le (Nat.le_of_lt (Nat.mod_lt _ (by omega)))
 simp only[go_sem,q17,q18,q19,q20,beq_self_eq_true,(g2 rQ1).2.2,(g2 rQ2).2.2]
 refine kIntZ hz1 hz2 hB fun g8 hw8 hl8=> ?_
 simp only[go_sem,beq_self_eq_true]
 refine kSameT_calls (hr.mono hl8).nt (hr'.mono hl8).nt hB2 ?_
 simp only[go_sem]
 refine wakes19_calls fun g9 hw9 hl9=> ?_
 simp only[go_sem]
 exact fun _=>hk g9 hw9
end
end
theorem cell_bool {t:TypeId} (ht:Tryz.prog.underlying t=some .bool) {h:H} {l:List AV} (r:Reads Tryz.prog h t l):∃b:Bool,l=[.bool b]:=by
 cases r with
 |int ht' hw=>rw[ht] at ht';cases ht'
 |bool ht'=>exact⟨_,rfl⟩
 |str ht'=>rw[ht] at ht';cases ht'
 |snil ht'=>rw[ht] at ht';cases ht'
 |sl ht'=>rw[ht] at ht';cases ht'
 |struct ht'=>rw[ht] at ht';cases ht'
set_option maxRecDepth 100000 in
theorem cell_whole {h:H} {l:List AV} (r:Reads Tryz.prog h 27 l):∃(v:AV) (b:Bool) (xs:List Nat),l=[v, .bool b]∧IsN h v xs∧Dig xs∧xs.length≤maxLen:=by
 have hc:Tryz.prog.cellsOf 27=2:=by kernel_rfl
 have hz:Tryz.prog.cellsOf 25=1:=by kernel_rfl
 have hb:Tryz.prog.cellsOf 4=1:=by kernel_rfl
 cases r with
 |int ht' hw=>rw[Tryz.underlying27] at ht';cases ht'
 |bool ht'=>rw[Tryz.underlying27] at ht';cases ht'
 |str ht'=>rw[Tryz.underlying27] at ht';cases ht'
 |snil ht'=>rw[Tryz.underlying27] at ht';cases ht'
 |sl ht'=>rw[Tryz.underlying27] at ht';cases ht'
 |struct ht' hl hf=>
  rw[Tryz.underlying27] at ht'
  injection ht' with ht'
  injection ht' with ht'
  subst ht'
  rw[hc] at hl
  simp only[List.mem_cons,List.not_mem_nil,or_false,forall_eq_or_imp,forall_eq,hz,hb] at hf
  obtain⟨f0,f1⟩:=hf
  obtain⟨v,xs,g0,h1,h2,h3⟩:=cell_words (by kernel_rfl) f0
  obtain⟨b,g1⟩:=cell_bool (by kernel_rfl) f1
  match l,hl with
  |[x0,x1],_=>
   simp only[List.drop_zero,List.drop_succ_cons,List.take_succ_cons,List.take_zero,List.cons.injEq,and_true] at g0 g1
   exact⟨v,b,xs,by rw[g0,g1],h1,h2,h3⟩
set_option maxRecDepth 100000 in
theorem reads_whole {h:H} {u:AV} (r:ReadsV Tryz.prog h 27 u):∃(v:AV) (b:Bool) (xs:List Nat),u= .agg [v, .bool b]∧IsN h v xs∧Dig xs∧xs.length≤maxLen:=by
 unfold ReadsV at r
 rw[Tryz.underlying27] at r
 obtain⟨l,rfl,r⟩:=r
 obtain⟨v,b,xs,rfl,h1⟩:=cell_whole r
 exact⟨v,b,xs,rfl,h1⟩
set_option maxRecDepth 100000 in
theorem PowerTables_row (h:H) (avs:List AV) (_:h.wf) (r:ReadsAll Tryz.prog h [23,23,27,3,24,24,24] avs):ACalls Tryz.prog 15 avs h (fun r _=>r= .bool true):=by
 match avs,r with
 |[_,_,_,_,_,_,_],⟨r0,r0',r1,r2,r3,r4,r5,_⟩=>
  obtain⟨t0,rfl⟩:=reads_table r0
  obtain⟨t1,rfl⟩:=reads_table r0'
  obtain⟨_,_,xs,rfl,h1,hx,_⟩:=reads_whole r1
  obtain⟨n,rfl,_,hn⟩:=reads_i64 r2
  obtain⟨ys,h2,hy,_⟩:=reads_words r3
  obtain⟨ks,h3,hk,_⟩:=reads_words r4
  obtain⟨zs,h4,hz,_⟩:=reads_words r5
  exact PowerTables_law h1 hx h2 hy h3 hk h4 hz fun _ _=>rfl
end Ab
end Go.Proofs.YtnlkbdmmoplkoaaGreatDoor
