/- Joined texts: I9 I10. No condition. -/
import Derived.Test.YtnlkbdmmoplkoaaGreatDoorZ14
namespace Go.Proofs.YtnlkbdmmoplkoaaGreatDoor
namespace Ab
open Go Go.RowKit
set_option linter.unusedSimpArgs false
set_option linter.unusedVariables false
attribute [local go_sem ↓] x_mv x_pick x_bin x_beq x_peq x_seq x_cat x_aeq x_idxS x_idxV x_un x_cvI x_idx x_idxA x_fld x_ld x_st x_nn x_prt x_slc x_mk x_bsl x_bld x_box x_alloc x_len x_capo x_mnx x_app x_cpy x_mkf x_ext x_call x_callV x_bad s_none s_some s_nil s_cons s_chks w_skip w_reg tP_fin tP_no tP_alt w_seq w_cond w_block w_exit w_ret t_normal t_exit t_ret b_normal b_ret b_exit n_normal n_exit n_ret p_normal p_ret f_nil f_t f_c k_ops k_chk k_fin
attribute [local go_sem] e_t e_c e_f u_some u_none u_at env_at k_v k_pick k_add k_sub k_mul k_quo k_rem k_and k_or k_xor k_shl k_shr k_eql k_neq k_lss k_leq k_gtr k_geq k_beq k_peqn k_peqs k_neg k_not k_com k_cvI k_idxS k_idxV1 k_idxVn k_idx k_idxA k_idxG k_ldG k_gld k_seq k_cat k_aeq k_eqs k_fld k_ld1 k_ldn k_get k_gets k_sti k_stb k_stp k_sts k_stf k_sta k_put k_nn k_prt1 k_prtn k_slc_a k_slc_b k_slc_c k_mk k_agg k_bsl k_box k_len k_lenS k_cap k_max k_min k_ext k_callV k_true k_false k_gtt k_gtf k_gft k_gsk k_gff k_lit1i k_lit2i k_lit3i k_c0 k_c1 k_ck List.getElem?_cons_zero List.getElem?_cons_succ List.getElem?_nil Option.getD_some Option.getD_none tupOf List.map_cons List.map_nil Option.map_some Option.map_none List.nil_append List.cons_append List.append_nil Nat.mul_one Int.toNat_natCast Nat.zero_add
attribute [local go_sem] e_t e_c e_f u_some u_none u_at env_at k_v k_pick k_add k_sub k_mul k_quo k_rem k_and k_or k_xor k_shl k_shr k_eql k_neq k_lss k_leq k_gtr k_geq k_beq k_peqn k_peqs k_neg k_not k_com k_cvI k_idxS k_idxV1 k_idxVn k_idx k_idxA k_idxG k_ldG k_gld k_seq k_cat k_aeq k_eqs k_fld k_ld1 k_ldn k_get k_gets k_sti k_stb k_stp k_sts k_stf k_sta k_put k_nn k_prt1 k_prtn k_slc_a k_slc_b k_slc_c k_mk k_agg k_bsl k_box k_len k_lenS k_cap k_max k_min k_ext k_callV k_true k_false k_gtt k_gtf k_gft k_gsk k_gff k_lit1i k_lit2i k_lit3i k_c0 k_c1 k_ck List.getElem?_cons_zero List.getElem?_cons_succ List.getElem?_nil Option.getD_some Option.getD_none tupOf List.map_cons List.map_nil Option.map_some Option.map_none List.nil_append List.cons_append List.append_nil Nat.mul_one Int.toNat_natCast Nat.zero_add
--what a store into a cell of two leaves
attribute [local go_sem_proc] Nat.reduceEqDiff Nat.reduceAdd Int.reduceToNat
attribute [local go_sem_proc ↓] reduceIte
attribute [local go_sem] Bool.false_eq_true
section
theorem Eng.lee2 {R u:Nat} {T:TypeId} {a b:AV} {h g:H} (hr:h.rows R=some ⟨some T,2,[a,b]⟩) (hl:H.lee R h g):∀{d e:Nat},Eng d h e u→Eng d g e u
 |0,_,he=>he
 |_+1,e,⟨r,e',h1,h2,h3⟩=>⟨r,e',hl.2 _ _ (by
   rintro rfl
   rw[hr] at h1
   injection h1 with h1
   rw[←h1] at h2
   simp at h2) h1,h2,Eng.lee2 hr hl h3⟩
theorem le_over {u:Nat} {a b c:H} (hw:a.wf) (h1:a.le b) (hu:a.next≤u) (h2:H.lee u b c):a.le c:=
 ⟨Nat.le_trans h1.1 h2.1,fun i r e=>h2.2 i r (by have:=H.row_lt hw e;omega) (h1.2 i r e)⟩
section
variable {h:H} {K:AV→H→Prop}
theorem zrMul' {a b:AV} {z w:Int} (ha:Zr h a z) (hb:Zr h b w) (hx:Big z.natAbs) (hy:Big w.natAbs) (hk:∀r h',h'.wf→h.le h'→Zr h' r (z*w)→K r h'):ACalls Tryz.prog 42 [a,b] h K:=by
 obtain⟨u,rfl,n1⟩:=zr_open ha
 obtain⟨v,rfl,n2⟩:=zr_open hb
 refine zrMul_calls n1 n2 hx hy fun r h' hw hl hr=> ?_
 rw[sg_self,sg_self] at hr
 exact hk r h' hw hl hr
theorem zrTrunc' {a b:AV} {z w:Int} (ha:Zr h a z) (hb:Zr h b w) (hx:Big z.natAbs) (hy:Big w.natAbs) (h0:w≠0) (hk:∀q r h',h'.wf→h.le h'→Zr h' q (z.tdiv w)→Zr h' r (z.tmod w)→K (.tup [q,r]) h'):ACalls Tryz.prog 59 [a,b] h K:=by
 obtain⟨u,rfl,n1⟩:=zr_open ha
 obtain⟨v,rfl,n2⟩:=zr_open hb
 refine zrTrunc_calls n1 n2 hx hy (by omega) fun q r h' hw hl hq hr=> ?_
 rw[sg_self,sg_self] at hq hr
 exact hk q r h' hw hl hq hr
theorem zrFloor' {a b:AV} {z w:Int} (ha:Zr h a z) (hb:Zr h b w) (hx:Big z.natAbs) (hy:Big w.natAbs) (h0:w≠0) (hk:∀q r h',h'.wf→h.le h'→Zr h' q (floQ z w)→Zr h' r (floR z w)→K (.tup [q,r]) h'):ACalls Tryz.prog 60 [a,b] h K:=by
 obtain⟨u,rfl,n1⟩:=zr_open ha
 obtain⟨v,rfl,n2⟩:=zr_open hb
 refine zrFloor_calls n1 n2 hx hy (by omega) fun q r h' hw hl hq hr=> ?_
 rw[sg_self,sg_self] at hq hr
 exact hk q r h' hw hl hq hr
theorem zrEuclid' {a b:AV} {z w:Int} (ha:Zr h a z) (hb:Zr h b w) (hx:Big z.natAbs) (hy:Big w.natAbs) (h0:w≠0) (hk:∀q r h',h'.wf→h.le h'→Zr h' q (eucQ z w)→Zr h' r (eucR z w)→K (.tup [q,r]) h'):ACalls Tryz.prog 61 [a,b] h K:=by
 obtain⟨u,rfl,n1⟩:=zr_open ha
 obtain⟨v,rfl,n2⟩:=zr_open hb
 refine zrEuclid_calls n1 n2 hx hy (by omega) fun q r h' hw hl hq hr=> ?_
 rw[sg_self,sg_self] at hq hr
 exact hk q r h' hw hl hq hr
theorem zrZero' {a:AV} {z:Int} (ha:Zr h a z) (hk:∀h',h'.wf→h.le h'→K (.bool (decide (z=0))) h'):ACalls Tryz.prog 51 [a] h K:=by
 obtain⟨u,rfl,n1⟩:=zr_open ha
 refine zrZero_calls n1 fun h' hw hl=> ?_
 rw[abs_zero]
 exact hk h' hw hl
theorem Zf.zn' {c:Nat} {v:AV} {z:Int} (hv:Zf c h v z):∃w b,v= .agg [w, .bool b]∧w.one=true:=by
 obtain⟨w,b,x,rfl,h1,_⟩:=hv
 exact⟨w,b,rfl,h1.one⟩
theorem wakes18_calls (hk:∀h',h'.wf→h.le h'→K (.bool true) h'):ACalls Tryz.prog 44 [] h K:=by
 refine in_law18_wakes (by simp) fun hw=> ?_
 unfold c_law18_wakes
 simp only[go_sem]
 refine nuNew_calls (t:=⟨0,0,0,0,0,0,0,0,0,0,0⟩) fun e u h1 hw1 hl1 hn1 hue he ht=> ?_
 simp only[go_sem,Option.isNone,Bool.false_bne]
 refine⟨trivial, ?_⟩
 refine zOf_calls (n:= -7) (by decide) (by decide) fun v1 h2 hw2 hl2 hv1=> ?_
 obtain⟨w1,rfl,n1⟩:=zf_open hv1
 simp only[go_sem]
 refine zOf_calls (n:=2) (by decide) (by decide) fun v2 h3 hw3 hl3 hv2=> ?_
 obtain⟨w2,rfl,n2⟩:=zf_open hv2
 have l13:=H.le_trans hl2 hl3
 have d1:wlen (Int.natAbs (-7))≤1:=by decide
 have d2:wlen (Int.natAbs 2)≤1:=by decide
 simp only[go_sem]
 refine zFloor_calls (clamp_ok _) (he.mono l13) (ht.mono l13) ((n1.mono hl3).nn (wbig d1 (by omega))) (n2.nn (wbig d2 (by omega))) (by omega) (by omega) (by omega) (fun h0=>absurd h0 (by decide)) fun _ q r h4 m4 dp4 hw4 hl4 ht4 hq hr=> ?_
 have l14:=le_over hw (H.le_trans hl1 l13) hn1 hl4
 rw[sg_self,sg_self,show floQ (-7) 2= -4 by decide] at hq
 rw[sg_self,sg_self,show floR (-7) 2=1 by decide] at hr
 obtain⟨w3,rfl,n3⟩:=zf_open hq
 obtain⟨w4,rfl,n4⟩:=zf_open hr
 simp only[go_sem]
 generalize hh:(h4.new ⟨some 27,_,_⟩).new ⟨some 27,_,_⟩=h5
 simp only[List.length_cons,List.length_nil,Nat.zero_add,Nat.reduceAdd] at hh
 obtain⟨hl5,hw5,hn5,r1,r2⟩:=new2 hw4 hh
 have hR:(h4.new ⟨some 27,2,[.sl none 0 0 none, .bool false]⟩).next=h4.next+1:=rfl
 simp only[List.length_cons,List.length_nil,Nat.zero_add,Nat.reduceAdd,hR]
 have l05:=H.le_trans l14 hl5
 have hb4:=l14.1
 refine⟨by trivial,all2 n3.one,put2 hw hw5 l05 (by omega) r1 rfl fun g1 hwg1 hlg1 _ r1n e1=> ?_⟩
 have hq:=(hq.mono hl5).lee2 r1 e1
 have hr:=(hr.mono hl5).lee2 r1 e1
 have r2:=e1.2 _ _ (by omega) r2
 simp only[go_sem]
 refine⟨by trivial,all2 n4.one,put2 hw hwg1 hlg1 (by omega) r2 rfl fun g2' hwg2 hlg2 _ r2n e2=> ?_⟩
 have hq:=hq.lee2 r2 e2
 have hr:=hr.lee2 r2 e2
 have r1n:=e2.2 _ _ (by omega) r1n
 simp only[go_sem,show((0:Int)==0)=true from rfl,(g2 r1n).2.2]
 refine zrSmall_calls (n:= -4) (by decide) (by decide) fun o g3 hwg3 hl3 ho=> ?_
 have r1n:=hl3.2 _ _ r1n
 have r2n:=hl3.2 _ _ r2n
 simp only[go_sem,(g2 r1n).2.2]
 refine⟨by simp, ?_⟩
 refine same18_calls ho (hq.mono hl3) (Big.w1 (by decide)) fun g4 hwg4 hl4=> ?_
 have r1n:=hl4.2 _ _ r1n
 have r2n:=hl4.2 _ _ r2n
 simp only[go_sem,(g2 r2n).2.2]
 refine zrSmall_calls (n:=1) (by decide) (by decide) fun o g5 hwg5 hl5 ho=> ?_
 have r1n:=hl5.2 _ _ r1n
 have r2n:=hl5.2 _ _ r2n
 simp only[go_sem,(g2 r2n).2.2]
 refine⟨by simp, ?_⟩
 refine same18_calls ho (hr.mono (H.le_trans hl3 (H.le_trans hl4 hl5))) (Big.w1 (by decide)) fun g6 hwg6 hl6=> ?_
 simp only[go_sem]
 exact fun hw'=>hk _ hw' (H.le_trans hlg2 (H.le_trans hl3 (H.le_trans hl4 (H.le_trans hl5 hl6))))
end
section
variable {t:Tb} {wa wb:AV} {ba bb:Bool} {xs ys:List Nat} {h:H} {K:AV→H→Prop}
theorem quo_big {x y:Nat} (wx:wlen x≤20) (wy:wlen y≤20) (hy0:0<y):Big ((sg ba x).tdiv (sg bb y)).natAbs∧Big ((sg ba x).tmod (sg bb y)).natAbs∧Big (floQ (sg ba x) (sg bb y)).natAbs∧Big (floR (sg ba x) (sg bb y)).natAbs∧Big (eucQ (sg ba x) (sg bb y)).natAbs∧Big (eucR (sg ba x) (sg bb y)).natAbs:=by
 have hs:Big (x+y+1):=by
  have h1:=wlen_le.1 wx
  have h2:=wlen_le.1 wy
  refine lt_bigW (k:=21) ?_ (by omega)
  have h3:18446744073709551616^21=18446744073709551616^20*18446744073709551616:=Nat.pow_succ ..
  omega
 have h1:((sg ba x).tdiv (sg bb y)).natAbs≤x:=by rw[sg_tdiv,sg_abs];exact Nat.div_le_self _ _
 have h2:((sg ba x).tmod (sg bb y)).natAbs≤x:=by rw[sg_tmod,sg_abs];exact Nat.mod_le _ _
 have h3:(sg bb y).natAbs=y:=sg_abs _ _
 unfold floQ floR eucQ eucR
 generalize (sg ba x).tdiv (sg bb y)=q at*
 generalize (sg ba x).tmod (sg bb y)=r at*
 generalize sg bb y=s at*
 refine⟨hs.le (by omega),hs.le (by omega),hs.le ?_,hs.le ?_,hs.le ?_,hs.le ?_⟩<;>(repeat' split)<;>omega
theorem NumTimes_law (ha:IsN h wa xs) (hd:Dig xs) (hb:IsN h wb ys) (he:Dig ys) (hk:∀h',h'.wf→K (.bool true) h'):ACalls Tryz.prog 6 [t.av, .agg [wa, .bool ba], .agg [wb, .bool bb]] h K:=by
 refine in_law18_NumTimes (by simp) fun hw=> ?_
 unfold c_law18_NumTimes
 simp only[go_sem,av_held,av_cells,cells_len,true_and]
 simp only[AV.cells,List.length_cons,List.length_nil,Nat.zero_add,Nat.reduceAdd]
 refine⟨rfl,rfl, ?_⟩
 have hlT:=H.le_new hw (H.le_refl h) ⟨some 23,11,t.cells⟩
 have hwT:=H.wf_new hw ⟨some 23,11,t.cells⟩
 have r0:=H.rows_new h ⟨some 23,11,t.cells⟩
 have hnT:(h.new ⟨some 23,11,t.cells⟩).next=h.next+1:=rfl
 generalize h.new ⟨some 23,11,t.cells⟩=hT at*
 generalize hh:(hT.new ⟨some 27,2,_⟩).new ⟨some 27,2,_⟩=h1
 obtain⟨hl1,hw1,hn1,r1,r2⟩:=new2 hwT hh
 have hR:(hT.new ⟨some 27,2,[wa, .bool ba]⟩).next=hT.next+1:=rfl
 clear hh
 have r0:=hl1.2 _ _ r0
 have l01:=H.le_trans hlT hl1
 simp only[go_sem,hR,(g2 r1).2.2]
 refine of18_calls (ha.mono l01) hd fun w1 ux h2 hw2 hl2 hca hrx=> ?_
 have hone1:w1.one=true:=by obtain⟨_,_,_,rfl,_⟩:=hca;rfl
 have nx:=IsN.nn hca (Dig.take hd 20) (by rw[List.length_take];omega)
 have wx:wlen (val 18446744073709551616 (xs.take 20))≤20:=Nat.le_trans (wlen_len (Dig.take hd 20)) (by rw[List.length_take];omega)
 generalize val 18446744073709551616 (xs.take 20)=x at*
 obtain⟨rxa,rxb,rfl,ox1,ox2⟩:=hrx.two
 have r0:=hl2.2 _ _ r0
 have r1:=hl2.2 _ _ r1
 have r2:=hl2.2 _ _ r2
 have l02:=H.le_trans l01 hl2
 simp only[go_sem]
 have r3:=H.rows_new h2 ⟨some 38,2,[.sl none 0 0 none, .bool false]⟩
 have hl3:=H.le_new hw2 (H.le_refl h2) ⟨some 38,2,[.sl none 0 0 none, .bool false]⟩
 have hw3:=H.wf_new hw2 ⟨some 38,2,[.sl none 0 0 none, .bool false]⟩
 simp only[List.length_cons,List.length_nil,Nat.zero_add,Nat.reduceAdd]
 generalize hR3:h2.next=R3 at*
 generalize h2.new ⟨some 38,2,[.sl none 0 0 none, .bool false]⟩=h3 at*
 have r0:=hl3.2 _ _ r0
 have r1:=hl3.2 _ _ r1
 have r2:=hl3.2 _ _ r2
 have l03:=H.le_trans l02 hl3
 have nx:=nx.mono hl3
 have hrx:=hrx.mono hl3
 have hca:=hca.mono hl3
 have hr1:hT.next+2≤R3:=by have:=hl2.1;omega
 refine⟨by trivial,all2 hone1,put2 hw hw3 l03 (by omega) r1 rfl fun g1 hwg1 hlg1 hg1 r1n e1=> ?_⟩
 have nx:=nx.lee2 r1 e1
 have hrx:=hrx.lee2 r1 e1
 have hca:=hca.lee2 r1 e1
 have r0:=e1.2 _ _ (by omega) r0
 have r2:=e1.2 _ _ (by omega) r2
 have r3:=e1.2 _ _ (by omega) r3
 have r1:=r1n
 simp only[go_sem]
 refine⟨by trivial,all22 ox1 ox2,put2 hw hwg1 hlg1 (by omega) r3 rfl fun g2' hwg2 hlg2 hg2 r3n e2=> ?_⟩
 have nx:=nx.lee2 r3 e2
 have hrx:=hrx.lee2 r3 e2
 have hca:=hca.lee2 r3 e2
 have r0:=e2.2 _ _ (by omega) r0
 have r1:=e2.2 _ _ (by omega) r1
 have r2:=e2.2 _ _ (by omega) r2
 have r3:=r3n
 have hbR:R3<g2'.next:=H.row_lt hwg2 r3
 clear hl1 hl2 hl3 e1 e2 r1n r3n hg1 hg2 hlg1 l01 l02 l03
 simp only[go_sem,(g2 r2).2.2]
 refine of18_calls (hb.mono hlg2) he fun w2 uy h4 hw4 hl4 hcb hry=> ?_
 have hone2:w2.one=true:=by obtain⟨_,_,_,rfl,_⟩:=hcb;rfl
 have ny:=IsN.nn hcb (Dig.take he 20) (by rw[List.length_take];omega)
 have wy:wlen (val 18446744073709551616 (ys.take 20))≤20:=Nat.le_trans (wlen_len (Dig.take he 20)) (by rw[List.length_take];omega)
 generalize val 18446744073709551616 (ys.take 20)=y at*
 obtain⟨rya,ryb,rfl,oy1,oy2⟩:=hry.two
 have r0:=hl4.2 _ _ r0
 have r1:=hl4.2 _ _ r1
 have r2:=hl4.2 _ _ r2
 have r3:=hl4.2 _ _ r3
 have nx:=nx.mono hl4
 have hrx:=hrx.mono hl4
 have hca:=hca.mono hl4
 have l04:=H.le_trans hlg2 hl4
 simp only[go_sem]
 have r4:=H.rows_new h4 ⟨some 38,2,[.sl none 0 0 none, .bool false]⟩
 have hl5:=H.le_new hw4 (H.le_refl h4) ⟨some 38,2,[.sl none 0 0 none, .bool false]⟩
 have hw5:=H.wf_new hw4 ⟨some 38,2,[.sl none 0 0 none, .bool false]⟩
 simp only[List.length_cons,List.length_nil,Nat.zero_add,Nat.reduceAdd]
 generalize hR4:h4.next=R4 at*
 generalize h4.new ⟨some 38,2,[.sl none 0 0 none, .bool false]⟩=h5 at*
 have r0:=hl5.2 _ _ r0
 have r1:=hl5.2 _ _ r1
 have r2:=hl5.2 _ _ r2
 have r3:=hl5.2 _ _ r3
 have l05:=H.le_trans l04 hl5
 have nx:=nx.mono hl5
 have hrx:=hrx.mono hl5
 have hca:=hca.mono hl5
 have ny:=ny.mono hl5
 have hry:=hry.mono hl5
 have hcb:=hcb.mono hl5
 have hr2:R3<R4:=by have:=hl4.1;omega
 refine⟨by trivial,all2 hone2,put2 hw hw5 l05 (by omega) r2 rfl fun g3 hwg3 hlg3 hg3 r2n e3=> ?_⟩
 have nx:=nx.lee2 r2 e3
 have hrx:=hrx.lee2 r2 e3
 have hca:=hca.lee2 r2 e3
 have ny:=ny.lee2 r2 e3
 have hry:=hry.lee2 r2 e3
 have hcb:=hcb.lee2 r2 e3
 have r0:=e3.2 _ _ (by omega) r0
 have r1:=e3.2 _ _ (by omega) r1
 have r3:=e3.2 _ _ (by omega) r3
 have r4:=e3.2 _ _ (by omega) r4
 have r2:=r2n
 simp only[go_sem]
 refine⟨by trivial,all22 oy1 oy2,put2 hw hwg3 hlg3 (by omega) r4 rfl fun g4 hwg4 hlg4 hg4 r4n e4=> ?_⟩
 have nx:=nx.lee2 r4 e4
 have hrx:=hrx.lee2 r4 e4
 have hca:=hca.lee2 r4 e4
 have ny:=ny.lee2 r4 e4
 have hry:=hry.lee2 r4 e4
 have hcb:=hcb.lee2 r4 e4
 have r0:=e4.2 _ _ (by omega) r0
 have r1:=e4.2 _ _ (by omega) r1
 have r2:=e4.2 _ _ (by omega) r2
 have r3:=e4.2 _ _ (by omega) r3
 have r4:=r4n
 have hbR4:R4<g4.next:=H.row_lt hwg4 r4
 clear hl4 hl5 e3 e4 r2n r4n hg3 hg4 l04 l05
 have bx:=wbig wx (by omega)
 have by_:=wbig wy (by omega)
 simp only[go_sem,gsT r0]
 refine nuNew_calls fun e u g5 hwg5 hl6 hue0 hue hE ht=> ?_
 have r0:=hl6.2 _ _ r0
 have r1:=hl6.2 _ _ r1
 have r2:=hl6.2 _ _ r2
 have r3:=hl6.2 _ _ r3
 have r4:=hl6.2 _ _ r4
 replace nx:=nx.mono hl6
 replace hrx:=hrx.mono hl6
 replace hca:=hca.mono hl6
 replace ny:=ny.mono hl6
 replace hry:=hry.mono hl6
 replace hcb:=hcb.mono hl6
 have hlg5:=H.le_trans hlg4 hl6

 have hu0:h.next≤u:=by have:=hlg4.1;omega
 clear hca hcb
 simp only[go_sem,(g2 r3).2.2,(g2 r4).2.2,(g2 r1).2.2,(g2 r2).2.2,Option.isNone,Bool.false_bne,Bool.not_false]
 refine zrMul' hrx hry (by rw[sg_abs];exact bx) (by rw[sg_abs];exact by_) fun pr h6 hw6 hl7 hpr=> ?_
 have r0:=hl7.2 _ _ r0
 have r1:=hl7.2 _ _ r1
 have r2:=hl7.2 _ _ r2
 have r3:=hl7.2 _ _ r3
 have r4:=hl7.2 _ _ r4
 replace nx:=nx.mono hl7
 replace hrx:=hrx.mono hl7
 replace ny:=ny.mono hl7
 replace hry:=hry.mono hl7
 have ht:=ht.mono hl7
 have hE:=hE.mono hl7
 have l21:=H.le_trans hlg5 hl7
 simp only[go_sem,(g2 r1).2.2,(g2 r2).2.2]
 refine⟨by simp, ?_⟩
 refine zTimes_calls hE ht nx ny (by omega) (by omega) (by omega) fun p h7 m7 dp7 hw7 hl8 ht8 hp=> ?_
 have r0:=hl8.2 _ _ (by omega) r0
 have r1:=hl8.2 _ _ (by omega) r1
 have r2:=hl8.2 _ _ (by omega) r2
 have r3:=hl8.2 _ _ (by omega) r3
 have r4:=hl8.2 _ _ (by omega) r4
 replace nx:=nx.monoE ht hl8
 replace hrx:=hrx.monoE ht hl8
 replace ny:=ny.monoE ht hl8
 replace hry:=hry.monoE ht hl8
 replace hpr:=hpr.monoE ht hl8
 have l22:=le_over hw l21 hu0 hl8
 have hE:=hE.monoE ht hl8
 have ht:=ht8
 have hU22:=H.row_lt hw7 ht
 simp only[go_sem]
 refine same18_calls hpr hp (by rw[sg_mul,sg_abs];exact mul_big wx wy (by omega)) fun h8 hw8 hl9=> ?_
 simp only[go_sem]
 refine wakes18_calls fun h9 hw9 hl10=> ?_
 simp only[go_sem]
 exact fun hw'=>hk _ hw'
set_option maxHeartbeats 2000000 in
theorem NumDivs_law (ha:IsN h wa xs) (hd:Dig xs) (hb:IsN h wb ys) (he:Dig ys) (hk:∀h',h'.wf→K (.bool true) h'):ACalls Tryz.prog 9 [t.av, .agg [wa, .bool ba], .agg [wb, .bool bb]] h K:=by
 refine in_law18_NumDivs (by simp) fun hw=> ?_
 unfold c_law18_NumDivs
 simp only[go_sem,av_held,av_cells,cells_len,true_and]
 simp only[AV.cells,List.length_cons,List.length_nil,Nat.zero_add,Nat.reduceAdd]
 refine⟨rfl,rfl, ?_⟩
 have hlT:=H.le_new hw (H.le_refl h) ⟨some 23,11,t.cells⟩
 have hwT:=H.wf_new hw ⟨some 23,11,t.cells⟩
 have r0:=H.rows_new h ⟨some 23,11,t.cells⟩
 have hnT:(h.new ⟨some 23,11,t.cells⟩).next=h.next+1:=rfl
 generalize h.new ⟨some 23,11,t.cells⟩=hT at*
 generalize hh:(hT.new ⟨some 27,2,_⟩).new ⟨some 27,2,_⟩=h1
 obtain⟨hl1,hw1,hn1,r1,r2⟩:=new2 hwT hh
 have hR:(hT.new ⟨some 27,2,[wa, .bool ba]⟩).next=hT.next+1:=rfl
 clear hh
 have r0:=hl1.2 _ _ r0
 have l01:=H.le_trans hlT hl1
 simp only[go_sem,hR,(g2 r1).2.2]
 refine of18_calls (ha.mono l01) hd fun w1 ux h2 hw2 hl2 hca hrx=> ?_
 have hone1:w1.one=true:=by obtain⟨_,_,_,rfl,_⟩:=hca;rfl
 have nx:=IsN.nn hca (Dig.take hd 20) (by rw[List.length_take];omega)
 have wx:wlen (val 18446744073709551616 (xs.take 20))≤20:=Nat.le_trans (wlen_len (Dig.take hd 20)) (by rw[List.length_take];omega)
 generalize val 18446744073709551616 (xs.take 20)=x at*
 obtain⟨rxa,rxb,rfl,ox1,ox2⟩:=hrx.two
 have r0:=hl2.2 _ _ r0
 have r1:=hl2.2 _ _ r1
 have r2:=hl2.2 _ _ r2
 have l02:=H.le_trans l01 hl2
 simp only[go_sem]
 have r3:=H.rows_new h2 ⟨some 38,2,[.sl none 0 0 none, .bool false]⟩
 have hl3:=H.le_new hw2 (H.le_refl h2) ⟨some 38,2,[.sl none 0 0 none, .bool false]⟩
 have hw3:=H.wf_new hw2 ⟨some 38,2,[.sl none 0 0 none, .bool false]⟩
 simp only[List.length_cons,List.length_nil,Nat.zero_add,Nat.reduceAdd]
 generalize hR3:h2.next=R3 at*
 generalize h2.new ⟨some 38,2,[.sl none 0 0 none, .bool false]⟩=h3 at*
 have r0:=hl3.2 _ _ r0
 have r1:=hl3.2 _ _ r1
 have r2:=hl3.2 _ _ r2
 have l03:=H.le_trans l02 hl3
 have nx:=nx.mono hl3
 have hrx:=hrx.mono hl3
 have hca:=hca.mono hl3
 have hr1:hT.next+2≤R3:=by have:=hl2.1;omega
 refine⟨by trivial,all2 hone1,put2 hw hw3 l03 (by omega) r1 rfl fun g1 hwg1 hlg1 hg1 r1n e1=> ?_⟩
 have nx:=nx.lee2 r1 e1
 have hrx:=hrx.lee2 r1 e1
 have hca:=hca.lee2 r1 e1
 have r0:=e1.2 _ _ (by omega) r0
 have r2:=e1.2 _ _ (by omega) r2
 have r3:=e1.2 _ _ (by omega) r3
 have r1:=r1n
 simp only[go_sem]
 refine⟨by trivial,all22 ox1 ox2,put2 hw hwg1 hlg1 (by omega) r3 rfl fun g2' hwg2 hlg2 hg2 r3n e2=> ?_⟩
 have nx:=nx.lee2 r3 e2
 have hrx:=hrx.lee2 r3 e2
 have hca:=hca.lee2 r3 e2
 have r0:=e2.2 _ _ (by omega) r0
 have r1:=e2.2 _ _ (by omega) r1
 have r2:=e2.2 _ _ (by omega) r2
 have r3:=r3n
 have hbR:R3<g2'.next:=H.row_lt hwg2 r3
 clear hl1 hl2 hl3 e1 e2 r1n r3n hg1 hg2 hlg1 l01 l02 l03
 simp only[go_sem,(g2 r2).2.2]
 refine of18_calls (hb.mono hlg2) he fun w2 uy h4 hw4 hl4 hcb hry=> ?_
 have hone2:w2.one=true:=by obtain⟨_,_,_,rfl,_⟩:=hcb;rfl
 have ny:=IsN.nn hcb (Dig.take he 20) (by rw[List.length_take];omega)
 have wy:wlen (val 18446744073709551616 (ys.take 20))≤20:=Nat.le_trans (wlen_len (Dig.take he 20)) (by rw[List.length_take];omega)
 generalize val 18446744073709551616 (ys.take 20)=y at*
 obtain⟨rya,ryb,rfl,oy1,oy2⟩:=hry.two
 have r0:=hl4.2 _ _ r0
 have r1:=hl4.2 _ _ r1
 have r2:=hl4.2 _ _ r2
 have r3:=hl4.2 _ _ r3
 have nx:=nx.mono hl4
 have hrx:=hrx.mono hl4
 have hca:=hca.mono hl4
 have l04:=H.le_trans hlg2 hl4
 simp only[go_sem]
 have r4:=H.rows_new h4 ⟨some 38,2,[.sl none 0 0 none, .bool false]⟩
 have hl5:=H.le_new hw4 (H.le_refl h4) ⟨some 38,2,[.sl none 0 0 none, .bool false]⟩
 have hw5:=H.wf_new hw4 ⟨some 38,2,[.sl none 0 0 none, .bool false]⟩
 simp only[List.length_cons,List.length_nil,Nat.zero_add,Nat.reduceAdd]
 generalize hR4:h4.next=R4 at*
 generalize h4.new ⟨some 38,2,[.sl none 0 0 none, .bool false]⟩=h5 at*
 have r0:=hl5.2 _ _ r0
 have r1:=hl5.2 _ _ r1
 have r2:=hl5.2 _ _ r2
 have r3:=hl5.2 _ _ r3
 have l05:=H.le_trans l04 hl5
 have nx:=nx.mono hl5
 have hrx:=hrx.mono hl5
 have hca:=hca.mono hl5
 have ny:=ny.mono hl5
 have hry:=hry.mono hl5
 have hcb:=hcb.mono hl5
 have hr2:R3<R4:=by have:=hl4.1;omega
 refine⟨by trivial,all2 hone2,put2 hw hw5 l05 (by omega) r2 rfl fun g3 hwg3 hlg3 hg3 r2n e3=> ?_⟩
 have nx:=nx.lee2 r2 e3
 have hrx:=hrx.lee2 r2 e3
 have hca:=hca.lee2 r2 e3
 have ny:=ny.lee2 r2 e3
 have hry:=hry.lee2 r2 e3
 have hcb:=hcb.lee2 r2 e3
 have r0:=e3.2 _ _ (by omega) r0
 have r1:=e3.2 _ _ (by omega) r1
 have r3:=e3.2 _ _ (by omega) r3
 have r4:=e3.2 _ _ (by omega) r4
 have r2:=r2n
 simp only[go_sem]
 refine⟨by trivial,all22 oy1 oy2,put2 hw hwg3 hlg3 (by omega) r4 rfl fun g4 hwg4 hlg4 hg4 r4n e4=> ?_⟩
 have nx:=nx.lee2 r4 e4
 have hrx:=hrx.lee2 r4 e4
 have hca:=hca.lee2 r4 e4
 have ny:=ny.lee2 r4 e4
 have hry:=hry.lee2 r4 e4
 have hcb:=hcb.lee2 r4 e4
 have r0:=e4.2 _ _ (by omega) r0
 have r1:=e4.2 _ _ (by omega) r1
 have r2:=e4.2 _ _ (by omega) r2
 have r3:=e4.2 _ _ (by omega) r3
 have r4:=r4n
 have hbR4:R4<g4.next:=H.row_lt hwg4 r4
 clear hl4 hl5 e3 e4 r2n r4n hg3 hg4 l04 l05
 have bx:=wbig wx (by omega)
 have by_:=wbig wy (by omega)
 simp only[go_sem,gsT r0]
 refine nuNew_calls fun e u g5 hwg5 hl6 hue0 hue hE ht=> ?_
 have r0:=hl6.2 _ _ r0
 have r1:=hl6.2 _ _ r1
 have r2:=hl6.2 _ _ r2
 have r3:=hl6.2 _ _ r3
 have r4:=hl6.2 _ _ r4
 replace nx:=nx.mono hl6
 replace hrx:=hrx.mono hl6
 replace hca:=hca.mono hl6
 replace ny:=ny.mono hl6
 replace hry:=hry.mono hl6
 replace hcb:=hcb.mono hl6
 have hlg5:=H.le_trans hlg4 hl6

 have hu0:h.next≤u:=by have:=hlg4.1;omega
 clear hca hcb
 simp only[go_sem,Option.isNone,Bool.false_bne]
 rcases Nat.eq_zero_or_pos y with hy0|hy0
 ·simp only[go_sem,(g2 r1).2.2,(g2 r2).2.2]
  have hV21:=H.row_lt hwg5 ht
  refine zTrunc_calls (clamp_ok _) hE ht nx ny (by omega) (by omega) (by omega) (fun _ h21 hw21 hlB=> ?_) fun h0=>absurd h0 (by omega)
  have r0:=hlB.2 _ _ r0
  have r1:=hlB.2 _ _ r1
  have r2:=hlB.2 _ _ r2
  have r3:=hlB.2 _ _ r3
  have r4:=hlB.2 _ _ r4
  replace nx:=nx.mono hlB
  replace hrx:=hrx.mono hlB
  replace ny:=ny.mono hlB
  replace hry:=hry.mono hlB
  have ht:=ht.mono hlB
  have hE:=hE.mono hlB
  have l22:=H.le_trans hlg5 hlB
  clear hlB
  simp only[go_sem]
  have hN23:=l22.1
  have hU23:=H.row_lt hw21 ht
  have hP23:=H.row_lt hw21 r4
  generalize hhA:(h21.new ⟨some 27,_,_⟩).new ⟨some 27,_,_⟩=h23
  simp only[List.length_cons,List.length_nil,Nat.zero_add,Nat.reduceAdd] at hhA
  obtain⟨hlA,hw23,hnA,ra23,rb23⟩:=new2 hw21 hhA
  clear hhA
  have hR23:(h21.new ⟨some 27,2,[.sl none 0 0 none, .bool false]⟩).next=h21.next+1:=rfl
  simp only[List.length_cons,List.length_nil,Nat.zero_add,Nat.reduceAdd,hR23]
  generalize hS23:h21.next=R23 at*
  have r0:=hlA.2 _ _ r0
  have r1:=hlA.2 _ _ r1
  have r2:=hlA.2 _ _ r2
  have r3:=hlA.2 _ _ r3
  have r4:=hlA.2 _ _ r4
  replace nx:=nx.mono hlA
  replace hrx:=hrx.mono hlA
  replace ny:=ny.mono hlA
  replace hry:=hry.mono hlA
  have ht:=ht.mono hlA
  have hE:=hE.mono hlA
  have l24:=H.le_trans l22 hlA
  clear hlA
  refine⟨by trivial,by rfl,put2 hw hw23 l24 (by omega) ra23 rfl fun h25 hw25 l25 hg25 rn e1=> ?_⟩
  have nx:=nx.lee2 ra23 e1
  have hrx:=hrx.lee2 ra23 e1
  have ny:=ny.lee2 ra23 e1
  have hry:=hry.lee2 ra23 e1
  have r0:=e1.2 _ _ (by omega) r0
  have r1:=e1.2 _ _ (by omega) r1
  have r2:=e1.2 _ _ (by omega) r2
  have r3:=e1.2 _ _ (by omega) r3
  have r4:=e1.2 _ _ (by omega) r4
  have rb23:=e1.2 _ _ (by omega) rb23
  have hE:=Eng.lee2 ra23 e1 hE
  have ht:=ht.lee2 e1 (by omega)
  have ra23:=rn
  clear rn e1 hg25
  simp only[go_sem]
  refine⟨by trivial,by rfl,put2 hw hw25 l25 (by omega) rb23 rfl fun h26 hw26 l26 hg26 rn e1=> ?_⟩
  have nx:=nx.lee2 rb23 e1
  have hrx:=hrx.lee2 rb23 e1
  have ny:=ny.lee2 rb23 e1
  have hry:=hry.lee2 rb23 e1
  have r0:=e1.2 _ _ (by omega) r0
  have r1:=e1.2 _ _ (by omega) r1
  have r2:=e1.2 _ _ (by omega) r2
  have r3:=e1.2 _ _ (by omega) r3
  have r4:=e1.2 _ _ (by omega) r4
  have ra23:=e1.2 _ _ (by omega) ra23
  have hE:=Eng.lee2 rb23 e1 hE
  have ht:=ht.lee2 e1 (by omega)
  have rb23:=rn
  clear rn e1 hg26
  simp only[go_sem,(g2 r1).2.2,(g2 r2).2.2]
  have hV27:=H.row_lt hw26 ht
  refine zFloor_calls (clamp_ok _) hE ht nx ny (by omega) (by omega) (by omega) (fun _ h27 hw27 hlB=> ?_) fun h0=>absurd h0 (by omega)
  have r0:=hlB.2 _ _ r0
  have r1:=hlB.2 _ _ r1
  have r2:=hlB.2 _ _ r2
  have r3:=hlB.2 _ _ r3
  have r4:=hlB.2 _ _ r4
  have ra23:=hlB.2 _ _ ra23
  have rb23:=hlB.2 _ _ rb23
  replace nx:=nx.mono hlB
  replace hrx:=hrx.mono hlB
  replace ny:=ny.mono hlB
  replace hry:=hry.mono hlB
  have ht:=ht.mono hlB
  have hE:=hE.mono hlB
  have l28:=H.le_trans l26 hlB
  clear hlB
  simp only[go_sem]
  have hN29:=l28.1
  have hU29:=H.row_lt hw27 ht
  have hP29:=H.row_lt hw27 rb23
  generalize hhA:(h27.new ⟨some 27,_,_⟩).new ⟨some 27,_,_⟩=h29
  simp only[List.length_cons,List.length_nil,Nat.zero_add,Nat.reduceAdd] at hhA
  obtain⟨hlA,hw29,hnA,ra29,rb29⟩:=new2 hw27 hhA
  clear hhA
  have hR29:(h27.new ⟨some 27,2,[.sl none 0 0 none, .bool false]⟩).next=h27.next+1:=rfl
  simp only[List.length_cons,List.length_nil,Nat.zero_add,Nat.reduceAdd,hR29]
  generalize hS29:h27.next=R29 at*
  have r0:=hlA.2 _ _ r0
  have r1:=hlA.2 _ _ r1
  have r2:=hlA.2 _ _ r2
  have r3:=hlA.2 _ _ r3
  have r4:=hlA.2 _ _ r4
  have ra23:=hlA.2 _ _ ra23
  have rb23:=hlA.2 _ _ rb23
  replace nx:=nx.mono hlA
  replace hrx:=hrx.mono hlA
  replace ny:=ny.mono hlA
  replace hry:=hry.mono hlA
  have ht:=ht.mono hlA
  have hE:=hE.mono hlA
  have l30:=H.le_trans l28 hlA
  clear hlA
  refine⟨by trivial,by rfl,put2 hw hw29 l30 (by omega) ra29 rfl fun h31 hw31 l31 hg31 rn e1=> ?_⟩
  have nx:=nx.lee2 ra29 e1
  have hrx:=hrx.lee2 ra29 e1
  have ny:=ny.lee2 ra29 e1
  have hry:=hry.lee2 ra29 e1
  have r0:=e1.2 _ _ (by omega) r0
  have r1:=e1.2 _ _ (by omega) r1
  have r2:=e1.2 _ _ (by omega) r2
  have r3:=e1.2 _ _ (by omega) r3
  have r4:=e1.2 _ _ (by omega) r4
  have ra23:=e1.2 _ _ (by omega) ra23
  have rb23:=e1.2 _ _ (by omega) rb23
  have rb29:=e1.2 _ _ (by omega) rb29
  have hE:=Eng.lee2 ra29 e1 hE
  have ht:=ht.lee2 e1 (by omega)
  have ra29:=rn
  clear rn e1 hg31
  simp only[go_sem]
  refine⟨by trivial,by rfl,put2 hw hw31 l31 (by omega) rb29 rfl fun h32 hw32 l32 hg32 rn e1=> ?_⟩
  have nx:=nx.lee2 rb29 e1
  have hrx:=hrx.lee2 rb29 e1
  have ny:=ny.lee2 rb29 e1
  have hry:=hry.lee2 rb29 e1
  have r0:=e1.2 _ _ (by omega) r0
  have r1:=e1.2 _ _ (by omega) r1
  have r2:=e1.2 _ _ (by omega) r2
  have r3:=e1.2 _ _ (by omega) r3
  have r4:=e1.2 _ _ (by omega) r4
  have ra23:=e1.2 _ _ (by omega) ra23
  have rb23:=e1.2 _ _ (by omega) rb23
  have ra29:=e1.2 _ _ (by omega) ra29
  have hE:=Eng.lee2 rb29 e1 hE
  have ht:=ht.lee2 e1 (by omega)
  have rb29:=rn
  clear rn e1 hg32
  simp only[go_sem,(g2 r1).2.2,(g2 r2).2.2]
  have hV33:=H.row_lt hw32 ht
  refine zEuclid_calls (clamp_ok _) hE ht nx ny (by omega) (by omega) (by omega) (fun _ h33 hw33 hlB=> ?_) fun h0=>absurd h0 (by omega)
  have r0:=hlB.2 _ _ r0
  have r1:=hlB.2 _ _ r1
  have r2:=hlB.2 _ _ r2
  have r3:=hlB.2 _ _ r3
  have r4:=hlB.2 _ _ r4
  have ra23:=hlB.2 _ _ ra23
  have rb23:=hlB.2 _ _ rb23
  have ra29:=hlB.2 _ _ ra29
  have rb29:=hlB.2 _ _ rb29
  replace nx:=nx.mono hlB
  replace hrx:=hrx.mono hlB
  replace ny:=ny.mono hlB
  replace hry:=hry.mono hlB
  have ht:=ht.mono hlB
  have hE:=hE.mono hlB
  have l34:=H.le_trans l32 hlB
  clear hlB
  simp only[go_sem]
  have hN35:=l34.1
  have hU35:=H.row_lt hw33 ht
  have hP35:=H.row_lt hw33 rb29
  generalize hhA:(h33.new ⟨some 27,_,_⟩).new ⟨some 27,_,_⟩=h35
  simp only[List.length_cons,List.length_nil,Nat.zero_add,Nat.reduceAdd] at hhA
  obtain⟨hlA,hw35,hnA,ra35,rb35⟩:=new2 hw33 hhA
  clear hhA
  have hR35:(h33.new ⟨some 27,2,[.sl none 0 0 none, .bool false]⟩).next=h33.next+1:=rfl
  simp only[List.length_cons,List.length_nil,Nat.zero_add,Nat.reduceAdd,hR35]
  generalize hS35:h33.next=R35 at*
  have r0:=hlA.2 _ _ r0
  have r1:=hlA.2 _ _ r1
  have r2:=hlA.2 _ _ r2
  have r3:=hlA.2 _ _ r3
  have r4:=hlA.2 _ _ r4
  have ra23:=hlA.2 _ _ ra23
  have rb23:=hlA.2 _ _ rb23
  have ra29:=hlA.2 _ _ ra29
  have rb29:=hlA.2 _ _ rb29
  replace nx:=nx.mono hlA
  replace hrx:=hrx.mono hlA
  replace ny:=ny.mono hlA
  replace hry:=hry.mono hlA
  have ht:=ht.mono hlA
  have hE:=hE.mono hlA
  have l36:=H.le_trans l34 hlA
  clear hlA
  refine⟨by trivial,by rfl,put2 hw hw35 l36 (by omega) ra35 rfl fun h37 hw37 l37 hg37 rn e1=> ?_⟩
  have nx:=nx.lee2 ra35 e1
  have hrx:=hrx.lee2 ra35 e1
  have ny:=ny.lee2 ra35 e1
  have hry:=hry.lee2 ra35 e1
  have r0:=e1.2 _ _ (by omega) r0
  have r1:=e1.2 _ _ (by omega) r1
  have r2:=e1.2 _ _ (by omega) r2
  have r3:=e1.2 _ _ (by omega) r3
  have r4:=e1.2 _ _ (by omega) r4
  have ra23:=e1.2 _ _ (by omega) ra23
  have rb23:=e1.2 _ _ (by omega) rb23
  have ra29:=e1.2 _ _ (by omega) ra29
  have rb29:=e1.2 _ _ (by omega) rb29
  have rb35:=e1.2 _ _ (by omega) rb35
  have hE:=Eng.lee2 ra35 e1 hE
  have ht:=ht.lee2 e1 (by omega)
  have ra35:=rn
  clear rn e1 hg37
  simp only[go_sem]
  refine⟨by trivial,by rfl,put2 hw hw37 l37 (by omega) rb35 rfl fun h38 hw38 l38 hg38 rn e1=> ?_⟩
  have nx:=nx.lee2 rb35 e1
  have hrx:=hrx.lee2 rb35 e1
  have ny:=ny.lee2 rb35 e1
  have hry:=hry.lee2 rb35 e1
  have r0:=e1.2 _ _ (by omega) r0
  have r1:=e1.2 _ _ (by omega) r1
  have r2:=e1.2 _ _ (by omega) r2
  have r3:=e1.2 _ _ (by omega) r3
  have r4:=e1.2 _ _ (by omega) r4
  have ra23:=e1.2 _ _ (by omega) ra23
  have rb23:=e1.2 _ _ (by omega) rb23
  have ra29:=e1.2 _ _ (by omega) ra29
  have rb29:=e1.2 _ _ (by omega) rb29
  have ra35:=e1.2 _ _ (by omega) ra35
  have hE:=Eng.lee2 rb35 e1 hE
  have ht:=ht.lee2 e1 (by omega)
  have rb35:=rn
  clear rn e1 hg38
  simp only[go_sem,(g2 r4).2.2]
  refine zrZero' hry fun h6 hw6 hl7=> ?_
  have r0:=hl7.2 _ _ r0
  have r1:=hl7.2 _ _ r1
  have r2:=hl7.2 _ _ r2
  have r3:=hl7.2 _ _ r3
  have r4:=hl7.2 _ _ r4
  have ra23:=hl7.2 _ _ ra23
  have rb23:=hl7.2 _ _ rb23
  have ra29:=hl7.2 _ _ ra29
  have rb29:=hl7.2 _ _ rb29
  have ra35:=hl7.2 _ _ ra35
  have rb35:=hl7.2 _ _ rb35
  replace nx:=nx.mono hl7
  replace hrx:=hrx.mono hl7
  replace ny:=ny.mono hl7
  replace hry:=hry.mono hl7
  have ht:=ht.mono hl7
  have hE:=hE.mono hl7
  have l39:=H.le_trans l38 hl7
  rw[show decide (sg bb y=0)=true from decide_eq_true (sg_eq0.2 hy0)]
  simp only[go_sem,(g2 ra23).1,(g2 ra23).2.1,(g2 rb23).1,(g2 rb23).2.1,(g2 ra29).1,(g2 ra29).2.1,(g2 rb29).1,(g2 rb29).2.1,(g2 ra35).1,(g2 ra35).2.1,(g2 rb35).1,(g2 rb35).2.1,show((2:Int)==2)=true from rfl,show((0:Nat):Int)=0 from rfl,Int.add_zero,show IntKind.i64.wrap 0=0 from rfl,show((0:Int)==0)=true from rfl,Bool.not_false]
  refine wakes18_calls fun h9 hw9 hl10=> ?_
  simp only[go_sem]
  exact fun hw'=>hk _ hw'
 obtain⟨bT1,bT2,bF1,bF2,bE1,bE2⟩:=quo_big (ba:=ba) (bb:=bb) wx wy hy0
 simp only[go_sem,(g2 r1).2.2,(g2 r2).2.2]
 have hV21:=H.row_lt hwg5 ht
 refine zTrunc_calls (clamp_ok _) hE ht nx ny (by omega) (by omega) (by omega) (fun h0=>absurd h0 (by omega)) fun _ qt rt h21 m21 dp21 hw21 hlB htB hqt hrt=> ?_
 have r0:=hlB.2 _ _ (by omega) r0
 have r1:=hlB.2 _ _ (by omega) r1
 have r2:=hlB.2 _ _ (by omega) r2
 have r3:=hlB.2 _ _ (by omega) r3
 have r4:=hlB.2 _ _ (by omega) r4
 replace nx:=nx.monoE ht hlB
 replace hrx:=hrx.monoE ht hlB
 replace ny:=ny.monoE ht hlB
 replace hry:=hry.monoE ht hlB
 have l22:=le_over hw hlg5 hu0 hlB
 have hE:=hE.monoE ht hlB
 have ht:=htB
 have hU22:=H.row_lt hw21 ht
 clear hlB htB
 obtain⟨wqt,cqt,rfl,oqt⟩:=hqt.zn'
 obtain⟨wrt,crt,rfl,ort⟩:=hrt.zn'
 simp only[go_sem]
 have hN23:=l22.1
 have hU23:=H.row_lt hw21 ht
 have hP23:=H.row_lt hw21 r4
 generalize hhA:(h21.new ⟨some 27,_,_⟩).new ⟨some 27,_,_⟩=h23
 simp only[List.length_cons,List.length_nil,Nat.zero_add,Nat.reduceAdd] at hhA
 obtain⟨hlA,hw23,hnA,ra23,rb23⟩:=new2 hw21 hhA
 clear hhA
 have hR23:(h21.new ⟨some 27,2,[.sl none 0 0 none, .bool false]⟩).next=h21.next+1:=rfl
 simp only[List.length_cons,List.length_nil,Nat.zero_add,Nat.reduceAdd,hR23]
 generalize hS23:h21.next=R23 at*
 have r0:=hlA.2 _ _ r0
 have r1:=hlA.2 _ _ r1
 have r2:=hlA.2 _ _ r2
 have r3:=hlA.2 _ _ r3
 have r4:=hlA.2 _ _ r4
 replace nx:=nx.mono hlA
 replace hrx:=hrx.mono hlA
 replace ny:=ny.mono hlA
 replace hry:=hry.mono hlA
 replace hqt:=hqt.mono hlA
 replace hrt:=hrt.mono hlA
 have ht:=ht.mono hlA
 have hE:=hE.mono hlA
 have l24:=H.le_trans l22 hlA
 clear hlA
 refine⟨by trivial,all2 oqt,put2 hw hw23 l24 (by omega) ra23 rfl fun h25 hw25 l25 hg25 rn e1=> ?_⟩
 have nx:=nx.lee2 ra23 e1
 have hrx:=hrx.lee2 ra23 e1
 have ny:=ny.lee2 ra23 e1
 have hry:=hry.lee2 ra23 e1
 have hqt:=hqt.lee2 ra23 e1
 have hrt:=hrt.lee2 ra23 e1
 have r0:=e1.2 _ _ (by omega) r0
 have r1:=e1.2 _ _ (by omega) r1
 have r2:=e1.2 _ _ (by omega) r2
 have r3:=e1.2 _ _ (by omega) r3
 have r4:=e1.2 _ _ (by omega) r4
 have rb23:=e1.2 _ _ (by omega) rb23
 have hE:=Eng.lee2 ra23 e1 hE
 have ht:=ht.lee2 e1 (by omega)
 have ra23:=rn
 clear rn e1 hg25
 simp only[go_sem]
 refine⟨by trivial,all2 ort,put2 hw hw25 l25 (by omega) rb23 rfl fun h26 hw26 l26 hg26 rn e1=> ?_⟩
 have nx:=nx.lee2 rb23 e1
 have hrx:=hrx.lee2 rb23 e1
 have ny:=ny.lee2 rb23 e1
 have hry:=hry.lee2 rb23 e1
 have hqt:=hqt.lee2 rb23 e1
 have hrt:=hrt.lee2 rb23 e1
 have r0:=e1.2 _ _ (by omega) r0
 have r1:=e1.2 _ _ (by omega) r1
 have r2:=e1.2 _ _ (by omega) r2
 have r3:=e1.2 _ _ (by omega) r3
 have r4:=e1.2 _ _ (by omega) r4
 have ra23:=e1.2 _ _ (by omega) ra23
 have hE:=Eng.lee2 rb23 e1 hE
 have ht:=ht.lee2 e1 (by omega)
 have rb23:=rn
 clear rn e1 hg26
 simp only[go_sem,(g2 r1).2.2,(g2 r2).2.2]
 have hV27:=H.row_lt hw26 ht
 refine zFloor_calls (clamp_ok _) hE ht nx ny (by omega) (by omega) (by omega) (fun h0=>absurd h0 (by omega)) fun _ qf rf h27 m27 dp27 hw27 hlB htB hqf hrf=> ?_
 have r0:=hlB.2 _ _ (by omega) r0
 have r1:=hlB.2 _ _ (by omega) r1
 have r2:=hlB.2 _ _ (by omega) r2
 have r3:=hlB.2 _ _ (by omega) r3
 have r4:=hlB.2 _ _ (by omega) r4
 have ra23:=hlB.2 _ _ (by omega) ra23
 have rb23:=hlB.2 _ _ (by omega) rb23
 replace nx:=nx.monoE ht hlB
 replace hrx:=hrx.monoE ht hlB
 replace ny:=ny.monoE ht hlB
 replace hry:=hry.monoE ht hlB
 have hqt:=hqt.monoE (by omega) hlB
 have hrt:=hrt.monoE (by omega) hlB
 have l28:=le_over hw l26 hu0 hlB
 have hE:=hE.monoE ht hlB
 have ht:=htB
 have hU28:=H.row_lt hw27 ht
 clear hlB htB
 obtain⟨wqf,cqf,rfl,oqf⟩:=hqf.zn'
 obtain⟨wrf,crf,rfl,orf⟩:=hrf.zn'
 simp only[go_sem]
 have hN29:=l28.1
 have hU29:=H.row_lt hw27 ht
 have hP29:=H.row_lt hw27 rb23
 generalize hhA:(h27.new ⟨some 27,_,_⟩).new ⟨some 27,_,_⟩=h29
 simp only[List.length_cons,List.length_nil,Nat.zero_add,Nat.reduceAdd] at hhA
 obtain⟨hlA,hw29,hnA,ra29,rb29⟩:=new2 hw27 hhA
 clear hhA
 have hR29:(h27.new ⟨some 27,2,[.sl none 0 0 none, .bool false]⟩).next=h27.next+1:=rfl
 simp only[List.length_cons,List.length_nil,Nat.zero_add,Nat.reduceAdd,hR29]
 generalize hS29:h27.next=R29 at*
 have r0:=hlA.2 _ _ r0
 have r1:=hlA.2 _ _ r1
 have r2:=hlA.2 _ _ r2
 have r3:=hlA.2 _ _ r3
 have r4:=hlA.2 _ _ r4
 have ra23:=hlA.2 _ _ ra23
 have rb23:=hlA.2 _ _ rb23
 replace nx:=nx.mono hlA
 replace hrx:=hrx.mono hlA
 replace ny:=ny.mono hlA
 replace hry:=hry.mono hlA
 replace hqt:=hqt.mono hlA
 replace hrt:=hrt.mono hlA
 replace hqf:=hqf.mono hlA
 replace hrf:=hrf.mono hlA
 have ht:=ht.mono hlA
 have hE:=hE.mono hlA
 have l30:=H.le_trans l28 hlA
 clear hlA
 refine⟨by trivial,all2 oqf,put2 hw hw29 l30 (by omega) ra29 rfl fun h31 hw31 l31 hg31 rn e1=> ?_⟩
 have nx:=nx.lee2 ra29 e1
 have hrx:=hrx.lee2 ra29 e1
 have ny:=ny.lee2 ra29 e1
 have hry:=hry.lee2 ra29 e1
 have hqt:=hqt.lee2 ra29 e1
 have hrt:=hrt.lee2 ra29 e1
 have hqf:=hqf.lee2 ra29 e1
 have hrf:=hrf.lee2 ra29 e1
 have r0:=e1.2 _ _ (by omega) r0
 have r1:=e1.2 _ _ (by omega) r1
 have r2:=e1.2 _ _ (by omega) r2
 have r3:=e1.2 _ _ (by omega) r3
 have r4:=e1.2 _ _ (by omega) r4
 have ra23:=e1.2 _ _ (by omega) ra23
 have rb23:=e1.2 _ _ (by omega) rb23
 have rb29:=e1.2 _ _ (by omega) rb29
 have hE:=Eng.lee2 ra29 e1 hE
 have ht:=ht.lee2 e1 (by omega)
 have ra29:=rn
 clear rn e1 hg31
 simp only[go_sem]
 refine⟨by trivial,all2 orf,put2 hw hw31 l31 (by omega) rb29 rfl fun h32 hw32 l32 hg32 rn e1=> ?_⟩
 have nx:=nx.lee2 rb29 e1
 have hrx:=hrx.lee2 rb29 e1
 have ny:=ny.lee2 rb29 e1
 have hry:=hry.lee2 rb29 e1
 have hqt:=hqt.lee2 rb29 e1
 have hrt:=hrt.lee2 rb29 e1
 have hqf:=hqf.lee2 rb29 e1
 have hrf:=hrf.lee2 rb29 e1
 have r0:=e1.2 _ _ (by omega) r0
 have r1:=e1.2 _ _ (by omega) r1
 have r2:=e1.2 _ _ (by omega) r2
 have r3:=e1.2 _ _ (by omega) r3
 have r4:=e1.2 _ _ (by omega) r4
 have ra23:=e1.2 _ _ (by omega) ra23
 have rb23:=e1.2 _ _ (by omega) rb23
 have ra29:=e1.2 _ _ (by omega) ra29
 have hE:=Eng.lee2 rb29 e1 hE
 have ht:=ht.lee2 e1 (by omega)
 have rb29:=rn
 clear rn e1 hg32
 simp only[go_sem,(g2 r1).2.2,(g2 r2).2.2]
 have hV33:=H.row_lt hw32 ht
 refine zEuclid_calls (clamp_ok _) hE ht nx ny (by omega) (by omega) (by omega) (fun h0=>absurd h0 (by omega)) fun _ qe re h33 m33 dp33 hw33 hlB htB hqe hre=> ?_
 have r0:=hlB.2 _ _ (by omega) r0
 have r1:=hlB.2 _ _ (by omega) r1
 have r2:=hlB.2 _ _ (by omega) r2
 have r3:=hlB.2 _ _ (by omega) r3
 have r4:=hlB.2 _ _ (by omega) r4
 have ra23:=hlB.2 _ _ (by omega) ra23
 have rb23:=hlB.2 _ _ (by omega) rb23
 have ra29:=hlB.2 _ _ (by omega) ra29
 have rb29:=hlB.2 _ _ (by omega) rb29
 replace nx:=nx.monoE ht hlB
 replace hrx:=hrx.monoE ht hlB
 replace ny:=ny.monoE ht hlB
 replace hry:=hry.monoE ht hlB
 have hqt:=hqt.monoE (by omega) hlB
 have hrt:=hrt.monoE (by omega) hlB
 have hqf:=hqf.monoE (by omega) hlB
 have hrf:=hrf.monoE (by omega) hlB
 have l34:=le_over hw l32 hu0 hlB
 have hE:=hE.monoE ht hlB
 have ht:=htB
 have hU34:=H.row_lt hw33 ht
 clear hlB htB
 obtain⟨wqe,cqe,rfl,oqe⟩:=hqe.zn'
 obtain⟨wre,cre,rfl,ore⟩:=hre.zn'
 simp only[go_sem]
 have hN35:=l34.1
 have hU35:=H.row_lt hw33 ht
 have hP35:=H.row_lt hw33 rb29
 generalize hhA:(h33.new ⟨some 27,_,_⟩).new ⟨some 27,_,_⟩=h35
 simp only[List.length_cons,List.length_nil,Nat.zero_add,Nat.reduceAdd] at hhA
 obtain⟨hlA,hw35,hnA,ra35,rb35⟩:=new2 hw33 hhA
 clear hhA
 have hR35:(h33.new ⟨some 27,2,[.sl none 0 0 none, .bool false]⟩).next=h33.next+1:=rfl
 simp only[List.length_cons,List.length_nil,Nat.zero_add,Nat.reduceAdd,hR35]
 generalize hS35:h33.next=R35 at*
 have r0:=hlA.2 _ _ r0
 have r1:=hlA.2 _ _ r1
 have r2:=hlA.2 _ _ r2
 have r3:=hlA.2 _ _ r3
 have r4:=hlA.2 _ _ r4
 have ra23:=hlA.2 _ _ ra23
 have rb23:=hlA.2 _ _ rb23
 have ra29:=hlA.2 _ _ ra29
 have rb29:=hlA.2 _ _ rb29
 replace nx:=nx.mono hlA
 replace hrx:=hrx.mono hlA
 replace ny:=ny.mono hlA
 replace hry:=hry.mono hlA
 replace hqt:=hqt.mono hlA
 replace hrt:=hrt.mono hlA
 replace hqf:=hqf.mono hlA
 replace hrf:=hrf.mono hlA
 replace hqe:=hqe.mono hlA
 replace hre:=hre.mono hlA
 have ht:=ht.mono hlA
 have hE:=hE.mono hlA
 have l36:=H.le_trans l34 hlA
 clear hlA
 refine⟨by trivial,all2 oqe,put2 hw hw35 l36 (by omega) ra35 rfl fun h37 hw37 l37 hg37 rn e1=> ?_⟩
 have nx:=nx.lee2 ra35 e1
 have hrx:=hrx.lee2 ra35 e1
 have ny:=ny.lee2 ra35 e1
 have hry:=hry.lee2 ra35 e1
 have hqt:=hqt.lee2 ra35 e1
 have hrt:=hrt.lee2 ra35 e1
 have hqf:=hqf.lee2 ra35 e1
 have hrf:=hrf.lee2 ra35 e1
 have hqe:=hqe.lee2 ra35 e1
 have hre:=hre.lee2 ra35 e1
 have r0:=e1.2 _ _ (by omega) r0
 have r1:=e1.2 _ _ (by omega) r1
 have r2:=e1.2 _ _ (by omega) r2
 have r3:=e1.2 _ _ (by omega) r3
 have r4:=e1.2 _ _ (by omega) r4
 have ra23:=e1.2 _ _ (by omega) ra23
 have rb23:=e1.2 _ _ (by omega) rb23
 have ra29:=e1.2 _ _ (by omega) ra29
 have rb29:=e1.2 _ _ (by omega) rb29
 have rb35:=e1.2 _ _ (by omega) rb35
 have hE:=Eng.lee2 ra35 e1 hE
 have ht:=ht.lee2 e1 (by omega)
 have ra35:=rn
 clear rn e1 hg37
 simp only[go_sem]
 refine⟨by trivial,all2 ore,put2 hw hw37 l37 (by omega) rb35 rfl fun h38 hw38 l38 hg38 rn e1=> ?_⟩
 have nx:=nx.lee2 rb35 e1
 have hrx:=hrx.lee2 rb35 e1
 have ny:=ny.lee2 rb35 e1
 have hry:=hry.lee2 rb35 e1
 have hqt:=hqt.lee2 rb35 e1
 have hrt:=hrt.lee2 rb35 e1
 have hqf:=hqf.lee2 rb35 e1
 have hrf:=hrf.lee2 rb35 e1
 have hqe:=hqe.lee2 rb35 e1
 have hre:=hre.lee2 rb35 e1
 have r0:=e1.2 _ _ (by omega) r0
 have r1:=e1.2 _ _ (by omega) r1
 have r2:=e1.2 _ _ (by omega) r2
 have r3:=e1.2 _ _ (by omega) r3
 have r4:=e1.2 _ _ (by omega) r4
 have ra23:=e1.2 _ _ (by omega) ra23
 have rb23:=e1.2 _ _ (by omega) rb23
 have ra29:=e1.2 _ _ (by omega) ra29
 have rb29:=e1.2 _ _ (by omega) rb29
 have ra35:=e1.2 _ _ (by omega) ra35
 have hE:=Eng.lee2 rb35 e1 hE
 have ht:=ht.lee2 e1 (by omega)
 have rb35:=rn
 clear rn e1 hg38
 simp only[go_sem,(g2 r4).2.2]
 refine zrZero' hry fun h6 hw6 hl7=> ?_
 have r0:=hl7.2 _ _ r0
 have r1:=hl7.2 _ _ r1
 have r2:=hl7.2 _ _ r2
 have r3:=hl7.2 _ _ r3
 have r4:=hl7.2 _ _ r4
 have ra23:=hl7.2 _ _ ra23
 have rb23:=hl7.2 _ _ rb23
 have ra29:=hl7.2 _ _ ra29
 have rb29:=hl7.2 _ _ rb29
 have ra35:=hl7.2 _ _ ra35
 have rb35:=hl7.2 _ _ rb35
 replace nx:=nx.mono hl7
 replace hrx:=hrx.mono hl7
 replace ny:=ny.mono hl7
 replace hry:=hry.mono hl7
 replace hqt:=hqt.mono hl7
 replace hrt:=hrt.mono hl7
 replace hqf:=hqf.mono hl7
 replace hrf:=hrf.mono hl7
 replace hqe:=hqe.mono hl7
 replace hre:=hre.mono hl7
 have ht:=ht.mono hl7
 have hE:=hE.mono hl7
 have l39:=H.le_trans l38 hl7
 rw[show decide (sg bb y=0)=false from decide_eq_false (fun h0=>by have:=sg_eq0.1 h0;omega)]
 simp only[go_sem,(g2 r3).2.2,(g2 r4).2.2]
 refine zrTrunc' hrx hry (by rw[sg_abs];exact bx) (by rw[sg_abs];exact by_) (fun h0=>by have:=sg_eq0.1 h0;omega) fun qat qbt h40 hw40 hlB kat kbt=> ?_
 have r0:=hlB.2 _ _ r0
 have r1:=hlB.2 _ _ r1
 have r2:=hlB.2 _ _ r2
 have r3:=hlB.2 _ _ r3
 have r4:=hlB.2 _ _ r4
 have ra23:=hlB.2 _ _ ra23
 have rb23:=hlB.2 _ _ rb23
 have ra29:=hlB.2 _ _ ra29
 have rb29:=hlB.2 _ _ rb29
 have ra35:=hlB.2 _ _ ra35
 have rb35:=hlB.2 _ _ rb35
 replace nx:=nx.mono hlB
 replace hrx:=hrx.mono hlB
 replace ny:=ny.mono hlB
 replace hry:=hry.mono hlB
 replace hqt:=hqt.mono hlB
 replace hrt:=hrt.mono hlB
 replace hqf:=hqf.mono hlB
 replace hrf:=hrf.mono hlB
 replace hqe:=hqe.mono hlB
 replace hre:=hre.mono hlB
 have ht:=ht.mono hlB
 have hE:=hE.mono hlB
 have l41:=H.le_trans l39 hlB
 clear hlB
 obtain⟨xat,yat,rfl,uat,vat⟩:=kat.two
 obtain⟨xbt,ybt,rfl,ubt,vbt⟩:=kbt.two
 simp only[go_sem]
 have hN42:=l41.1
 have hU42:=H.row_lt hw40 ht
 have hP42:=H.row_lt hw40 rb35
 generalize hhA:(h40.new ⟨some 38,_,_⟩).new ⟨some 38,_,_⟩=h42
 simp only[List.length_cons,List.length_nil,Nat.zero_add,Nat.reduceAdd] at hhA
 obtain⟨hlA,hw42,hnA,ra42,rb42⟩:=new2 hw40 hhA
 clear hhA
 have hR42:(h40.new ⟨some 38,2,[.sl none 0 0 none, .bool false]⟩).next=h40.next+1:=rfl
 simp only[List.length_cons,List.length_nil,Nat.zero_add,Nat.reduceAdd,hR42]
 generalize hS42:h40.next=R42 at*
 have r0:=hlA.2 _ _ r0
 have r1:=hlA.2 _ _ r1
 have r2:=hlA.2 _ _ r2
 have r3:=hlA.2 _ _ r3
 have r4:=hlA.2 _ _ r4
 have ra23:=hlA.2 _ _ ra23
 have rb23:=hlA.2 _ _ rb23
 have ra29:=hlA.2 _ _ ra29
 have rb29:=hlA.2 _ _ rb29
 have ra35:=hlA.2 _ _ ra35
 have rb35:=hlA.2 _ _ rb35
 replace nx:=nx.mono hlA
 replace hrx:=hrx.mono hlA
 replace ny:=ny.mono hlA
 replace hry:=hry.mono hlA
 replace hqt:=hqt.mono hlA
 replace hrt:=hrt.mono hlA
 replace hqf:=hqf.mono hlA
 replace hrf:=hrf.mono hlA
 replace hqe:=hqe.mono hlA
 replace hre:=hre.mono hlA
 replace kat:=kat.mono hlA
 replace kbt:=kbt.mono hlA
 have ht:=ht.mono hlA
 have hE:=hE.mono hlA
 have l43:=H.le_trans l41 hlA
 clear hlA
 refine⟨by trivial,all22 uat vat,put2 hw hw42 l43 (by omega) ra42 rfl fun h44 hw44 l44 hg44 rn e1=> ?_⟩
 have nx:=nx.lee2 ra42 e1
 have hrx:=hrx.lee2 ra42 e1
 have ny:=ny.lee2 ra42 e1
 have hry:=hry.lee2 ra42 e1
 have hqt:=hqt.lee2 ra42 e1
 have hrt:=hrt.lee2 ra42 e1
 have hqf:=hqf.lee2 ra42 e1
 have hrf:=hrf.lee2 ra42 e1
 have hqe:=hqe.lee2 ra42 e1
 have hre:=hre.lee2 ra42 e1
 have kat:=kat.lee2 ra42 e1
 have kbt:=kbt.lee2 ra42 e1
 have r0:=e1.2 _ _ (by omega) r0
 have r1:=e1.2 _ _ (by omega) r1
 have r2:=e1.2 _ _ (by omega) r2
 have r3:=e1.2 _ _ (by omega) r3
 have r4:=e1.2 _ _ (by omega) r4
 have ra23:=e1.2 _ _ (by omega) ra23
 have rb23:=e1.2 _ _ (by omega) rb23
 have ra29:=e1.2 _ _ (by omega) ra29
 have rb29:=e1.2 _ _ (by omega) rb29
 have ra35:=e1.2 _ _ (by omega) ra35
 have rb35:=e1.2 _ _ (by omega) rb35
 have rb42:=e1.2 _ _ (by omega) rb42
 have hE:=Eng.lee2 ra42 e1 hE
 have ht:=ht.lee2 e1 (by omega)
 have ra42:=rn
 clear rn e1 hg44
 simp only[go_sem]
 refine⟨by trivial,all22 ubt vbt,put2 hw hw44 l44 (by omega) rb42 rfl fun h45 hw45 l45 hg45 rn e1=> ?_⟩
 have nx:=nx.lee2 rb42 e1
 have hrx:=hrx.lee2 rb42 e1
 have ny:=ny.lee2 rb42 e1
 have hry:=hry.lee2 rb42 e1
 have hqt:=hqt.lee2 rb42 e1
 have hrt:=hrt.lee2 rb42 e1
 have hqf:=hqf.lee2 rb42 e1
 have hrf:=hrf.lee2 rb42 e1
 have hqe:=hqe.lee2 rb42 e1
 have hre:=hre.lee2 rb42 e1
 have kat:=kat.lee2 rb42 e1
 have kbt:=kbt.lee2 rb42 e1
 have r0:=e1.2 _ _ (by omega) r0
 have r1:=e1.2 _ _ (by omega) r1
 have r2:=e1.2 _ _ (by omega) r2
 have r3:=e1.2 _ _ (by omega) r3
 have r4:=e1.2 _ _ (by omega) r4
 have ra23:=e1.2 _ _ (by omega) ra23
 have rb23:=e1.2 _ _ (by omega) rb23
 have ra29:=e1.2 _ _ (by omega) ra29
 have rb29:=e1.2 _ _ (by omega) rb29
 have ra35:=e1.2 _ _ (by omega) ra35
 have rb35:=e1.2 _ _ (by omega) rb35
 have ra42:=e1.2 _ _ (by omega) ra42
 have hE:=Eng.lee2 rb42 e1 hE
 have ht:=ht.lee2 e1 (by omega)
 have rb42:=rn
 clear rn e1 hg45
 simp only[go_sem,(g2 r3).2.2,(g2 r4).2.2]
 refine zrFloor' hrx hry (by rw[sg_abs];exact bx) (by rw[sg_abs];exact by_) (fun h0=>by have:=sg_eq0.1 h0;omega) fun qaf qbf h46 hw46 hlB kaf kbf=> ?_
 have r0:=hlB.2 _ _ r0
 have r1:=hlB.2 _ _ r1
 have r2:=hlB.2 _ _ r2
 have r3:=hlB.2 _ _ r3
 have r4:=hlB.2 _ _ r4
 have ra23:=hlB.2 _ _ ra23
 have rb23:=hlB.2 _ _ rb23
 have ra29:=hlB.2 _ _ ra29
 have rb29:=hlB.2 _ _ rb29
 have ra35:=hlB.2 _ _ ra35
 have rb35:=hlB.2 _ _ rb35
 have ra42:=hlB.2 _ _ ra42
 have rb42:=hlB.2 _ _ rb42
 replace nx:=nx.mono hlB
 replace hrx:=hrx.mono hlB
 replace ny:=ny.mono hlB
 replace hry:=hry.mono hlB
 replace hqt:=hqt.mono hlB
 replace hrt:=hrt.mono hlB
 replace hqf:=hqf.mono hlB
 replace hrf:=hrf.mono hlB
 replace hqe:=hqe.mono hlB
 replace hre:=hre.mono hlB
 replace kat:=kat.mono hlB
 replace kbt:=kbt.mono hlB
 have ht:=ht.mono hlB
 have hE:=hE.mono hlB
 have l47:=H.le_trans l45 hlB
 clear hlB
 obtain⟨xaf,yaf,rfl,uaf,vaf⟩:=kaf.two
 obtain⟨xbf,ybf,rfl,ubf,vbf⟩:=kbf.two
 simp only[go_sem]
 have hN48:=l47.1
 have hU48:=H.row_lt hw46 ht
 have hP48:=H.row_lt hw46 rb42
 generalize hhA:(h46.new ⟨some 38,_,_⟩).new ⟨some 38,_,_⟩=h48
 simp only[List.length_cons,List.length_nil,Nat.zero_add,Nat.reduceAdd] at hhA
 obtain⟨hlA,hw48,hnA,ra48,rb48⟩:=new2 hw46 hhA
 clear hhA
 have hR48:(h46.new ⟨some 38,2,[.sl none 0 0 none, .bool false]⟩).next=h46.next+1:=rfl
 simp only[List.length_cons,List.length_nil,Nat.zero_add,Nat.reduceAdd,hR48]
 generalize hS48:h46.next=R48 at*
 have r0:=hlA.2 _ _ r0
 have r1:=hlA.2 _ _ r1
 have r2:=hlA.2 _ _ r2
 have r3:=hlA.2 _ _ r3
 have r4:=hlA.2 _ _ r4
 have ra23:=hlA.2 _ _ ra23
 have rb23:=hlA.2 _ _ rb23
 have ra29:=hlA.2 _ _ ra29
 have rb29:=hlA.2 _ _ rb29
 have ra35:=hlA.2 _ _ ra35
 have rb35:=hlA.2 _ _ rb35
 have ra42:=hlA.2 _ _ ra42
 have rb42:=hlA.2 _ _ rb42
 replace nx:=nx.mono hlA
 replace hrx:=hrx.mono hlA
 replace ny:=ny.mono hlA
 replace hry:=hry.mono hlA
 replace hqt:=hqt.mono hlA
 replace hrt:=hrt.mono hlA
 replace hqf:=hqf.mono hlA
 replace hrf:=hrf.mono hlA
 replace hqe:=hqe.mono hlA
 replace hre:=hre.mono hlA
 replace kat:=kat.mono hlA
 replace kbt:=kbt.mono hlA
 replace kaf:=kaf.mono hlA
 replace kbf:=kbf.mono hlA
 have ht:=ht.mono hlA
 have hE:=hE.mono hlA
 have l49:=H.le_trans l47 hlA
 clear hlA
 refine⟨by trivial,all22 uaf vaf,put2 hw hw48 l49 (by omega) ra48 rfl fun h50 hw50 l50 hg50 rn e1=> ?_⟩
 have nx:=nx.lee2 ra48 e1
 have hrx:=hrx.lee2 ra48 e1
 have ny:=ny.lee2 ra48 e1
 have hry:=hry.lee2 ra48 e1
 have hqt:=hqt.lee2 ra48 e1
 have hrt:=hrt.lee2 ra48 e1
 have hqf:=hqf.lee2 ra48 e1
 have hrf:=hrf.lee2 ra48 e1
 have hqe:=hqe.lee2 ra48 e1
 have hre:=hre.lee2 ra48 e1
 have kat:=kat.lee2 ra48 e1
 have kbt:=kbt.lee2 ra48 e1
 have kaf:=kaf.lee2 ra48 e1
 have kbf:=kbf.lee2 ra48 e1
 have r0:=e1.2 _ _ (by omega) r0
 have r1:=e1.2 _ _ (by omega) r1
 have r2:=e1.2 _ _ (by omega) r2
 have r3:=e1.2 _ _ (by omega) r3
 have r4:=e1.2 _ _ (by omega) r4
 have ra23:=e1.2 _ _ (by omega) ra23
 have rb23:=e1.2 _ _ (by omega) rb23
 have ra29:=e1.2 _ _ (by omega) ra29
 have rb29:=e1.2 _ _ (by omega) rb29
 have ra35:=e1.2 _ _ (by omega) ra35
 have rb35:=e1.2 _ _ (by omega) rb35
 have ra42:=e1.2 _ _ (by omega) ra42
 have rb42:=e1.2 _ _ (by omega) rb42
 have rb48:=e1.2 _ _ (by omega) rb48
 have hE:=Eng.lee2 ra48 e1 hE
 have ht:=ht.lee2 e1 (by omega)
 have ra48:=rn
 clear rn e1 hg50
 simp only[go_sem]
 refine⟨by trivial,all22 ubf vbf,put2 hw hw50 l50 (by omega) rb48 rfl fun h51 hw51 l51 hg51 rn e1=> ?_⟩
 have nx:=nx.lee2 rb48 e1
 have hrx:=hrx.lee2 rb48 e1
 have ny:=ny.lee2 rb48 e1
 have hry:=hry.lee2 rb48 e1
 have hqt:=hqt.lee2 rb48 e1
 have hrt:=hrt.lee2 rb48 e1
 have hqf:=hqf.lee2 rb48 e1
 have hrf:=hrf.lee2 rb48 e1
 have hqe:=hqe.lee2 rb48 e1
 have hre:=hre.lee2 rb48 e1
 have kat:=kat.lee2 rb48 e1
 have kbt:=kbt.lee2 rb48 e1
 have kaf:=kaf.lee2 rb48 e1
 have kbf:=kbf.lee2 rb48 e1
 have r0:=e1.2 _ _ (by omega) r0
 have r1:=e1.2 _ _ (by omega) r1
 have r2:=e1.2 _ _ (by omega) r2
 have r3:=e1.2 _ _ (by omega) r3
 have r4:=e1.2 _ _ (by omega) r4
 have ra23:=e1.2 _ _ (by omega) ra23
 have rb23:=e1.2 _ _ (by omega) rb23
 have ra29:=e1.2 _ _ (by omega) ra29
 have rb29:=e1.2 _ _ (by omega) rb29
 have ra35:=e1.2 _ _ (by omega) ra35
 have rb35:=e1.2 _ _ (by omega) rb35
 have ra42:=e1.2 _ _ (by omega) ra42
 have rb42:=e1.2 _ _ (by omega) rb42
 have ra48:=e1.2 _ _ (by omega) ra48
 have hE:=Eng.lee2 rb48 e1 hE
 have ht:=ht.lee2 e1 (by omega)
 have rb48:=rn
 clear rn e1 hg51
 simp only[go_sem,(g2 r3).2.2,(g2 r4).2.2]
 refine zrEuclid' hrx hry (by rw[sg_abs];exact bx) (by rw[sg_abs];exact by_) (fun h0=>by have:=sg_eq0.1 h0;omega) fun qae qbe h52 hw52 hlB kae kbe=> ?_
 have r0:=hlB.2 _ _ r0
 have r1:=hlB.2 _ _ r1
 have r2:=hlB.2 _ _ r2
 have r3:=hlB.2 _ _ r3
 have r4:=hlB.2 _ _ r4
 have ra23:=hlB.2 _ _ ra23
 have rb23:=hlB.2 _ _ rb23
 have ra29:=hlB.2 _ _ ra29
 have rb29:=hlB.2 _ _ rb29
 have ra35:=hlB.2 _ _ ra35
 have rb35:=hlB.2 _ _ rb35
 have ra42:=hlB.2 _ _ ra42
 have rb42:=hlB.2 _ _ rb42
 have ra48:=hlB.2 _ _ ra48
 have rb48:=hlB.2 _ _ rb48
 replace nx:=nx.mono hlB
 replace hrx:=hrx.mono hlB
 replace ny:=ny.mono hlB
 replace hry:=hry.mono hlB
 replace hqt:=hqt.mono hlB
 replace hrt:=hrt.mono hlB
 replace hqf:=hqf.mono hlB
 replace hrf:=hrf.mono hlB
 replace hqe:=hqe.mono hlB
 replace hre:=hre.mono hlB
 replace kat:=kat.mono hlB
 replace kbt:=kbt.mono hlB
 replace kaf:=kaf.mono hlB
 replace kbf:=kbf.mono hlB
 have ht:=ht.mono hlB
 have hE:=hE.mono hlB
 have l53:=H.le_trans l51 hlB
 clear hlB
 obtain⟨xae,yae,rfl,uae,vae⟩:=kae.two
 obtain⟨xbe,ybe,rfl,ube,vbe⟩:=kbe.two
 simp only[go_sem]
 have hN54:=l53.1
 have hU54:=H.row_lt hw52 ht
 have hP54:=H.row_lt hw52 rb48
 generalize hhA:(h52.new ⟨some 38,_,_⟩).new ⟨some 38,_,_⟩=h54
 simp only[List.length_cons,List.length_nil,Nat.zero_add,Nat.reduceAdd] at hhA
 obtain⟨hlA,hw54,hnA,ra54,rb54⟩:=new2 hw52 hhA
 clear hhA
 have hR54:(h52.new ⟨some 38,2,[.sl none 0 0 none, .bool false]⟩).next=h52.next+1:=rfl
 simp only[List.length_cons,List.length_nil,Nat.zero_add,Nat.reduceAdd,hR54]
 generalize hS54:h52.next=R54 at*
 have r0:=hlA.2 _ _ r0
 have r1:=hlA.2 _ _ r1
 have r2:=hlA.2 _ _ r2
 have r3:=hlA.2 _ _ r3
 have r4:=hlA.2 _ _ r4
 have ra23:=hlA.2 _ _ ra23
 have rb23:=hlA.2 _ _ rb23
 have ra29:=hlA.2 _ _ ra29
 have rb29:=hlA.2 _ _ rb29
 have ra35:=hlA.2 _ _ ra35
 have rb35:=hlA.2 _ _ rb35
 have ra42:=hlA.2 _ _ ra42
 have rb42:=hlA.2 _ _ rb42
 have ra48:=hlA.2 _ _ ra48
 have rb48:=hlA.2 _ _ rb48
 replace nx:=nx.mono hlA
 replace hrx:=hrx.mono hlA
 replace ny:=ny.mono hlA
 replace hry:=hry.mono hlA
 replace hqt:=hqt.mono hlA
 replace hrt:=hrt.mono hlA
 replace hqf:=hqf.mono hlA
 replace hrf:=hrf.mono hlA
 replace hqe:=hqe.mono hlA
 replace hre:=hre.mono hlA
 replace kat:=kat.mono hlA
 replace kbt:=kbt.mono hlA
 replace kaf:=kaf.mono hlA
 replace kbf:=kbf.mono hlA
 replace kae:=kae.mono hlA
 replace kbe:=kbe.mono hlA
 have ht:=ht.mono hlA
 have hE:=hE.mono hlA
 have l55:=H.le_trans l53 hlA
 clear hlA
 refine⟨by trivial,all22 uae vae,put2 hw hw54 l55 (by omega) ra54 rfl fun h56 hw56 l56 hg56 rn e1=> ?_⟩
 have nx:=nx.lee2 ra54 e1
 have hrx:=hrx.lee2 ra54 e1
 have ny:=ny.lee2 ra54 e1
 have hry:=hry.lee2 ra54 e1
 have hqt:=hqt.lee2 ra54 e1
 have hrt:=hrt.lee2 ra54 e1
 have hqf:=hqf.lee2 ra54 e1
 have hrf:=hrf.lee2 ra54 e1
 have hqe:=hqe.lee2 ra54 e1
 have hre:=hre.lee2 ra54 e1
 have kat:=kat.lee2 ra54 e1
 have kbt:=kbt.lee2 ra54 e1
 have kaf:=kaf.lee2 ra54 e1
 have kbf:=kbf.lee2 ra54 e1
 have kae:=kae.lee2 ra54 e1
 have kbe:=kbe.lee2 ra54 e1
 have r0:=e1.2 _ _ (by omega) r0
 have r1:=e1.2 _ _ (by omega) r1
 have r2:=e1.2 _ _ (by omega) r2
 have r3:=e1.2 _ _ (by omega) r3
 have r4:=e1.2 _ _ (by omega) r4
 have ra23:=e1.2 _ _ (by omega) ra23
 have rb23:=e1.2 _ _ (by omega) rb23
 have ra29:=e1.2 _ _ (by omega) ra29
 have rb29:=e1.2 _ _ (by omega) rb29
 have ra35:=e1.2 _ _ (by omega) ra35
 have rb35:=e1.2 _ _ (by omega) rb35
 have ra42:=e1.2 _ _ (by omega) ra42
 have rb42:=e1.2 _ _ (by omega) rb42
 have ra48:=e1.2 _ _ (by omega) ra48
 have rb48:=e1.2 _ _ (by omega) rb48
 have rb54:=e1.2 _ _ (by omega) rb54
 have hE:=Eng.lee2 ra54 e1 hE
 have ht:=ht.lee2 e1 (by omega)
 have ra54:=rn
 clear rn e1 hg56
 simp only[go_sem]
 refine⟨by trivial,all22 ube vbe,put2 hw hw56 l56 (by omega) rb54 rfl fun h57 hw57 l57 hg57 rn e1=> ?_⟩
 have nx:=nx.lee2 rb54 e1
 have hrx:=hrx.lee2 rb54 e1
 have ny:=ny.lee2 rb54 e1
 have hry:=hry.lee2 rb54 e1
 have hqt:=hqt.lee2 rb54 e1
 have hrt:=hrt.lee2 rb54 e1
 have hqf:=hqf.lee2 rb54 e1
 have hrf:=hrf.lee2 rb54 e1
 have hqe:=hqe.lee2 rb54 e1
 have hre:=hre.lee2 rb54 e1
 have kat:=kat.lee2 rb54 e1
 have kbt:=kbt.lee2 rb54 e1
 have kaf:=kaf.lee2 rb54 e1
 have kbf:=kbf.lee2 rb54 e1
 have kae:=kae.lee2 rb54 e1
 have kbe:=kbe.lee2 rb54 e1
 have r0:=e1.2 _ _ (by omega) r0
 have r1:=e1.2 _ _ (by omega) r1
 have r2:=e1.2 _ _ (by omega) r2
 have r3:=e1.2 _ _ (by omega) r3
 have r4:=e1.2 _ _ (by omega) r4
 have ra23:=e1.2 _ _ (by omega) ra23
 have rb23:=e1.2 _ _ (by omega) rb23
 have ra29:=e1.2 _ _ (by omega) ra29
 have rb29:=e1.2 _ _ (by omega) rb29
 have ra35:=e1.2 _ _ (by omega) ra35
 have rb35:=e1.2 _ _ (by omega) rb35
 have ra42:=e1.2 _ _ (by omega) ra42
 have rb42:=e1.2 _ _ (by omega) rb42
 have ra48:=e1.2 _ _ (by omega) ra48
 have rb48:=e1.2 _ _ (by omega) rb48
 have ra54:=e1.2 _ _ (by omega) ra54
 have hE:=Eng.lee2 rb54 e1 hE
 have ht:=ht.lee2 e1 (by omega)
 have rb54:=rn
 clear rn e1 hg57
 simp only[go_sem,show((0:Int)==0)=true from rfl]
 simp only[go_sem,(g2 ra23).2.2,(g2 ra42).2.2]
 refine same18_calls kat hqt ?_ fun h58 hw58 hlB=> ?_
 ·exact bT1
 have r0:=hlB.2 _ _ r0
 have r1:=hlB.2 _ _ r1
 have r2:=hlB.2 _ _ r2
 have r3:=hlB.2 _ _ r3
 have r4:=hlB.2 _ _ r4
 have ra23:=hlB.2 _ _ ra23
 have rb23:=hlB.2 _ _ rb23
 have ra29:=hlB.2 _ _ ra29
 have rb29:=hlB.2 _ _ rb29
 have ra35:=hlB.2 _ _ ra35
 have rb35:=hlB.2 _ _ rb35
 have ra42:=hlB.2 _ _ ra42
 have rb42:=hlB.2 _ _ rb42
 have ra48:=hlB.2 _ _ ra48
 have rb48:=hlB.2 _ _ rb48
 have ra54:=hlB.2 _ _ ra54
 have rb54:=hlB.2 _ _ rb54
 replace nx:=nx.mono hlB
 replace hrx:=hrx.mono hlB
 replace ny:=ny.mono hlB
 replace hry:=hry.mono hlB
 replace hqt:=hqt.mono hlB
 replace hrt:=hrt.mono hlB
 replace hqf:=hqf.mono hlB
 replace hrf:=hrf.mono hlB
 replace hqe:=hqe.mono hlB
 replace hre:=hre.mono hlB
 replace kat:=kat.mono hlB
 replace kbt:=kbt.mono hlB
 replace kaf:=kaf.mono hlB
 replace kbf:=kbf.mono hlB
 replace kae:=kae.mono hlB
 replace kbe:=kbe.mono hlB
 have l59:=H.le_trans l57 hlB
 clear hlB
 simp only[go_sem,(g2 rb23).2.2,(g2 rb42).2.2]
 refine same18_calls kbt hrt ?_ fun h60 hw60 hlB=> ?_
 ·exact bT2
 have r0:=hlB.2 _ _ r0
 have r1:=hlB.2 _ _ r1
 have r2:=hlB.2 _ _ r2
 have r3:=hlB.2 _ _ r3
 have r4:=hlB.2 _ _ r4
 have ra23:=hlB.2 _ _ ra23
 have rb23:=hlB.2 _ _ rb23
 have ra29:=hlB.2 _ _ ra29
 have rb29:=hlB.2 _ _ rb29
 have ra35:=hlB.2 _ _ ra35
 have rb35:=hlB.2 _ _ rb35
 have ra42:=hlB.2 _ _ ra42
 have rb42:=hlB.2 _ _ rb42
 have ra48:=hlB.2 _ _ ra48
 have rb48:=hlB.2 _ _ rb48
 have ra54:=hlB.2 _ _ ra54
 have rb54:=hlB.2 _ _ rb54
 replace nx:=nx.mono hlB
 replace hrx:=hrx.mono hlB
 replace ny:=ny.mono hlB
 replace hry:=hry.mono hlB
 replace hqt:=hqt.mono hlB
 replace hrt:=hrt.mono hlB
 replace hqf:=hqf.mono hlB
 replace hrf:=hrf.mono hlB
 replace hqe:=hqe.mono hlB
 replace hre:=hre.mono hlB
 replace kat:=kat.mono hlB
 replace kbt:=kbt.mono hlB
 replace kaf:=kaf.mono hlB
 replace kbf:=kbf.mono hlB
 replace kae:=kae.mono hlB
 replace kbe:=kbe.mono hlB
 have l61:=H.le_trans l59 hlB
 clear hlB
 simp only[go_sem,(g2 ra29).2.2,(g2 ra48).2.2]
 refine same18_calls kaf hqf ?_ fun h62 hw62 hlB=> ?_
 ·exact bF1
 have r0:=hlB.2 _ _ r0
 have r1:=hlB.2 _ _ r1
 have r2:=hlB.2 _ _ r2
 have r3:=hlB.2 _ _ r3
 have r4:=hlB.2 _ _ r4
 have ra23:=hlB.2 _ _ ra23
 have rb23:=hlB.2 _ _ rb23
 have ra29:=hlB.2 _ _ ra29
 have rb29:=hlB.2 _ _ rb29
 have ra35:=hlB.2 _ _ ra35
 have rb35:=hlB.2 _ _ rb35
 have ra42:=hlB.2 _ _ ra42
 have rb42:=hlB.2 _ _ rb42
 have ra48:=hlB.2 _ _ ra48
 have rb48:=hlB.2 _ _ rb48
 have ra54:=hlB.2 _ _ ra54
 have rb54:=hlB.2 _ _ rb54
 replace nx:=nx.mono hlB
 replace hrx:=hrx.mono hlB
 replace ny:=ny.mono hlB
 replace hry:=hry.mono hlB
 replace hqt:=hqt.mono hlB
 replace hrt:=hrt.mono hlB
 replace hqf:=hqf.mono hlB
 replace hrf:=hrf.mono hlB
 replace hqe:=hqe.mono hlB
 replace hre:=hre.mono hlB
 replace kat:=kat.mono hlB
 replace kbt:=kbt.mono hlB
 replace kaf:=kaf.mono hlB
 replace kbf:=kbf.mono hlB
 replace kae:=kae.mono hlB
 replace kbe:=kbe.mono hlB
 have l63:=H.le_trans l61 hlB
 clear hlB
 simp only[go_sem,(g2 rb29).2.2,(g2 rb48).2.2]
 refine same18_calls kbf hrf ?_ fun h64 hw64 hlB=> ?_
 ·exact bF2
 have r0:=hlB.2 _ _ r0
 have r1:=hlB.2 _ _ r1
 have r2:=hlB.2 _ _ r2
 have r3:=hlB.2 _ _ r3
 have r4:=hlB.2 _ _ r4
 have ra23:=hlB.2 _ _ ra23
 have rb23:=hlB.2 _ _ rb23
 have ra29:=hlB.2 _ _ ra29
 have rb29:=hlB.2 _ _ rb29
 have ra35:=hlB.2 _ _ ra35
 have rb35:=hlB.2 _ _ rb35
 have ra42:=hlB.2 _ _ ra42
 have rb42:=hlB.2 _ _ rb42
 have ra48:=hlB.2 _ _ ra48
 have rb48:=hlB.2 _ _ rb48
 have ra54:=hlB.2 _ _ ra54
 have rb54:=hlB.2 _ _ rb54
 replace nx:=nx.mono hlB
 replace hrx:=hrx.mono hlB
 replace ny:=ny.mono hlB
 replace hry:=hry.mono hlB
 replace hqt:=hqt.mono hlB
 replace hrt:=hrt.mono hlB
 replace hqf:=hqf.mono hlB
 replace hrf:=hrf.mono hlB
 replace hqe:=hqe.mono hlB
 replace hre:=hre.mono hlB
 replace kat:=kat.mono hlB
 replace kbt:=kbt.mono hlB
 replace kaf:=kaf.mono hlB
 replace kbf:=kbf.mono hlB
 replace kae:=kae.mono hlB
 replace kbe:=kbe.mono hlB
 have l65:=H.le_trans l63 hlB
 clear hlB
 simp only[go_sem,(g2 ra35).2.2,(g2 ra54).2.2]
 refine same18_calls kae hqe ?_ fun h66 hw66 hlB=> ?_
 ·exact bE1
 have r0:=hlB.2 _ _ r0
 have r1:=hlB.2 _ _ r1
 have r2:=hlB.2 _ _ r2
 have r3:=hlB.2 _ _ r3
 have r4:=hlB.2 _ _ r4
 have ra23:=hlB.2 _ _ ra23
 have rb23:=hlB.2 _ _ rb23
 have ra29:=hlB.2 _ _ ra29
 have rb29:=hlB.2 _ _ rb29
 have ra35:=hlB.2 _ _ ra35
 have rb35:=hlB.2 _ _ rb35
 have ra42:=hlB.2 _ _ ra42
 have rb42:=hlB.2 _ _ rb42
 have ra48:=hlB.2 _ _ ra48
 have rb48:=hlB.2 _ _ rb48
 have ra54:=hlB.2 _ _ ra54
 have rb54:=hlB.2 _ _ rb54
 replace nx:=nx.mono hlB
 replace hrx:=hrx.mono hlB
 replace ny:=ny.mono hlB
 replace hry:=hry.mono hlB
 replace hqt:=hqt.mono hlB
 replace hrt:=hrt.mono hlB
 replace hqf:=hqf.mono hlB
 replace hrf:=hrf.mono hlB
 replace hqe:=hqe.mono hlB
 replace hre:=hre.mono hlB
 replace kat:=kat.mono hlB
 replace kbt:=kbt.mono hlB
 replace kaf:=kaf.mono hlB
 replace kbf:=kbf.mono hlB
 replace kae:=kae.mono hlB
 replace kbe:=kbe.mono hlB
 have l67:=H.le_trans l65 hlB
 clear hlB
 simp only[go_sem,(g2 rb35).2.2,(g2 rb54).2.2]
 refine same18_calls kbe hre ?_ fun h68 hw68 hlB=> ?_
 ·exact bE2
 have r0:=hlB.2 _ _ r0
 have r1:=hlB.2 _ _ r1
 have r2:=hlB.2 _ _ r2
 have r3:=hlB.2 _ _ r3
 have r4:=hlB.2 _ _ r4
 have ra23:=hlB.2 _ _ ra23
 have rb23:=hlB.2 _ _ rb23
 have ra29:=hlB.2 _ _ ra29
 have rb29:=hlB.2 _ _ rb29
 have ra35:=hlB.2 _ _ ra35
 have rb35:=hlB.2 _ _ rb35
 have ra42:=hlB.2 _ _ ra42
 have rb42:=hlB.2 _ _ rb42
 have ra48:=hlB.2 _ _ ra48
 have rb48:=hlB.2 _ _ rb48
 have ra54:=hlB.2 _ _ ra54
 have rb54:=hlB.2 _ _ rb54
 replace nx:=nx.mono hlB
 replace hrx:=hrx.mono hlB
 replace ny:=ny.mono hlB
 replace hry:=hry.mono hlB
 replace hqt:=hqt.mono hlB
 replace hrt:=hrt.mono hlB
 replace hqf:=hqf.mono hlB
 replace hrf:=hrf.mono hlB
 replace hqe:=hqe.mono hlB
 replace hre:=hre.mono hlB
 replace kat:=kat.mono hlB
 replace kbt:=kbt.mono hlB
 replace kaf:=kaf.mono hlB
 replace kbf:=kbf.mono hlB
 replace kae:=kae.mono hlB
 replace kbe:=kbe.mono hlB
 have l69:=H.le_trans l67 hlB
 clear hlB
 simp only[go_sem]
 refine wakes18_calls fun h9 hw9 hl10=> ?_
 simp only[go_sem]
 exact fun hw'=>hk _ hw'
end
end
theorem cell_bool {t:TypeId} (ht:Tryz.prog.underlying t=some .bool) {h:H} {l:List AV} (r:Reads Tryz.prog h t l):∃b:Bool,l=[.bool b]:=by
 cases r with
 |int ht' hw=>rw[ht] at ht';cases ht'
 |bool ht'=>exact⟨_,rfl⟩
 |str ht'=>rw[ht] at ht';cases ht'
 |snil ht'=>rw[ht] at ht';cases ht'
 |sl ht'=>rw[ht] at ht';cases ht'
 |struct ht'=>rw[ht] at ht';cases ht'
set_option maxRecDepth 100000 in
theorem cell_whole {h:H} {l:List AV} (r:Reads Tryz.prog h 27 l):∃(v:AV) (b:Bool) (xs:List Nat),l=[v, .bool b]∧IsN h v xs∧Dig xs∧xs.length≤maxLen:=by
 have hc:Tryz.prog.cellsOf 27=2:=by kernel_rfl
 have hz:Tryz.prog.cellsOf 25=1:=by kernel_rfl
 have hb:Tryz.prog.cellsOf 4=1:=by kernel_rfl
 cases r with
 |int ht' hw=>rw[Tryz.underlying27] at ht';cases ht'
 |bool ht'=>rw[Tryz.underlying27] at ht';cases ht'
 |str ht'=>rw[Tryz.underlying27] at ht';cases ht'
 |snil ht'=>rw[Tryz.underlying27] at ht';cases ht'
 |sl ht'=>rw[Tryz.underlying27] at ht';cases ht'
 |struct ht' hl hf=>
  rw[Tryz.underlying27] at ht'
  injection ht' with ht'
  injection ht' with ht'
  subst ht'
  rw[hc] at hl
  simp only[List.mem_cons,List.not_mem_nil,or_false,forall_eq_or_imp,forall_eq,hz,hb] at hf
  obtain⟨f0,f1⟩:=hf
  obtain⟨v,xs,g0,h1,h2,h3⟩:=cell_words (by kernel_rfl) f0
  obtain⟨b,g1⟩:=cell_bool (by kernel_rfl) f1
  match l,hl with
  |[x0,x1],_=>
   simp only[List.drop_zero,List.drop_succ_cons,List.take_succ_cons,List.take_zero,List.cons.injEq,and_true] at g0 g1
   exact⟨v,b,xs,by rw[g0,g1],h1,h2,h3⟩
set_option maxRecDepth 100000 in
theorem reads_whole {h:H} {u:AV} (r:ReadsV Tryz.prog h 27 u):∃(v:AV) (b:Bool) (xs:List Nat),u= .agg [v, .bool b]∧IsN h v xs∧Dig xs∧xs.length≤maxLen:=by
 unfold ReadsV at r
 rw[Tryz.underlying27] at r
 obtain⟨l,rfl,r⟩:=r
 obtain⟨v,b,xs,rfl,h1⟩:=cell_whole r
 exact⟨v,b,xs,rfl,h1⟩
set_option maxRecDepth 100000 in
theorem NumTimes_row (h:H) (avs:List AV) (_:h.wf) (r:ReadsAll Tryz.prog h [23,27,27] avs):ACalls Tryz.prog 6 avs h (fun r _=>r= .bool true):=by
 match avs,r with
 |[_,_,_],⟨r0,r1,r2,_⟩=>
  obtain⟨t0,rfl⟩:=reads_table r0
  obtain⟨_,_,xs,rfl,h1,hx,_⟩:=reads_whole r1
  obtain⟨_,_,ys,rfl,h2,hy,_⟩:=reads_whole r2
  exact NumTimes_law h1 hx h2 hy fun _ _=>rfl
set_option maxRecDepth 100000 in
theorem NumDivs_row (h:H) (avs:List AV) (_:h.wf) (r:ReadsAll Tryz.prog h [23,27,27] avs):ACalls Tryz.prog 9 avs h (fun r _=>r= .bool true):=by
 match avs,r with
 |[_,_,_],⟨r0,r1,r2,_⟩=>
  obtain⟨t0,rfl⟩:=reads_table r0
  obtain⟨_,_,xs,rfl,h1,hx,_⟩:=reads_whole r1
  obtain⟨_,_,ys,rfl,h2,hy,_⟩:=reads_whole r2
  exact NumDivs_law h1 hx h2 hy fun _ _=>rfl
end Ab
end Go.Proofs.YtnlkbdmmoplkoaaGreatDoor
