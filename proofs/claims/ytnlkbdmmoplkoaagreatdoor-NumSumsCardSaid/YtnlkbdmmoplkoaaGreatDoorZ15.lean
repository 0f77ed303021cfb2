/- Joined texts: I14. No condition. -/
import Derived.Test.YtnlkbdmmoplkoaaGreatDoorZ14
namespace Go.Proofs.YtnlkbdmmoplkoaaGreatDoor
namespace Ab
open Go Go.RowKit
set_option linter.unusedSimpArgs false
set_option linter.unusedVariables false
attribute [local go_sem ↓] x_mv x_pick x_bin x_beq x_peq x_seq x_cat x_aeq x_idxS x_idxV x_un x_cvI x_idx x_idxA x_fld x_ld x_st x_nn x_prt x_slc x_mk x_bsl x_bld x_box x_alloc x_len x_capo x_mnx x_app x_cpy x_mkf x_ext x_call x_callV x_bad s_none s_some s_nil s_cons s_chks w_skip w_reg tP_fin tP_no tP_alt w_seq w_cond w_block w_exit w_ret t_normal t_exit t_ret b_normal b_ret b_exit n_normal n_exit n_ret p_normal p_ret f_nil f_t f_c k_ops k_chk k_fin
attribute [local go_sem] e_t e_c e_f u_some u_none u_at env_at k_v k_pick k_add k_sub k_mul k_quo k_rem k_and k_or k_xor k_shl k_shr k_eql k_neq k_lss k_leq k_gtr k_geq k_beq k_peqn k_peqs k_neg k_not k_com k_cvI k_idxS k_idxV1 k_idxVn k_idx k_idxA k_idxG k_ldG k_gld k_seq k_cat k_aeq k_eqs k_fld k_ld1 k_ldn k_get k_gets k_sti k_stb k_stp k_sts k_stf k_sta k_put k_nn k_prt1 k_prtn k_slc_a k_slc_b k_slc_c k_mk k_agg k_bsl k_box k_len k_lenS k_cap k_max k_min k_ext k_callV k_true k_false k_gtt k_gtf k_gft k_gsk k_gff k_lit1i k_lit2i k_lit3i k_c0 k_c1 k_ck List.getElem?_cons_zero List.getElem?_cons_succ List.getElem?_nil Option.getD_some Option.getD_none tupOf List.map_cons List.map_nil Option.map_some Option.map_none List.nil_append List.cons_append List.append_nil Nat.mul_one Int.toNat_natCast Nat.zero_add
attribute [local go_sem] e_t e_c e_f u_some u_none u_at env_at k_v k_pick k_add k_sub k_mul k_quo k_rem k_and k_or k_xor k_shl k_shr k_eql k_neq k_lss k_leq k_gtr k_geq k_beq k_peqn k_peqs k_neg k_not k_com k_cvI k_idxS k_idxV1 k_idxVn k_idx k_idxA k_idxG k_ldG k_gld k_seq k_cat k_aeq k_eqs k_fld k_ld1 k_ldn k_get k_gets k_sti k_stb k_stp k_sts k_stf k_sta k_put k_nn k_prt1 k_prtn k_slc_a k_slc_b k_slc_c k_mk k_agg k_bsl k_box k_len k_lenS k_cap k_max k_min k_ext k_callV k_true k_false k_gtt k_gtf k_gft k_gsk k_gff k_lit1i k_lit2i k_lit3i k_c0 k_c1 k_ck List.getElem?_cons_zero List.getElem?_cons_succ List.getElem?_nil Option.getD_some Option.getD_none tupOf List.map_cons List.map_nil Option.map_some Option.map_none List.nil_append List.cons_append List.append_nil Nat.mul_one Int.toNat_natCast Nat.zero_add
--what a store into a cell of two leaves
attribute [local go_sem_proc] Nat.reduceEqDiff Nat.reduceAdd Int.reduceToNat
attribute [local go_sem_proc ↓] reduceIte
attribute [local go_sem] Bool.false_eq_true
section
section
variable {wa wb:AV} {ba bb:Bool} {xs ys:List Nat} {h:H} {K:AV→H→Prop}
theorem Lent.lee2 {b i:Nat} {h g:H} {v:AV} {T:TypeId} {l:List AV} {xs:List Nat} (hv:Lent b h v xs) (hr:h.rows i=some ⟨some T,2,l⟩) (hl:H.lee i h g):Lent b g v xs:=by
 obtain⟨id,e,hv⟩:=hv
 refine⟨id,e, ?_⟩
 obtain⟨id',c,e',h1⟩:=hv
 refine⟨id',c,e', ?_⟩
 rcases h1 with h1|⟨j,q,rfl,hb,hq,hqo,hqz,h3⟩
 ·exact .inl h1
 ·refine .inr ⟨j,q,rfl,hb,hl.2 j q ?_ hq,hqo,hqz,h3⟩
  rintro rfl
  rw[hr] at hq
  injection hq with hq
  rw[←hq] at hqz
  simp at hqz
theorem zrAdd' {a b:AV} {z w:Int} (ha:Zr h a z) (hb:Zr h b w) (hx:Big z.natAbs) (hy:Big w.natAbs) (hk:∀r h',h'.wf→h.le h'→Zr h' r (z+w)→K r h'):ACalls Tryz.prog 46 [a,b] h K:=by
 obtain⟨u,rfl,n1⟩:=zr_open ha
 obtain⟨v,rfl,n2⟩:=zr_open hb
 refine zrAdd_calls n1 n2 hx hy fun r h' hw hl hr=> ?_
 rw[sg_self,sg_self] at hr
 exact hk r h' hw hl hr
theorem zrSub' {a b:AV} {z w:Int} (ha:Zr h a z) (hb:Zr h b w) (hx:Big z.natAbs) (hy:Big w.natAbs) (hk:∀r h',h'.wf→h.le h'→Zr h' r (z-w)→K r h'):ACalls Tryz.prog 64 [a,b] h K:=by
 obtain⟨u,rfl,n1⟩:=zr_open ha
 obtain⟨v,rfl,n2⟩:=zr_open hb
 refine zrSub_calls n1 n2 hx hy fun r h' hw hl hr=> ?_
 rw[sg_self,sg_self] at hr
 exact hk r h' hw hl hr
theorem zrCmp' {a b:AV} {z w:Int} (ha:Zr h a z) (hb:Zr h b w) (hx:Big z.natAbs) (hy:Big w.natAbs) (hk:∀h',h'.wf→h.le h'→K (.int .i64 (cmpZ z w)) h'):ACalls Tryz.prog 67 [a,b] h K:=by
 obtain⟨u,rfl,n1⟩:=zr_open ha
 obtain⟨v,rfl,n2⟩:=zr_open hb
 refine zrCmp_calls n1 n2 hx hy fun h' hw hl=> ?_
 rw[sg_self,sg_self]
 exact hk h' hw hl
theorem zrNeg' {a:AV} {z:Int} (ha:Zr h a z) (hk:∀r h',h'.wf→h.le h'→Zr h' r (-z)→K r h'):ACalls Tryz.prog 68 [a] h K:=by
 obtain⟨u,rfl,n1⟩:=zr_open ha
 refine zrNeg_calls n1 fun r h' hw hl hr=> ?_
 rw[sg_self] at hr
 exact hk r h' hw hl hr
theorem zrAbs' {a:AV} {z:Int} (ha:Zr h a z) (hk:∀r h',h'.wf→h.le h'→Zr h' r (z.natAbs:Int)→K r h'):ACalls Tryz.prog 70 [a] h K:=by
 obtain⟨u,rfl,n1⟩:=zr_open ha
 exact zrAbs_calls n1 hk
set_option maxHeartbeats 4000000 in
theorem NumSums_law (ha:IsN h wa xs) (hd:Dig xs) (hb:IsN h wb ys) (he:Dig ys) (hk:∀h',h'.wf→K (.bool true) h'):ACalls Tryz.prog 10 [.agg [wa, .bool ba], .agg [wb, .bool bb]] h K:=by
 refine in_law18_NumSums (by simp) fun hw=> ?_
 unfold c_law18_NumSums
 simp only[go_sem]
 simp only[AV.cells,List.length_cons,List.length_nil,Nat.zero_add,Nat.reduceAdd]
 refine⟨rfl,rfl, ?_⟩
 generalize hh:(h.new ⟨some 27,2,_⟩).new ⟨some 27,2,_⟩=h1
 obtain⟨hl1,hw1,hn1,r1,r2⟩:=new2 hw hh
 have hR:(h.new ⟨some 27,2,[wa, .bool ba]⟩).next=h.next+1:=rfl
 clear hh
 have l01:=hl1
 simp only[go_sem,hR,(g2 r1).2.2]
 refine of18_calls (ha.mono l01) hd fun w1 ux h2 hw2 hl2 hca hrx=> ?_
 have hone1:w1.one=true:=by obtain⟨_,_,_,rfl,_⟩:=hca;rfl
 have nx:=IsN.nn hca (Dig.take hd 20) (by rw[List.length_take];omega)
 have wx:wlen (val 18446744073709551616 (xs.take 20))≤20:=Nat.le_trans (wlen_len (Dig.take hd 20)) (by rw[List.length_take];omega)
 generalize hvx:val 18446744073709551616 (xs.take 20)=x at*
 obtain⟨rxa,rxb,rfl,ox1,ox2⟩:=hrx.two
 have r1:=hl2.2 _ _ r1
 have r2:=hl2.2 _ _ r2
 have l02:=H.le_trans l01 hl2
 simp only[go_sem]
 have r3:=H.rows_new h2 ⟨some 38,2,[.sl none 0 0 none, .bool false]⟩
 have hl3:=H.le_new hw2 (H.le_refl h2) ⟨some 38,2,[.sl none 0 0 none, .bool false]⟩
 have hw3:=H.wf_new hw2 ⟨some 38,2,[.sl none 0 0 none, .bool false]⟩
 simp only[List.length_cons,List.length_nil,Nat.zero_add,Nat.reduceAdd]
 generalize hR3:h2.next=R3 at*
 generalize h2.new ⟨some 38,2,[.sl none 0 0 none, .bool false]⟩=h3 at*
 have r1:=hl3.2 _ _ r1
 have r2:=hl3.2 _ _ r2
 have l03:=H.le_trans l02 hl3
 have nx:=nx.mono hl3
 have hrx:=hrx.mono hl3
 have hca:=hca.mono hl3
 have hr1:h.next+2≤R3:=by have:=hl2.1;omega
 refine⟨by trivial,all2 hone1,put2 hw hw3 l03 (by omega) r1 rfl fun g1 hwg1 hlg1 hg1 r1n e1=> ?_⟩
 have nx:=nx.lee2 r1 e1
 have hrx:=hrx.lee2 r1 e1
 have hca:=hca.lee2 r1 e1
 have r2:=e1.2 _ _ (by omega) r2
 have r3:=e1.2 _ _ (by omega) r3
 have r1:=r1n
 simp only[go_sem]
 refine⟨by trivial,all22 ox1 ox2,put2 hw hwg1 hlg1 (by omega) r3 rfl fun g2' hwg2 hlg2 hg2 r3n e2=> ?_⟩
 have nx:=nx.lee2 r3 e2
 have hrx:=hrx.lee2 r3 e2
 have hca:=hca.lee2 r3 e2
 have r1:=e2.2 _ _ (by omega) r1
 have r2:=e2.2 _ _ (by omega) r2
 have r3:=r3n
 have hbR:R3<g2'.next:=H.row_lt hwg2 r3
 clear hl1 hl2 hl3 e1 e2 r1n r3n hg1 hg2 hlg1 l01 l02 l03
 simp only[go_sem,(g2 r2).2.2]
 refine of18_calls (hb.mono hlg2) he fun w2 uy h4 hw4 hl4 hcb hry=> ?_
 have hone2:w2.one=true:=by obtain⟨_,_,_,rfl,_⟩:=hcb;rfl
 have ny:=IsN.nn hcb (Dig.take he 20) (by rw[List.length_take];omega)
 have wy:wlen (val 18446744073709551616 (ys.take 20))≤20:=Nat.le_trans (wlen_len (Dig.take he 20)) (by rw[List.length_take];omega)
 generalize hvy:val 18446744073709551616 (ys.take 20)=y at*
 obtain⟨rya,ryb,rfl,oy1,oy2⟩:=hry.two
 have r1:=hl4.2 _ _ r1
 have r2:=hl4.2 _ _ r2
 have r3:=hl4.2 _ _ r3
 have nx:=nx.mono hl4
 have hrx:=hrx.mono hl4
 have hca:=hca.mono hl4
 have l04:=H.le_trans hlg2 hl4
 simp only[go_sem]
 have r4:=H.rows_new h4 ⟨some 38,2,[.sl none 0 0 none, .bool false]⟩
 have hl5:=H.le_new hw4 (H.le_refl h4) ⟨some 38,2,[.sl none 0 0 none, .bool false]⟩
 have hw5:=H.wf_new hw4 ⟨some 38,2,[.sl none 0 0 none, .bool false]⟩
 simp only[List.length_cons,List.length_nil,Nat.zero_add,Nat.reduceAdd]
 generalize hR4:h4.next=R4 at*
 generalize h4.new ⟨some 38,2,[.sl none 0 0 none, .bool false]⟩=h5 at*
 have r1:=hl5.2 _ _ r1
 have r2:=hl5.2 _ _ r2
 have r3:=hl5.2 _ _ r3
 have l05:=H.le_trans l04 hl5
 have nx:=nx.mono hl5
 have hrx:=hrx.mono hl5
 have hca:=hca.mono hl5
 have ny:=ny.mono hl5
 have hry:=hry.mono hl5
 have hcb:=hcb.mono hl5
 have hr2:R3<R4:=by have:=hl4.1;omega
 refine⟨by trivial,all2 hone2,put2 hw hw5 l05 (by omega) r2 rfl fun g3 hwg3 hlg3 hg3 r2n e3=> ?_⟩
 have nx:=nx.lee2 r2 e3
 have hrx:=hrx.lee2 r2 e3
 have hca:=hca.lee2 r2 e3
 have ny:=ny.lee2 r2 e3
 have hry:=hry.lee2 r2 e3
 have hcb:=hcb.lee2 r2 e3
 have r1:=e3.2 _ _ (by omega) r1
 have r3:=e3.2 _ _ (by omega) r3
 have r4:=e3.2 _ _ (by omega) r4
 have r2:=r2n
 simp only[go_sem]
 refine⟨by trivial,all22 oy1 oy2,put2 hw hwg3 hlg3 (by omega) r4 rfl fun g4 hwg4 hlg4 hg4 r4n e4=> ?_⟩
 have nx:=nx.lee2 r4 e4
 have hrx:=hrx.lee2 r4 e4
 have hca:=hca.lee2 r4 e4
 have ny:=ny.lee2 r4 e4
 have hry:=hry.lee2 r4 e4
 have hcb:=hcb.lee2 r4 e4
 have r1:=e4.2 _ _ (by omega) r1
 have r2:=e4.2 _ _ (by omega) r2
 have r3:=e4.2 _ _ (by omega) r3
 have r4:=r4n
 have hbR4:R4<g4.next:=H.row_lt hwg4 r4
 clear hl4 hl5 e3 e4 r2n r4n hg3 hg4 l04 l05
 have bx:=wbig wx (by omega)
 have by_:=wbig wy (by omega)
 simp only[go_sem,(g2 r1).1,(g2 r2).1,Nat.zero_add]
 refine Lend_calls hca (by rw[List.length_take];omega) fun lu h6 hw6 hl6 lx=> ?_
 have r1:=hl6.2 _ _ r1
 have r2:=hl6.2 _ _ r2
 have r3:=hl6.2 _ _ r3
 have r4:=hl6.2 _ _ r4
 replace nx:=nx.mono hl6
 replace hrx:=hrx.mono hl6
 replace hca:=hca.mono hl6
 replace ny:=ny.mono hl6
 replace hry:=hry.mono hl6
 replace hcb:=hcb.mono hl6
 have l21:=H.le_trans hlg4 hl6
 have hb6:=hl6.1
 clear hl6
 simp only[go_sem,(g2 r2).1,Nat.zero_add]
 refine⟨by simp, ?_⟩
 refine Lend_calls hcb (by rw[List.length_take];omega) fun lv h7 hw7 hl7 ly=> ?_
 have r1:=hl7.2 _ _ r1
 have r2:=hl7.2 _ _ r2
 have r3:=hl7.2 _ _ r3
 have r4:=hl7.2 _ _ r4
 replace nx:=nx.mono hl7
 replace hrx:=hrx.mono hl7
 replace hca:=hca.mono hl7
 replace ny:=ny.mono hl7
 replace hry:=hry.mono hl7
 replace hcb:=hcb.mono hl7
 replace lx:=lx.mono hl7
 have l22:=H.le_trans l21 hl7
 have hb7:=hl7.1
 clear hl7
 obtain⟨iu,rfl,_⟩:=id lx
 obtain⟨iv,rfl,_⟩:=id ly
 have eu:abuild [.sl none 0 0 none, .bool false] [(0,1, .sl (some iu) 0 (xs.take 20).length (some ((xs.take 20).length+4))),(1,1, .bool ba)]=some [.sl (some iu) 0 (xs.take 20).length (some ((xs.take 20).length+4)), .bool ba]:=bldI rfl
 have ev:abuild [.sl none 0 0 none, .bool false] [(0,1, .sl (some iv) 0 (ys.take 20).length (some ((ys.take 20).length+4))),(1,1, .bool bb)]=some [.sl (some iv) 0 (ys.take 20).length (some ((ys.take 20).length+4)), .bool bb]:=bldI rfl
 simp only[go_sem,w_regt,(g2 r1).2.1,(g2 r2).2.1,Nat.zero_add,eu,ev]
 clear eu ev
 simp only[List.length_cons,List.length_nil,Nat.zero_add,Nat.reduceAdd]
 have hN7:=l22.1
 have hP7:=H.row_lt hw7 r4
 have hlA:=H.le_new hw7 (H.le_refl h7) ⟨some 27,2,[.sl none 0 0 none, .bool false]⟩
 have hwA:=H.wf_new hw7 ⟨some 27,2,[.sl none 0 0 none, .bool false]⟩
 have ra:=H.rows_new h7 ⟨some 27,2,[.sl none 0 0 none, .bool false]⟩
 have hnA:(h7.new ⟨some 27,2,[.sl none 0 0 none, .bool false]⟩).next=h7.next+1:=rfl
 generalize hS7:h7.next=R7 at*
 generalize h7.new ⟨some 27,2,[.sl none 0 0 none, .bool false]⟩=hA at*
 have hlB:=H.le_new hwA (H.le_refl hA) ⟨some 27,2,[.sl none 0 0 none, .bool false]⟩
 have hwB:=H.wf_new hwA ⟨some 27,2,[.sl none 0 0 none, .bool false]⟩
 have rb:=H.rows_new hA ⟨some 27,2,[.sl none 0 0 none, .bool false]⟩
 have hnB:(hA.new ⟨some 27,2,[.sl none 0 0 none, .bool false]⟩).next=hA.next+1:=rfl
 rw[hnA] at rb hnB
 rw[hnA]
 generalize hA.new ⟨some 27,2,[.sl none 0 0 none, .bool false]⟩=hB at*
 have r1A:=hlA.2 _ _ r1
 have r2A:=hlA.2 _ _ r2
 have ra:=hlB.2 _ _ ra
 have hlAB:=H.le_trans hlA hlB
 have r1:=hlAB.2 _ _ r1
 have r2:=hlAB.2 _ _ r2
 have r3:=hlAB.2 _ _ r3
 have r4:=hlAB.2 _ _ r4
 replace nx:=nx.mono hlAB
 replace hrx:=hrx.mono hlAB
 replace hca:=hca.mono hlAB
 replace ny:=ny.mono hlAB
 replace hry:=hry.mono hlAB
 replace hcb:=hcb.mono hlAB
 replace lx:=lx.mono hlAB
 replace ly:=ly.mono hlAB
 have l23:=H.le_trans l22 hlAB
 have k1:hA.get h.next 1=some (.bool ba):=(g2 r1A).2.1
 have k2:hA.get (h.next+1) 1=some (.bool bb):=(g2 r2A).2.1
 have k3:hB.get h.next 1=some (.bool ba):=(g2 r1).2.1
 have k4:hB.get (h.next+1) 1=some (.bool bb):=(g2 r2).2.1
 clear hlA hlB hlAB r1A r2A
 rw[k1,k2,k3,k4]
 refine⟨⟨⟨rfl,rfl,trivial⟩,⟨⟨rfl,rfl,trivial⟩, ?_,trivial⟩,trivial⟩,⟨⟨⟨rfl,rfl,trivial⟩,⟨⟨rfl,rfl,trivial⟩, ?_,trivial⟩,trivial⟩,trivial⟩⟩
 ·refine⟨by trivial,rfl,put2 hw hwB l23 (by omega) ra rfl fun h25 hw25 l25 hg25 rn e1=> ?_⟩
  have nx:=nx.lee2 ra e1
  have hrx:=hrx.lee2 ra e1
  have hca:=hca.lee2 ra e1
  have ny:=ny.lee2 ra e1
  have hry:=hry.lee2 ra e1
  have hcb:=hcb.lee2 ra e1
  have lx:=lx.lee2 ra e1
  have ly:=ly.lee2 ra e1
  have r1:=e1.2 _ _ (by omega) r1
  have r2:=e1.2 _ _ (by omega) r2
  have r3:=e1.2 _ _ (by omega) r3
  have r4:=e1.2 _ _ (by omega) r4
  have rb:=e1.2 _ _ (by omega) rb
  have ra:=rn
  clear rn e1 hg25
  simp only[go_sem,(g2 r2).2.1,Nat.zero_add]
  refine⟨by trivial, ?_,trivial⟩
  refine⟨by trivial,rfl,put2 hw hw25 l25 (by omega) rb rfl fun h26 hw26 l26 hg26 rn e1=> ?_⟩
  have nx:=nx.lee2 rb e1
  have hrx:=hrx.lee2 rb e1
  have hca:=hca.lee2 rb e1
  have ny:=ny.lee2 rb e1
  have hry:=hry.lee2 rb e1
  have hcb:=hcb.lee2 rb e1
  have lx:=lx.lee2 rb e1
  have ly:=ly.lee2 rb e1
  have r1:=e1.2 _ _ (by omega) r1
  have r2:=e1.2 _ _ (by omega) r2
  have r3:=e1.2 _ _ (by omega) r3
  have r4:=e1.2 _ _ (by omega) r4
  have ra:=e1.2 _ _ (by omega) ra
  have rb:=rn
  clear rn e1 hg26
  simp only[go_sem,w_regt,(g2 ra).2.2,(g2 rb).2.2]
  have ncx:=IsN.nn' lx.isN (Dig.take hd 20) (by rw[List.length_take];omega) hvx
  have ncy:=IsN.nn' ly.isN (Dig.take he 20) (by rw[List.length_take];omega) hvy
  have bsx:Big (sg ba x).natAbs:=by rw[sg_abs];exact bx
  have bsy:Big (sg bb y).natAbs:=by rw[sg_abs];exact by_
  have bxy:Big (x+y):=add_big wx wy (by omega)
  have hX1:(sg ba x).natAbs=x:=sg_abs _ _
  have hY1:(sg bb y).natAbs=y:=sg_abs _ _
  have hbK:=Nat.le_refl h26.next
  have Ar1:=r1
  have Ar2:=r2
  have Ar3:=r3
  have Ar4:=r4
  have Ara:=ra
  have Arb:=rb
  have Anx:=nx
  have Ahrx:=hrx
  have Ahca:=hca
  have Any:=ny
  have Ahry:=hry
  have Ahcb:=hcb
  have Alx:=lx
  have Aly:=ly
  have Ancx:=ncx
  have Ancy:=ncy
  have Ale:=H.le_refl h26
  have AL:=l26
  refine zAdd_calls ncx ncy bx by_ bxy fun s1 h30 hw30 hl30 hs1=> ?_
  have hlK:=hl30
  have r1:=hl30.2 _ _ r1
  have r2:=hl30.2 _ _ r2
  have r3:=hl30.2 _ _ r3
  have r4:=hl30.2 _ _ r4
  have ra:=hl30.2 _ _ ra
  have rb:=hl30.2 _ _ rb
  replace nx:=nx.mono hl30
  replace hrx:=hrx.mono hl30
  replace hca:=hca.mono hl30
  replace ny:=ny.mono hl30
  replace hry:=hry.mono hl30
  replace hcb:=hcb.mono hl30
  replace lx:=lx.mono hl30
  replace ly:=ly.mono hl30
  replace ncx:=ncx.mono hl30
  replace ncy:=ncy.mono hl30
  have l27:=H.le_trans l26 hl30
  have m28:=H.le_trans Ale hl30
  obtain⟨ws,rfl,ns⟩:=zf_open hs1
  simp only[go_sem]
  have hN29:=l27.1
  have hM29:=m28.1
  have hP29:=H.row_lt hw30 rb
  have ra29:=H.rows_new h30 ⟨some 27,2,[.sl none 0 0 none, .bool false]⟩
  have hlA:=H.le_new hw30 (H.le_refl h30) ⟨some 27,2,[.sl none 0 0 none, .bool false]⟩
  have hw29:=H.wf_new hw30 ⟨some 27,2,[.sl none 0 0 none, .bool false]⟩
  have hnA:(H.new h30 ⟨some 27,2,[.sl none 0 0 none, .bool false]⟩).next=h30.next+1:=rfl
  simp only[List.length_cons,List.length_nil,Nat.zero_add,Nat.reduceAdd]
  generalize hS29:h30.next=R29 at*
  generalize H.new h30 ⟨some 27,2,[.sl none 0 0 none, .bool false]⟩=h29 at*
  have r1:=hlA.2 _ _ r1
  have r2:=hlA.2 _ _ r2
  have r3:=hlA.2 _ _ r3
  have r4:=hlA.2 _ _ r4
  have ra:=hlA.2 _ _ ra
  have rb:=hlA.2 _ _ rb
  replace nx:=nx.mono hlA
  replace hrx:=hrx.mono hlA
  replace hca:=hca.mono hlA
  replace ny:=ny.mono hlA
  replace hry:=hry.mono hlA
  replace hcb:=hcb.mono hlA
  replace lx:=lx.mono hlA
  replace ly:=ly.mono hlA
  replace ncx:=ncx.mono hlA
  replace ncy:=ncy.mono hlA
  replace hs1:=hs1.mono hlA
  replace ns:=ns.mono hlA
  have l30:=H.le_trans l27 hlA
  have m31:=H.le_trans m28 hlA
  clear hlA
  refine⟨by trivial,all2 ns.one,put2 hw hw29 l30 (by omega) ra29 rfl fun h32 hw32 l32 hg32 rn e1=> ?_⟩
  have nx:=nx.lee2 ra29 e1
  have hrx:=hrx.lee2 ra29 e1
  have hca:=hca.lee2 ra29 e1
  have ny:=ny.lee2 ra29 e1
  have hry:=hry.lee2 ra29 e1
  have hcb:=hcb.lee2 ra29 e1
  have lx:=lx.lee2 ra29 e1
  have ly:=ly.lee2 ra29 e1
  have ncx:=ncx.lee2 ra29 e1
  have ncy:=ncy.lee2 ra29 e1
  have hs1:=hs1.lee2 ra29 e1
  have ns:=ns.lee2 ra29 e1
  have r1:=e1.2 _ _ (by omega) r1
  have r2:=e1.2 _ _ (by omega) r2
  have r3:=e1.2 _ _ (by omega) r3
  have r4:=e1.2 _ _ (by omega) r4
  have ra:=e1.2 _ _ (by omega) ra
  have rb:=e1.2 _ _ (by omega) rb
  have m33:=le_over hw26 m31 (by omega) e1
  have ra29:=rn
  clear rn e1 hg32
  simp only[go_sem,Bool.not_true,bne_self_eq_false,(g2 r3).2.2,(g2 r4).2.2,(g2 ra).2.2,(g2 rb).2.2,(g2 ra29).2.2]
  refine zrAdd' hrx hry bsx bsy fun p34 h34 hw34 hlC hp34=> ?_
  have r1:=hlC.2 _ _ r1
  have r2:=hlC.2 _ _ r2
  have r3:=hlC.2 _ _ r3
  have r4:=hlC.2 _ _ r4
  have ra:=hlC.2 _ _ ra
  have rb:=hlC.2 _ _ rb
  have ra29:=hlC.2 _ _ ra29
  replace nx:=nx.mono hlC
  replace hrx:=hrx.mono hlC
  replace hca:=hca.mono hlC
  replace ny:=ny.mono hlC
  replace hry:=hry.mono hlC
  replace hcb:=hcb.mono hlC
  replace lx:=lx.mono hlC
  replace ly:=ly.mono hlC
  replace ncx:=ncx.mono hlC
  replace ncy:=ncy.mono hlC
  replace hs1:=hs1.mono hlC
  replace ns:=ns.mono hlC
  have l35:=H.le_trans l32 hlC
  have m36:=H.le_trans m33 hlC
  clear hlC
  simp only[go_sem,(g2 ra29).2.2]
  refine⟨by simp, ?_⟩
  refine same18_calls hp34 hs1 (bxy.le (by omega)) fun h37 hw37 hlC=> ?_
  have r1:=hlC.2 _ _ r1
  have r2:=hlC.2 _ _ r2
  have r3:=hlC.2 _ _ r3
  have r4:=hlC.2 _ _ r4
  have ra:=hlC.2 _ _ ra
  have rb:=hlC.2 _ _ rb
  have ra29:=hlC.2 _ _ ra29
  replace nx:=nx.mono hlC
  replace hrx:=hrx.mono hlC
  replace hca:=hca.mono hlC
  replace ny:=ny.mono hlC
  replace hry:=hry.mono hlC
  replace hcb:=hcb.mono hlC
  replace lx:=lx.mono hlC
  replace ly:=ly.mono hlC
  replace ncx:=ncx.mono hlC
  replace ncy:=ncy.mono hlC
  replace hs1:=hs1.mono hlC
  replace ns:=ns.mono hlC
  have l38:=H.le_trans l35 hlC
  have m39:=H.le_trans m36 hlC
  clear hlC hp34
  simp only[go_sem,Bool.not_true,bne_self_eq_false,(g2 r3).2.2,(g2 r4).2.2,(g2 ra).2.2,(g2 rb).2.2,(g2 ra29).2.2]
  refine zrSub' hrx hry bsx bsy fun p40 h40 hw40 hlC hp40=> ?_
  have r1:=hlC.2 _ _ r1
  have r2:=hlC.2 _ _ r2
  have r3:=hlC.2 _ _ r3
  have r4:=hlC.2 _ _ r4
  have ra:=hlC.2 _ _ ra
  have rb:=hlC.2 _ _ rb
  have ra29:=hlC.2 _ _ ra29
  replace nx:=nx.mono hlC
  replace hrx:=hrx.mono hlC
  replace hca:=hca.mono hlC
  replace ny:=ny.mono hlC
  replace hry:=hry.mono hlC
  replace hcb:=hcb.mono hlC
  replace lx:=lx.mono hlC
  replace ly:=ly.mono hlC
  replace ncx:=ncx.mono hlC
  replace ncy:=ncy.mono hlC
  replace hs1:=hs1.mono hlC
  replace ns:=ns.mono hlC
  have l41:=H.le_trans l38 hlC
  have m42:=H.le_trans m39 hlC
  clear hlC
  simp only[go_sem,(g2 r3).2.2,(g2 r4).2.2,(g2 ra).2.2,(g2 rb).2.2]
  refine⟨by simp, ?_⟩
  refine zSub_calls ncx ncy bx by_ bxy fun q43 h43 hw43 hlC hq43=> ?_
  have r1:=hlC.2 _ _ r1
  have r2:=hlC.2 _ _ r2
  have r3:=hlC.2 _ _ r3
  have r4:=hlC.2 _ _ r4
  have ra:=hlC.2 _ _ ra
  have rb:=hlC.2 _ _ rb
  have ra29:=hlC.2 _ _ ra29
  replace nx:=nx.mono hlC
  replace hrx:=hrx.mono hlC
  replace hca:=hca.mono hlC
  replace ny:=ny.mono hlC
  replace hry:=hry.mono hlC
  replace hcb:=hcb.mono hlC
  replace lx:=lx.mono hlC
  replace ly:=ly.mono hlC
  replace ncx:=ncx.mono hlC
  replace ncy:=ncy.mono hlC
  replace hs1:=hs1.mono hlC
  replace ns:=ns.mono hlC
  replace hp40:=hp40.mono hlC
  have l44:=H.le_trans l41 hlC
  have m45:=H.le_trans m42 hlC
  clear hlC
  simp only[go_sem]
  refine same18_calls hp40 hq43 (bxy.le (by omega)) fun h46 hw46 hlC=> ?_
  have r1:=hlC.2 _ _ r1
  have r2:=hlC.2 _ _ r2
  have r3:=hlC.2 _ _ r3
  have r4:=hlC.2 _ _ r4
  have ra:=hlC.2 _ _ ra
  have rb:=hlC.2 _ _ rb
  have ra29:=hlC.2 _ _ ra29
  replace nx:=nx.mono hlC
  replace hrx:=hrx.mono hlC
  replace hca:=hca.mono hlC
  replace ny:=ny.mono hlC
  replace hry:=hry.mono hlC
  replace hcb:=hcb.mono hlC
  replace lx:=lx.mono hlC
  replace ly:=ly.mono hlC
  replace ncx:=ncx.mono hlC
  replace ncy:=ncy.mono hlC
  replace hs1:=hs1.mono hlC
  replace ns:=ns.mono hlC
  have l47:=H.le_trans l44 hlC
  have m48:=H.le_trans m45 hlC
  clear hlC hp40
  simp only[go_sem,Bool.not_true,(g2 r3).2.2,(g2 r4).2.2,(g2 ra).2.2,(g2 rb).2.2]
  refine zCmp_calls ncx ncy fun h49 hw49 hlC=> ?_
  have r1:=hlC.2 _ _ r1
  have r2:=hlC.2 _ _ r2
  have r3:=hlC.2 _ _ r3
  have r4:=hlC.2 _ _ r4
  have ra:=hlC.2 _ _ ra
  have rb:=hlC.2 _ _ rb
  have ra29:=hlC.2 _ _ ra29
  replace nx:=nx.mono hlC
  replace hrx:=hrx.mono hlC
  replace hca:=hca.mono hlC
  replace ny:=ny.mono hlC
  replace hry:=hry.mono hlC
  replace hcb:=hcb.mono hlC
  replace lx:=lx.mono hlC
  replace ly:=ly.mono hlC
  replace ncx:=ncx.mono hlC
  replace ncy:=ncy.mono hlC
  replace hs1:=hs1.mono hlC
  replace ns:=ns.mono hlC
  have l51:=H.le_trans l47 hlC
  have m52:=H.le_trans m48 hlC
  clear hlC
  simp only[go_sem,(g2 r3).2.2,(g2 r4).2.2]
  refine⟨by simp, ?_⟩
  refine zrCmp' hrx hry bsx bsy fun h50 hw50 hlC=> ?_
  have r1:=hlC.2 _ _ r1
  have r2:=hlC.2 _ _ r2
  have r3:=hlC.2 _ _ r3
  have r4:=hlC.2 _ _ r4
  have ra:=hlC.2 _ _ ra
  have rb:=hlC.2 _ _ rb
  have ra29:=hlC.2 _ _ ra29
  replace nx:=nx.mono hlC
  replace hrx:=hrx.mono hlC
  replace hca:=hca.mono hlC
  replace ny:=ny.mono hlC
  replace hry:=hry.mono hlC
  replace hcb:=hcb.mono hlC
  replace lx:=lx.mono hlC
  replace ly:=ly.mono hlC
  replace ncx:=ncx.mono hlC
  replace ncy:=ncy.mono hlC
  replace hs1:=hs1.mono hlC
  replace ns:=ns.mono hlC
  have l53:=H.le_trans l51 hlC
  have m54:=H.le_trans m52 hlC
  clear hlC
  simp only[go_sem,Bool.not_true,bne_self_eq_false,(g2 r3).2.2,(g2 r4).2.2,(g2 ra).2.2,(g2 rb).2.2,(g2 ra29).2.2]
  refine zrNeg' hrx fun p55 h55 hw55 hlC hp55=> ?_
  have r1:=hlC.2 _ _ r1
  have r2:=hlC.2 _ _ r2
  have r3:=hlC.2 _ _ r3
  have r4:=hlC.2 _ _ r4
  have ra:=hlC.2 _ _ ra
  have rb:=hlC.2 _ _ rb
  have ra29:=hlC.2 _ _ ra29
  replace nx:=nx.mono hlC
  replace hrx:=hrx.mono hlC
  replace hca:=hca.mono hlC
  replace ny:=ny.mono hlC
  replace hry:=hry.mono hlC
  replace hcb:=hcb.mono hlC
  replace lx:=lx.mono hlC
  replace ly:=ly.mono hlC
  replace ncx:=ncx.mono hlC
  replace ncy:=ncy.mono hlC
  replace hs1:=hs1.mono hlC
  replace ns:=ns.mono hlC
  have l56:=H.le_trans l53 hlC
  have m57:=H.le_trans m54 hlC
  clear hlC
  simp only[go_sem,(g2 r3).2.2,(g2 r4).2.2,(g2 ra).2.2,(g2 rb).2.2]
  refine⟨by simp, ?_⟩
  refine zNeg_calls ncx bx fun q58 h58 hw58 hlC hq58=> ?_
  have r1:=hlC.2 _ _ r1
  have r2:=hlC.2 _ _ r2
  have r3:=hlC.2 _ _ r3
  have r4:=hlC.2 _ _ r4
  have ra:=hlC.2 _ _ ra
  have rb:=hlC.2 _ _ rb
  have ra29:=hlC.2 _ _ ra29
  replace nx:=nx.mono hlC
  replace hrx:=hrx.mono hlC
  replace hca:=hca.mono hlC
  replace ny:=ny.mono hlC
  replace hry:=hry.mono hlC
  replace hcb:=hcb.mono hlC
  replace lx:=lx.mono hlC
  replace ly:=ly.mono hlC
  replace ncx:=ncx.mono hlC
  replace ncy:=ncy.mono hlC
  replace hs1:=hs1.mono hlC
  replace ns:=ns.mono hlC
  replace hp55:=hp55.mono hlC
  have l59:=H.le_trans l56 hlC
  have m60:=H.le_trans m57 hlC
  clear hlC
  simp only[go_sem]
  refine same18_calls hp55 hq58 (bx.le (by omega)) fun h61 hw61 hlC=> ?_
  have r1:=hlC.2 _ _ r1
  have r2:=hlC.2 _ _ r2
  have r3:=hlC.2 _ _ r3
  have r4:=hlC.2 _ _ r4
  have ra:=hlC.2 _ _ ra
  have rb:=hlC.2 _ _ rb
  have ra29:=hlC.2 _ _ ra29
  replace nx:=nx.mono hlC
  replace hrx:=hrx.mono hlC
  replace hca:=hca.mono hlC
  replace ny:=ny.mono hlC
  replace hry:=hry.mono hlC
  replace hcb:=hcb.mono hlC
  replace lx:=lx.mono hlC
  replace ly:=ly.mono hlC
  replace ncx:=ncx.mono hlC
  replace ncy:=ncy.mono hlC
  replace hs1:=hs1.mono hlC
  replace ns:=ns.mono hlC
  have l62:=H.le_trans l59 hlC
  have m63:=H.le_trans m60 hlC
  clear hlC hp55
  simp only[go_sem,Bool.not_true,bne_self_eq_false,(g2 r3).2.2,(g2 r4).2.2,(g2 ra).2.2,(g2 rb).2.2,(g2 ra29).2.2]
  refine zrAbs' hrx fun p64 h64 hw64 hlC hp64=> ?_
  have r1:=hlC.2 _ _ r1
  have r2:=hlC.2 _ _ r2
  have r3:=hlC.2 _ _ r3
  have r4:=hlC.2 _ _ r4
  have ra:=hlC.2 _ _ ra
  have rb:=hlC.2 _ _ rb
  have ra29:=hlC.2 _ _ ra29
  replace nx:=nx.mono hlC
  replace hrx:=hrx.mono hlC
  replace hca:=hca.mono hlC
  replace ny:=ny.mono hlC
  replace hry:=hry.mono hlC
  replace hcb:=hcb.mono hlC
  replace lx:=lx.mono hlC
  replace ly:=ly.mono hlC
  replace ncx:=ncx.mono hlC
  replace ncy:=ncy.mono hlC
  replace hs1:=hs1.mono hlC
  replace ns:=ns.mono hlC
  have l65:=H.le_trans l62 hlC
  have m66:=H.le_trans m63 hlC
  clear hlC
  simp only[go_sem,(g2 r3).2.2,(g2 r4).2.2,(g2 ra).2.2,(g2 rb).2.2]
  refine⟨by simp, ?_⟩
  refine zAbs_calls ncx bx fun q67 h67 hw67 hlC hq67=> ?_
  have r1:=hlC.2 _ _ r1
  have r2:=hlC.2 _ _ r2
  have r3:=hlC.2 _ _ r3
  have r4:=hlC.2 _ _ r4
  have ra:=hlC.2 _ _ ra
  have rb:=hlC.2 _ _ rb
  have ra29:=hlC.2 _ _ ra29
  replace nx:=nx.mono hlC
  replace hrx:=hrx.mono hlC
  replace hca:=hca.mono hlC
  replace ny:=ny.mono hlC
  replace hry:=hry.mono hlC
  replace hcb:=hcb.mono hlC
  replace lx:=lx.mono hlC
  replace ly:=ly.mono hlC
  replace ncx:=ncx.mono hlC
  replace ncy:=ncy.mono hlC
  replace hs1:=hs1.mono hlC
  replace ns:=ns.mono hlC
  replace hp64:=hp64.mono hlC
  have l68:=H.le_trans l65 hlC
  have m69:=H.le_trans m66 hlC
  clear hlC
  simp only[go_sem]
  rw[hX1] at hp64
  refine same18_calls hp64 hq67 (bx.le (by omega)) fun h70 hw70 hlC=> ?_
  have r1:=hlC.2 _ _ r1
  have r2:=hlC.2 _ _ r2
  have r3:=hlC.2 _ _ r3
  have r4:=hlC.2 _ _ r4
  have ra:=hlC.2 _ _ ra
  have rb:=hlC.2 _ _ rb
  have ra29:=hlC.2 _ _ ra29
  replace nx:=nx.mono hlC
  replace hrx:=hrx.mono hlC
  replace hca:=hca.mono hlC
  replace ny:=ny.mono hlC
  replace hry:=hry.mono hlC
  replace hcb:=hcb.mono hlC
  replace lx:=lx.mono hlC
  replace ly:=ly.mono hlC
  replace ncx:=ncx.mono hlC
  replace ncy:=ncy.mono hlC
  replace hs1:=hs1.mono hlC
  replace ns:=ns.mono hlC
  have l71:=H.le_trans l68 hlC
  have m72:=H.le_trans m69 hlC
  clear hlC hp64
  simp only[go_sem,Bool.not_true,(g2 r3).2.2,(g2 ra).2.2]
  refine zNorm_calls ncx bx fun n73 h73 hw73 hlC hn73=> ?_
  have r1:=hlC.2 _ _ r1
  have r2:=hlC.2 _ _ r2
  have r3:=hlC.2 _ _ r3
  have r4:=hlC.2 _ _ r4
  have ra:=hlC.2 _ _ ra
  have rb:=hlC.2 _ _ rb
  have ra29:=hlC.2 _ _ ra29
  replace nx:=nx.mono hlC
  replace hrx:=hrx.mono hlC
  replace hca:=hca.mono hlC
  replace ny:=ny.mono hlC
  replace hry:=hry.mono hlC
  replace hcb:=hcb.mono hlC
  replace lx:=lx.mono hlC
  replace ly:=ly.mono hlC
  replace ncx:=ncx.mono hlC
  replace ncy:=ncy.mono hlC
  replace hs1:=hs1.mono hlC
  replace ns:=ns.mono hlC
  have l75:=H.le_trans l71 hlC
  have m76:=H.le_trans m72 hlC
  clear hlC
  simp only[go_sem,(g2 r3).2.2]
  refine⟨by simp, ?_⟩
  refine same18_calls hrx hn73 bsx fun h74 hw74 hlC=> ?_
  have r1:=hlC.2 _ _ r1
  have r2:=hlC.2 _ _ r2
  have r3:=hlC.2 _ _ r3
  have r4:=hlC.2 _ _ r4
  have ra:=hlC.2 _ _ ra
  have rb:=hlC.2 _ _ rb
  have ra29:=hlC.2 _ _ ra29
  replace nx:=nx.mono hlC
  replace hrx:=hrx.mono hlC
  replace hca:=hca.mono hlC
  replace ny:=ny.mono hlC
  replace hry:=hry.mono hlC
  replace hcb:=hcb.mono hlC
  replace lx:=lx.mono hlC
  replace ly:=ly.mono hlC
  replace ncx:=ncx.mono hlC
  replace ncy:=ncy.mono hlC
  replace hs1:=hs1.mono hlC
  replace ns:=ns.mono hlC
  have l77:=H.le_trans l75 hlC
  have m78:=H.le_trans m76 hlC
  clear hlC
  simp only[go_sem,Bool.not_true,(g2 ra29).1,Nat.zero_add]
  refine Spoil_calls ns.own fun h90 hw90 ka90 _=> ?_
  have lA:=ka90 _ hw26 m78 hbK
  have r1:=lA.2 _ _ Ar1
  have r2:=lA.2 _ _ Ar2
  have r3:=lA.2 _ _ Ar3
  have r4:=lA.2 _ _ Ar4
  have ra:=lA.2 _ _ Ara
  have rb:=lA.2 _ _ Arb
  have nx:=Anx.mono lA
  have hrx:=Ahrx.mono lA
  have hca:=Ahca.mono lA
  have ny:=Any.mono lA
  have hry:=Ahry.mono lA
  have hcb:=Ahcb.mono lA
  have lx:=Alx.mono lA
  have ly:=Aly.mono lA
  have ncx:=Ancx.mono lA
  have ncy:=Ancy.mono lA
  have l79:=H.le_trans AL lA
  simp only[go_sem,(g2 ra).2.2]
  have hbK2:=Nat.le_refl h90.next
  have Br1:=r1
  have Br2:=r2
  have Br3:=r3
  have Br4:=r4
  have Bra:=ra
  have Brb:=rb
  have Bnx:=nx
  have Bhrx:=hrx
  have Bhca:=hca
  have Bny:=ny
  have Bhry:=hry
  have Bhcb:=hcb
  have Blx:=lx
  have Bly:=ly
  have Bncx:=ncx
  have Bncy:=ncy
  have Ble:=H.le_refl h90
  have BL:=l79
  refine zNorm_calls ncx bx fun n91 h91 hw91 hlC hn91=> ?_
  have r1:=hlC.2 _ _ r1
  have r2:=hlC.2 _ _ r2
  have r3:=hlC.2 _ _ r3
  have r4:=hlC.2 _ _ r4
  have ra:=hlC.2 _ _ ra
  have rb:=hlC.2 _ _ rb
  replace nx:=nx.mono hlC
  replace hrx:=hrx.mono hlC
  replace hca:=hca.mono hlC
  replace ny:=ny.mono hlC
  replace hry:=hry.mono hlC
  replace hcb:=hcb.mono hlC
  replace lx:=lx.mono hlC
  replace ly:=ly.mono hlC
  replace ncx:=ncx.mono hlC
  replace ncy:=ncy.mono hlC
  have l80:=H.le_trans l79 hlC
  have m81:=H.le_trans Ble hlC
  clear hlC
  obtain⟨wm,rfl,nm⟩:=zf_open hn91
  simp only[go_sem]
  have hN82:=l80.1
  have hM82:=m81.1
  have hP82:=H.row_lt hw91 rb
  have ra82:=H.rows_new h91 ⟨some 27,2,[.sl none 0 0 none, .bool false]⟩
  have hlA:=H.le_new hw91 (H.le_refl h91) ⟨some 27,2,[.sl none 0 0 none, .bool false]⟩
  have hw82:=H.wf_new hw91 ⟨some 27,2,[.sl none 0 0 none, .bool false]⟩
  have hnA:(H.new h91 ⟨some 27,2,[.sl none 0 0 none, .bool false]⟩).next=h91.next+1:=rfl
  simp only[List.length_cons,List.length_nil,Nat.zero_add,Nat.reduceAdd]
  generalize hS82:h91.next=R82 at*
  generalize H.new h91 ⟨some 27,2,[.sl none 0 0 none, .bool false]⟩=h82 at*
  have r1:=hlA.2 _ _ r1
  have r2:=hlA.2 _ _ r2
  have r3:=hlA.2 _ _ r3
  have r4:=hlA.2 _ _ r4
  have ra:=hlA.2 _ _ ra
  have rb:=hlA.2 _ _ rb
  replace nx:=nx.mono hlA
  replace hrx:=hrx.mono hlA
  replace hca:=hca.mono hlA
  replace ny:=ny.mono hlA
  replace hry:=hry.mono hlA
  replace hcb:=hcb.mono hlA
  replace lx:=lx.mono hlA
  replace ly:=ly.mono hlA
  replace ncx:=ncx.mono hlA
  replace ncy:=ncy.mono hlA
  replace hn91:=hn91.mono hlA
  replace nm:=nm.mono hlA
  have l83:=H.le_trans l80 hlA
  have m84:=H.le_trans m81 hlA
  clear hlA
  refine⟨by trivial,all2 nm.one,put2 hw hw82 l83 (by omega) ra82 rfl fun h85 hw85 l85 hg85 rn e1=> ?_⟩
  have nx:=nx.lee2 ra82 e1
  have hrx:=hrx.lee2 ra82 e1
  have hca:=hca.lee2 ra82 e1
  have ny:=ny.lee2 ra82 e1
  have hry:=hry.lee2 ra82 e1
  have hcb:=hcb.lee2 ra82 e1
  have lx:=lx.lee2 ra82 e1
  have ly:=ly.lee2 ra82 e1
  have ncx:=ncx.lee2 ra82 e1
  have ncy:=ncy.lee2 ra82 e1
  have hn91:=hn91.lee2 ra82 e1
  have nm:=nm.lee2 ra82 e1
  have r1:=e1.2 _ _ (by omega) r1
  have r2:=e1.2 _ _ (by omega) r2
  have r3:=e1.2 _ _ (by omega) r3
  have r4:=e1.2 _ _ (by omega) r4
  have ra:=e1.2 _ _ (by omega) ra
  have rb:=e1.2 _ _ (by omega) rb
  have m86:=le_over hw90 m84 (by omega) e1
  have ra82:=rn
  clear rn e1 hg85
  simp only[go_sem,(g2 ra82).1,Nat.zero_add]
  refine Spoil_calls nm.own fun h95 hw95 ka95 _=> ?_
  have lB:=ka95 _ hw90 m86 hbK2
  have r1:=lB.2 _ _ Br1
  have r2:=lB.2 _ _ Br2
  have r3:=lB.2 _ _ Br3
  have r4:=lB.2 _ _ Br4
  have ra:=lB.2 _ _ Bra
  have rb:=lB.2 _ _ Brb
  have nx:=Bnx.mono lB
  have hrx:=Bhrx.mono lB
  have hca:=Bhca.mono lB
  have ny:=Bny.mono lB
  have hry:=Bhry.mono lB
  have hcb:=Bhcb.mono lB
  have lx:=Blx.mono lB
  have ly:=Bly.mono lB
  have ncx:=Bncx.mono lB
  have ncy:=Bncy.mono lB
  have l87:=H.le_trans BL lB
  simp only[go_sem,(g2 r1).1,Nat.zero_add]
  refine Intact_calls lx hca (by rw[List.length_take];omega) ?_
  simp only[go_sem,(g2 r2).1,Nat.zero_add]
  refine Intact_calls ly hcb (by rw[List.length_take];omega) ?_
  simp only[go_sem]
  refine wakes18_calls fun h9 hw9 hl10=> ?_
  simp only[go_sem]
  exact fun hw'=>hk _ hw'
 ·refine⟨by trivial,rfl,put2 hw hwB l23 (by omega) rb rfl fun h25 hw25 l25 hg25 rn e1=> ?_⟩
  have nx:=nx.lee2 rb e1
  have hrx:=hrx.lee2 rb e1
  have hca:=hca.lee2 rb e1
  have ny:=ny.lee2 rb e1
  have hry:=hry.lee2 rb e1
  have hcb:=hcb.lee2 rb e1
  have lx:=lx.lee2 rb e1
  have ly:=ly.lee2 rb e1
  have r1:=e1.2 _ _ (by omega) r1
  have r2:=e1.2 _ _ (by omega) r2
  have r3:=e1.2 _ _ (by omega) r3
  have r4:=e1.2 _ _ (by omega) r4
  have ra:=e1.2 _ _ (by omega) ra
  have rb:=rn
  clear rn e1 hg25
  simp only[go_sem,(g2 r2).2.1,Nat.zero_add]
  refine⟨by trivial, ?_,trivial⟩
  refine⟨by trivial,rfl,put2 hw hw25 l25 (by omega) ra rfl fun h26 hw26 l26 hg26 rn e1=> ?_⟩
  have nx:=nx.lee2 ra e1
  have hrx:=hrx.lee2 ra e1
  have hca:=hca.lee2 ra e1
  have ny:=ny.lee2 ra e1
  have hry:=hry.lee2 ra e1
  have hcb:=hcb.lee2 ra e1
  have lx:=lx.lee2 ra e1
  have ly:=ly.lee2 ra e1
  have r1:=e1.2 _ _ (by omega) r1
  have r2:=e1.2 _ _ (by omega) r2
  have r3:=e1.2 _ _ (by omega) r3
  have r4:=e1.2 _ _ (by omega) r4
  have rb:=e1.2 _ _ (by omega) rb
  have ra:=rn
  clear rn e1 hg26
  simp only[go_sem,w_regt,(g2 rb).2.2,(g2 ra).2.2]
  have ncx:=IsN.nn' lx.isN (Dig.take hd 20) (by rw[List.length_take];omega) hvx
  have ncy:=IsN.nn' ly.isN (Dig.take he 20) (by rw[List.length_take];omega) hvy
  have bsx:Big (sg ba x).natAbs:=by rw[sg_abs];exact bx
  have bsy:Big (sg bb y).natAbs:=by rw[sg_abs];exact by_
  have bxy:Big (x+y):=add_big wx wy (by omega)
  have hX1:(sg ba x).natAbs=x:=sg_abs _ _
  have hY1:(sg bb y).natAbs=y:=sg_abs _ _
  have hbK:=Nat.le_refl h26.next
  have Ar1:=r1
  have Ar2:=r2
  have Ar3:=r3
  have Ar4:=r4
  have Ara:=ra
  have Arb:=rb
  have Anx:=nx
  have Ahrx:=hrx
  have Ahca:=hca
  have Any:=ny
  have Ahry:=hry
  have Ahcb:=hcb
  have Alx:=lx
  have Aly:=ly
  have Ancx:=ncx
  have Ancy:=ncy
  have Ale:=H.le_refl h26
  have AL:=l26
  refine zAdd_calls ncx ncy bx by_ bxy fun s1 h30 hw30 hl30 hs1=> ?_
  have hlK:=hl30
  have r1:=hl30.2 _ _ r1
  have r2:=hl30.2 _ _ r2
  have r3:=hl30.2 _ _ r3
  have r4:=hl30.2 _ _ r4
  have ra:=hl30.2 _ _ ra
  have rb:=hl30.2 _ _ rb
  replace nx:=nx.mono hl30
  replace hrx:=hrx.mono hl30
  replace hca:=hca.mono hl30
  replace ny:=ny.mono hl30
  replace hry:=hry.mono hl30
  replace hcb:=hcb.mono hl30
  replace lx:=lx.mono hl30
  replace ly:=ly.mono hl30
  replace ncx:=ncx.mono hl30
  replace ncy:=ncy.mono hl30
  have l27:=H.le_trans l26 hl30
  have m28:=H.le_trans Ale hl30
  obtain⟨ws,rfl,ns⟩:=zf_open hs1
  simp only[go_sem]
  have hN29:=l27.1
  have hM29:=m28.1
  have hP29:=H.row_lt hw30 rb
  have ra29:=H.rows_new h30 ⟨some 27,2,[.sl none 0 0 none, .bool false]⟩
  have hlA:=H.le_new hw30 (H.le_refl h30) ⟨some 27,2,[.sl none 0 0 none, .bool false]⟩
  have hw29:=H.wf_new hw30 ⟨some 27,2,[.sl none 0 0 none, .bool false]⟩
  have hnA:(H.new h30 ⟨some 27,2,[.sl none 0 0 none, .bool false]⟩).next=h30.next+1:=rfl
  simp only[List.length_cons,List.length_nil,Nat.zero_add,Nat.reduceAdd]
  generalize hS29:h30.next=R29 at*
  generalize H.new h30 ⟨some 27,2,[.sl none 0 0 none, .bool false]⟩=h29 at*
  have r1:=hlA.2 _ _ r1
  have r2:=hlA.2 _ _ r2
  have r3:=hlA.2 _ _ r3
  have r4:=hlA.2 _ _ r4
  have ra:=hlA.2 _ _ ra
  have rb:=hlA.2 _ _ rb
  replace nx:=nx.mono hlA
  replace hrx:=hrx.mono hlA
  replace hca:=hca.mono hlA
  replace ny:=ny.mono hlA
  replace hry:=hry.mono hlA
  replace hcb:=hcb.mono hlA
  replace lx:=lx.mono hlA
  replace ly:=ly.mono hlA
  replace ncx:=ncx.mono hlA
  replace ncy:=ncy.mono hlA
  replace hs1:=hs1.mono hlA
  replace ns:=ns.mono hlA
  have l30:=H.le_trans l27 hlA
  have m31:=H.le_trans m28 hlA
  clear hlA
  refine⟨by trivial,all2 ns.one,put2 hw hw29 l30 (by omega) ra29 rfl fun h32 hw32 l32 hg32 rn e1=> ?_⟩
  have nx:=nx.lee2 ra29 e1
  have hrx:=hrx.lee2 ra29 e1
  have hca:=hca.lee2 ra29 e1
  have ny:=ny.lee2 ra29 e1
  have hry:=hry.lee2 ra29 e1
  have hcb:=hcb.lee2 ra29 e1
  have lx:=lx.lee2 ra29 e1
  have ly:=ly.lee2 ra29 e1
  have ncx:=ncx.lee2 ra29 e1
  have ncy:=ncy.lee2 ra29 e1
  have hs1:=hs1.lee2 ra29 e1
  have ns:=ns.lee2 ra29 e1
  have r1:=e1.2 _ _ (by omega) r1
  have r2:=e1.2 _ _ (by omega) r2
  have r3:=e1.2 _ _ (by omega) r3
  have r4:=e1.2 _ _ (by omega) r4
  have ra:=e1.2 _ _ (by omega) ra
  have rb:=e1.2 _ _ (by omega) rb
  have m33:=le_over hw26 m31 (by omega) e1
  have ra29:=rn
  clear rn e1 hg32
  simp only[go_sem,Bool.not_true,bne_self_eq_false,(g2 r3).2.2,(g2 r4).2.2,(g2 rb).2.2,(g2 ra).2.2,(g2 ra29).2.2]
  refine zrAdd' hrx hry bsx bsy fun p34 h34 hw34 hlC hp34=> ?_
  have r1:=hlC.2 _ _ r1
  have r2:=hlC.2 _ _ r2
  have r3:=hlC.2 _ _ r3
  have r4:=hlC.2 _ _ r4
  have ra:=hlC.2 _ _ ra
  have rb:=hlC.2 _ _ rb
  have ra29:=hlC.2 _ _ ra29
  replace nx:=nx.mono hlC
  replace hrx:=hrx.mono hlC
  replace hca:=hca.mono hlC
  replace ny:=ny.mono hlC
  replace hry:=hry.mono hlC
  replace hcb:=hcb.mono hlC
  replace lx:=lx.mono hlC
  replace ly:=ly.mono hlC
  replace ncx:=ncx.mono hlC
  replace ncy:=ncy.mono hlC
  replace hs1:=hs1.mono hlC
  replace ns:=ns.mono hlC
  have l35:=H.le_trans l32 hlC
  have m36:=H.le_trans m33 hlC
  clear hlC
  simp only[go_sem,(g2 ra29).2.2]
  refine⟨by simp, ?_⟩
  refine same18_calls hp34 hs1 (bxy.le (by omega)) fun h37 hw37 hlC=> ?_
  have r1:=hlC.2 _ _ r1
  have r2:=hlC.2 _ _ r2
  have r3:=hlC.2 _ _ r3
  have r4:=hlC.2 _ _ r4
  have ra:=hlC.2 _ _ ra
  have rb:=hlC.2 _ _ rb
  have ra29:=hlC.2 _ _ ra29
  replace nx:=nx.mono hlC
  replace hrx:=hrx.mono hlC
  replace hca:=hca.mono hlC
  replace ny:=ny.mono hlC
  replace hry:=hry.mono hlC
  replace hcb:=hcb.mono hlC
  replace lx:=lx.mono hlC
  replace ly:=ly.mono hlC
  replace ncx:=ncx.mono hlC
  replace ncy:=ncy.mono hlC
  replace hs1:=hs1.mono hlC
  replace ns:=ns.mono hlC
  have l38:=H.le_trans l35 hlC
  have m39:=H.le_trans m36 hlC
  clear hlC hp34
  simp only[go_sem,Bool.not_true,bne_self_eq_false,(g2 r3).2.2,(g2 r4).2.2,(g2 rb).2.2,(g2 ra).2.2,(g2 ra29).2.2]
  refine zrSub' hrx hry bsx bsy fun p40 h40 hw40 hlC hp40=> ?_
  have r1:=hlC.2 _ _ r1
  have r2:=hlC.2 _ _ r2
  have r3:=hlC.2 _ _ r3
  have r4:=hlC.2 _ _ r4
  have ra:=hlC.2 _ _ ra
  have rb:=hlC.2 _ _ rb
  have ra29:=hlC.2 _ _ ra29
  replace nx:=nx.mono hlC
  replace hrx:=hrx.mono hlC
  replace hca:=hca.mono hlC
  replace ny:=ny.mono hlC
  replace hry:=hry.mono hlC
  replace hcb:=hcb.mono hlC
  replace lx:=lx.mono hlC
  replace ly:=ly.mono hlC
  replace ncx:=ncx.mono hlC
  replace ncy:=ncy.mono hlC
  replace hs1:=hs1.mono hlC
  replace ns:=ns.mono hlC
  have l41:=H.le_trans l38 hlC
  have m42:=H.le_trans m39 hlC
  clear hlC
  simp only[go_sem,(g2 r3).2.2,(g2 r4).2.2,(g2 rb).2.2,(g2 ra).2.2]
  refine⟨by simp, ?_⟩
  refine zSub_calls ncx ncy bx by_ bxy fun q43 h43 hw43 hlC hq43=> ?_
  have r1:=hlC.2 _ _ r1
  have r2:=hlC.2 _ _ r2
  have r3:=hlC.2 _ _ r3
  have r4:=hlC.2 _ _ r4
  have ra:=hlC.2 _ _ ra
  have rb:=hlC.2 _ _ rb
  have ra29:=hlC.2 _ _ ra29
  replace nx:=nx.mono hlC
  replace hrx:=hrx.mono hlC
  replace hca:=hca.mono hlC
  replace ny:=ny.mono hlC
  replace hry:=hry.mono hlC
  replace hcb:=hcb.mono hlC
  replace lx:=lx.mono hlC
  replace ly:=ly.mono hlC
  replace ncx:=ncx.mono hlC
  replace ncy:=ncy.mono hlC
  replace hs1:=hs1.mono hlC
  replace ns:=ns.mono hlC
  replace hp40:=hp40.mono hlC
  have l44:=H.le_trans l41 hlC
  have m45:=H.le_trans m42 hlC
  clear hlC
  simp only[go_sem]
  refine same18_calls hp40 hq43 (bxy.le (by omega)) fun h46 hw46 hlC=> ?_
  have r1:=hlC.2 _ _ r1
  have r2:=hlC.2 _ _ r2
  have r3:=hlC.2 _ _ r3
  have r4:=hlC.2 _ _ r4
  have ra:=hlC.2 _ _ ra
  have rb:=hlC.2 _ _ rb
  have ra29:=hlC.2 _ _ ra29
  replace nx:=nx.mono hlC
  replace hrx:=hrx.mono hlC
  replace hca:=hca.mono hlC
  replace ny:=ny.mono hlC
  replace hry:=hry.mono hlC
  replace hcb:=hcb.mono hlC
  replace lx:=lx.mono hlC
  replace ly:=ly.mono hlC
  replace ncx:=ncx.mono hlC
  replace ncy:=ncy.mono hlC
  replace hs1:=hs1.mono hlC
  replace ns:=ns.mono hlC
  have l47:=H.le_trans l44 hlC
  have m48:=H.le_trans m45 hlC
  clear hlC hp40
  simp only[go_sem,Bool.not_true,(g2 r3).2.2,(g2 r4).2.2,(g2 rb).2.2,(g2 ra).2.2]
  refine zCmp_calls ncx ncy fun h49 hw49 hlC=> ?_
  have r1:=hlC.2 _ _ r1
  have r2:=hlC.2 _ _ r2
  have r3:=hlC.2 _ _ r3
  have r4:=hlC.2 _ _ r4
  have ra:=hlC.2 _ _ ra
  have rb:=hlC.2 _ _ rb
  have ra29:=hlC.2 _ _ ra29
  replace nx:=nx.mono hlC
  replace hrx:=hrx.mono hlC
  replace hca:=hca.mono hlC
  replace ny:=ny.mono hlC
  replace hry:=hry.mono hlC
  replace hcb:=hcb.mono hlC
  replace lx:=lx.mono hlC
  replace ly:=ly.mono hlC
  replace ncx:=ncx.mono hlC
  replace ncy:=ncy.mono hlC
  replace hs1:=hs1.mono hlC
  replace ns:=ns.mono hlC
  have l51:=H.le_trans l47 hlC
  have m52:=H.le_trans m48 hlC
  clear hlC
  simp only[go_sem,(g2 r3).2.2,(g2 r4).2.2]
  refine⟨by simp, ?_⟩
  refine zrCmp' hrx hry bsx bsy fun h50 hw50 hlC=> ?_
  have r1:=hlC.2 _ _ r1
  have r2:=hlC.2 _ _ r2
  have r3:=hlC.2 _ _ r3
  have r4:=hlC.2 _ _ r4
  have ra:=hlC.2 _ _ ra
  have rb:=hlC.2 _ _ rb
  have ra29:=hlC.2 _ _ ra29
  replace nx:=nx.mono hlC
  replace hrx:=hrx.mono hlC
  replace hca:=hca.mono hlC
  replace ny:=ny.mono hlC
  replace hry:=hry.mono hlC
  replace hcb:=hcb.mono hlC
  replace lx:=lx.mono hlC
  replace ly:=ly.mono hlC
  replace ncx:=ncx.mono hlC
  replace ncy:=ncy.mono hlC
  replace hs1:=hs1.mono hlC
  replace ns:=ns.mono hlC
  have l53:=H.le_trans l51 hlC
  have m54:=H.le_trans m52 hlC
  clear hlC
  simp only[go_sem,Bool.not_true,bne_self_eq_false,(g2 r3).2.2,(g2 r4).2.2,(g2 rb).2.2,(g2 ra).2.2,(g2 ra29).2.2]
  refine zrNeg' hrx fun p55 h55 hw55 hlC hp55=> ?_
  have r1:=hlC.2 _ _ r1
  have r2:=hlC.2 _ _ r2
  have r3:=hlC.2 _ _ r3
  have r4:=hlC.2 _ _ r4
  have ra:=hlC.2 _ _ ra
  have rb:=hlC.2 _ _ rb
  have ra29:=hlC.2 _ _ ra29
  replace nx:=nx.mono hlC
  replace hrx:=hrx.mono hlC
  replace hca:=hca.mono hlC
  replace ny:=ny.mono hlC
  replace hry:=hry.mono hlC
  replace hcb:=hcb.mono hlC
  replace lx:=lx.mono hlC
  replace ly:=ly.mono hlC
  replace ncx:=ncx.mono hlC
  replace ncy:=ncy.mono hlC
  replace hs1:=hs1.mono hlC
  replace ns:=ns.mono hlC
  have l56:=H.le_trans l53 hlC
  have m57:=H.le_trans m54 hlC
  clear hlC
  simp only[go_sem,(g2 r3).2.2,(g2 r4).2.2,(g2 rb).2.2,(g2 ra).2.2]
  refine⟨by simp, ?_⟩
  refine zNeg_calls ncx bx fun q58 h58 hw58 hlC hq58=> ?_
  have r1:=hlC.2 _ _ r1
  have r2:=hlC.2 _ _ r2
  have r3:=hlC.2 _ _ r3
  have r4:=hlC.2 _ _ r4
  have ra:=hlC.2 _ _ ra
  have rb:=hlC.2 _ _ rb
  have ra29:=hlC.2 _ _ ra29
  replace nx:=nx.mono hlC
  replace hrx:=hrx.mono hlC
  replace hca:=hca.mono hlC
  replace ny:=ny.mono hlC
  replace hry:=hry.mono hlC
  replace hcb:=hcb.mono hlC
  replace lx:=lx.mono hlC
  replace ly:=ly.mono hlC
  replace ncx:=ncx.mono hlC
  replace ncy:=ncy.mono hlC
  replace hs1:=hs1.mono hlC
  replace ns:=ns.mono hlC
  replace hp55:=hp55.mono hlC
  have l59:=H.le_trans l56 hlC
  have m60:=H.le_trans m57 hlC
  clear hlC
  simp only[go_sem]
  refine same18_calls hp55 hq58 (bx.le (by omega)) fun h61 hw61 hlC=> ?_
  have r1:=hlC.2 _ _ r1
  have r2:=hlC.2 _ _ r2
  have r3:=hlC.2 _ _ r3
  have r4:=hlC.2 _ _ r4
  have ra:=hlC.2 _ _ ra
  have rb:=hlC.2 _ _ rb
  have ra29:=hlC.2 _ _ ra29
  replace nx:=nx.mono hlC
  replace hrx:=hrx.mono hlC
  replace hca:=hca.mono hlC
  replace ny:=ny.mono hlC
  replace hry:=hry.mono hlC
  replace hcb:=hcb.mono hlC
  replace lx:=lx.mono hlC
  replace ly:=ly.mono hlC
  replace ncx:=ncx.mono hlC
  replace ncy:=ncy.mono hlC
  replace hs1:=hs1.mono hlC
  replace ns:=ns.mono hlC
  have l62:=H.le_trans l59 hlC
  have m63:=H.le_trans m60 hlC
  clear hlC hp55
  simp only[go_sem,Bool.not_true,bne_self_eq_false,(g2 r3).2.2,(g2 r4).2.2,(g2 rb).2.2,(g2 ra).2.2,(g2 ra29).2.2]
  refine zrAbs' hrx fun p64 h64 hw64 hlC hp64=> ?_
  have r1:=hlC.2 _ _ r1
  have r2:=hlC.2 _ _ r2
  have r3:=hlC.2 _ _ r3
  have r4:=hlC.2 _ _ r4
  have ra:=hlC.2 _ _ ra
  have rb:=hlC.2 _ _ rb
  have ra29:=hlC.2 _ _ ra29
  replace nx:=nx.mono hlC
  replace hrx:=hrx.mono hlC
  replace hca:=hca.mono hlC
  replace ny:=ny.mono hlC
  replace hry:=hry.mono hlC
  replace hcb:=hcb.mono hlC
  replace lx:=lx.mono hlC
  replace ly:=ly.mono hlC
  replace ncx:=ncx.mono hlC
  replace ncy:=ncy.mono hlC
  replace hs1:=hs1.mono hlC
  replace ns:=ns.mono hlC
  have l65:=H.le_trans l62 hlC
  have m66:=H.le_trans m63 hlC
  clear hlC
  simp only[go_sem,(g2 r3).2.2,(g2 r4).2.2,(g2 rb).2.2,(g2 ra).2.2]
  refine⟨by simp, ?_⟩
  refine zAbs_calls ncx bx fun q67 h67 hw67 hlC hq67=> ?_
  have r1:=hlC.2 _ _ r1
  have r2:=hlC.2 _ _ r2
  have r3:=hlC.2 _ _ r3
  have r4:=hlC.2 _ _ r4
  have ra:=hlC.2 _ _ ra
  have rb:=hlC.2 _ _ rb
  have ra29:=hlC.2 _ _ ra29
  replace nx:=nx.mono hlC
  replace hrx:=hrx.mono hlC
  replace hca:=hca.mono hlC
  replace ny:=ny.mono hlC
  replace hry:=hry.mono hlC
  replace hcb:=hcb.mono hlC
  replace lx:=lx.mono hlC
  replace ly:=ly.mono hlC
  replace ncx:=ncx.mono hlC
  replace ncy:=ncy.mono hlC
  replace hs1:=hs1.mono hlC
  replace ns:=ns.mono hlC
  replace hp64:=hp64.mono hlC
  have l68:=H.le_trans l65 hlC
  have m69:=H.le_trans m66 hlC
  clear hlC
  simp only[go_sem]
  rw[hX1] at hp64
  refine same18_calls hp64 hq67 (bx.le (by omega)) fun h70 hw70 hlC=> ?_
  have r1:=hlC.2 _ _ r1
  have r2:=hlC.2 _ _ r2
  have r3:=hlC.2 _ _ r3
  have r4:=hlC.2 _ _ r4
  have ra:=hlC.2 _ _ ra
  have rb:=hlC.2 _ _ rb
  have ra29:=hlC.2 _ _ ra29
  replace nx:=nx.mono hlC
  replace hrx:=hrx.mono hlC
  replace hca:=hca.mono hlC
  replace ny:=ny.mono hlC
  replace hry:=hry.mono hlC
  replace hcb:=hcb.mono hlC
  replace lx:=lx.mono hlC
  replace ly:=ly.mono hlC
  replace ncx:=ncx.mono hlC
  replace ncy:=ncy.mono hlC
  replace hs1:=hs1.mono hlC
  replace ns:=ns.mono hlC
  have l71:=H.le_trans l68 hlC
  have m72:=H.le_trans m69 hlC
  clear hlC hp64
  simp only[go_sem,Bool.not_true,(g2 r3).2.2,(g2 rb).2.2]
  refine zNorm_calls ncx bx fun n73 h73 hw73 hlC hn73=> ?_
  have r1:=hlC.2 _ _ r1
  have r2:=hlC.2 _ _ r2
  have r3:=hlC.2 _ _ r3
  have r4:=hlC.2 _ _ r4
  have ra:=hlC.2 _ _ ra
  have rb:=hlC.2 _ _ rb
  have ra29:=hlC.2 _ _ ra29
  replace nx:=nx.mono hlC
  replace hrx:=hrx.mono hlC
  replace hca:=hca.mono hlC
  replace ny:=ny.mono hlC
  replace hry:=hry.mono hlC
  replace hcb:=hcb.mono hlC
  replace lx:=lx.mono hlC
  replace ly:=ly.mono hlC
  replace ncx:=ncx.mono hlC
  replace ncy:=ncy.mono hlC
  replace hs1:=hs1.mono hlC
  replace ns:=ns.mono hlC
  have l75:=H.le_trans l71 hlC
  have m76:=H.le_trans m72 hlC
  clear hlC
  simp only[go_sem,(g2 r3).2.2]
  refine⟨by simp, ?_⟩
  refine same18_calls hrx hn73 bsx fun h74 hw74 hlC=> ?_
  have r1:=hlC.2 _ _ r1
  have r2:=hlC.2 _ _ r2
  have r3:=hlC.2 _ _ r3
  have r4:=hlC.2 _ _ r4
  have ra:=hlC.2 _ _ ra
  have rb:=hlC.2 _ _ rb
  have ra29:=hlC.2 _ _ ra29
  replace nx:=nx.mono hlC
  replace hrx:=hrx.mono hlC
  replace hca:=hca.mono hlC
  replace ny:=ny.mono hlC
  replace hry:=hry.mono hlC
  replace hcb:=hcb.mono hlC
  replace lx:=lx.mono hlC
  replace ly:=ly.mono hlC
  replace ncx:=ncx.mono hlC
  replace ncy:=ncy.mono hlC
  replace hs1:=hs1.mono hlC
  replace ns:=ns.mono hlC
  have l77:=H.le_trans l75 hlC
  have m78:=H.le_trans m76 hlC
  clear hlC
  simp only[go_sem,Bool.not_true,(g2 ra29).1,Nat.zero_add]
  refine Spoil_calls ns.own fun h90 hw90 ka90 _=> ?_
  have lA:=ka90 _ hw26 m78 hbK
  have r1:=lA.2 _ _ Ar1
  have r2:=lA.2 _ _ Ar2
  have r3:=lA.2 _ _ Ar3
  have r4:=lA.2 _ _ Ar4
  have ra:=lA.2 _ _ Ara
  have rb:=lA.2 _ _ Arb
  have nx:=Anx.mono lA
  have hrx:=Ahrx.mono lA
  have hca:=Ahca.mono lA
  have ny:=Any.mono lA
  have hry:=Ahry.mono lA
  have hcb:=Ahcb.mono lA
  have lx:=Alx.mono lA
  have ly:=Aly.mono lA
  have ncx:=Ancx.mono lA
  have ncy:=Ancy.mono lA
  have l79:=H.le_trans AL lA
  simp only[go_sem,(g2 rb).2.2]
  have hbK2:=Nat.le_refl h90.next
  have Br1:=r1
  have Br2:=r2
  have Br3:=r3
  have Br4:=r4
  have Bra:=ra
  have Brb:=rb
  have Bnx:=nx
  have Bhrx:=hrx
  have Bhca:=hca
  have Bny:=ny
  have Bhry:=hry
  have Bhcb:=hcb
  have Blx:=lx
  have Bly:=ly
  have Bncx:=ncx
  have Bncy:=ncy
  have Ble:=H.le_refl h90
  have BL:=l79
  refine zNorm_calls ncx bx fun n91 h91 hw91 hlC hn91=> ?_
  have r1:=hlC.2 _ _ r1
  have r2:=hlC.2 _ _ r2
  have r3:=hlC.2 _ _ r3
  have r4:=hlC.2 _ _ r4
  have ra:=hlC.2 _ _ ra
  have rb:=hlC.2 _ _ rb
  replace nx:=nx.mono hlC
  replace hrx:=hrx.mono hlC
  replace hca:=hca.mono hlC
  replace ny:=ny.mono hlC
  replace hry:=hry.mono hlC
  replace hcb:=hcb.mono hlC
  replace lx:=lx.mono hlC
  replace ly:=ly.mono hlC
  replace ncx:=ncx.mono hlC
  replace ncy:=ncy.mono hlC
  have l80:=H.le_trans l79 hlC
  have m81:=H.le_trans Ble hlC
  clear hlC
  obtain⟨wm,rfl,nm⟩:=zf_open hn91
  simp only[go_sem]
  have hN82:=l80.1
  have hM82:=m81.1
  have hP82:=H.row_lt hw91 rb
  have ra82:=H.rows_new h91 ⟨some 27,2,[.sl none 0 0 none, .bool false]⟩
  have hlA:=H.le_new hw91 (H.le_refl h91) ⟨some 27,2,[.sl none 0 0 none, .bool false]⟩
  have hw82:=H.wf_new hw91 ⟨some 27,2,[.sl none 0 0 none, .bool false]⟩
  have hnA:(H.new h91 ⟨some 27,2,[.sl none 0 0 none, .bool false]⟩).next=h91.next+1:=rfl
  simp only[List.length_cons,List.length_nil,Nat.zero_add,Nat.reduceAdd]
  generalize hS82:h91.next=R82 at*
  generalize H.new h91 ⟨some 27,2,[.sl none 0 0 none, .bool false]⟩=h82 at*
  have r1:=hlA.2 _ _ r1
  have r2:=hlA.2 _ _ r2
  have r3:=hlA.2 _ _ r3
  have r4:=hlA.2 _ _ r4
  have ra:=hlA.2 _ _ ra
  have rb:=hlA.2 _ _ rb
  replace nx:=nx.mono hlA
  replace hrx:=hrx.mono hlA
  replace hca:=hca.mono hlA
  replace ny:=ny.mono hlA
  replace hry:=hry.mono hlA
  replace hcb:=hcb.mono hlA
  replace lx:=lx.mono hlA
  replace ly:=ly.mono hlA
  replace ncx:=ncx.mono hlA
  replace ncy:=ncy.mono hlA
  replace hn91:=hn91.mono hlA
  replace nm:=nm.mono hlA
  have l83:=H.le_trans l80 hlA
  have m84:=H.le_trans m81 hlA
  clear hlA
  refine⟨by trivial,all2 nm.one,put2 hw hw82 l83 (by omega) ra82 rfl fun h85 hw85 l85 hg85 rn e1=> ?_⟩
  have nx:=nx.lee2 ra82 e1
  have hrx:=hrx.lee2 ra82 e1
  have hca:=hca.lee2 ra82 e1
  have ny:=ny.lee2 ra82 e1
  have hry:=hry.lee2 ra82 e1
  have hcb:=hcb.lee2 ra82 e1
  have lx:=lx.lee2 ra82 e1
  have ly:=ly.lee2 ra82 e1
  have ncx:=ncx.lee2 ra82 e1
  have ncy:=ncy.lee2 ra82 e1
  have hn91:=hn91.lee2 ra82 e1
  have nm:=nm.lee2 ra82 e1
  have r1:=e1.2 _ _ (by omega) r1
  have r2:=e1.2 _ _ (by omega) r2
  have r3:=e1.2 _ _ (by omega) r3
  have r4:=e1.2 _ _ (by omega) r4
  have ra:=e1.2 _ _ (by omega) ra
  have rb:=e1.2 _ _ (by omega) rb
  have m86:=le_over hw90 m84 (by omega) e1
  have ra82:=rn
  clear rn e1 hg85
  simp only[go_sem,(g2 ra82).1,Nat.zero_add]
  refine Spoil_calls nm.own fun h95 hw95 ka95 _=> ?_
  have lB:=ka95 _ hw90 m86 hbK2
  have r1:=lB.2 _ _ Br1
  have r2:=lB.2 _ _ Br2
  have r3:=lB.2 _ _ Br3
  have r4:=lB.2 _ _ Br4
  have ra:=lB.2 _ _ Bra
  have rb:=lB.2 _ _ Brb
  have nx:=Bnx.mono lB
  have hrx:=Bhrx.mono lB
  have hca:=Bhca.mono lB
  have ny:=Bny.mono lB
  have hry:=Bhry.mono lB
  have hcb:=Bhcb.mono lB
  have lx:=Blx.mono lB
  have ly:=Bly.mono lB
  have ncx:=Bncx.mono lB
  have ncy:=Bncy.mono lB
  have l87:=H.le_trans BL lB
  simp only[go_sem,(g2 r1).1,Nat.zero_add]
  refine Intact_calls lx hca (by rw[List.length_take];omega) ?_
  simp only[go_sem,(g2 r2).1,Nat.zero_add]
  refine Intact_calls ly hcb (by rw[List.length_take];omega) ?_
  simp only[go_sem]
  refine wakes18_calls fun h9 hw9 hl10=> ?_
  simp only[go_sem]
  exact fun hw'=>hk _ hw'
set_option maxRecDepth 100000 in
theorem NumSums_row (h:H) (avs:List AV) (_:h.wf) (r:ReadsAll Tryz.prog h [27,27] avs):ACalls Tryz.prog 10 avs h (fun r _=>r= .bool true):=by
 match avs,r with
 |[_,_],⟨r0,r1,_⟩=>
  obtain⟨_,_,xs,rfl,h1,hx,_⟩:=reads_whole r0
  obtain⟨_,_,ys,rfl,h2,hy,_⟩:=reads_whole r1
  exact NumSums_law h1 hx h2 hy fun _ _=>rfl
end
end
end Ab
end Go.Proofs.YtnlkbdmmoplkoaaGreatDoor
