/- Joined texts: J1 I1 J4 J5 J6. No condition. -/
import Derived.Test.YtdfpgoppcflpjaaGreatDoorZ14
import Derived.Test.YtdfpgoppcflpjaaGreatDoorProg
import Derived.KernelRfl
namespace Go.Proofs.YtdfpgoppcflpjaaGreatDoor
namespace Ab
open Go Go.RowKit
set_option linter.unusedSimpArgs false
set_option linter.unusedVariables false
attribute [local go_sem ↓] x_mv x_pick x_bin x_beq x_peq x_seq x_cat x_aeq x_idxS x_idxV x_un x_cvI x_idx x_idxA x_fld x_ld x_st x_nn x_prt x_slc x_mk x_bsl x_bld x_box x_alloc x_len x_capo x_mnx x_app x_cpy x_mkf x_ext x_call x_callV x_bad s_none s_some s_nil s_cons s_chks w_skip w_reg tP_fin tP_no tP_alt w_seq w_cond w_block w_exit w_ret t_normal t_exit t_ret b_normal b_ret b_exit n_normal n_exit n_ret p_normal p_ret f_nil f_t f_c k_ops k_chk k_fin
attribute [local go_sem] e_t e_c e_f u_some u_none u_at env_at k_v k_pick k_add k_sub k_mul k_quo k_rem k_and k_or k_xor k_shl k_shr k_eql k_neq k_lss k_leq k_gtr k_geq k_beq k_peqn k_peqs k_neg k_not k_com k_cvI k_idxS k_idxV1 k_idxVn k_idx k_idxA k_idxG k_ldG k_gld k_seq k_cat k_aeq k_eqs k_fld k_ld1 k_ldn k_get k_gets k_sti k_stb k_stp k_sts k_stf k_sta k_put k_nn k_prt1 k_prtn k_slc_a k_slc_b k_slc_c k_mk k_agg k_bsl k_box k_len k_lenS k_cap k_max k_min k_ext k_callV k_true k_false k_gtt k_gtf k_gft k_gsk k_gff k_lit1i k_lit2i k_lit3i k_c0 k_c1 k_ck List.getElem?_cons_zero List.getElem?_cons_succ List.getElem?_nil Option.getD_some Option.getD_none tupOf List.map_cons List.map_nil Option.map_some Option.map_none List.nil_append List.cons_append List.append_nil Nat.mul_one Int.toNat_natCast Nat.zero_add
attribute [local go_sem] e_t e_c e_f u_some u_none u_at env_at k_v k_pick k_add k_sub k_mul k_quo k_rem k_and k_or k_xor k_shl k_shr k_eql k_neq k_lss k_leq k_gtr k_geq k_beq k_peqn k_peqs k_neg k_not k_com k_cvI k_idxS k_idxV1 k_idxVn k_idx k_idxA k_idxG k_ldG k_gld k_seq k_cat k_aeq k_eqs k_fld k_ld1 k_ldn k_get k_gets k_sti k_stb k_stp k_sts k_stf k_sta k_put k_nn k_prt1 k_prtn k_slc_a k_slc_b k_slc_c k_mk k_agg k_bsl k_box k_len k_lenS k_cap k_max k_min k_ext k_callV k_true k_false k_gtt k_gtf k_gft k_gsk k_gff k_lit1i k_lit2i k_lit3i k_c0 k_c1 k_ck List.getElem?_cons_zero List.getElem?_cons_succ List.getElem?_nil Option.getD_some Option.getD_none tupOf List.map_cons List.map_nil Option.map_some Option.map_none List.nil_append List.cons_append List.append_nil Nat.mul_one Int.toNat_natCast Nat.zero_add
--what a store into a cell of two leaves
attribute [local go_sem_proc] Nat.reduceEqDiff Nat.reduceAdd Int.reduceToNat
attribute [local go_sem_proc ↓] reduceIte
attribute [local go_sem] Bool.false_eq_true
theorem H.le_over {u:Nat} {a b c:H} (hw:a.wf) (h1:a.le b) (hu:a.next≤u) (h2:H.lee u b c):a.le c:=
 ⟨Nat.le_trans h1.1 h2.1,fun i r e=>h2.2 i r (by have:=H.row_lt hw e;omega) (h1.2 i r e)⟩
def sg (b:Bool) (x:Nat):Int:=if b=true then-(x:Int) else(x:Int)
theorem g2 {h:H} {i:Nat} {T:Option TypeId} {a b:AV} (hr:h.rows i=some ⟨T,2,[a,b]⟩):h.get i 0=some a∧h.get i 1=some b∧h.gets i 0 2=some [a,b]:=by
 rw[H.get_of hr,H.get_of hr,H.gets_of hr (by simp)]
 exact⟨rfl,rfl,rfl⟩
section
section
variable {va vb:AV} {x y n:Nat} {xs:List Nat} {h:H} {K:AV→H→Prop}
theorem from15_calls (hv:Nn h va x) (hk:∀r h',h'.wf→h.le h'→Num 4294967296 h' r x→K r h'):ACalls Tryz.prog 42 [va] h K:=by
 obtain⟨xs,h1,h2,h3,rfl⟩:=hv
 refine in_law15_from (by simp) fun hw=> ?_
 unfold c_law15_from
 simp only[go_sem]
 refine From_calls h1 h2 (by omega) fun r h' hw' hl' hr=> ?_
 simp only[go_sem]
 exact fun _=>hk r h' hw' hl' hr
theorem words15_calls (hv:Nn h va x) (hk:K (.int .i64 (wlen x:Nat)) h):ACalls Tryz.prog 41 [va] h K:=by
 refine in_law15_words (by simp) fun hw=> ?_
 unfold c_law15_words
 simp only[go_sem]
 refine LenN_calls hv ?_
 simp only[go_sem]
 exact fun _=>hk
theorem Nf.nil_of {b:Nat} {v:AV} (hv:Nf b h v 0):∃id c,v= .sl id 0 0 c:=by
 obtain⟨xs,h1,h2,h3,h4⟩:=hv
 have:xs.length=0:=by rw[top_len h2 h3,h4];rfl
 obtain⟨id,c,e⟩:=h1.form
 rw[this] at e
 exact⟨id,c,e⟩
theorem wakes15_calls (hk:∀h',h'.wf→h.le h'→K (.bool true) h'):ACalls Tryz.prog 40 [] h K:=by
 refine in_law15_wakes (by simp) fun hw=> ?_
 unfold c_law15_wakes
 have e1:∀l:List AV,abuild l []=some l:=fun l=>by simp[abuild]
 simp only[go_sem,e1]
 refine diNew_calls (t:=⟨0,0,0,0,0,0,0,0,0,0,0⟩) fun e u h1 hw1 hl1 hn1 hue he ht=> ?_
 simp only[go_sem,Bool.false_bne,Option.isNone]
 have hw2:=H.wf_new hw1 ⟨some 47,1,[AV.int .u64 7]⟩
 have hl2:=H.le_new hw1 (H.le_refl h1) ⟨some 47,1,[AV.int .u64 7]⟩
 have hl3:=H.le_new hw2 (H.le_refl _) ⟨some 47,1,[AV.int .u64 9]⟩
 have d1:Dig [7]:=Dig.one (by omega)
 have d2:Dig [9]:=Dig.one (by omega)
 refine DivMod2_calls (clamp_ok _) (a:=val 18446744073709551616 [7]) (b:=val 18446744073709551616 [9]) ((he.mono hl2).mono hl3) ((ht.mono hl2).mono hl3) (((IsN.lit [7] _ rfl rfl).mono hl3).nn d1 (by simp)) ((IsN.lit [9] _ rfl rfl).nn d2 (by simp)) (by decide) (by decide) (by omega) (fun h=>absurd h (by decide)) fun _ q r h4 m4 dp4 hw4 hl4 ht4 _ hq hr=> ?_
 rw[show val 18446744073709551616 [7]/val 18446744073709551616 [9]=0 by decide] at hq
 obtain⟨iq,cq,rfl⟩:=hq.nil_of
 obtain⟨rs,hr1,hr2,hr3,hr4⟩:=hr
 have hrl:rs=[7]:=top_inj hr2 (Dig.one (by omega)) hr3 (fun z hz=>by simp at hz;omega) (by rw[hr4];decide)
 subst hrl
 have hl04:=H.le_over hw (H.le_trans hl1 (H.le_trans hl2 hl3)) hn1 hl4
 simp only[go_sem,beq_self_eq_true,eqT (show((0:Nat):Int)=0 from rfl)]
 have hl5:=H.le_new hw4 (H.le_refl h4) ⟨some 47,1,[AV.int .u64 7]⟩
 refine kSame_calls (xs:=[7]) (hr1.isN.mono hl5) (IsN.lit [7] _ rfl rfl) (by simp) ?_
 simp only[go_sem]
 exact fun hw'=>hk _ hw' (H.le_trans hl04 hl5)
theorem mul_wlen {n k:Nat} (hx:wlen x≤n) (hy:wlen y≤k):wlen (x*y)≤n+k:=by
 have h1:x*y<18446744073709551616^n*18446744073709551616^k:=Nat.mul_lt_mul_of_lt_of_le (wlen_le.1 hx) (Nat.le_of_lt (wlen_le.1 hy)) (Nat.pow_pos (by omega))
 rw[←Nat.pow_add] at h1
 exact wlen_le.2 h1
end
section
variable {t:Tb} {va vb vc:AV} {xs0 ys0 zs0:List Nat} {h:H} {K:AV→H→Prop}
theorem divback_nums {x y z:Nat} (h0:0<y):(x*y+z%y)/y=x∧(x*y+z%y)%y=z%y:=by
 have hm:=Nat.mod_lt z h0
 constructor
 ·rw[Nat.mul_comm,Nat.mul_add_div h0,Nat.div_eq_of_lt hm,Nat.add_zero]
 ·rw[Nat.mul_comm,Nat.mul_add_mod,Nat.mod_mod]
theorem DivBack_law (ha0:IsN h va xs0) (hx0:Dig xs0) (hb0:IsN h vb ys0) (hy0:Dig ys0) (hc0:IsN h vc zs0) (hz0:Dig zs0) (hk:∀h',h'.wf→K (.bool true) h'):ACalls Tryz.prog 10 [t.av,va,vb,vc] h K:=by
 refine in_law15_DivBack (by simp) fun hw=> ?_
 unfold c_law15_DivBack
 have hl0:=H.le_new hw (H.le_refl h) ⟨some 23,11,t.cells⟩
 have hr0:=H.rows_new h ⟨some 23,11,t.cells⟩
 simp only[go_sem,av_held,av_cells,cells_len,true_and]
 generalize hg:h.new ⟨some 23,11,t.cells⟩=g0 at*
 refine Cut_calls (n:=60) (ha0.mono hl0) fun a ha=> ?_
 simp only[go_sem]
 refine Cut_calls (n:=60) (hb0.mono hl0) fun b hb=> ?_
 simp only[go_sem]
 refine Cut_calls (n:=60) (hc0.mono hl0) fun c hc=> ?_
 have hxd:Dig (xs0.take 60):=Dig.take hx0 60
 have hyd:Dig (ys0.take 60):=Dig.take hy0 60
 have hzd:Dig (zs0.take 60):=Dig.take hz0 60
 have hxl:(xs0.take 60).length≤60:=by simp;omega
 have hyl:(ys0.take 60).length≤60:=by simp;omega
 have hzl:(zs0.take 60).length≤60:=by simp;omega
 generalize xs0.take 60=xs at*
 generalize ys0.take 60=ys at*
 generalize zs0.take 60=zs at*
 have wx:wlen (val 18446744073709551616 xs)≤60:=Nat.le_trans (wlen_len hxd) hxl
 have wy:wlen (val 18446744073709551616 ys)≤60:=Nat.le_trans (wlen_len hyd) hyl
 have wz:wlen (val 18446744073709551616 zs)≤60:=Nat.le_trans (wlen_len hzd) hzl
 simp only[go_sem,gsT hr0]
 refine diNew_calls fun e u g1 hw1 hl1 hn1 hue he ht=> ?_
 have nx:=(ha.mono hl1).nn hxd (by omega)
 have ny:=(hb.mono hl1).nn hyd (by omega)
 have nz:=(hc.mono hl1).nn hzd (by omega)
 clear ha hb hc ha0 hb0 hc0 hxd hyd hzd hxl hyl hzl
 generalize val 18446744073709551616 xs=x at*
 generalize val 18446744073709551616 ys=y at*
 generalize val 18446744073709551616 zs=z at*
 have bx:=wbig wx (by omega)
 have by_:=wbig wy (by omega)
 have bz:=wbig wz (by omega)
 have wp:=mul_wlen wx wy
 have bp:Big (x*y):=wbig wp (by omega)
 obtain⟨f,rfl,rfl,G,E⟩:=Eng.path ht he
 have hu1:=H.row_lt hw1 ht
 simp only[go_sem,Option.isNone,Bool.false_bne]
 refine words15_calls ny ?_
 rcases Nat.eq_zero_or_pos y with h0|h0
 ·subst h0
  rw[wlen_zero]
  simp only[go_sem,show(((0:Nat):Int)==0)=true from rfl]
  refine wakes15_calls fun g2 hw2 hl2=> ?_
  simp only[go_sem]
  exact fun _=>hk g2 hw2
 have hwy0:wlen y≠0:=fun h=>by have:=wlen_eq_zero.1 h;omega
 have hm:=Nat.mod_lt z h0
 have br:Big (z%y):=by_.le (Nat.le_of_lt hm)
 obtain⟨e1,e2⟩:=divback_nums (x:=x) (z:=z) h0
 have bs0:x*y+z%y<(x+1)*y:=by rw[Nat.add_mul,Nat.one_mul];omega
 have wx1:wlen (x+1)≤61:=wlen_le.2 (by
  have:=wlen_le.1 wx
  have h3:18446744073709551616^61=18446744073709551616^60*18446744073709551616:=Nat.pow_succ ..
  omega)
 have ws:wlen (x*y+z%y)≤121:=Nat.le_trans (wlen_mono (Nat.le_of_lt bs0)) (mul_wlen wx1 wy)
 have bs:Big (x*y+z%y):=wbig ws (by omega)
 simp only[go_sem,eqF (show((wlen y:Nat):Int)≠0 by omega)]
 refine DivMod2_calls (clamp_ok _) he ht nz ny (by omega) (by omega) (by omega) (fun hz=>absurd hz (by omega)) fun _ q0 r g2 m2 dp2 hw2 hl2 ht2 _ hq0 hr=> ?_
 have hu2:=H.row_lt hw2 ht2
 have nx2:=nx.monoE' ht hl2
 have ny2:=ny.monoE' ht hl2
 simp only[go_sem,G 0 (by omega) _ hl2,G 1 (by omega) _ hl2,G 2 (by omega) _ hl2]
 refine Mul2_calls ((E 3 (by omega)).monoE ht hl2) ht2 nx2 ny2 (by omega) (by omega) (by omega) fun p g3 m3 dp3 hw3 hl3 ht3 _ hp=> ?_
 have hr3:=hr.monoE hu1 hl3
 have l13:=hl2.trans hl3
 simp only[go_sem]
 refine from15_calls (hp.nn bp) fun f1 g4 hw4 hl4 n1=> ?_
 simp only[go_sem]
 refine from15_calls ((hr3.nn br).mono hl4) fun f2 g5 hw5 hl5 n2=> ?_
 simp only[go_sem]
 refine Add_calls (n1.mono hl5) n2 bp br fun f3 g6 hw6 hl6 n3=> ?_
 simp only[go_sem]
 refine To_calls n3 bs fun s g7 hw7 hl7 hs=> ?_
 have hl37:=(H.le_trans hl4 (H.le_trans hl5 (H.le_trans hl6 hl7)))
 have l17:=l13.trans hl37.lee
 have ht7:=ht3.mono hl37
 simp only[go_sem]
 refine DivMod2_calls (clamp_ok _) (he.monoE ht l17) ht7 (hs.nn bs) (ny.monoE' ht l17) (by omega) (by omega) (by omega) (fun hz=>absurd hz (by omega)) fun _ q d g8 m8 dp8 hw8 hl8 ht8 _ hq hd=> ?_
 rw[e1] at hq
 rw[e2] at hd
 have l18:=l17.trans hl8
 have hr8:=(hr3.mono hl37).monoE hu1 hl8
 have hu7:=H.row_lt hw7 ht7
 simp only[go_sem,G 0 (by omega) _ l18,G 1 (by omega) _ l18,G 2 (by omega) _ l18]
 refine Mul2_calls ((E 3 (by omega)).monoE ht l18) ht8 (nx.monoE' ht l18) (ny.monoE' ht l18) (by omega) (by omega) (by omega) fun p' g9 m9 dp9 hw9 hl9 ht9 _ hp'=> ?_
 have l19:=l18.trans hl9
 have hr9:=hr8.monoE hu1 hl9
 have hq9:=hq.monoE hu7 hl9
 have hd9:=hd.monoE hu7 hl9
 simp only[go_sem]
 refine Exact_calls (clamp_ok _) (he.monoE ht l19) ht9 (hp'.nn bp) (ny.monoE' ht l19) (by omega) (by omega) (by omega) (fun h1 _=>absurd h1 (by omega)) (fun _ hz=>absurd (Nat.mul_mod_left x y) hz) (fun _ _ qe g10 m10 dp10 hw10 hl10 ht10 hqe=> ?_)
 rw[Nat.mul_div_cancel x h0] at hqe
 have l110:=l19.trans hl10
 simp only[go_sem,beq_self_eq_true]
 refine from15_calls (nx.monoE' ht l110) fun f4 g11 hw11 hl11 n4=> ?_
 simp only[go_sem]
 refine rSame_calls n4 bx ((hq9.monoE hu7 hl10).nt.mono hl11) fun g12 hw12 hl12=> ?_
 have l1012:=(H.le_trans hl11 hl12)
 simp only[go_sem]
 refine kSameT_calls ((hd9.monoE hu7 hl10).nt.mono l1012) ((hr9.monoE hu1 hl10).nt.mono l1012) br ?_
 simp only[go_sem]
 refine kSameT_calls (hqe.nt.mono l1012) ((hq9.monoE hu7 hl10).nt.mono l1012) bx ?_
 simp only[go_sem]
 refine wakes15_calls fun g5 hw5 hl5=> ?_
 simp only[go_sem]
 exact fun _=>hk g5 hw5
end
end
set_option maxRecDepth 100000 in
theorem DivBack_row (h:H) (avs:List AV) (_:h.wf) (r:ReadsAll Tryz.prog h [23,24,24,24] avs):ACalls Tryz.prog 10 avs h (fun r _=>r= .bool true):=by
 match avs,r with
 |[_,_,_,_],⟨r0,r1,r2,r3,_⟩=>
  obtain⟨t0,rfl⟩:=reads_table r0
  obtain⟨xs,h1,hx,_⟩:=reads_words r1
  obtain⟨ys,h2,hy,_⟩:=reads_words r2
  obtain⟨zs,h3,hz,_⟩:=reads_words r3
  exact DivBack_law h1 hx h2 hy h3 hz fun _ _=>rfl
def Kp (b u:Nat) (h h':H):Prop:=h.next≤h'.next∧∀j r,j≠u→(j<b∨r.own=some 47)→h.rows j=some r→h'.rows j=some r
end Ab
end Go.Proofs.YtdfpgoppcflpjaaGreatDoor
