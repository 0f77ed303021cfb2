/- Joined texts: Y24 Y27 Y28. No condition. -/
import Derived.Test.YtnlkbdmmoplkoaaGreatDoorZ15
namespace Go.Proofs.YtnlkbdmmoplkoaaGreatDoor
namespace Ab
open Go Go.RowKit
set_option linter.unusedSimpArgs false
set_option linter.unusedVariables false
attribute [local go_sem ↓] x_mv x_pick x_bin x_beq x_peq x_seq x_cat x_aeq x_idxS x_idxV x_un x_cvI x_bts x_idx x_idxA x_fld x_ld x_st x_nn x_prt x_slc x_mk x_bsl x_bld x_box x_alloc x_len x_capo x_mnx x_app x_cpy x_mkf x_ext x_call x_callV x_bad s_none s_some s_nil s_cons s_chks w_skip w_reg tP_fin tP_no tP_alt w_seq w_cond w_block w_exit w_ret t_normal t_exit t_ret b_normal b_ret b_exit n_normal n_exit n_ret p_normal p_ret f_nil f_t f_c k_ops k_chk k_fin
attribute [local go_sem] e_t e_c e_f u_some u_none u_at env_at k_v k_pick k_add k_sub k_mul k_quo k_rem k_and k_or k_xor k_shl k_shr k_eql k_neq k_lss k_leq k_gtr k_geq k_beq k_peqn k_peqs k_neg k_not k_com k_cvI k_idxS k_idxV1 k_idxVn k_idx k_idxA k_idxG k_ldG k_gld k_seq k_cat k_aeq k_eqs k_fld k_ld1 k_ldn k_get k_gets k_sti k_stb k_stp k_sts k_stf k_sta k_put k_nn k_prt1 k_prtn k_slc_a k_slc_b k_slc_c k_mk k_agg k_bsl k_box k_len k_lenS k_cap k_max k_min k_ext k_callV k_true k_false k_gtt k_gtf k_gft k_gsk k_gff k_lit1i k_lit2i k_lit3i k_c0 k_c1 k_ck List.getElem?_cons_zero List.getElem?_cons_succ List.getElem?_nil Option.getD_some Option.getD_none tupOf List.map_cons List.map_nil Option.map_some Option.map_none List.nil_append List.cons_append List.append_nil Nat.mul_one Int.toNat_natCast Nat.zero_add
attribute [local go_sem] e_t e_c e_f u_some u_none u_at env_at k_v k_pick k_add k_sub k_mul k_quo k_rem k_and k_or k_xor k_shl k_shr k_eql k_neq k_lss k_leq k_gtr k_geq k_beq k_peqn k_peqs k_neg k_not k_com k_cvI k_idxS k_idxV1 k_idxVn k_idx k_idxA k_idxG k_ldG k_gld k_seq k_cat k_aeq k_eqs k_fld k_ld1 k_ldn k_get k_gets k_sti k_stb k_stp k_sts k_stf k_sta k_put k_nn k_prt1 k_prtn k_slc_a k_slc_b k_slc_c k_mk k_agg k_bsl k_box k_len k_lenS k_cap k_max k_min k_ext k_callV k_true k_false k_gtt k_gtf k_gft k_gsk k_gff k_lit1i k_lit2i k_lit3i k_c0 k_c1 k_ck List.getElem?_cons_zero List.getElem?_cons_succ List.getElem?_nil Option.getD_some Option.getD_none tupOf List.map_cons List.map_nil Option.map_some Option.map_none List.nil_append List.cons_append List.append_nil Nat.mul_one Int.toNat_natCast Nat.zero_add
--what a store into a cell of two leaves
attribute [local go_sem_proc] Nat.reduceEqDiff Nat.reduceAdd Int.reduceToNat
attribute [local go_sem_proc ↓] reduceIte
attribute [local go_sem] Bool.false_eq_true
section
section
variable {h:H} {K:AV→H→Prop}
theorem from17_calls {v:AV} {A:Nat} (nv:Nn h v A) (hk:∀r h',h'.wf→h.le h'→Num 4294967296 h' r A→K r h'):ACalls Tryz.prog 88 [v] h K:=by
 refine in_law17_from sM fun hw=> ?_
 unfold c_law17_from
 simp only[go_sem]
 refine fromN nv fun r h1 hw1 hl1 hr=> ?_
 simp only[go_sem]
 exact fun _=>hk r h1 hw1 hl1 hr
set_option maxHeartbeats 1000000 in
theorem wakes17_calls (hk:∀h',h'.wf→h.le h'→K (.bool true) h'):ACalls Tryz.prog 86 [] h K:=by
 refine in_law17_wakes sM fun hw=> ?_
 unfold c_law17_wakes
 simp only[go_sem]
 refine raNew_calls (t:=⟨0,0,0,0,0,0,0,0,0,0,0⟩) fun e u h1 hw1 hl1 hn1 hue he ht=> ?_
 simp only[go_sem,Option.isNone,Bool.false_bne]
 have hl2:=H.le_new hw1 (H.le_refl h1) ⟨some 54,1,[AV.int .u64 255]⟩
 have n255:Nn (h1.new ⟨some 54,1,[AV.int .u64 255]⟩) (.sl (some h1.next) 0 1 (some 1)) (val 18446744073709551616 [255]):=(IsN.lit [255] _ rfl rfl).nn (by intro x hx;rw[List.mem_singleton.1 hx];decide) sM
 have hw2:=H.wf_new hw1 ⟨some 54,1,[AV.int .u64 255]⟩
 have w255:wlen (val 18446744073709551616 [255])≤1:=by decide
 refine⟨trivial, ?_⟩
 refine Text_calls (base:=16) (clamp_ok _) (he.mono hl2) (ht.mono hl2) n255 oM oM (fun h0=>absurd h0 dM) fun b hb _ _ ds h3 m3 dp3 hw3 hl3 ht3 hds=> ?_
 obtain rfl:b=16:=by omega
 obtain rfl:ds=[15,15]:=hds.uniq oM ⟨dM,sM,dM⟩
 have l03:=le_over hw (H.le_trans hl1 hl2) hn1 hl3
 have he3:=(he.mono hl2).monoE (ht.mono hl2) hl3
 have e7:(⟨#[48,48,55]⟩:ByteArray)=sb [48,48,55]:=rfl
 have eff:(sb (txt [15,15])==⟨#[102,102]⟩)=true:=by decide
 simp only[go_sem]
 rw[e7]
 refine rParse_calls (base:=8) (clamp_ok _) he3 ht3 dM sM oM (fun h0=>absurd h0 dM) (fun _ h0=> ?_) fun b hb _ _ _ _ r h4 m4 dp4 hw4 hl4 ht4 hr=> ?_
 ·exact absurd h0 dM
 obtain rfl:b=8:=by omega
 have l04:=le_over hw l03 hn1 hl4
 have hr:Nf h3.next h4 r 7:=hr
 have hl5:=H.le_new hw4 (H.le_refl h4) ⟨some 54,1,[AV.int .u64 7]⟩
 have n7:Nt (h4.new ⟨some 54,1,[AV.int .u64 7]⟩) (.sl (some h4.next) 0 1 (some 1)) 7:=⟨[7],IsN.lit [7] _ rfl rfl,by intro x hx;rw[List.mem_singleton.1 hx];decide,by intro x hx;simp at hx;omega,rfl⟩
 simp only[go_sem,show((0:Int)==0)=true from rfl,eff,bneT]
 refine kSameT_calls (hr.nt.mono hl5) n7 (word_big dM) ?_
 simp only[go_sem]
 exact fun hw'=>hk _ hw' (H.le_trans l04 hl5)
end
end
section
section
variable {t t2:Tb} {va:AV} {xs0:List Nat} {h:H} {K:AV→H→Prop}
set_option maxHeartbeats 1000000 in
theorem RadixRound_law {b0:Nat} (hb64:b0<18446744073709551616) (hv0:IsN h va xs0) (hx0:Dig xs0) (hk:∀h',h'.wf→K (.bool true) h'):ACalls Tryz.prog 21 [t.av,t2.av,va, .int .u64 (b0:Int)] h K:=by
 refine in_law17_RadixRound sM fun hw=> ?_
 unfold c_law17_RadixRound
 simp only[go_sem,av_held,av_cells,cells_len,true_and]
 have hl0:=H.le_new hw (H.le_refl h) ⟨some 23,11,t.cells⟩
 have hw0:=H.wf_new hw ⟨some 23,11,t.cells⟩
 have hr0:=H.rows_new h ⟨some 23,11,t.cells⟩
 have hn0:(h.new ⟨some 23,11,t.cells⟩).next=h.next+1:=rfl
 generalize h.new ⟨some 23,11,t.cells⟩=g00 at*
 have hl00:=H.le_new hw0 (H.le_refl g00) ⟨some 23,11,t2.cells⟩
 have hr00:=H.rows_new g00 ⟨some 23,11,t2.cells⟩
 generalize g00.new ⟨some 23,11,t2.cells⟩=g0 at*
 rw[hn0] at hr00⊢
 have hr0:=hl00.2 _ _ hr0
 refine Cut_calls (n:=40) (hv0.mono (H.le_trans hl0 hl00)) fun a ha=> ?_
 have hxd:Dig (xs0.take 40):=Dig.take hx0 40
 have hxl:(xs0.take 40).length≤40:=by simp;omega
 generalize xs0.take 40=xs at*
 simp only[go_sem,gsT hr0,gsT hr00]
 refine raNew_calls fun e u g1 hw1 hl1 hn1 hue he ht=> ?_
 simp only[go_sem,gsT (hl1.2 _ _ hr00),true_and]
 refine raNew_calls fun e' u' g2 hw2 hl2 hn2 hue' he' ht'=> ?_
 have na:=(ha.mono (H.le_trans hl1 hl2)).nn hxd oM
 have wd:wlen (val 18446744073709551616 xs)≤40:=Nat.le_trans (wlen_len hxd) hxl
 have bd:Big (val 18446744073709551616 xs):=wbig wd oM
 clear ha hxd hxl
 generalize val 18446744073709551616 xs=x at*
 have hu1:=H.row_lt hw1 ht
 have he:=he.mono hl2
 have ht:=ht.mono hl2
 have hne:u'≠u:=by omega
 obtain⟨b,hb,hb2,hbB⟩:∃b:Nat,max (b0:Int) 256=(b:Int)∧2≤b∧b<18446744073709551616:=⟨max b0 256,oM,oM,oM⟩
 simp only[go_sem,Option.isNone,Bool.false_bne,hb]
 refine Digits_calls (clamp_ok _) he ht hbB na oM oM (fun h0=>absurd h0 oM) fun _ v ds g3 m3 dp3 hw3 hl3 ht3 hv hds=> ?_
 have ht'3:Tune g3 u' 0 0 0 (clampT t2):=hl3.2 _ _ hne ht'
 have he'3:=Eng.monoO ht hl3 he'
 have na3:=na.monoE' ht hl3
 have hdl:=hds.len hb2 wd
 simp only[go_sem]
 refine Value_calls (clamp_ok _) he'3 ht'3 hbB hv.isN oM oM (fun h0=> ?_) fun _ hlt r g4 m4 dp4 hw4 hl4 ht4 hr=> ?_
 ·rcases h0 with h0|⟨y,hy,hyb⟩
  ·omega
  ·have:=hds.1 y hy
   omega
 rw[hds.2.2] at hr
 have na4:=na3.monoE' ht'3 hl4
 have hv4:=hv.isN.monoE ht'3 hl4
 obtain⟨io,off,co,rfl⟩:=hv4.form
 rcases Nat.eq_zero_or_pos ds.length with c1|c1
 ·simp only[go_sem,show decide ((0:Int)<((ds.length:Nat):Int))=false from decide_eq_false oM,show((0:Int)==0)=true from rfl]
  refine from17_calls na4 fun f1 g5 hw5 hl5 n1=> ?_
  simp only[go_sem]
  refine rSame_calls n1 bd (hr.nt.mono hl5) fun g6 hw6 hl6=> ?_
  simp only[go_sem]
  refine wakes17_calls fun g9 hw9 hl9=> ?_
  simp only[go_sem]
  exact fun _=>hk g9 hw9
 ·obtain⟨ii,rfl,_,hg⟩:=hv4.at (j:=ds.length-1) oM
  have e1:IntKind.i64.wrap ((ds.length:Int)-1)=((ds.length-1:Nat):Int):=by rw[wI]<;>omega
  have hlast:=hds.2.1 ds[ds.length-1] (by rw[List.getLast?_eq_getElem?,List.getElem?_eq_getElem oM])
  simp only[go_sem,show decide ((0:Int)<((ds.length:Nat):Int))=true from decide_eq_true oM,e1]
  refine⟨oM,oM, ?_⟩
  simp only[go_sem,hg,show(((ds[ds.length-1]:Nat):Int)==0)=false by simp;omega,show((0:Int)==0)=true from rfl]
  refine from17_calls na4 fun f1 g5 hw5 hl5 n1=> ?_
  simp only[go_sem]
  refine rSame_calls n1 bd (hr.nt.mono hl5) fun g6 hw6 hl6=> ?_
  simp only[go_sem]
  refine wakes17_calls fun g9 hw9 hl9=> ?_
  simp only[go_sem]
  exact fun _=>hk g9 hw9
end
end
section
set_option maxRecDepth 100000
set_option maxRecDepth 100000 in
theorem RadixRound_row (h:H) (avs:List AV) (_:h.wf) (r:ReadsAll Tryz.prog h [23,23,24,54] avs):ACalls Tryz.prog 21 avs h (fun r _=>r= .bool true):=by
 match avs,r with
 |[_,_,_,_],⟨r0,r0',r1,r2,_⟩=>
  obtain⟨t0,rfl⟩:=reads_table r0
  obtain⟨t1,rfl⟩:=reads_table r0'
  obtain⟨xs,h1,hx,_⟩:=reads_words r1
  obtain⟨b,rfl,hb⟩:=reads_u64 r2
  exact RadixRound_law hb h1 hx fun _ _=>rfl
end
end Ab
end Go.Proofs.YtnlkbdmmoplkoaaGreatDoor
