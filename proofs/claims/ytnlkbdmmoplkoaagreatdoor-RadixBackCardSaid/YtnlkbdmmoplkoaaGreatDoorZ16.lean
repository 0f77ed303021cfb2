/- Joined texts: Y24 Y27 Y28. No condition. -/
import Derived.Test.YtnlkbdmmoplkoaaGreatDoorZ15
namespace Go.Proofs.YtnlkbdmmoplkoaaGreatDoor
namespace Ab
open Go Go.RowKit
set_option linter.unusedSimpArgs false
set_option linter.unusedVariables false
attribute [local go_sem ↓] x_mv x_pick x_bin x_beq x_peq x_seq x_cat x_aeq x_idxS x_idxV x_un x_cvI x_bts x_idx x_idxA x_fld x_ld x_st x_nn x_prt x_slc x_mk x_bsl x_bld x_box x_alloc x_len x_capo x_mnx x_app x_cpy x_mkf x_ext x_call x_callV x_bad s_none s_some s_nil s_cons s_chks w_skip w_reg tP_fin tP_no tP_alt w_seq w_cond w_block w_exit w_ret t_normal t_exit t_ret b_normal b_ret b_exit n_normal n_exit n_ret p_normal p_ret f_nil f_t f_c k_ops k_chk k_fin
attribute [local go_sem] e_t e_c e_f u_some u_none u_at env_at k_v k_pick k_add k_sub k_mul k_quo k_rem k_and k_or k_xor k_shl k_shr k_eql k_neq k_lss k_leq k_gtr k_geq k_beq k_peqn k_peqs k_neg k_not k_com k_cvI k_idxS k_idxV1 k_idxVn k_idx k_idxA k_idxG k_ldG k_gld k_seq k_cat k_aeq k_eqs k_fld k_ld1 k_ldn k_get k_gets k_sti k_stb k_stp k_sts k_stf k_sta k_put k_nn k_prt1 k_prtn k_slc_a k_slc_b k_slc_c k_mk k_agg k_bsl k_box k_len k_lenS k_cap k_max k_min k_ext k_callV k_true k_false k_gtt k_gtf k_gft k_gsk k_gff k_lit1i k_lit2i k_lit3i k_c0 k_c1 k_ck List.getElem?_cons_zero List.getElem?_cons_succ List.getElem?_nil Option.getD_some Option.getD_none tupOf List.map_cons List.map_nil Option.map_some Option.map_none List.nil_append List.cons_append List.append_nil Nat.mul_one Int.toNat_natCast Nat.zero_add
attribute [local go_sem] e_t e_c e_f u_some u_none u_at env_at k_v k_pick k_add k_sub k_mul k_quo k_rem k_and k_or k_xor k_shl k_shr k_eql k_neq k_lss k_leq k_gtr k_geq k_beq k_peqn k_peqs k_neg k_not k_com k_cvI k_idxS k_idxV1 k_idxVn k_idx k_idxA k_idxG k_ldG k_gld k_seq k_cat k_aeq k_eqs k_fld k_ld1 k_ldn k_get k_gets k_sti k_stb k_stp k_sts k_stf k_sta k_put k_nn k_prt1 k_prtn k_slc_a k_slc_b k_slc_c k_mk k_agg k_bsl k_box k_len k_lenS k_cap k_max k_min k_ext k_callV k_true k_false k_gtt k_gtf k_gft k_gsk k_gff k_lit1i k_lit2i k_lit3i k_c0 k_c1 k_ck List.getElem?_cons_zero List.getElem?_cons_succ List.getElem?_nil Option.getD_some Option.getD_none tupOf List.map_cons List.map_nil Option.map_some Option.map_none List.nil_append List.cons_append List.append_nil Nat.mul_one Int.toNat_natCast Nat.zero_add
--what a store into a cell of two leaves
attribute [local go_sem_proc] Nat.reduceEqDiff Nat.reduceAdd Int.reduceToNat
attribute [local go_sem_proc ↓] reduceIte
attribute [local go_sem] Bool.false_eq_true
section
section
variable {h:H} {K:AV→H→Prop}
theorem from17_calls {v:AV} {A:Nat} (nv:Nn h v A) (hk:∀r h',h'.wf→h.le h'→Num 4294967296 h' r A→K r h'):ACalls Tryz.prog 88 [v] h K:=by
 refine in_law17_from sM fun hw=> ?_
 unfold c_law17_from
 simp only[go_sem]
 refine fromN nv fun r h1 hw1 hl1 hr=> ?_
 simp only[go_sem]
 exact fun _=>hk r h1 hw1 hl1 hr
set_option maxHeartbeats 1000000 in
theorem wakes17_calls (hk:∀h',h'.wf→h.le h'→K (.bool true) h'):ACalls Tryz.prog 86 [] h K:=by
 refine in_law17_wakes sM fun hw=> ?_
 unfold c_law17_wakes
 simp only[go_sem]
 refine raNew_calls (t:=⟨0,0,0,0,0,0,0,0,0,0,0⟩) fun e u h1 hw1 hl1 hn1 hue he ht=> ?_
 simp only[go_sem,Option.isNone,Bool.false_bne]
 have hl2:=H.le_new hw1 (H.le_refl h1) ⟨some 54,1,[AV.int .u64 255]⟩
 have n255:Nn (h1.new ⟨some 54,1,[AV.int .u64 255]⟩) (.sl (some h1.next) 0 1 (some 1)) (val 18446744073709551616 [255]):=(IsN.lit [255] _ rfl rfl).nn (by intro x hx;rw[List.mem_singleton.1 hx];decide) sM
 have hw2:=H.wf_new hw1 ⟨some 54,1,[AV.int .u64 255]⟩
 have w255:wlen (val 18446744073709551616 [255])≤1:=by decide
 refine⟨trivial, ?_⟩
 refine Text_calls (base:=16) (clamp_ok _) (he.mono hl2) (ht.mono hl2) n255 oM oM (fun h0=>absurd h0 dM) fun b hb _ _ ds h3 m3 dp3 hw3 hl3 ht3 hds=> ?_
 obtain rfl:b=16:=by omega
 obtain rfl:ds=[15,15]:=hds.uniq oM ⟨dM,sM,dM⟩
 have l03:=le_over hw (H.le_trans hl1 hl2) hn1 hl3
 have he3:=(he.mono hl2).monoE (ht.mono hl2) hl3
 have e7:(⟨#[48,48,55]⟩:ByteArray)=sb [48,48,55]:=rfl
 have eff:(sb (txt [15,15])==⟨#[102,102]⟩)=true:=by decide
 simp only[go_sem]
 rw[e7]
 refine rParse_calls (base:=8) (clamp_ok _) he3 ht3 dM sM oM (fun h0=>absurd h0 dM) (fun _ h0=> ?_) fun b hb _ _ _ _ r h4 m4 dp4 hw4 hl4 ht4 hr=> ?_
 ·exact absurd h0 dM
 obtain rfl:b=8:=by omega
 have l04:=le_over hw l03 hn1 hl4
 have hr:Nf h3.next h4 r 7:=hr
 have hl5:=H.le_new hw4 (H.le_refl h4) ⟨some 54,1,[AV.int .u64 7]⟩
 have n7:Nt (h4.new ⟨some 54,1,[AV.int .u64 7]⟩) (.sl (some h4.next) 0 1 (some 1)) 7:=⟨[7],IsN.lit [7] _ rfl rfl,by intro x hx;rw[List.mem_singleton.1 hx];decide,by intro x hx;simp at hx;omega,rfl⟩
 simp only[go_sem,show((0:Int)==0)=true from rfl,eff,bneT]
 refine kSameT_calls (hr.nt.mono hl5) n7 (word_big dM) ?_
 simp only[go_sem]
 exact fun hw'=>hk _ hw' (H.le_trans l04 hl5)
end
end
section
section
variable {t t2:Tb} {va:AV} {xs0:List Nat} {h:H} {K:AV→H→Prop}
theorem txt_top {b x:Nat} {ds:List Nat} (h:DgOf b x ds) (hb:b≤36):0<(txt ds).length∧(txt ds=[48]∨∀hl:0<(txt ds).length,(txt ds)[0]≠48):=by
 unfold txt
 split
 ·exact⟨sM, .inl rfl⟩
 ·rename_i hne
  have hl0:=List.length_pos_iff.2 hne
  refine⟨by simp;exact hl0, .inr fun hl=> ?_⟩
  have e:((ds.map chr).reverse)[0]=chr ds[ds.length-1]:=by
   rw[List.getElem_reverse,List.getElem_map]
   simp
  rw[e]
  have h1:=h.2.1 ds[ds.length-1] (by rw[List.getLast?_eq_getElem?,List.getElem?_eq_getElem oM])
  have h2:=h.1 _ (List.getElem_mem (show ds.length-1<ds.length by omega))
  unfold chr
  split<;>omega
theorem txt_dgt {b x:Nat} {ds:List Nat} (h:DgOf b x ds) (hb2:2≤b) (hb:b≤36):∀y∈txt ds,dgt y<b:=by
 intro y hy
 unfold txt at hy
 split at hy
 ·rw[List.mem_singleton.1 hy]
  have:dgt 48=0:=rfl
  omega
 ·obtain⟨d,hd,rfl⟩:=List.mem_map.1 (List.mem_reverse.1 hy)
  have:=h.1 d hd
  rw[dgt_chr oM]
  exact this
set_option maxHeartbeats 2000000 in
theorem RadixBack_law {base0 nts:Int} (hv0:IsN h va xs0) (hx0:Dig xs0) (hk:∀h',h'.wf→K (.bool true) h'):ACalls Tryz.prog 18 [t.av,t2.av,va, .int .i64 base0, .int .i64 nts] h K:=by
 refine in_law17_RadixBack sM fun hw=> ?_
 unfold c_law17_RadixBack
 simp only[go_sem,av_held,av_cells,cells_len,true_and]
 have hl0:=H.le_new hw (H.le_refl h) ⟨some 23,11,t.cells⟩
 have hw0:=H.wf_new hw ⟨some 23,11,t.cells⟩
 have hr0:=H.rows_new h ⟨some 23,11,t.cells⟩
 have hn0:(h.new ⟨some 23,11,t.cells⟩).next=h.next+1:=rfl
 generalize h.new ⟨some 23,11,t.cells⟩=g00 at*
 have hl00:=H.le_new hw0 (H.le_refl g00) ⟨some 23,11,t2.cells⟩
 have hr00:=H.rows_new g00 ⟨some 23,11,t2.cells⟩
 generalize g00.new ⟨some 23,11,t2.cells⟩=g0 at*
 rw[hn0] at hr00⊢
 have hr0:=hl00.2 _ _ hr0
 refine Cut_calls (n:=80) (hv0.mono (H.le_trans hl0 hl00)) fun a ha=> ?_
 have hxd:Dig (xs0.take 80):=Dig.take hx0 80
 have hxl:(xs0.take 80).length≤80:=by simp;omega
 generalize xs0.take 80=xs at*
 simp only[go_sem,gsT hr0,gsT hr00]
 refine raNew_calls fun e u g1 hw1 hl1 hn1 hue he ht=> ?_
 simp only[go_sem,gsT (hl1.2 _ _ hr00),true_and]
 refine raNew_calls fun e' u' g2 hw2 hl2 hn2 hue' he' ht'=> ?_
 have na:=(ha.mono (H.le_trans hl1 hl2)).nn hxd oM
 have wd:wlen (val 18446744073709551616 xs)≤80:=Nat.le_trans (wlen_len hxd) hxl
 have bd:Big (val 18446744073709551616 xs):=wbig wd oM
 clear ha hxd hxl
 generalize val 18446744073709551616 xs=x at*
 have hu1:=H.row_lt hw1 ht
 have he:=he.mono hl2
 have ht:=ht.mono hl2
 have hne:u'≠u:=by omega
 simp only[go_sem,Option.isNone,Bool.false_bne]
 refine Within_calls (n:=35) oM oM fun k0 hk0 _=> ?_
 obtain⟨b,hb,hb2,hb36⟩:∃b:Nat,IntKind.i64.wrap (2+(k0:Int))=(b:Int)∧2≤b∧b≤36:=⟨2+k0,by rw[wI]<;>omega,oM,oM⟩
 have hnb:¬((b:Int)<2∨36<(b:Int)):=by omega
 simp only[go_sem,hb]
 refine Text_calls (clamp_ok _) he ht na oM oM (fun h0=>absurd h0 hnb) fun b1 hb1 _ _ ds g3 m3 dp3 hw3 hl3 ht3 hds=> ?_
 obtain rfl:b=b1:=by omega
 have ht'3:Tune g3 u' 0 0 0 (clampT t2):=hl3.2 _ _ hne ht'
 have he'3:=Eng.monoO ht hl3 he'
 have he3:=he.monoE ht hl3
 have na3:=na.monoE' ht hl3
 simp only[go_sem]
 refine Text_calls (clamp_ok _) he'3 ht'3 na3 oM oM (fun h0=>absurd h0 hnb) fun b1 hb1 _ _ ds' g4 m4 dp4 hw4 hl4 ht'4 hds'=> ?_
 obtain rfl:b=b1:=by omega
 obtain rfl:=hds.uniq oM hds'
 have ht4:Tune g4 u m3 0 dp3 (clampT t):=hl4.2 _ _ oM ht3
 have he4:=Eng.monoO ht'3 hl4 he3
 have he'4:=he'3.monoE ht'3 hl4
 have na4:=na3.monoE' ht'3 hl4
 have hds36:∀d∈ds,d<36:=fun d hd=>Nat.lt_of_lt_of_le (hds.1 d hd) hb36
 have ht8:=txt_lt hds36
 have htl:(txt ds).length≤64*80+1:=by
  have:=hds.len hb2 wd
  unfold txt
  split
  ·simp
  ·simp;omega
 simp only[go_sem]
 refine Within_calls (n:=60) oM oM fun kn hkn _=> ?_
 simp only[go_sem]
 refine loop_cut (fun ρ g=>g=g4∧ρ 2=a∧ρ 3= .int .i64 (b:Int)∧ρ 11= .ptr (some (e,0))∧ρ 12= .ptr (some (e',0))∧ρ 13= .str (sb (txt ds))∧ρ 14= .int .i64 0∧ρ 15= .str (sb (List.replicate kn 48++txt ds))∧ρ 16= .int .i64 0) ?_ ?_
 ·refine for_rule (fun j ρ g=>j≤kn∧g=g4∧ρ 2=a∧ρ 3= .int .i64 (b:Int)∧ρ 11= .ptr (some (e,0))∧ρ 12= .ptr (some (e',0))∧ρ 13= .str (sb (txt ds))∧ρ 14= .int .i64 0∧ρ 15= .str (sb (List.replicate j 48++txt ds))∧ρ 16= .int .i64 0∧ρ 17= .int .i64 ((kn-j:Nat):Int)) kn
   ⟨oM,rfl,tR,tR,tR,tR,tR,tR,tR,tR,tR⟩ (fun i ρ h hI=>hI.1) ?_
  rintro j ρ g ⟨hj,rfl,q2,q3,q11,q12,q13,q14,q15,q16,q17⟩
  rcases Nat.lt_or_ge j kn with h3|h3
  ·have e1:IntKind.i64.wrap (((kn-j:Nat):Int)-1)=((kn-(j+1):Nat):Int):=by rw[wI]<;>omega
   have ec:(⟨#[48]⟩:ByteArray)++sb (List.replicate j 48++txt ds)=sb (List.replicate (j+1) 48++txt ds):=by
    show sb [48]++_=_
    rw[sb_append]
    rfl
   have es:=sb_size (List.replicate j 48++txt ds)
   rw[List.length_append,List.length_replicate] at es
   simp only[go_sem,q2,q3,q11,q12,q13,q14,q15,q16,q17,show decide ((0:Int)<((kn-j:Nat):Int))=true from decide_eq_true oM,ec,es,e1]
   exact⟨(by show 1+(j+(txt ds).length)<9223372036854775808;omega),oM,sM⟩
  ·obtain rfl:j=kn:=by omega
   simp only[go_sem,q2,q3,q11,q12,q13,q14,q15,q16,q17,show decide ((0:Int)<((j-j:Nat):Int))=false from decide_eq_false oM]
   simp
 rintro ρ g ⟨rfl,q2,q3,q11,q12,q13,q14,q15,q16⟩
 have hdg:=txt_dgt hds hb2 hb36
 obtain⟨ht0,htop⟩:=txt_top hds hb36
 have hnum:=num_txt (b:=b) hds36
 rw[hds.2.2] at hnum
 have hne0:txt ds≠ []:=List.length_pos_iff.1 ht0
 have hr8:∀y∈List.replicate kn 48++txt ds,y<256:=fun y hy=>by
  rcases List.mem_append.1 hy with hy|hy
  ·rw[List.eq_of_mem_replicate hy];omega
  ·exact ht8 y hy
 have hrd:∀y∈List.replicate kn 48++txt ds,dgt y<b:=fun y hy=>by
  rcases List.mem_append.1 hy with hy|hy
  ·rw[List.eq_of_mem_replicate hy]
   have:dgt 48=0:=rfl
   omega
  ·exact hdg y hy
 have hrn:=num_nought b kn (txt ds)
 rw[hnum] at hrn
 have hrl:(List.replicate kn 48++txt ds).length=kn+(txt ds).length:=by simp
 simp only[go_sem,q3,q11,q15]
 refine rParse_calls (clamp_ok _) he4 ht4 hr8 oM oM (fun h0=>absurd h0 hnb) (fun _ h0=> ?_) fun b1 hb1 _ _ _ _ r g5 m5 dp5 hw5 hl5 ht5 hr=> ?_
 ·rcases h0 with h0|⟨y,hy,hyb⟩
  ·rw[h0] at hrl
   exact absurd hrl (by simp;omega)
  ·have:=hrd y hy
   exact absurd hyb oM
 obtain rfl:b=b1:=by omega
 rw[hrn] at hr
 have ht'5:Tune g5 u' m4 0 dp4 (clampT t2):=hl5.2 _ _ hne ht'4
 have he'5:=Eng.monoO ht4 hl5 he'4
 have na5:=na4.monoE' ht4 hl5
 have hu'4:=H.row_lt hw4 ht'4
 have hu'5:=H.row_lt hw5 ht'5
 simp only[go_sem,q3,q12,q13]
 refine rParse_calls (clamp_ok _) he'5 ht'5 ht8 oM oM (fun h0=>absurd h0 hnb) (fun _ h0=> ?_) fun b1 hb1 _ _ _ _ r' g6 m6 dp6 hw6 hl6 ht6 hr'=> ?_
 ·rcases h0 with h0|⟨y,hy,hyb⟩
  ·exact absurd h0 hne0
  ·have:=hdg y hy
   exact absurd hyb oM
 obtain rfl:b=b1:=by omega
 rw[hnum] at hr'
 have na6:=na5.monoE' ht'5 hl6
 have nr6:Nt g6 r x:=Nt.monoE ht'5 hr.nt hl6
 have es:=sb_size (txt ds)
 have e48:(sb (txt ds)==(⟨#[48]⟩:ByteArray))=decide (txt ds=[48]):=sb_beq (m:=[48]) ht8 dM
 simp only[go_sem,q2,q13,q14,q16,show((0:Int)==0)=true from rfl]
 refine from17_calls na6 fun f1 g7 hw7 hl7 n1=> ?_
 simp only[go_sem]
 refine rSame_calls n1 bd (nr6.mono hl7) fun g8 hw8 hl8=> ?_
 simp only[go_sem,q2]
 refine from17_calls (na6.mono (H.le_trans hl7 hl8)) fun f2 g9 hw9 hl9 n2=> ?_
 simp only[go_sem]
 refine rSame_calls n2 bd (hr'.nt.mono (H.le_trans hl7 (H.le_trans hl8 hl9))) fun g10 hw10 hl10=> ?_
 rcases htop with c1|c1
 ·simp only[go_sem,q13,es,e48,show decide ((0:Int)<(((txt ds).length:Nat):Int))=true from decide_eq_true oM,decide_eq_true c1,bneT]
  refine wakes17_calls fun gz hwz hlz=> ?_
  simp only[go_sem]
  exact fun _=>hk gz hwz
 ·by_cases c2:txt ds=[48]
  ·simp only[go_sem,q13,es,e48,show decide ((0:Int)<(((txt ds).length:Nat):Int))=true from decide_eq_true oM,decide_eq_true c2,bneT]
   refine wakes17_calls fun gz hwz hlz=> ?_
   simp only[go_sem]
   exact fun _=>hk gz hwz
  ·have hf:=ht8 _ (List.getElem_mem ht0)
   have hn:=c1 ht0
   simp only[go_sem,q13,es,e48,show decide ((0:Int)<(((txt ds).length:Nat):Int))=true from decide_eq_true oM,decide_eq_false c2,bneF]
   refine⟨dM,_,sb_get ht0, ?_⟩
   rw[u8_nat hf]
   simp only[go_sem,show(((((txt ds)[0]:Nat):Int)) !=48)=true by simp;omega]
   refine wakes17_calls fun gz hwz hlz=> ?_
   simp only[go_sem]
   exact fun _=>hk gz hwz
end
end
section
set_option maxRecDepth 100000
set_option maxRecDepth 100000 in
theorem RadixBack_row (h:H) (avs:List AV) (_:h.wf) (r:ReadsAll Tryz.prog h [23,23,24,3,3] avs):ACalls Tryz.prog 18 avs h (fun r _=>r= .bool true):=by
 match avs,r with
 |[_,_,_,_,_],⟨r0,r0',r1,r2,r3,_⟩=>
  obtain⟨t0,rfl⟩:=reads_table r0
  obtain⟨t1,rfl⟩:=reads_table r0'
  obtain⟨xs,h1,hx,_⟩:=reads_words r1
  obtain⟨n,rfl,_,_⟩:=reads_i64 r2
  obtain⟨k,rfl,_,_⟩:=reads_i64 r3
  exact RadixBack_law h1 hx fun _ _=>rfl
end
end Ab
end Go.Proofs.YtnlkbdmmoplkoaaGreatDoor
