/- Joined texts: Y22 Y24 Y25 Y28. No condition. -/
import Derived.Test.YtnlkbdmmoplkoaaGreatDoorZ15
namespace Go.Proofs.YtnlkbdmmoplkoaaGreatDoor
namespace Ab
open Go Go.RowKit
set_option linter.unusedSimpArgs false
set_option linter.unusedVariables false
attribute [local go_sem ↓] x_mv x_pick x_bin x_beq x_peq x_seq x_cat x_aeq x_idxS x_idxV x_un x_cvI x_bts x_idx x_idxA x_fld x_ld x_st x_nn x_prt x_slc x_mk x_bsl x_bld x_box x_alloc x_len x_capo x_mnx x_app x_cpy x_mkf x_ext x_call x_callV x_bad s_none s_some s_nil s_cons s_chks w_skip w_reg tP_fin tP_no tP_alt w_seq w_cond w_block w_exit w_ret t_normal t_exit t_ret b_normal b_ret b_exit n_normal n_exit n_ret p_normal p_ret f_nil f_t f_c k_ops k_chk k_fin
attribute [local go_sem] e_t e_c e_f u_some u_none u_at env_at k_v k_pick k_add k_sub k_mul k_quo k_rem k_and k_or k_xor k_shl k_shr k_eql k_neq k_lss k_leq k_gtr k_geq k_beq k_peqn k_peqs k_neg k_not k_com k_cvI k_idxS k_idxV1 k_idxVn k_idx k_idxA k_idxG k_ldG k_gld k_seq k_cat k_aeq k_eqs k_fld k_ld1 k_ldn k_get k_gets k_sti k_stb k_stp k_sts k_stf k_sta k_put k_nn k_prt1 k_prtn k_slc_a k_slc_b k_slc_c k_mk k_agg k_bsl k_box k_len k_lenS k_cap k_max k_min k_ext k_callV k_true k_false k_gtt k_gtf k_gft k_gsk k_gff k_lit1i k_lit2i k_lit3i k_c0 k_c1 k_ck List.getElem?_cons_zero List.getElem?_cons_succ List.getElem?_nil Option.getD_some Option.getD_none tupOf List.map_cons List.map_nil Option.map_some Option.map_none List.nil_append List.cons_append List.append_nil Nat.mul_one Int.toNat_natCast Nat.zero_add
attribute [local go_sem] e_t e_c e_f u_some u_none u_at env_at k_v k_pick k_add k_sub k_mul k_quo k_rem k_and k_or k_xor k_shl k_shr k_eql k_neq k_lss k_leq k_gtr k_geq k_beq k_peqn k_peqs k_neg k_not k_com k_cvI k_idxS k_idxV1 k_idxVn k_idx k_idxA k_idxG k_ldG k_gld k_seq k_cat k_aeq k_eqs k_fld k_ld1 k_ldn k_get k_gets k_sti k_stb k_stp k_sts k_stf k_sta k_put k_nn k_prt1 k_prtn k_slc_a k_slc_b k_slc_c k_mk k_agg k_bsl k_box k_len k_lenS k_cap k_max k_min k_ext k_callV k_true k_false k_gtt k_gtf k_gft k_gsk k_gff k_lit1i k_lit2i k_lit3i k_c0 k_c1 k_ck List.getElem?_cons_zero List.getElem?_cons_succ List.getElem?_nil Option.getD_some Option.getD_none tupOf List.map_cons List.map_nil Option.map_some Option.map_none List.nil_append List.cons_append List.append_nil Nat.mul_one Int.toNat_natCast Nat.zero_add
--what a store into a cell of two leaves
attribute [local go_sem_proc] Nat.reduceEqDiff Nat.reduceAdd Int.reduceToNat
attribute [local go_sem_proc ↓] reduceIte
attribute [local go_sem] Bool.false_eq_true
section
section
variable {x b:Nat} {h:H} {K:AV→H→Prop}
theorem refdigit_calls (hx:x<256) (hb36:b≤36) (hk:K (.int .i64 ((min (dgt x) b:Nat):Int)) h):ACalls Tryz.prog 121 [.int .u8 (x:Int), .int .i64 (b:Int)] h K:=by
 refine in_ref17_digit sM fun hw=> ?_
 unfold c_ref17_digit
 have hd:=dgt_lt x
 have em:min ((dgt x:Nat):Int) (b:Int)=((min (dgt x) b:Nat):Int):=by omega
 have bn:dgt x=99→min (b:Int) (b:Int)=((min (dgt x) b:Nat):Int):=by omega
 rcases Nat.lt_or_ge x 48 with c1|c1
 ·have e:dgt x=99:=by unfold dgt;rw[if_neg oM,if_neg oM]
  simp only[go_sem,show decide ((48:Int)≤(x:Int))=false from decide_eq_false oM,show decide ((97:Int)≤(x:Int))=false from decide_eq_false oM,bn e]
  exact fun _=>hk
 rcases Nat.lt_or_ge 57 x with c2|c2
 rotate_left
 ·have e:dgt x=x-48:=by unfold dgt;rw[if_pos oM]
  have e1:IntKind.u8.wrap ((x:Int)-48)=((dgt x:Nat):Int):=by rw[IntKind.wrap_u8];omega
  have e2:IntKind.i64.wrap ((dgt x:Nat):Int)=((dgt x:Nat):Int):=wNI oM
  simp only[go_sem,show decide ((48:Int)≤(x:Int))=true from decide_eq_true oM,show decide ((x:Int)≤57)=true from decide_eq_true oM,show decide ((97:Int)≤(x:Int))=false from decide_eq_false oM,e1,e2,em]
  exact fun _=>hk
 rcases Nat.lt_or_ge x 97 with c3|c3
 ·have e:dgt x=99:=by unfold dgt;rw[if_neg oM,if_neg oM]
  simp only[go_sem,show decide ((48:Int)≤(x:Int))=true from decide_eq_true oM,show decide ((x:Int)≤57)=false from decide_eq_false oM,show decide ((97:Int)≤(x:Int))=false from decide_eq_false oM,bn e]
  exact fun _=>hk
 rcases Nat.lt_or_ge 122 x with c4|c4
 ·have e:dgt x=99:=by unfold dgt;rw[if_neg oM,if_neg oM]
  simp only[go_sem,show decide ((48:Int)≤(x:Int))=true from decide_eq_true oM,show decide ((x:Int)≤57)=false from decide_eq_false oM,show decide ((97:Int)≤(x:Int))=true from decide_eq_true oM,show decide ((x:Int)≤122)=false from decide_eq_false oM,bn e]
  exact fun _=>hk
 ·have e:dgt x=x-87:=by unfold dgt;rw[if_neg oM,if_pos oM]
  have e1:IntKind.u8.wrap ((x:Int)-97)=((x-97:Nat):Int):=by rw[IntKind.wrap_u8];omega
  have e2:IntKind.i64.wrap ((x-97:Nat):Int)=((x-97:Nat):Int):=wNI oM
  have e3:IntKind.i64.wrap (((x-97:Nat):Int)+10)=((dgt x:Nat):Int):=by rw[wI]<;>omega
  simp only[go_sem,show decide ((48:Int)≤(x:Int))=true from decide_eq_true oM,show decide ((x:Int)≤57)=false from decide_eq_false oM,show decide ((97:Int)≤(x:Int))=true from decide_eq_true oM,show decide ((x:Int)≤122)=true from decide_eq_true oM,e1,e2,e3,em]
  exact fun _=>hk
end
theorem num_big {b:Nat} {l:List Nat} (hb:2≤b) (hb36:b≤36) (hl:l.length≤8000) (h:∀x∈l,dgt x<b):Big (num b l):=by
 have:=val_wlen (b:=b) oM oM (xs:=(l.map dgt).reverse) fun x hx=>by
  obtain⟨y,hy,rfl⟩:=List.mem_map.1 (List.mem_reverse.1 hx)
  exact h y hy
 exact wbig this (by simp;omega)
section
variable {h:H} {l:List Nat} {base:Int} {K:AV→H→Prop}
set_option maxHeartbeats 1000000 in
theorem refParse_calls (h8:∀x∈l,x<256) (hl:l.length≤8000)
  (hkA:(base<2∨36<base)→h.wf→K (.tup [.sl none 0 0 none, .int .i64 1]) h)
  (hkT:¬(base<2∨36<base)→(l=[]∨∃x∈l,base≤((dgt x:Nat):Int))→∀h',h'.wf→h.le h'→K (.tup [.sl none 0 0 none, .int .i64 11]) h')
  (hk:∀b:Nat,base=(b:Int)→2≤b→b≤36→l≠ []→(∀x∈l,dgt x<b)→∀r h',h'.wf→h.le h'→Num 4294967296 h' r (num b l)→K (.tup [r, .int .i64 0]) h'):
  ACalls Tryz.prog 90 [.str (sb l), .int .i64 base] h K:=by
 refine in_ref17_Parse sM fun hw=> ?_
 unfold c_ref17_Parse
 by_cases c1:base<2
 ·simp only[go_sem,decide_eq_true c1]
  exact hkA (.inl c1)
 by_cases c2:36<base
 ·simp only[go_sem,decide_eq_false c1,decide_eq_true c2]
  exact hkA (.inr c2)
 have hnb:¬(base<2∨36<base):=fun h=>h.elim c1 c2
 obtain⟨b,rfl⟩:∃b:Nat,base=(b:Int):=⟨base.toNat,oM⟩
 have hb2:2≤b:=by omega
 have hb36:b≤36:=by omega
 have eb:IntKind.u64.wrap (b:Int)=(b:Int):=wUn oM
 have es:=sb_size l
 rcases Nat.eq_zero_or_pos l.length with c3|c3
 ·have h0:l=[]:=List.eq_nil_of_length_eq_zero c3
  simp only[go_sem,decide_eq_false c1,decide_eq_false c2,es,show decide (((l.length:Nat):Int)<1)=true from decide_eq_true oM]
  exact fun hw'=>hkT hnb (.inl h0) h hw' (H.le_refl h)
 have hne:l≠ []:=List.length_pos_iff.1 c3
 simp only[go_sem,decide_eq_false c1,decide_eq_false c2,es,show decide (((l.length:Nat):Int)<1)=false from decide_eq_false oM,show decide ((65536:Int)<((l.length:Nat):Int))=false from decide_eq_false oM]
 refine for_rule (fun j ρ h'=>j≤l.length∧h'.wf∧h.le h'∧ρ 0= .str (sb l)∧ρ 1= .int .i64 (b:Int)∧ρ 7= .int .i64 (j:Int)∧Num 4294967296 h' (ρ 6) (num b (l.take j))∧∀x∈l.take j,dgt x<b) l.length
  ⟨oM,hw,H.le_refl h,tR,tR,rfl,⟨[],IsN.nil _ _,sM,sM,rfl⟩,sM⟩ (fun i ρ h hI=>hI.1) ?_
 rintro j ρ h' ⟨hj,hw',hle,q0,q1,q7,hN,hlt⟩
 rcases Nat.lt_or_ge j l.length with h3|h3
 ·have hx8:=h8 _ (List.getElem_mem h3)
  simp only[go_sem,q0,q1,q7,es,ltT h3]
  refine⟨oM,_,sb_get h3, ?_⟩
  rw[u8_nat hx8]
  refine refdigit_calls hx8 hb36 ?_
  rcases Nat.lt_or_ge (dgt l[j]) b with c4|c4
  ·have em:min (dgt l[j]) b=dgt l[j]:=by omega
   have hs:=List.take_succ_eq_append_getElem h3
   have bj:=num_big (l:=l.take j) hb2 hb36 (by simp;omega) hlt
   have hlt':∀x∈l.take (j+1),dgt x<b:=fun x hx=>by
    rw[hs] at hx
    rcases List.mem_append.1 hx with hx|hx
    ·exact hlt x hx
    ·rw[List.mem_singleton.1 hx]
     exact c4
   have bj1:=num_big (l:=l.take (j+1)) hb2 hb36 (by simp;omega) hlt'
   have hst:num b (l.take (j+1))=num b (l.take j)*b+dgt l[j]:=by rw[hs,num_snoc]
   have ed:IntKind.u64.wrap ((dgt l[j]:Nat):Int)=((dgt l[j]:Nat):Int):=wUn oM
   generalize dgt l[j]=d at*
   rw[em]
   simp only[go_sem,q0,q1,q7,show decide ((b:Int)≤(d:Int))=false from decide_eq_false oM,eb,ed]
   refine Small_calls oM fun s h1 hw1 hl1 hs1=> ?_
   simp only[go_sem]
   refine Mul_calls (hN.mono hl1) hs1 bj (word_big oM) fun p h2 hw2 hl2 hp=> ?_
   simp only[go_sem,ed]
   refine Small_calls oM fun s2 h4 hw4 hl4 hs4=> ?_
   simp only[go_sem]
   refine Add_calls (hp.mono hl4) hs4 (bj1.le oM) (word_big oM) fun z h5 hw5 hl5 hz=> ?_
   rw[←hst] at hz
   simp only[go_sem,q0,q1,q7,incI (i:=j) oM]
   exact⟨oM,hw5,(H.le_trans hle (H.le_trans hl1 (H.le_trans hl2 (H.le_trans hl4 hl5)))),tR,tR,tR,hz,hlt'⟩
  ·rw[show min (dgt l[j]) b=b by omega]
   simp only[go_sem,q0,q1,q7,show decide ((b:Int)≤(b:Int))=true from decide_eq_true oM]
   exact fun hw'=>hkT hnb (.inr ⟨_,List.getElem_mem h3,oM⟩) h' hw' hle
 ·obtain rfl:j=l.length:=by omega
  rw[List.take_length] at hN hlt
  simp only[go_sem,q0,q1,q7,es,ltF (Nat.le_refl l.length)]
  exact fun hw'=>hk b rfl hb2 hb36 hne hlt _ h' hw' hle hN
end
end
section
section
variable {h:H} {K:AV→H→Prop}
set_option maxHeartbeats 1000000 in
theorem wakes17_calls (hk:∀h',h'.wf→h.le h'→K (.bool true) h'):ACalls Tryz.prog 86 [] h K:=by
 refine in_law17_wakes sM fun hw=> ?_
 unfold c_law17_wakes
 simp only[go_sem]
 refine raNew_calls (t:=⟨0,0,0,0,0,0,0,0,0,0,0⟩) fun e u h1 hw1 hl1 hn1 hue he ht=> ?_
 simp only[go_sem,Option.isNone,Bool.false_bne]
 have hl2:=H.le_new hw1 (H.le_refl h1) ⟨some 54,1,[AV.int .u64 255]⟩
 have n255:Nn (h1.new ⟨some 54,1,[AV.int .u64 255]⟩) (.sl (some h1.next) 0 1 (some 1)) (val 18446744073709551616 [255]):=(IsN.lit [255] _ rfl rfl).nn (by intro x hx;rw[List.mem_singleton.1 hx];decide) sM
 have hw2:=H.wf_new hw1 ⟨some 54,1,[AV.int .u64 255]⟩
 have w255:wlen (val 18446744073709551616 [255])≤1:=by decide
 refine⟨trivial, ?_⟩
 refine Text_calls (base:=16) (clamp_ok _) (he.mono hl2) (ht.mono hl2) n255 oM oM (fun h0=>absurd h0 dM) fun b hb _ _ ds h3 m3 dp3 hw3 hl3 ht3 hds=> ?_
 obtain rfl:b=16:=by omega
 obtain rfl:ds=[15,15]:=hds.uniq oM ⟨dM,sM,dM⟩
 have l03:=le_over hw (H.le_trans hl1 hl2) hn1 hl3
 have he3:=(he.mono hl2).monoE (ht.mono hl2) hl3
 have e7:(⟨#[48,48,55]⟩:ByteArray)=sb [48,48,55]:=rfl
 have eff:(sb (txt [15,15])==⟨#[102,102]⟩)=true:=by decide
 simp only[go_sem]
 rw[e7]
 refine rParse_calls (base:=8) (clamp_ok _) he3 ht3 dM sM oM (fun h0=>absurd h0 dM) (fun _ h0=> ?_) fun b hb _ _ _ _ r h4 m4 dp4 hw4 hl4 ht4 hr=> ?_
 ·exact absurd h0 dM
 obtain rfl:b=8:=by omega
 have l04:=le_over hw l03 hn1 hl4
 have hr:Nf h3.next h4 r 7:=hr
 have hl5:=H.le_new hw4 (H.le_refl h4) ⟨some 54,1,[AV.int .u64 7]⟩
 have n7:Nt (h4.new ⟨some 54,1,[AV.int .u64 7]⟩) (.sl (some h4.next) 0 1 (some 1)) 7:=⟨[7],IsN.lit [7] _ rfl rfl,by intro x hx;rw[List.mem_singleton.1 hx];decide,by intro x hx;simp at hx;omega,rfl⟩
 simp only[go_sem,show((0:Int)==0)=true from rfl,eff,bneT]
 refine kSameT_calls (hr.nt.mono hl5) n7 (word_big dM) ?_
 simp only[go_sem]
 exact fun hw'=>hk _ hw' (H.le_trans l04 hl5)
end
end
section
section
variable {t:Tb} {va:AV} {xs0:List Nat} {h:H} {K:AV→H→Prop}
set_option maxHeartbeats 1000000 in
theorem RadixParses_law {base:Int} {s:ByteArray} (hk:∀h',h'.wf→K (.bool true) h'):ACalls Tryz.prog 17 [t.av, .str s, .int .i64 base] h K:=by
 obtain⟨l,rfl,h8⟩:=sb_of s
 refine in_law17_RadixParses sM fun hw=> ?_
 unfold c_law17_RadixParses
 have hl0:=H.le_new hw (H.le_refl h) ⟨some 23,11,t.cells⟩
 have hr0:=H.rows_new h ⟨some 23,11,t.cells⟩
 have es:=sb_size l
 simp only[go_sem,av_held,av_cells,cells_len,true_and,es]
 generalize hg:h.new ⟨some 23,11,t.cells⟩=g0 at*
 by_cases c1:400<l.length
 ·simp only[go_sem,show decide ((400:Int)<((l.length:Nat):Int))=true from decide_eq_true oM]
  refine wakes17_calls fun g9 hw9 hl9=> ?_
  simp only[go_sem]
  exact fun _=>hk g9 hw9
 simp only[go_sem,show decide ((400:Int)<((l.length:Nat):Int))=false from decide_eq_false oM,gsT hr0]
 refine raNew_calls fun e u g1 hw1 hl1 hn1 hue he ht=> ?_
 simp only[go_sem,Option.isNone,Bool.false_bne]
 have nilN:∀g:H,Num 4294967296 g (.sl none 0 0 none) 0:=fun g=>⟨[],IsN.nil _ _,sM,sM,rfl⟩
 have nilT:∀g:H,Nt g (.sl none 0 0 none) 0:=fun g=>⟨[],IsN.nil _ _,by simp[Dig],by simp[Top],rfl⟩
 refine rParse_calls (clamp_ok _) he ht h8 oM oM (fun hb _=> ?_) (fun hb hl g2 hw2 hl2=> ?_) fun b hb hb2 hb36 hne hlt r g2 m2 dp2 hw2 hl2 ht2 hr=> ?_
 ·simp only[go_sem]
  refine refParse_calls h8 oM (fun _ _=> ?_) (fun hb'=>absurd hb hb') fun b hb' h1 h2=>absurd hb oM
  simp only[go_sem,show((1:Int)==1)=true from rfl]
  refine rSame_calls (nilN _) (word_big dM) (nilT _) fun g3 hw3 hl3=> ?_
  simp only[go_sem]
  refine wakes17_calls fun g9 hw9 hl9=> ?_
  simp only[go_sem]
  exact fun _=>hk g9 hw9
 ·simp only[go_sem]
  refine refParse_calls h8 oM (fun hb'=>absurd hb' hb) (fun _ _ g3 hw3 hl3=> ?_) fun b hb' _ _ hne hlt=> ?_
  ·simp only[go_sem,show((11:Int)==11)=true from rfl]
   refine rSame_calls (nilN _) (word_big dM) (nilT _) fun g4 hw4 hl4=> ?_
   simp only[go_sem]
   refine wakes17_calls fun g9 hw9 hl9=> ?_
   simp only[go_sem]
   exact fun _=>hk g9 hw9
  ·rcases hl with h0|⟨x,hx,hxb⟩
   ·exact absurd h0 hne
   ·have:=hlt x hx
    exact absurd hxb oM
 ·subst hb
  have bn:=num_big hb2 hb36 oM hlt
  simp only[go_sem]
  refine refParse_calls h8 oM (fun hb'=>absurd hb' oM) (fun _ hl=> ?_) fun b' hb' _ _ _ _ r' g3 hw3 hl3 hr'=> ?_
  ·rcases hl with h0|⟨x,hx,hxb⟩
   ·exact absurd h0 hne
   ·have:=hlt x hx
    exact absurd hxb oM
  ·obtain rfl:b=b':=by omega
   simp only[go_sem,show((0:Int)==0)=true from rfl]
   refine rSame_calls hr' bn (hr.nt.mono hl3) fun g4 hw4 hl4=> ?_
   simp only[go_sem]
   refine wakes17_calls fun g9 hw9 hl9=> ?_
   simp only[go_sem]
   exact fun _=>hk g9 hw9
end
end
section
set_option maxRecDepth 100000
theorem reads_str {h:H} {u:AV} (r:ReadsV Tryz.prog h 9 u):∃s:ByteArray,u= .str s:=by
 have ht:=Tryz.underlying9
 unfold ReadsV at r
 rw[ht] at r
 cases r with
 |int ht' hw=>rw[ht] at ht';cases ht'
 |bool ht'=>rw[ht] at ht';cases ht'
 |str ht'=>exact⟨_,rfl⟩
 |snil ht'=>rw[ht] at ht';cases ht'
 |sl ht'=>rw[ht] at ht';cases ht'
 |struct ht'=>rw[ht] at ht';cases ht'
set_option maxRecDepth 100000 in
theorem RadixParses_row (h:H) (avs:List AV) (_:h.wf) (r:ReadsAll Tryz.prog h [23,9,3] avs):ACalls Tryz.prog 17 avs h (fun r _=>r= .bool true):=by
 match avs,r with
 |[_,_,_],⟨r0,r1,r2,_⟩=>
  obtain⟨t0,rfl⟩:=reads_table r0
  obtain⟨s,rfl⟩:=reads_str r1
  obtain⟨n,rfl,_,_⟩:=reads_i64 r2
  exact RadixParses_law fun _ _=>rfl
end
end Ab
end Go.Proofs.YtnlkbdmmoplkoaaGreatDoor
