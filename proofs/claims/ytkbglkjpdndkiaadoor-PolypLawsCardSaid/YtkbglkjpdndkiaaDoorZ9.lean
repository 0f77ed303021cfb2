/- Joined texts: X26 X27. No condition. -/
import Derived.Test.YtkbglkjpdndkiaaDoorZ8
namespace Go.Proofs.YtkbglkjpdndkiaaDoor
namespace Ab
open Go Go.RowKit
set_option linter.unusedSimpArgs false
set_option linter.unusedVariables false
attribute [local go_sem ↓] x_mv x_pick x_bin x_beq x_peq x_seq x_cat x_aeq x_idxS x_idxV x_un x_cvI x_bts x_idx x_idxA x_fld x_ld x_st x_nn x_prt x_slc x_mk x_bsl x_bld x_box x_alloc x_len x_capo x_mnx x_app x_cpy x_mkf x_ext x_call x_callV x_bad s_none s_some s_nil s_cons s_chks w_skip w_reg tP_fin tP_no tP_alt w_seq w_cond w_block w_exit w_ret t_normal t_exit t_ret b_normal b_ret b_exit n_normal n_exit n_ret p_normal p_ret f_nil f_t f_c k_ops k_chk k_fin
attribute [local go_sem] e_t e_c e_f u_some u_none u_at env_at k_v k_pick k_add k_sub k_mul k_quo k_rem k_and k_or k_xor k_shl k_shr k_eql k_neq k_lss k_leq k_gtr k_geq k_beq k_peqn k_peqs k_neg k_not k_com k_cvI k_idxS k_idxV1 k_idxVn k_idx k_idxA k_idxG k_ldG k_gld k_seq k_cat k_aeq k_eqs k_fld k_ld1 k_ldn k_get k_gets k_sti k_stb k_stp k_sts k_stf k_sta k_put k_nn k_prt1 k_prtn k_slc_a k_slc_b k_slc_c k_mk k_agg k_bsl k_box k_len k_lenS k_cap k_max k_min k_ext k_callV k_true k_false k_gtt k_gtf k_gft k_gsk k_gff k_lit1i k_lit2i k_lit3i k_c0 k_c1 k_ck List.getElem?_cons_zero List.getElem?_cons_succ List.getElem?_nil Option.getD_some Option.getD_none tupOf List.map_cons List.map_nil Option.map_some Option.map_none List.nil_append List.cons_append List.append_nil Nat.mul_one Int.toNat_natCast Nat.zero_add
attribute [local go_sem_proc] Nat.reduceEqDiff Nat.reduceAdd Int.reduceToNat
attribute [local go_sem_proc ↓] reduceIte
attribute [local go_sem] Bool.false_eq_true
theorem two_rows {h:H} {T:TypeId} {va vb:AV} {xs ys:List Nat} (hw:h.wf) (ha:IsN h va xs) (hb:IsN h vb ys):IsA 1 IsNl (h.new ⟨some T,1,[va,vb]⟩) (.sl (some h.next) 0 2 (some 2)) [xs,ys]:=by
 have hl:=H.le_new hw (H.le_refl h) ⟨some T,1,[va,vb]⟩
 refine⟨[va,vb],⟨rfl,some h.next,0,some 2,rfl, .inr ⟨h.next,_,rfl,H.rows_new _ _, .inr rfl,by simp,rfl⟩⟩,rfl,fun j x hx=> ?_⟩
 rcases j with _|_|j
 ·simp at hx
  subst hx
  exact⟨va,rfl,ha.mono hl⟩
 ·simp at hx
  subst hx
  exact⟨vb,rfl,hb.mono hl⟩
 ·simp at hx
theorem bld2 {a b:AV} (ha:a.one=true) (hb:b.one=true):abuild (zs [.sl none 0 0 none] 2) [(0,1,a),(1,1,b)]=some [a,b]:=by
 cases a<;>simp[AV.one] at ha<;>cases b<;>simp[AV.one] at hb<;>rfl
theorem IsN.one {h:H} {v:AV} {xs:List Nat} (hv:IsN h v xs):v.one=true:=by
 obtain⟨_,_,_,rfl⟩:=hv.form
 rfl
theorem sumL_two {p:Nat} {xs ys:List Nat} (i:Nat):sumL p [xs,ys] [xs,ys].length i=(xs.getD i 0+ys.getD i 0)%p:=by
 show((([xs,ys].take 2).map fun l=>l.getD i 0).sum)%p=_
 simp
theorem back_mod {p x y:Nat} (hp:0<p):((x+y)%p%p+p-y%p)%p%p=x%p:=by
 rw[Nat.mod_mod,Nat.mod_mod,Nat.add_mod]
 have h1:=Nat.mod_lt x hp
 have h2:=Nat.mod_lt y hp
 generalize hx:x%p=a at*
 generalize y%p=b at*
 rcases Nat.lt_or_ge (a+b) p with h3|h3
 ·rw[Nat.mod_eq_of_lt h3,show a+b+p-b=a+p by omega,Nat.add_mod_right,Nat.mod_eq_of_lt h1]
 ·rw[show a+b=a+b-p+p by omega,Nat.add_mod_right,Nat.mod_eq_of_lt (show a+b-p<p by omega),show a+b-p+p-b=a by omega,Nat.mod_eq_of_lt h1]
theorem val_roots {p x:Nat} (hp:1<p):∀(n:Nat) (l:List Nat),l.length=n→∀zs,TrimF (rootsC p l) zs→val x zs%p=rootV p x l
 |0,l,hn,zs,hz=>by
  have:l=[]:=List.eq_nil_of_length_eq_zero hn
  subst this
  have e:zs=[1]:=hz.uniq ⟨fun i=>by
   show [1].getD i 0=if i=0 then 1 else 0
   rcases i with _|i
   ·rfl
   ·rw[getD_out (by simp),if_neg (by omega)],by simp⟩
  subst e
  show(1+x*0)%p=1%p
  rw[Nat.mul_zero,Nat.add_zero]
 |n+1,l,hn,zs,hz=>by
  rcases List.eq_nil_or_concat l with rfl|⟨m,v,rfl⟩
  ·simp at hn
  rw[List.concat_eq_append] at hz hn⊢
  have hm:m.length=n:=by simpa using hn
  have hdeg:=rootsC_deg hp m
  have hlen:(rowF (rootsC p m) (m.length+1)).length=m.length+1:=rowF_len
  have hw:TrimF (rootsC p m) (rowF (rootsC p m) (m.length+1)):=⟨fun i=>by
   rw[rowF_getD]
   split
   ·rfl
   ·exact(hdeg.2 i (by omega)).symm,fun y hy=>by
   rw[List.getLast?_eq_getElem?,hlen,List.getElem?_eq_getElem (by omega)] at hy
   injection hy with hy
   rw[rowF_get (by omega),Nat.add_sub_cancel,hdeg.1] at hy
   omega⟩
  rw[rootV_snoc,←val_roots hp n m hm _ hw]
  have:=val_mulp x p (xs:=rowF (rootsC p m) (m.length+1)) (ys:=[(p-v%p)%p,1]) (zs:=zs) fun k=>by
   rw[hz.1,rootsC_snoc]
   unfold rootC
   rw[Nat.mod_mod]
   congr 2
   ·funext i
    exact(hw.1 i).symm
   ·funext i
    rcases i with _|_|i
    ·rfl
    ·rfl
    ·rfl
  rw[this]
  show _*((p-v%p)%p+x*(1+x*0))%p=_
  rw[Nat.mul_zero,Nat.add_zero,Nat.mul_one,Nat.mod_mul_mod]
section
section
variable {k x:Nat} {va vb vl:AV} {xs0 ys0 ls0:List Nat} {h:H} {K:AV→H→Prop}
theorem bld1 (m:Int):abuild (zs [.int .u64 0] 1) [(0,1, .int .u64 m)]=some [.int .u64 m]:=rfl
set_option maxHeartbeats 1000000 in
theorem PolypLaws_law (hv0:IsN h va xs0) (hu0:IsN h vb ys0) (hz0:IsN h vl ls0) (hk:∀h',h'.wf→K (.bool true) h'):ACalls Tryd.prog 8 [.int .u64 (k:Int),va,vb, .int .u64 (x:Int),vl] h K:=by
 refine in_law23_PolypLaws (by simp) fun hw=> ?_
 unfold c_law23_PolypLaws
 simp only[go_sem]
 refine Cut_calls (n:=24) hv0 fun a ha=> ?_
 simp only[go_sem]
 refine Cut_calls (n:=24) hu0 fun b hb=> ?_
 simp only[go_sem]
 refine Cut_calls (n:=12) hz0 fun c hc=> ?_
 have hlx:(xs0.take 24).length≤24:=by rw[List.length_take];omega
 have hly:(ys0.take 24).length≤24:=by rw[List.length_take];omega
 have hlz:(ls0.take 12).length≤12:=by rw[List.length_take];omega
 generalize xs0.take 24=xs at*
 generalize ys0.take 24=ys at*
 generalize ls0.take 12=ls at*
 simp only[go_sem]
 refine ring_calls fun e p h1 hw1 hl1 hr hP=> ?_
 have hp0:1<p:=by have:=hP.1;omega
 have hpB:=hP.2.1
 simp only[go_sem,Option.isNone,Bool.false_bne]
 have ha:=ha.mono hl1
 have hb:=hb.mono hl1
 have hc:=hc.mono hl1
 --the product
 refine pTimes_calls hr ha hb (by omega) (by omega) fun rab ab h2 hw2 hl2 hab htab hlab=> ?_
 simp only[go_sem,bld1]
 have hlA:=H.le_new hw2 (H.le_refl h2) ⟨some 22,1,[.int .u64 (x:Int)]⟩
 have l1A:=H.le_trans hl2 hlA
 refine pAt_calls (ys:=[x]) (hr.mono l1A) (hab.isN.mono hlA) (IsN.lit [x] _ rfl rfl) (by omega) (by simp) fun rv h3 hw3 hl3 hrv=> ?_
 have l13:=H.le_trans l1A hl3
 simp only[go_sem,bld1]
 have hlB:=H.le_new hw3 (H.le_refl h3) ⟨some 22,1,[.int .u64 (x:Int)]⟩
 have l1B:=H.le_trans l13 hlB
 refine pAt_calls (ys:=[x]) (hr.mono l1B) (ha.mono l1B) (IsN.lit [x] _ rfl rfl) (by omega) (by simp) fun ru h4 hw4 hl4 hru=> ?_
 have l14:=H.le_trans l1B hl4
 simp only[go_sem,bld1]
 have hlC:=H.le_new hw4 (H.le_refl h4) ⟨some 22,1,[.int .u64 (x:Int)]⟩
 have l1C:=H.le_trans l14 hlC
 refine pAt_calls (ys:=[x]) (hr.mono l1C) (hb.mono l1C) (IsN.lit [x] _ rfl rfl) (by omega) (by simp) fun rw_ h5 hw5 hl5 hrw=> ?_
 have l15:=H.le_trans l1C hl5
 have hrv:=hrv.mono ((H.le_trans hlB (H.le_trans hl4 (H.le_trans hlC hl5))))
 have hru:=hru.mono ((H.le_trans hlC hl5))
 have hab:=hab.mono ((H.le_trans hlA (H.le_trans hl3 (H.le_trans hlB (H.le_trans hl4 (H.le_trans hlC hl5))))))
 have hr5:=hr.mono l15
 have ha5:=ha.mono l15
 have hb5:=hb.mono l15
 have hc5:=hc.mono l15
 obtain⟨i1,c1,rfl⟩:=hrv.form
 obtain⟨i2,c2,rfl⟩:=hru.form
 obtain⟨i3,c3,rfl⟩:=hrw.form
 obtain⟨i1,rfl,_,g1⟩:=hrv.isN.at (j:=0) (by simp)
 obtain⟨i2,rfl,_,g2'⟩:=hru.isN.at (j:=0) (by simp)
 obtain⟨i3,rfl,_,g3'⟩:=hrw.isN.at (j:=0) (by simp)
 simp only[List.map_cons,List.map_nil,List.getElem_cons_zero,Nat.add_zero,List.length_cons,List.length_nil,Nat.zero_add] at g1 g2' g3'
 have hval:val x ab%p=val x xs%p*(val x ys%p)%p:=by
  rw[val_mulp x p (xs:=xs) (ys:=ys) (fun k=>by rw[htab.1,Nat.mod_mod]),Nat.mul_mod]
 obtain⟨mi,hgi,hm⟩:=hr5
 have hr5:RG h5 e p:=⟨mi,hgi,hm⟩
 simp only[go_sem,List.map_cons,List.map_nil,List.length_cons,List.length_nil,Nat.zero_add,neF (show((1:Nat):Int)=1 from rfl)]
 refine⟨by decide,by decide, ?_⟩
 simp only[go_sem,g1,hgi]
 refine⟨by decide,by decide, ?_⟩
 simp only[go_sem,g1,g2',hgi]
 refine⟨by decide,by decide, ?_⟩
 simp only[go_sem,g1,g2',g3',hgi]
 refine mMul_calls hm ?_
 rw[←hval]
 simp only[go_sem,g1,true_and,bne_self_eq_false]
 --the derivative
 refine pDerive_calls hr5 hab.isN (by omega) fun rd d0 h6 hw6 hl6 hd0 htd0 hld0=> ?_
 simp only[go_sem]
 refine pDerive_calls (hr5.mono hl6) (ha5.mono hl6) (by omega) fun rd1 d1 h7 hw7 hl7 hd1 htd1 hld1=> ?_
 have l57:=H.le_trans hl6 hl7
 simp only[go_sem]
 refine pTimes_calls (hr5.mono l57) hd1.isN (hb5.mono l57) (by omega) (by omega) fun rt1 t1 h8 hw8 hl8 ht1 htt1 hlt1=> ?_
 have l58:=H.le_trans l57 hl8
 simp only[go_sem]
 refine pDerive_calls (hr5.mono l58) (hb5.mono l58) (by omega) fun rd2 d2 h9 hw9 hl9 hd2 htd2 hld2=> ?_
 have l59:=H.le_trans l58 hl9
 simp only[go_sem]
 refine pTimes_calls (hr5.mono l59) (ha5.mono l59) hd2.isN (by omega) (by omega) fun rt2 t2 h10 hw10 hl10 ht2 htt2 hlt2=> ?_
 have l510:=H.le_trans l59 hl10
 have ht1:=ht1.mono (H.le_trans hl9 hl10)
 simp only[go_sem,bld2 ht1.isN.one ht2.isN.one]
 have hlD:=H.le_new hw10 (H.le_refl h10) ⟨some 33,1,[rt1,rt2]⟩
 have l5D:=H.le_trans l510 hlD
 refine pPlus_calls (hr5.mono l5D) (two_rows hw10 ht1.isN ht2.isN) (by simp) (by simp;omega) fun rs ss h11 hw11 hl11 hs hst hsl=> ?_
 have l511:=H.le_trans l5D hl11
 have hst:=hst.congr sumL_two
 have hsl:ss.length≤200:=Nat.le_trans hsl (mxL_bound _ 0 (Nat.zero_le _) (by simp;omega))
 simp only[go_sem]
 refine pSame_calls (hr5.mono l511) (hd0.mono (H.le_trans hl7 (H.le_trans hl8 (H.le_trans hl9 (H.le_trans hl10 (H.le_trans hlD hl11)))))).isN hs.isN (by omega) (by omega) fun q hq=> ?_
 obtain rfl:q=true:=hq.2 fun i=>by
  rw[htd0.1,hst.1]
  show drv (fun i=>ab.getD i 0) i%p%p=(t1.getD i 0+t2.getD i 0)%p%p
  rw[htt1.1,htt2.1,Nat.mod_mod,Nat.mod_mod]
  have:=drv_mulp (p:=p) (f:=fun i=>xs.getD i 0) (g:=fun i=>ys.getD i 0) (ab:=fun i=>ab.getD i 0) (d1:=fun i=>d1.getD i 0) (d2:=fun i=>d2.getD i 0) (fun k=>htab.1 k) (fun k=>by show d1.getD k 0%p=_;rw[htd1.1,Nat.mod_mod]) (fun k=>by show d2.getD k 0%p=_;rw[htd2.1,Nat.mod_mod]) i
  exact this
 simp only[go_sem,Bool.not_true,bld2 ha5.one hb5.one]
 have hlE:=H.le_new hw11 (H.le_refl h11) ⟨some 33,1,[a,b]⟩
 have l5E:=H.le_trans l511 hlE
 refine pPlus_calls (hr5.mono l5E) (two_rows hw11 (ha5.mono l511) (hb5.mono l511)) (by simp) (by simp;omega) fun rs2 s2 h12 hw12 hl12 hs2 hst2 hsl2=> ?_
 have l512:=H.le_trans l5E hl12
 have hst2:=hst2.congr sumL_two
 have hsl2:s2.length≤200:=Nat.le_trans hsl2 (mxL_bound _ 0 (Nat.zero_le _) (by simp;omega))
 simp only[go_sem]
 refine pMinus_calls (hr5.mono l512) hs2.isN (hb5.mono l512) (by omega) (by omega) fun rm ms h13 hw13 hl13 hmm hmt hml=> ?_
 have l513:=H.le_trans l512 hl13
 simp only[go_sem]
 refine pSame_calls (hr5.mono l513) hmm.isN (ha5.mono l513) (by omega) (by omega) fun q hq=> ?_
 obtain rfl:q=true:=hq.2 fun i=>by
  rw[hmt.1]
  show(s2.getD i 0%p+p-ys.getD i 0%p)%p%p=xs.getD i 0%p
  rw[hst2.1]
  exact back_mod (by omega)
 simp only[go_sem,Bool.not_true]
 --roots
 refine pRoots_calls (hr5.mono l513) (hc5.mono l513) (by omega) fun rr rs' h14 hw14 hl14 hro hrt hrl=> ?_
 have l514:=H.le_trans l513 hl14
 simp only[go_sem]
 refine pAt_calls (hr5.mono l514) hro.isN (hc5.mono l514) (by omega) (by omega) fun rz h15 hw15 hl15 hz=> ?_
 have l515:=H.le_trans l514 hl15
 have hzm:(ls.map fun x=>val x rs'%p)=ls.map fun _=>0:=List.map_congr_left fun v hv=>by rw[val_roots hp0 _ ls rfl rs' hrt,rootV_zero (by omega) hv]
 rw[hzm] at hz
 have hlen:(ls.map fun _=>0).length=ls.length:=by simp
 obtain⟨iz,cz,rfl⟩:=hz.form
 rw[hlen] at hz
 obtain⟨idc,offc,cc,rfl⟩:=hc5.form
 simp only[go_sem,hlen]
 refine loop_cut (fun ρ h'=>h'=h15∧ρ 4= .sl idc offc ls.length cc∧ρ 11= .ptr (some (e,0))∧ρ 12= .int .u64 (p:Int)∧ρ 17= .sl iz 0 ls.length cz) ?_ ?_
 ·refine for_rule (fun j ρ h'=>j≤ls.length∧h'=h15∧ρ 4= .sl idc offc ls.length cc∧ρ 11= .ptr (some (e,0))∧ρ 12= .int .u64 (p:Int)∧ρ 17= .sl iz 0 ls.length cz∧ρ 18= .int .i64 (j:Int)) ls.length ⟨by omega,rfl,by first|rfl|trivial|assumption,by first|rfl|trivial|assumption,by first|rfl|trivial|assumption,by first|rfl|trivial|assumption,by first|rfl|trivial|assumption⟩ (fun i ρ h hI=>hI.1) ?_
  rintro j ρ h' ⟨hj,rfl,q4,q11,q12,q17,q18⟩
  rcases Nat.lt_or_ge j ls.length with h3|h3
  ·obtain⟨ii,rfl,_,hg1⟩:=hz.isN.at (j:=j) (by omega)
   rw[Nat.zero_add,List.getElem_map] at hg1
   simp only[go_sem,q4,q11,q12,q17,q18,ltT h3]
   refine⟨by omega,by omega, ?_⟩
   simp only[go_sem,hg1,neF (show((0:Nat):Int)=0 from rfl),q4,q11,q12,q17,q18,incI (i:=j) (by omega)]
   exact⟨by omega,by first|rfl|trivial|assumption,by first|rfl|trivial|assumption,by first|rfl|trivial|assumption,by first|rfl|trivial|assumption,by first|rfl|trivial|assumption,by first|rfl|trivial|assumption⟩
  ·obtain rfl:j=ls.length:=by omega
   simp only[go_sem,q17,q18,ltF (Nat.le_refl ls.length)]
   exact⟨by first|rfl|trivial|assumption,q4,q11,q12,by first|rfl|trivial|assumption⟩
 rintro ρ h' ⟨rfl,q4,q11,q12,q17⟩
 obtain⟨mi,hgi,hm⟩:=hr5.mono l515
 simp only[go_sem,q4,q11,q12,q17,beq_self_eq_true,hgi]
 refine mP_calls hm ?_
 simp only[go_sem,q4,q11,q12,q17,beq_self_eq_true]
 refine pRoots_calls (hr5.mono l515) (hc5.mono l515) (by omega) fun r3 zs3 h16 hw16 hl16 hr3 ht3 hyl3=> ?_
 have l516:=H.le_trans l515 hl16
 simp only[go_sem,q4,q11,q12,q17]
 refine pDeg_calls (hr5.mono l516) hr3.isN (by omega) fun ds hds=> ?_
 have ed:ds.length=ls.length+1:=by
  refine rootsC_len hp0 (xs:=ls) (hds.congr fun i=> ?_)
  rw[ht3.1]
  rcases List.eq_nil_or_concat ls with rfl|⟨m,v,rfl⟩
  ·show(if i=0 then 1 else 0)%p=if i=0 then 1 else 0
   split
   ·exact Nat.mod_eq_of_lt hp0
   ·exact Nat.zero_mod p
  ·rw[List.concat_eq_append,rootsC_snoc]
   exact Nat.mod_mod _ _
 simp only[go_sem,q4,q11,q12,q17,eqT (show(ds.length:Int)-1=(ls.length:Int) by omega)]
 refine r6May_calls ?_
 rw[decide_eq_true (show p%2=1∧3≤p∧p<4611686018427387904 from⟨hP.2.2.1,hP.1,hP.2.1⟩)]
 simp only[go_sem]
 refine wakes23_calls fun h17 hw17 hl17=> ?_
 simp only[go_sem]
 exact fun hw'=>hk h17 hw'
set_option maxRecDepth 100000 in
theorem PolypLaws_row (h:H) (avs:List AV) (_:h.wf) (r:ReadsAll Tryd.prog h [22,33,33,22,33] avs):ACalls Tryd.prog 8 avs h (fun r _=>r= .bool true):=by
 match avs,r with
 |[_,_,_,_,_],⟨r0,r1,r2,r3,r4,_⟩=>
  obtain⟨p,rfl,hp⟩:=reads_u64 r0
  obtain⟨xs,h1,_,_⟩:=reads_words r1
  obtain⟨ys,h2,_,_⟩:=reads_words r2
  obtain⟨c,rfl,_⟩:=reads_u64 r3
  obtain⟨ls,h4,_,_⟩:=reads_words r4
  exact PolypLaws_law h1 h2 h4 fun _ _=>rfl
end
end
end Ab
end Go.Proofs.YtkbglkjpdndkiaaDoor
