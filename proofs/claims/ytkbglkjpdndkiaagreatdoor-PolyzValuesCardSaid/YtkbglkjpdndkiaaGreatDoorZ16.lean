/- Joined texts: X9 X11. No condition. -/
import Derived.Test.YtkbglkjpdndkiaaGreatDoorZ15
namespace Go.Proofs.YtkbglkjpdndkiaaGreatDoor
namespace Ab
open Go Go.RowKit
set_option linter.unusedSimpArgs false
set_option linter.unusedVariables false
attribute [local go_sem ↓] x_mv x_pick x_bin x_beq x_peq x_seq x_cat x_aeq x_idxS x_idxV x_un x_cvI x_bts x_idx x_idxA x_fld x_ld x_st x_nn x_prt x_slc x_mk x_bsl x_bld x_box x_alloc x_len x_capo x_mnx x_app x_cpy x_mkf x_ext x_call x_callV x_bad s_none s_some s_nil s_cons s_chks w_skip w_reg tP_fin tP_no tP_alt w_seq w_cond w_block w_exit w_ret t_normal t_exit t_ret b_normal b_ret b_exit n_normal n_exit n_ret p_normal p_ret f_nil f_t f_c k_ops k_chk k_fin
attribute [local go_sem] e_t e_c e_f u_some u_none u_at env_at k_v k_pick k_add k_sub k_mul k_quo k_rem k_and k_or k_xor k_shl k_shr k_eql k_neq k_lss k_leq k_gtr k_geq k_beq k_peqn k_peqs k_neg k_not k_com k_cvI k_idxS k_idxV1 k_idxVn k_idx k_idxA k_idxG k_ldG k_gld k_seq k_cat k_aeq k_eqs k_fld k_ld1 k_ldn k_get k_gets k_sti k_stb k_stp k_sts k_stf k_sta k_put k_nn k_prt1 k_prtn k_slc_a k_slc_b k_slc_c k_mk k_agg k_bsl k_box k_len k_lenS k_cap k_max k_min k_ext k_callV k_true k_false k_gtt k_gtf k_gft k_gsk k_gff k_lit1i k_lit2i k_lit3i k_c0 k_c1 k_ck List.getElem?_cons_zero List.getElem?_cons_succ List.getElem?_nil Option.getD_some Option.getD_none tupOf List.map_cons List.map_nil Option.map_some Option.map_none List.nil_append List.cons_append List.append_nil Nat.mul_one Int.toNat_natCast Nat.zero_add
attribute [local go_sem] e_t e_c e_f u_some u_none u_at env_at k_v k_pick k_add k_sub k_mul k_quo k_rem k_and k_or k_xor k_shl k_shr k_eql k_neq k_lss k_leq k_gtr k_geq k_beq k_peqn k_peqs k_neg k_not k_com k_cvI k_idxS k_idxV1 k_idxVn k_idx k_idxA k_idxG k_ldG k_gld k_seq k_cat k_aeq k_eqs k_fld k_ld1 k_ldn k_get k_gets k_sti k_stb k_stp k_sts k_stf k_sta k_put k_nn k_prt1 k_prtn k_slc_a k_slc_b k_slc_c k_mk k_agg k_bsl k_box k_len k_lenS k_cap k_max k_min k_ext k_callV k_true k_false k_gtt k_gtf k_gft k_gsk k_gff k_lit1i k_lit2i k_lit3i k_c0 k_c1 k_ck List.getElem?_cons_zero List.getElem?_cons_succ List.getElem?_nil Option.getD_some Option.getD_none tupOf List.map_cons List.map_nil Option.map_some Option.map_none List.nil_append List.cons_append List.append_nil Nat.mul_one Int.toNat_natCast Nat.zero_add
--what a store into a cell of two leaves
attribute [local go_sem_proc] Nat.reduceEqDiff Nat.reduceAdd Int.reduceToNat
attribute [local go_sem_proc ↓] reduceIte
attribute [local go_sem] Bool.false_eq_true
section
theorem kIntX {h:H} {K:AV→H→Prop} {c d:Nat} {a b:AV} {z:Int} (na:Zf c h a z) (nb:Zf d h b z) (hz:Big z.natAbs) (hk:∀h',h'.wf→h.le h'→K (.bool true) h'):ACalls Tryz.prog 16 [a,b] h K:=by
 obtain⟨w,rfl,n1⟩:=zf_open na
 obtain⟨u,rfl,n2⟩:=zf_open nb
 exact kInt_calls n1.nt n2.nt hz hk
theorem zrToX {h:H} {K:AV→H→Prop} {a:AV} {z:Int} (ha:Zr h a z) (hz:Big z.natAbs) (hk:∀r h',h'.wf→h.le h'→Zf h.next h' r z→K r h'):ACalls Tryz.prog 17 [a] h K:=by
 obtain⟨w,rfl,n1⟩:=zr_open ha
 refine zrTo_calls n1 hz (fun h0=>by simp;omega) fun r h2 hw2 hl2 hr=> ?_
 rw[sg_self] at hr
 exact hk r h2 hw2 hl2 hr
theorem valI_trim {zs ys:List Int} (x:Int) (h:TrimG 0 (fun i=>zs.getD i 0) ys):valI x ys=valI x zs:=by
 have hl:=TrimG.len (zs:=zs) (fun i=>rfl) h
 have e:ys=zs.take ys.length:=by
  refine List.ext_getElem (by rw[List.length_take];omega) fun i h1 h2=> ?_
  rw[List.getElem_take,←getG_in (z:=0) h1,h.1]
  exact getG_in (by omega)
 rw[e]
 refine valI_take x fun z hz=> ?_
 obtain⟨i,hi,rfl⟩:=List.getElem_of_mem hz
 rw[List.getElem_drop]
 have h5:ys.getD (ys.length+i) 0=zs.getD (ys.length+i) 0:=h.1 (ys.length+i)
 rw[getG_out (by omega),getG_in (by rw[List.length_drop] at hi;omega)] at h5
 exact h5.symm
theorem IsA.other {α:Type} {z b i:Nat} {T:TypeId} {l:List AV} {R R':H→List AV→α→Prop} {h g:H} {v:AV} {xs:List α} (hv:IsA z R h v xs) (hs:Since b v) (hi:i<b) (_:h.rows i=some ⟨some T,2,l⟩) (hl:H.lee i h g) (hR:∀c x,R h c x→R' g c x):IsA z R' g v xs:=by
 obtain⟨cs,⟨h0,id,off,c,rfl,h1⟩,h2⟩:=hv
 refine⟨cs,⟨h0,id,off,c,rfl, ?_⟩,h2.mono hR⟩
 rcases h1 with h1|⟨j,r,rfl,hr,h3⟩
 ·exact .inl h1
 ·refine .inr ⟨j,r,rfl,hl.2 j r ?_ hr,h3⟩
  have:=hs j _ _ _ rfl
  omega
section
variable {t:Tb} {va vb wc:AV} {bc:Bool} {ps0 qs0:List (Bool×List Nat)} {cs0:List Nat} {h:H} {K:AV→H→Prop}
theorem IsA.zt {T:TypeId} {b c W:Nat} {v:AV} {zs:List Int} (hv:Live T 2 b (ZbL c W) h v zs):IsA 2 ZtL h v zs:=(hv.isA ZbL.grows).imp fun _ _ hx=>hx.zt
set_option maxHeartbeats 2000000 in
theorem PolyzValues_law (hv0:IsA 2 IsI h va ps0) (hl0:ps0.length≤maxLen) (hc0:IsN h wc cs0) (hcd:Dig cs0) (hu0:IsA 2 IsI h vb qs0) (hm0:qs0.length≤maxLen) (hk:∀h',h'.wf→K (.bool true) h'):ACalls Tryz.prog 4 [t.av,va, .agg [wc, .bool bc],vb] h K:=by
 refine in_law28_PolyzValues (by simp) fun hw=> ?_
 unfold c_law28_PolyzValues
 have hmx:maxLen≤9223372036854775807:=by decide
 simp only[go_sem,av_held,av_cells,cells_len,true_and]
 simp only[AV.cells,List.length_cons,List.length_nil,Nat.zero_add,Nat.reduceAdd]
 refine⟨rfl, ?_⟩
 generalize hh:(h.new ⟨some 23,11,t.cells⟩).new ⟨some 39,2,[wc, .bool bc]⟩=g0
 obtain⟨hlA,hw0,hn0,hr0,hr6⟩:=new2 hw hh
 have hR:(h.new ⟨some 23,11,t.cells⟩).next=h.next+1:=rfl
 rw[hR]
 clear hh hR
 refine cut28_calls (k:=12) (n:=3) (hv0.mono IsI.grows hlA) (by omega) (by omega) (by omega) fun a x ps ys1 h1 hw1 hl1 _ hpl _ haw hx htx hyl1 hsa hsx=> ?_
 have hr0:=hl1.2 _ _ hr0
 have hr6:=hl1.2 _ _ hr6
 have hpl2:(ps.map zI).length≤12:=by rw[List.length_map];exact hpl
 rw[←List.length_map (f:=zI)] at hyl1
 generalize ps.map zI=zs at*
 simp only[go_sem,(g2 hr6).2.2]
 refine CutInt_calls (n:=3) ((hc0.mono hlA).mono hl1) (by decide) fun w h2 hw2 hl2 hcw=> ?_
 have hr0:=hl2.2 _ _ hr0
 have hr6:=hl2.2 _ _ hr6
 have hcone:w.one=true:=by obtain⟨_,_,_,rfl⟩:=hcw.form;rfl
 simp only[go_sem]
 refine CutIntsS_calls (k:=6) (n:=2) (((hu0.mono IsI.grows hlA).mono IsI.grows hl1).mono IsI.grows hl2) (by omega) (by omega) fun b h3 hw3 hl3 hb hsb=> ?_
 have hr0:=hl3.2 _ _ hr0
 have hr6:=hl3.2 _ _ hr6
 have hqn:∀p∈(qs0.take 6).map fun p=>(p.1,p.2.take 2),p.2.length≤2:=by
  intro p hm
  obtain⟨q,hq,rfl⟩:=List.mem_map.1 hm
  simp
  omega
 have hbw:IsA 2 (ZwL 2) h3 b (((qs0.take 6).map fun p=>(p.1,p.2.take 2)).map zI):=hb.mapz fun c x hx hi=>hi.zw (hqn x hx) (by omega)
 have hql:(((qs0.take 6).map fun p=>(p.1,p.2.take 2)).map zI).length≤6:=by simp;omega
 generalize ((qs0.take 6).map fun p=>(p.1,p.2.take 2)).map zI=ats at*
 clear hb hqn hu0
 have hcd3:Dig (cs0.take 3):=Dig.take hcd 3
 have hcl3:(cs0.take 3).length≤3:=by rw[List.length_take];omega
 generalize cs0.take 3=cs at*
 have l13:=H.le_trans hl2 hl3
 have haw:=haw.mono ZwL.grows l13
 have hx:=hx.mono ZqL.grows l13
 have nc:Nn h3 w (val 18446744073709551616 cs):=(hcw.mono hl3).nn hcd3 (by omega)
 have hWc:Wz 3 (sg bc (val 18446744073709551616 cs)):=by
  unfold Wz
  rw[sg_abs]
  exact Nat.le_trans (wlen_len hcd3) hcl3
 simp only[go_sem]
 refine⟨by trivial,all2 hcone,put2 hw hw3 ((H.le_trans hlA (H.le_trans hl1 l13))) (by omega) hr6 rfl fun g4 hw4 hl4 _ hr6n e4=> ?_⟩
 have l04:=hl4
 have haw4:IsA 2 (ZwL 3) g4 a zs:=haw.other hsa (by omega) hr6 e4 fun _ _ hx=>⟨hx.1.lee2 hr6 e4,hx.2⟩
 have hx4:IsA 2 (ZqL 3) g4 x ys1:=hx.other hsx (by omega) hr6 e4 fun _ _ hx=>⟨hx.1.lee2 hr6 e4,hx.2⟩
 have hbw4:IsA 2 (ZwL 2) g4 b ats:=hbw.other hsb (by have:=hl1.1;have:=hl2.1;omega) hr6 e4 fun _ _ hx=>⟨hx.1.lee2 hr6 e4,hx.2⟩
 have nc:=nc.lee2 hr6 e4
 have hr0:=e4.2 _ _ (by omega) hr0
 have hn4:=hl4.1
 simp only[go_sem,gsT hr0]
 refine pzNew_calls fun e u h5 hw5 hl5 hn5 hue he ht=> ?_
 have hr6:=hl5.2 _ _ hr6n
 have haw:=haw4.mono ZwL.grows hl5
 have hx:=hx4.mono ZqL.grows hl5
 have hbw:=hbw4.mono ZwL.grows hl5
 have nc:=nc.mono hl5
 have hlg4:=H.row_lt hw4 hr6n
 clear haw4 hx4 hbw4 hr6n e4 hl4 hr0
 simp only[go_sem,Option.isNone,Bool.false_bne]
 have hWb:3+zs.length*(2+1)≤100:=by omega
 refine zAt_calls he ht haw (by omega) hbw (by omega) (by omega) (by omega) (by omega) fun rv h6 s6 hrv=> ?_
 obtain⟨iv,cv,rfl⟩:=hrv.form
 rw[List.length_map] at hrv⊢
 have hrvA:=hrv.isA ZbL.grows
 obtain⟨ib,ob,cb,rfl⟩:=hbw.form
 have hub:=H.row_lt hw5 ht
 have hbw6:=s6.zw ht hbw
 have hx6:=s6.zq ht hx
 have haw6:=s6.zw ht haw
 have hr66:=s6.lee.2 _ _ (by omega) hr6
 have hvt:∀v,valI v ys1=valI v zs:=fun v=>valI_trim v htx
 simp only[go_sem,neF (show(ats.length:Int)=ats.length from rfl)]
 refine loop_cut (fun ρ g=>ES h5 g u 0 (clampT t)∧h6.le g∧ρ 1=a∧ρ 6= .ptr (some (h.next+1,0))∧ρ 9=x∧ρ 10= .ptr (some (e,0))) ?_ ?_
 ·refine for_rule (fun j ρ g=>j≤ats.length∧ES h5 g u 0 (clampT t)∧h6.le g∧ρ 1=a∧ρ 3= .sl ib ob ats.length cb∧ρ 6= .ptr (some (h.next+1,0))∧ρ 9=x∧ρ 10= .ptr (some (e,0))∧ρ 11= .sl iv 0 ats.length cv∧ρ 12= .int .i64 (j:Int)) ats.length
   ⟨by omega,s6,H.le_refl _,by first|rfl|trivial|assumption,by first|rfl|trivial|assumption,by first|rfl|trivial|assumption,by first|rfl|trivial|assumption,by first|rfl|trivial|assumption,by first|rfl|trivial|assumption,by first|rfl|trivial|assumption⟩ (fun i ρ h hI=>hI.1) ?_
  rintro j ρ g ⟨hj,s,hle,q1,q3,q6,q9,q10,q11,q12⟩
  rcases Nat.lt_or_ge j ats.length with h3|h3
  ·obtain⟨i1,l1,rfl,_,_,hg1,_,hR1⟩:=hrvA.atz (by omega) (j:=j) (by rw[List.length_map];exact h3)
   obtain⟨i2,l2,rfl,_,_,hg2,_,hR2⟩:=hbw6.atz (by omega) h3
   rw[List.getElem_map] at hR1
   have hg1:=H.gets_le hle hg1
   have hg2:=H.gets_le hle hg2
   have hz1:=hR1.1.mono hle
   have hw1:=hR1.2
   have hw2:=hR2.2
   obtain⟨w2,b2,x2,rfl,nw2,hz2,hx2,_⟩:=zw_open hR2
   rw[Nat.zero_add] at hg1
   simp only[go_sem,q1,q3,q6,q9,q10,q11,q12,ltT h3]
   refine⟨by omega,by omega, ?_⟩
   simp only[go_sem,hg1,q1,q3,q6,q9,q10,q11,q12]
   refine⟨by omega,by omega, ?_⟩
   simp only[go_sem,hg1,hg2,q1,q3,q6,q9,q10,q11,q12]
   refine zrFrom_calls (nw2.mono hle) fun o h7 hw7 hl7 ho=> ?_
   rw[←hz2] at ho
   obtain⟨wo,rfl,no⟩:=zr_open ho
   have hg17:=H.gets_le hl7 hg1
   have s7:=s.mono hw7 hl7
   simp only[go_sem,hg17,true_and,q1,q3,q6,q9,q10,q11,q12]
   refine zrAt_calls (s7.zq ht hx) (by omega) no hw2 (by omega) (by omega) fun o2 h8 hw8 hl8 ho2 hwo2=> ?_
   rw[hvt] at ho2 hwo2
   have hg18:=H.gets_le hl8 hg17
   simp only[go_sem,hg18,true_and,q1,q3,q6,q9,q10,q11,q12]
   refine zrToX ho2 (hwo2.big (by omega)) fun o3 h9 hw9 hl9 ho3=> ?_
   have hg19:=H.gets_le hl9 hg18
   simp only[go_sem,hg19,true_and,q1,q3,q6,q9,q10,q11,q12]
   have l79:=(H.le_trans hl7 (H.le_trans hl8 hl9))
   refine kIntX (hz1.mono l79) ho3 (hwo2.big (by omega)) fun h10 hw10 hl10=> ?_
   simp only[go_sem,Bool.not_true,q1,q3,q6,q9,q10,q11,q12,incI (i:=j) (by omega)]
   have l710:=H.le_trans l79 hl10
   exact⟨by omega,s.mono hw10 l710,H.le_trans hle l710,by first|rfl|trivial|assumption,by first|rfl|trivial|assumption,by first|rfl|trivial|assumption,by first|rfl|trivial|assumption,by first|rfl|trivial|assumption,by first|rfl|trivial|assumption,by first|rfl|trivial|assumption⟩
  ·obtain rfl:j=ats.length:=by omega
   simp only[go_sem,q3,q12,ltF (Nat.le_refl ats.length)]
   exact⟨s,hle,q1,q6,q9,q10⟩
 rintro ρ g ⟨s,hle,q1,q6,q9,q10⟩
 have hr6g:=hle.2 _ _ hr66
 have ncg:=nc.monoE ht s.lee
 simp only[go_sem,q1,q6,q9,q10,(g2 hr6g).2.2]
 refine zrFrom_calls ncg fun o h7 hw7 hl7 ho=> ?_
 have s7:=s.mono hw7 hl7
 have hr6g:=hl7.2 _ _ hr6g
 obtain⟨wo,rfl,no⟩:=zr_open ho
 simp only[go_sem,q1,q6,q9,q10,(g2 hr6g).2.2,true_and]
 refine zrScale_calls (s7.zq ht hx) (by omega) no hWc (by omega) fun r1 m1 h8 hw8 hl8 hr1 ht1 hm1=> ?_
 have s8:=s7.mono hw8 hl8
 have hr6g:=hl8.2 _ _ hr6g
 obtain⟨m9,d9,t9⟩:=s8.tn
 simp only[go_sem,q1,q6,q9,q10,(g2 hr6g).2.2,true_and]
 refine zScale_calls (s8.eng ht he) t9 (s8.zw ht haw) (by omega) ((ncg.mono hl7).mono hl8) hWc (by omega) (by omega) fun r2 m2 h9 s9 hr2 ht2 hm2=> ?_
 obtain rfl:=ht1.uniq (ht2.congr fun i=>by
  show zs.getD i 0*_=ys1.getD i 0*_
  rw[htx.1])
 simp only[go_sem]
 refine zSame28_calls (by omega) (s9.zq t9 hr1) (IsA.zt hr2) (by omega) fun h10 hw10 hl10=> ?_
 simp only[go_sem]
 refine wakes28_calls fun h11 hw11 hl11=> ?_
 simp only[go_sem]
 exact fun hw'=>hk h11 hw'
end
end
section
section
variable {t:Tb} {va vb wc:AV} {bc ev:Bool} {ps0 qs0:List (Bool×List Nat)} {cs0:List Nat} {h:H} {K:AV→H→Prop}
set_option maxRecDepth 100000 in
theorem PolyzValues_row (h:H) (avs:List AV) (_:h.wf) (r:ReadsAll Tryz.prog h [23,24,39,24] avs):ACalls Tryz.prog 4 avs h (fun r _=>r= .bool true):=by
 match avs,r with
 |[_,_,_,_],⟨r0,r1,r2,r3,_⟩=>
  obtain⟨t0,rfl⟩:=reads_table r0
  obtain⟨ps,h1,h1l⟩:=reads_wholes r1
  obtain⟨_,_,xs,rfl,h2,hx,_⟩:=reads_whole r2
  obtain⟨qs,h3,h3l⟩:=reads_wholes r3
  exact PolyzValues_law h1 h1l h2 hx h3 h3l fun _ _=>rfl
end
end
end Ab
end Go.Proofs.YtkbglkjpdndkiaaGreatDoor
