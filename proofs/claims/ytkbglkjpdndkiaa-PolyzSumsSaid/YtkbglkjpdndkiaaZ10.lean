/- Joined texts: X16. No condition. -/
import Derived.Test.YtkbglkjpdndkiaaZ9
namespace Go.Proofs.Ytkbglkjpdndkiaa
namespace Ab
open Go Go.RowKit
set_option linter.unusedSimpArgs false
set_option linter.unusedVariables false
attribute [local go_sem ↓] x_mv x_pick x_bin x_beq x_peq x_seq x_cat x_aeq x_idxS x_idxV x_un x_cvI x_bts x_idx x_idxA x_fld x_ld x_st x_nn x_prt x_slc x_mk x_bsl x_bld x_box x_alloc x_len x_capo x_mnx x_app x_cpy x_mkf x_ext x_call x_callV x_bad s_none s_some s_nil s_cons s_chks w_skip w_reg tP_fin tP_no tP_alt w_seq w_cond w_block w_exit w_ret t_normal t_exit t_ret b_normal b_ret b_exit n_normal n_exit n_ret p_normal p_ret f_nil f_t f_c k_ops k_chk k_fin
attribute [local go_sem] e_t e_c e_f u_some u_none u_at env_at k_v k_pick k_add k_sub k_mul k_quo k_rem k_and k_or k_xor k_shl k_shr k_eql k_neq k_lss k_leq k_gtr k_geq k_beq k_peqn k_peqs k_neg k_not k_com k_cvI k_idxS k_idxV1 k_idxVn k_idx k_idxA k_idxG k_ldG k_gld k_seq k_cat k_aeq k_eqs k_fld k_ld1 k_ldn k_get k_gets k_sti k_stb k_stp k_sts k_stf k_sta k_put k_nn k_prt1 k_prtn k_slc_a k_slc_b k_slc_c k_mk k_agg k_bsl k_box k_len k_lenS k_cap k_max k_min k_ext k_callV k_true k_false k_gtt k_gtf k_gft k_gsk k_gff k_lit1i k_lit2i k_lit3i k_c0 k_c1 k_ck List.getElem?_cons_zero List.getElem?_cons_succ List.getElem?_nil Option.getD_some Option.getD_none tupOf List.map_cons List.map_nil Option.map_some Option.map_none List.nil_append List.cons_append List.append_nil Nat.mul_one Int.toNat_natCast Nat.zero_add
attribute [local go_sem] e_t e_c e_f u_some u_none u_at env_at k_v k_pick k_add k_sub k_mul k_quo k_rem k_and k_or k_xor k_shl k_shr k_eql k_neq k_lss k_leq k_gtr k_geq k_beq k_peqn k_peqs k_neg k_not k_com k_cvI k_idxS k_idxV1 k_idxVn k_idx k_idxA k_idxG k_ldG k_gld k_seq k_cat k_aeq k_eqs k_fld k_ld1 k_ldn k_get k_gets k_sti k_stb k_stp k_sts k_stf k_sta k_put k_nn k_prt1 k_prtn k_slc_a k_slc_b k_slc_c k_mk k_agg k_bsl k_box k_len k_lenS k_cap k_max k_min k_ext k_callV k_true k_false k_gtt k_gtf k_gft k_gsk k_gff k_lit1i k_lit2i k_lit3i k_c0 k_c1 k_ck List.getElem?_cons_zero List.getElem?_cons_succ List.getElem?_nil Option.getD_some Option.getD_none tupOf List.map_cons List.map_nil Option.map_some Option.map_none List.nil_append List.cons_append List.append_nil Nat.mul_one Int.toNat_natCast Nat.zero_add
--what a store into a cell of two leaves
attribute [local go_sem_proc] Nat.reduceEqDiff Nat.reduceAdd Int.reduceToNat
attribute [local go_sem_proc ↓] reduceIte
attribute [local go_sem] Bool.false_eq_true
section
def OwS (c:Nat) (h:H) (v:AV) (n:Nat):Prop:=∀k,k<n→∃i cp w q,v= .sl (some i) 0 n cp∧h.rows i=some q∧q.esz=2∧h.get i (k*2)=some w∧Own c h w
theorem OwS.of {T:TypeId} {b c W:Nat} {h:H} {io co:Option Nat} {n:Nat} {zs:List Int} (hv:Live T 2 b (ZbL c W) h (.sl io 0 n co) zs):OwS c h (.sl io 0 n co) n:=by
 intro k hk
 have hn:=hv.form
 obtain⟨io',co',e⟩:=hn
 injection e with e1 e2 e3 e4
 obtain⟨i,l,rfl,_,hl2,_,hg1,hR⟩:=hv.getz (by omega) (j:=k) (by omega)
 obtain⟨_,q,hq,_,hz⟩:=hv.ownz i rfl
 obtain⟨w,bz,x,e,hnf,_⟩:=hR.1
 injection e with e
 subst e
 refine⟨i,co,w,q,rfl,hq,hz, ?_,(hnf.mono (H.del_le _)).own⟩
 have:=hg1 0 (by omega)
 simpa using this
theorem OwS.lee {c n u:Nat} {h g:H} {v:AV} (hv:OwS c h v n) (hu:∀r,h.rows u=some r→r.esz=1) (hl:H.lee u h g) (ho:∀b' v,Own b' h v→Own b' g v):OwS c g v n:=by
 intro k hk
 obtain⟨i,cp,w,q,e,hq,hz,hg,how⟩:=hv k hk
 have hne:i≠u:=by
  rintro rfl
  have:=hu q hq
  omega
 have hq':=hl.2 i q hne hq
 refine⟨i,cp,w,q,e,hq',hz, ?_,ho _ _ how⟩
 rw[H.get_of hq']
 rw[H.get_of hq] at hg
 exact hg
theorem SpoilL_calls {b:Nat} {v:AV} {h:H} {K:AV→H→Prop} (hv:Own b h v)
  (hk:∀i h',h'.wf→(∀a:H,a.wf→a.le h→a.next≤b→a.le h')→(∀r,h.rows i=some r→r.esz=1)→H.lee i h h'→(∀b' u,Own b' h u→Own b' h' u)→K (.tup []) h'):ACalls Try.prog 19 [v] h K:=by
 obtain⟨id,n,c,rfl,h3⟩:=hv
 rcases h3 with⟨rfl,rfl⟩|⟨i,r,rfl,hb,hr,ho,hz⟩
 ·refine learn0 (in_keep_Spoil (by simp) fun hw=> ?_)
  unfold c_keep_Spoil
  simp only[go_sem]
  refine⟨by omega, .inl (Nat.le_refl _),(fun i hi=>by cases hi), ?_⟩
  refine for_rule (fun i ρ h'=>i≤0∧h'=h∧ρ 2= .sl none 0 0 (some 0)∧ρ 3= .int .i64 (i:Int)) 0 ⟨by omega,rfl,rfl,rfl⟩ (fun i ρ h hI=>hI.1) ?_
  rintro i ρ h' ⟨hi,rfl,h2,h3⟩
  have:i=0:=by omega
  subst this
  simp only[go_sem,h2,h3,ltF (Nat.le_refl 0)]
  exact fun _=>hk h'.next h' hw (fun a _ k _=>k) (fun r hr=>absurd (H.row_lt hw hr) (by omega)) (H.lee_refl _ _) (fun _ _ h=>h)
 ·refine learn hr ho hz fun c' hn hc' hcm=>in_keep_Spoil (by simp) fun hw=> ?_
  unfold c_keep_Spoil
  have hml:maxLen≤9223372036854775807:=by decide
  simp only[go_sem]
  refine⟨by omega, .inr ⟨c',rfl,Nat.le_refl _⟩,(fun j hj=>by injection hj with hj;subst hj;exact⟨_,H.rows_set _ _ _, .inr hz⟩), ?_⟩
  have hil:=H.row_lt hw (H.rows_set h i _)
  refine for_rule (fun j ρ h'=>j≤c'∧h'.wf∧(∀a:H,a.wf→a.le h→a.next≤b→a.le h')∧H.lee i h h'∧(∀b' u,Own b' h u→Own b' h' u)∧ρ 2= .sl (some i) 0 c' (some c')∧ρ 3= .int .i64 (j:Int)∧∃q,h'.rows i=some q∧q.own≠none∧q.esz=1∧q.cells.length=c') c' ⟨by omega,hw,fun a ha k hab=>H.le_set ha k (by omega) _,H.lee_set _,fun b' u hu=>hu.set hr rfl rfl,rfl,rfl,_,H.rows_set _ _ _,ho,hz,by simp;omega⟩ (fun i ρ h hI=>hI.1) ?_
  rintro j ρ h' ⟨hj,hw',hka,hlee,hko,h2,h3,q,hq,hqo,hqz,hql⟩
  rcases Nat.lt_or_ge j c' with hlt|hge
  ·simp only[go_sem,h2,h3,ltT hlt]
   refine⟨by omega,by omega, ?_⟩
   simp only[go_sem,hq]
   refine⟨hqo,by omega, ?_⟩
   simp only[go_sem,h2,h3,incI (i:=j) (by omega)]
   have hjl:=H.row_lt hw' hq
   exact⟨by omega,H.wf_set hw' hjl _,fun a ha k hab=>H.le_set ha (hka a ha k hab) (by omega) _,hlee.trans (H.lee_set _),fun b' u hu=>(hko b' u hu).set hq rfl rfl,by first|rfl|trivial|assumption,by first|rfl|trivial|assumption,_,H.rows_set _ _ _,hqo,hqz,by
    show(putAt q.cells _ _).length=c'
    rw[putAt_length (by simp;omega)]
    exact hql⟩
  ·simp only[go_sem,h2,h3,ltF hge]
   exact fun _=>hk i h' hw' hka (fun r' hr'=>by rw[hr] at hr';injection hr' with hr';rw[←hr'];exact hz) hlee hko
theorem two_zl {h:H} {T:TypeId} {W:Nat} {va vb:AV} {xs ys:List Int} (hw:h.wf) (ha:IsA 2 (ZwL W) h va xs) (hb:IsA 2 (ZwL W) h vb ys):IsA 1 (IsZl W) (h.new ⟨some T,1,[va,vb]⟩) (.sl (some h.next) 0 2 (some 2)) [xs,ys]:=by
 have hl:=H.le_new hw (H.le_refl h) ⟨some T,1,[va,vb]⟩
 refine⟨[va,vb],⟨rfl,some h.next,0,some 2,rfl, .inr ⟨h.next,_,rfl,H.rows_new _ _, .inr rfl,by simp,rfl⟩⟩,rfl,fun j x hx=> ?_⟩
 rcases j with _|_|j
 ·simp at hx
  subst hx
  exact⟨va,rfl,ha.mono ZwL.grows hl⟩
 ·simp at hx
  subst hx
  exact⟨vb,rfl,hb.mono ZwL.grows hl⟩
 ·simp at hx
theorem bld2z {a b:AV} (ha:a.one=true) (hb:b.one=true):abuild (zs [.sl none 0 0 none] 2) [(0,1,a),(1,1,b)]=some [a,b]:=by
 cases a<;>simp[AV.one] at ha<;>cases b<;>simp[AV.one] at hb<;>rfl
theorem IsA.oneS {α:Type} {z:Nat} {R:H→List AV→α→Prop} {h:H} {v:AV} {xs:List α} (hv:IsA z R h v xs):v.one=true:=by
 obtain⟨_,_,_,rfl⟩:=hv.form
 rfl
theorem sumZ_two {xs ys:List Int} (i:Nat):sumZ [xs,ys] [xs,ys].length i=xs.getD i 0+ys.getD i 0:=by
 show(([xs,ys].take 2).map fun l=>l.getD i 0).sum=_
 simp
theorem IsA.zts {T:TypeId} {b c W:Nat} {h:H} {v:AV} {zs:List Int} (hv:Live T 2 b (ZbL c W) h v zs):IsA 2 ZtL h v zs:=(hv.isA ZbL.grows).imp fun _ _ hx=>hx.zt
section
variable {va vb:AV} {ps0 qs0:List (Bool×List Nat)} {h:H} {K:AV→H→Prop}
set_option maxHeartbeats 4000000 in
theorem PolyzSums_law (hv0:IsA 2 IsI h va ps0) (hl0:ps0.length≤maxLen) (hu0:IsA 2 IsI h vb qs0) (hm0:qs0.length≤maxLen) (hk:∀h',h'.wf→K (.bool true) h'):ACalls Try.prog 4 [va,vb] h K:=by
 refine in_law28_PolyzSums (by simp) fun hw=> ?_
 unfold c_law28_PolyzSums
 have hmx:maxLen≤9223372036854775807:=by decide
 simp only[go_sem]
 refine cut28_calls (k:=20) (n:=5) hv0 (by omega) (by omega) (by omega) fun a x ps ys1 h1 hw1 hl1 hps hpl ha _ hx htx hyl1 _ _=> ?_
 simp only[go_sem]
 refine cut28_calls (k:=20) (n:=5) (hu0.mono IsI.grows hl1) (by omega) (by omega) (by omega) fun b y qs ys2 h2 hw2 hl2 hqs hql hb _ hy hty hyl2 _ _=> ?_
 have hpn:∀p∈ps,p.2.length≤5:=by
  rw[hps]
  intro p hm
  obtain⟨q,hq,rfl⟩:=List.mem_map.1 hm
  simp
  omega
 have hqn:∀p∈qs,p.2.length≤5:=by
  rw[hqs]
  intro p hm
  obtain⟨q,hq,rfl⟩:=List.mem_map.1 hm
  simp
  omega
 clear hps hqs hv0 hu0
 have ha:=ha.mono IsI.grows hl2
 have hx:=hx.mono ZqL.grows hl2
 simp only[go_sem]
 refine CopyInts_calls ha (by omega) (fun p hp=>by have:=hpn p hp;omega) fun la h3 hw3 hl3 hla=> ?_
 simp only[go_sem]
 refine CopyInts_calls (hb.mono IsI.grows hl3) (by omega) (fun p hp=>by have:=hqn p hp;omega) fun lb h4 hw4 hl4 hlb=> ?_
 have l24:=H.le_trans hl3 hl4
 have hla:=hla.mono IsI.grows hl4
 have ha:=ha.mono IsI.grows l24
 have hb:=hb.mono IsI.grows l24
 have hx:=hx.mono ZqL.grows l24
 have hy:=hy.mono ZqL.grows l24
 have haL:IsA 2 (ZwL 5) h4 la (ps.map zI):=hla.mapz fun c x hx hi=>hi.zw (hpn x hx) (by omega)
 have hbL:IsA 2 (ZwL 5) h4 lb (qs.map zI):=hlb.mapz fun c x hx hi=>hi.zw (hqn x hx) (by omega)
 have hpl2:(ps.map zI).length≤20:=by rw[List.length_map];exact hpl
 have hql2:(qs.map zI).length≤20:=by rw[List.length_map];exact hql
 rw[←List.length_map (f:=zI)] at hyl1 hyl2
 generalize ps.map zI=zs at*
 generalize qs.map zI=ws at*
 obtain⟨ix,ox,cx,ex⟩:=hx.form
 simp only[go_sem,bld2z haL.oneS hbL.oneS]
 have hl5:=H.le_new hw4 (H.le_refl h4) ⟨some 22,1,[la,lb]⟩
 have hw5:=H.wf_new hw4 ⟨some 22,1,[la,lb]⟩
 have htz:=two_zl (T:=22) hw4 haL hbL
 generalize h4.new ⟨some 22,1,[la,lb]⟩=h5 at*
 have hla:=hla.mono IsI.grows hl5
 have hlb:=hlb.mono IsI.grows hl5
 have ha:=ha.mono IsI.grows hl5
 have hb:=hb.mono IsI.grows hl5
 have hx:=hx.mono ZqL.grows hl5
 have hy:=hy.mono ZqL.grows hl5
 have haL:=haL.mono ZwL.grows hl5
 have hbL:=hbL.mono ZwL.grows hl5
 refine zPlus_calls (by omega) htz (by simp) (by simp;omega) fun s ss h6 hw6 hl6 hs hst hsl=> ?_
 have hst:=hst.congr sumZ_two
 have hsl:ss.length≤20:=Nat.le_trans hsl (by show max (max 0 zs.length) ws.length≤20;omega)
 clear htz
 obtain⟨is,cs,rfl⟩:=hs.form
 simp only[go_sem]
 refine zrAddP_calls (by omega) (hx.mono ZqL.grows hl6) (hy.mono ZqL.grows hl6) (by omega) (by omega) fun r1 m1 h7 hw7 hl7 hr1 ht1 _=> ?_
 obtain rfl:=ht1.uniq (hst.congr fun i=>by
  show zs.getD i 0+ws.getD i 0=ys1.getD i 0+ys2.getD i 0
  rw[htx.1,hty.1])
 have l57:=H.le_trans hl6 hl7
 have hs:=hs.mono ZbL.grows hl7
 simp only[go_sem]
 refine zSame28_calls (by omega) hr1 (IsA.zts hs) (by omega) fun h8 hw8 hl8=> ?_
 have l58:=H.le_trans l57 hl8
 simp only[go_sem,Bool.not_true]
 refine zrSubP_calls (by omega) (hx.mono ZqL.grows l58) (hy.mono ZqL.grows l58) (by omega) (by omega) fun r2 m2 h9 hw9 hl9 hr2 ht2 hm2=> ?_
 have l59:=H.le_trans l58 hl9
 simp only[go_sem]
 refine zMinus_calls (by omega) (haL.mono ZwL.grows l59) (hbL.mono ZwL.grows l59) (by omega) (by omega) fun r3 m3 h10 hw10 hl10 hr3 ht3 _=> ?_
 obtain rfl:=ht2.uniq (ht3.congr fun i=>by
  show zs.getD i 0-ws.getD i 0=ys1.getD i 0-ys2.getD i 0
  rw[htx.1,hty.1])
 simp only[go_sem]
 refine zSame28_calls (by omega) (hr2.mono ZqL.grows hl10) (IsA.zts hr3) (by omega) fun h11 hw11 hl11=> ?_
 have l511:=(H.le_trans l59 (H.le_trans hl10 hl11))
 simp only[go_sem,Bool.not_true]
 refine znormL_calls (by omega) (haL.mono ZwL.grows l511) (by omega) fun r4 m4 h12 hw12 hl12 hr4 ht4 _=> ?_
 obtain rfl:=htx.uniq ht4
 have l512:=H.le_trans l511 hl12
 simp only[go_sem]
 refine zSame28_calls (by omega) (hx.mono ZqL.grows l512) (IsA.zts hr4) (by omega) fun h13 hw13 hl13=> ?_
 have l513:=H.le_trans l512 hl13
 simp only[go_sem,Bool.not_true]
 refine zrDerive_calls (by omega) (hx.mono ZqL.grows l513) (by omega) fun r5 m5 h14 hw14 hl14 hr5 ht5 hm5=> ?_
 have l514:=H.le_trans l513 hl14
 simp only[go_sem]
 refine zDerive_calls (by omega) (haL.mono ZwL.grows l514) (by omega) fun r6 m6 h15 hw15 hl15 hr6 ht6 _=> ?_
 obtain rfl:=ht5.uniq (ht6.congr fun i=>by
  show((i+1:Nat):Int)*zs.getD (i+1) 0=((i+1:Nat):Int)*ys1.getD (i+1) 0
  rw[htx.1])
 simp only[go_sem]
 refine zSame28_calls (by omega) (hr5.mono ZqL.grows hl15) (IsA.zts hr6) (by omega) fun h16 hw16 hl16=> ?_
 have l516:=(H.le_trans l514 (H.le_trans hl15 hl16))
 have hs16:=hs.mono ZbL.grows ((H.le_trans hl8 (H.le_trans hl9 (H.le_trans hl10 (H.le_trans hl11 (H.le_trans hl12 (H.le_trans hl13 (H.le_trans hl14 (H.le_trans hl15 hl16)))))))))
 simp only[go_sem,Bool.not_true]
 clear hr1 hr2 hr3 hr4 hr5 hr6 hs l57 l58 l59 l511 l512 l513 l514
 have hrs:=hs16
 refine loop_cut (fun ρ g=>g.wf∧h5.le g∧ρ 0=a∧ρ 1=b∧ρ 5=x∧ρ 6=y∧ρ 7=la∧ρ 8=lb) ?_ ?_
 ·refine for_rule (fun j ρ g=>j≤m1.length∧g.wf∧h5.le g∧ρ 0=a∧ρ 1=b∧ρ 5=x∧ρ 6=y∧ρ 7=la∧ρ 8=lb∧ρ 9= .sl is 0 m1.length cs∧ρ 10= .int .i64 (j:Int)∧OwS h5.next g (.sl is 0 m1.length cs) m1.length) m1.length
   ⟨by omega,hw16,l516,by first|rfl|trivial|assumption,by first|rfl|trivial|assumption,by first|rfl|trivial|assumption,by first|rfl|trivial|assumption,by first|rfl|trivial|assumption,by first|rfl|trivial|assumption,by first|rfl|trivial|assumption,by first|rfl|trivial|assumption,OwS.of hrs⟩ (fun i ρ h hI=>hI.1) ?_
  rintro j ρ g ⟨hj,hwg,hle,q0,q1,q5,q6,q7,q8,qs,qk,ho⟩
  rcases Nat.lt_or_ge j m1.length with h3|h3
  ·obtain⟨i9,cp9,w9,r9,e9,hr9,hz9,hg9,ho9⟩:=ho j h3
   injection e9 with e91 e92 e93 e94
   subst e91
   simp only[go_sem,q0,q1,q5,q6,q7,q8,qs,qk,ltT h3]
   refine⟨by omega,by omega, ?_⟩
   simp only[go_sem,Nat.zero_add,Nat.add_zero,hg9,q0,q1,q5,q6,q7,q8,qs,qk]
   refine SpoilL_calls ho9 fun u9 g9 hw9 hka hu9 hl9 hko=> ?_
   simp only[go_sem,q0,q1,q5,q6,q7,q8,qs,qk,incI (i:=j) (by omega)]
   exact⟨by omega,hw9,hka _ hw5 hle (Nat.le_refl _),by first|rfl|trivial|assumption,by first|rfl|trivial|assumption,by first|rfl|trivial|assumption,by first|rfl|trivial|assumption,by first|rfl|trivial|assumption,by first|rfl|trivial|assumption,by first|rfl|trivial|assumption,by first|rfl|trivial|assumption,ho.lee hu9 hl9 hko⟩
  ·obtain rfl:j=m1.length:=by omega
   simp only[go_sem,q0,q1,q5,q6,q7,q8,qs,qk,ltF (Nat.le_refl m1.length)]
   exact⟨hwg,hle,by first|rfl|trivial|assumption,by first|rfl|trivial|assumption,by first|rfl|trivial|assumption,by first|rfl|trivial|assumption,by first|rfl|trivial|assumption,by first|rfl|trivial|assumption⟩
 rintro ρ g1 ⟨hwg1,lg1,q0,q1,q5,q6,q7,q8⟩
 clear hrs hs16
 simp only[go_sem,q0,q1,q5,q6,q7,q8]
 refine znormL_calls (by omega) (haL.mono ZwL.grows lg1) (by omega) fun r7 m7 h17 hw17 hl17 hn ht7 hm7=> ?_
 obtain⟨im,cm,rfl⟩:=hn.form
 simp only[go_sem,q0,q1,q5,q6,q7,q8]
 have hrn:=hn
 refine loop_cut (fun ρ g=>g.wf∧g1.le g∧ρ 0=a∧ρ 1=b∧ρ 5=x∧ρ 6=y∧ρ 7=la∧ρ 8=lb) ?_ ?_
 ·refine for_rule (fun j ρ g=>j≤m7.length∧g.wf∧g1.le g∧ρ 0=a∧ρ 1=b∧ρ 5=x∧ρ 6=y∧ρ 7=la∧ρ 8=lb∧ρ 11= .sl im 0 m7.length cm∧ρ 12= .int .i64 (j:Int)∧OwS g1.next g (.sl im 0 m7.length cm) m7.length) m7.length
   ⟨by omega,hw17,hl17,by first|rfl|trivial|assumption,by first|rfl|trivial|assumption,by first|rfl|trivial|assumption,by first|rfl|trivial|assumption,by first|rfl|trivial|assumption,by first|rfl|trivial|assumption,by first|rfl|trivial|assumption,by first|rfl|trivial|assumption,OwS.of hrn⟩ (fun i ρ h hI=>hI.1) ?_
  rintro j ρ g ⟨hj,hwg,hle,q0,q1,q5,q6,q7,q8,qs,qk,ho⟩
  rcases Nat.lt_or_ge j m7.length with h3|h3
  ·obtain⟨i9,cp9,w9,r9,e9,hr9,hz9,hg9,ho9⟩:=ho j h3
   injection e9 with e91 e92 e93 e94
   subst e91
   simp only[go_sem,q0,q1,q5,q6,q7,q8,qs,qk,ltT h3]
   refine⟨by omega,by omega, ?_⟩
   simp only[go_sem,Nat.zero_add,Nat.add_zero,hg9,q0,q1,q5,q6,q7,q8,qs,qk]
   refine SpoilL_calls ho9 fun u9 g9 hw9 hka hu9 hl9 hko=> ?_
   simp only[go_sem,q0,q1,q5,q6,q7,q8,qs,qk,incI (i:=j) (by omega)]
   exact⟨by omega,hw9,hka _ hwg1 hle (Nat.le_refl _),by first|rfl|trivial|assumption,by first|rfl|trivial|assumption,by first|rfl|trivial|assumption,by first|rfl|trivial|assumption,by first|rfl|trivial|assumption,by first|rfl|trivial|assumption,by first|rfl|trivial|assumption,by first|rfl|trivial|assumption,ho.lee hu9 hl9 hko⟩
  ·obtain rfl:j=m7.length:=by omega
   simp only[go_sem,q0,q1,q5,q6,q7,q8,qs,qk,ltF (Nat.le_refl m7.length)]
   exact⟨hwg,hle,by first|rfl|trivial|assumption,by first|rfl|trivial|assumption,by first|rfl|trivial|assumption,by first|rfl|trivial|assumption,by first|rfl|trivial|assumption,by first|rfl|trivial|assumption⟩
 clear q0 q1 q5 q6 q7 q8
 rintro ρ g2 ⟨hwg2,lg2,q0,q1,q5,q6,q7,q8⟩
 have l52:=H.le_trans lg1 lg2
 have haL:=haL.mono ZwL.grows l52
 have hbL:=hbL.mono ZwL.grows l52
 have hx:=hx.mono ZqL.grows l52
 have hy:=hy.mono ZqL.grows l52
 have ha:=ha.mono IsI.grows l52
 have hb:=hb.mono IsI.grows l52
 have hla:=hla.mono IsI.grows l52
 have hlb:=hlb.mono IsI.grows l52
 simp only[go_sem,q0,q1,q5,q6,q7,q8]
 refine zDeg_calls (by omega) haL (by omega) fun ds hds=> ?_
 obtain rfl:=htx.uniq hds
 have e1:IntKind.i64.wrap ((ys1.length:Int)-1)=(ys1.length:Int)-1:=wI (by omega) (by omega)
 simp only[go_sem,q0,q1,q5,q6,q7,q8,ex,e1,beq_self_eq_true]
 refine zSame_calls (by omega) haL hbL (by omega) (by omega) fun sm h18 hw18 hl18 hsm=> ?_
 rw[←ex]
 simp only[go_sem,q0,q1,q5,q6,q7,q8]
 refine zrSubP_calls (by omega) (hx.mono ZqL.grows hl18) (hy.mono ZqL.grows hl18) (by omega) (by omega) fun r9 m9 h19 hw19 hl19 hr9 ht9 hm9=> ?_
 obtain⟨i9,o9,c9,rfl⟩:=hr9.form
 have eq:(sm==((m9.length:Int)==0))=true:=by
  have h5:(∀i,zs.getD i 0=ws.getD i 0)↔m9.length=0:=by
   constructor
   ·intro h6
    have:m9=[]:=ht9.uniq ⟨fun i=>by
     show(0:Int)=ys1.getD i 0-ys2.getD i 0
     have e2:=htx.1 i
     have e3:=hty.1 i
     have e4:=h6 i
     simp only at e2 e3
     omega,by simp⟩
    rw[this]
    rfl
   ·intro h6 i
    have h7:=ht9.1 i
    rw[getG_out (by omega)] at h7
    have e2:=htx.1 i
    have e3:=hty.1 i
    simp only at e2 e3 h7
    omega
  rw[h5] at hsm
  rcases Nat.eq_zero_or_pos m9.length with h0|h0
  ·rw[hsm.2 h0,h0]
   rfl
  ·have:sm=false:=by
    cases sm
    ·rfl
    ·have:=hsm.1 rfl
     omega
   rw[this,eqF (show(m9.length:Int)≠0 by omega)]
   rfl
 have l219:=H.le_trans hl18 hl19
 simp only[go_sem,eq,q0,q1,q5,q6,q7,q8]
 refine zHeight_calls (by omega) (haL.mono ZwL.grows l219) (by omega) fun h20 hw20 hl20=> ?_
 have l220:=H.le_trans l219 hl20
 simp only[go_sem,q0,q1,q5,q6,q7,q8]
 refine zrHeight_calls (by omega) (hx.mono ZqL.grows l220) (by omega) ?_
 rw[hgt_trim htx]
 simp only[go_sem,beq_self_eq_true,q0,q1,q5,q6,q7,q8]
 refine kInts_calls (hla.mono IsI.grows l220) (ha.mono IsI.grows l220) (by omega) (fun p hp=>by have:=hpn p hp;omega) fun h21 hw21 hl21=> ?_
 have l221:=H.le_trans l220 hl21
 simp only[go_sem,q0,q1,q5,q6,q7,q8]
 refine kInts_calls (hlb.mono IsI.grows l221) (hb.mono IsI.grows l221) (by omega) (fun p hp=>by have:=hqn p hp;omega) fun h22 hw22 hl22=> ?_
 simp only[go_sem,q0,q1,q5,q6,q7,q8]
 refine wakes28_calls fun h23 hw23 hl23=> ?_
 simp only[go_sem]
 exact fun hw'=>hk h23 hw'
end
set_option maxRecDepth 100000 in
theorem PolyzSums_row (h:H) (avs:List AV) (_:h.wf) (r:ReadsAll Try.prog h [22,22] avs):ACalls Try.prog 4 avs h (fun r _=>r= .bool true):=by
 match avs,r with
 |[_,_],⟨r0,r1,_⟩=>
  obtain⟨ps,h1,h1l⟩:=reads_wholes r0
  obtain⟨qs,h2,h2l⟩:=reads_wholes r1
  exact PolyzSums_law h1 h1l h2 h2l fun _ _=>rfl
end
end Ab
end Go.Proofs.Ytkbglkjpdndkiaa
