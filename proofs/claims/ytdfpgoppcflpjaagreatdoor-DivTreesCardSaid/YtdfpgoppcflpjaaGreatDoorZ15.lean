/- Joined texts: J1 I1 J4 J6 J7. No condition. -/
import Derived.Test.YtdfpgoppcflpjaaGreatDoorZ14
import Derived.Test.YtdfpgoppcflpjaaGreatDoorProg
import Derived.KernelRfl
namespace Go.Proofs.YtdfpgoppcflpjaaGreatDoor
namespace Ab
open Go Go.RowKit
set_option linter.unusedSimpArgs false
set_option linter.unusedVariables false
attribute [local go_sem ↓] x_mv x_pick x_bin x_beq x_peq x_seq x_cat x_aeq x_idxS x_idxV x_un x_cvI x_idx x_idxA x_fld x_ld x_st x_nn x_prt x_slc x_mk x_bsl x_bld x_box x_alloc x_len x_capo x_mnx x_app x_cpy x_mkf x_ext x_call x_callV x_bad s_none s_some s_nil s_cons s_chks w_skip w_reg tP_fin tP_no tP_alt w_seq w_cond w_block w_exit w_ret t_normal t_exit t_ret b_normal b_ret b_exit n_normal n_exit n_ret p_normal p_ret f_nil f_t f_c k_ops k_chk k_fin
attribute [local go_sem] e_t e_c e_f u_some u_none u_at env_at k_v k_pick k_add k_sub k_mul k_quo k_rem k_and k_or k_xor k_shl k_shr k_eql k_neq k_lss k_leq k_gtr k_geq k_beq k_peqn k_peqs k_neg k_not k_com k_cvI k_idxS k_idxV1 k_idxVn k_idx k_idxA k_idxG k_ldG k_gld k_seq k_cat k_aeq k_eqs k_fld k_ld1 k_ldn k_get k_gets k_sti k_stb k_stp k_sts k_stf k_sta k_put k_nn k_prt1 k_prtn k_slc_a k_slc_b k_slc_c k_mk k_agg k_bsl k_box k_len k_lenS k_cap k_max k_min k_ext k_callV k_true k_false k_gtt k_gtf k_gft k_gsk k_gff k_lit1i k_lit2i k_lit3i k_c0 k_c1 k_ck List.getElem?_cons_zero List.getElem?_cons_succ List.getElem?_nil Option.getD_some Option.getD_none tupOf List.map_cons List.map_nil Option.map_some Option.map_none List.nil_append List.cons_append List.append_nil Nat.mul_one Int.toNat_natCast Nat.zero_add
attribute [local go_sem] e_t e_c e_f u_some u_none u_at env_at k_v k_pick k_add k_sub k_mul k_quo k_rem k_and k_or k_xor k_shl k_shr k_eql k_neq k_lss k_leq k_gtr k_geq k_beq k_peqn k_peqs k_neg k_not k_com k_cvI k_idxS k_idxV1 k_idxVn k_idx k_idxA k_idxG k_ldG k_gld k_seq k_cat k_aeq k_eqs k_fld k_ld1 k_ldn k_get k_gets k_sti k_stb k_stp k_sts k_stf k_sta k_put k_nn k_prt1 k_prtn k_slc_a k_slc_b k_slc_c k_mk k_agg k_bsl k_box k_len k_lenS k_cap k_max k_min k_ext k_callV k_true k_false k_gtt k_gtf k_gft k_gsk k_gff k_lit1i k_lit2i k_lit3i k_c0 k_c1 k_ck List.getElem?_cons_zero List.getElem?_cons_succ List.getElem?_nil Option.getD_some Option.getD_none tupOf List.map_cons List.map_nil Option.map_some Option.map_none List.nil_append List.cons_append List.append_nil Nat.mul_one Int.toNat_natCast Nat.zero_add
--what a store into a cell of two leaves
attribute [local go_sem_proc] Nat.reduceEqDiff Nat.reduceAdd Int.reduceToNat
attribute [local go_sem_proc ↓] reduceIte
attribute [local go_sem] Bool.false_eq_true
theorem H.le_over {u:Nat} {a b c:H} (hw:a.wf) (h1:a.le b) (hu:a.next≤u) (h2:H.lee u b c):a.le c:=
 ⟨Nat.le_trans h1.1 h2.1,fun i r e=>h2.2 i r (by have:=H.row_lt hw e;omega) (h1.2 i r e)⟩
theorem two_ways {M next:Env→H→Prop} {G:Prop} (main:(∀ρ h,M ρ h→next ρ h)→G) (rest:∀ρ h,M ρ h→next ρ h):G:=main rest
theorem two_and {p:Prop}:((2:Int)≠0∧p)=p:=by simp
section
def sg (b:Bool) (x:Nat):Int:=if b=true then-(x:Int) else(x:Int)
theorem g2 {h:H} {i:Nat} {T:Option TypeId} {a b:AV} (hr:h.rows i=some ⟨T,2,[a,b]⟩):h.get i 0=some a∧h.get i 1=some b∧h.gets i 0 2=some [a,b]:=by
 rw[H.get_of hr,H.get_of hr,H.gets_of hr (by simp)]
 exact⟨rfl,rfl,rfl⟩
section
variable {v u wa wb:AV} {ba bb:Bool} {x y:Nat} {h:H} {K:AV→H→Prop}
theorem rZero_calls (nv:Num 4294967296 h v x) (hk:K (.bool (decide (x=0))) h):ACalls Tryz.prog 47 [v] h K:=by
 obtain⟨xs,h1,h2,h3,rfl⟩:=nv
 obtain⟨id,off,c,rfl⟩:=h1.form
 refine in_ref02_Zero (by simp) fun hw=> ?_
 unfold c_ref02_Zero
 have e:((xs.length:Int)==0)=decide (val 4294967296 xs=0):=by
  rw[Bool.eq_iff_iff]
  simp only[beq_iff_eq,decide_eq_true_eq]
  constructor
  ·intro h0
   have:xs=[]:=List.eq_nil_of_length_eq_zero (by omega)
   subst this
   rfl
  ·intro h0
   rcases Nat.eq_zero_or_pos xs.length with h|h
   ·omega
   ·exfalso
    have h4:xs≠ []:=by intro e;subst e;simp at h
    have h5:=val_ge 4294967296 xs h3 h4
    have h6:0<4294967296^(xs.length-1):=Nat.pow_pos (by omega)
    omega
 simp only[go_sem,e]
 exact fun _=>hk
end
end
section
section
variable {va vb:AV} {x y n:Nat} {xs:List Nat} {h:H} {K:AV→H→Prop}
theorem from15_calls (hv:Nn h va x) (hk:∀r h',h'.wf→h.le h'→Num 4294967296 h' r x→K r h'):ACalls Tryz.prog 42 [va] h K:=by
 obtain⟨xs,h1,h2,h3,rfl⟩:=hv
 refine in_law15_from (by simp) fun hw=> ?_
 unfold c_law15_from
 simp only[go_sem]
 refine From_calls h1 h2 (by omega) fun r h' hw' hl' hr=> ?_
 simp only[go_sem]
 exact fun _=>hk r h' hw' hl' hr
theorem words15_calls (hv:Nn h va x) (hk:K (.int .i64 (wlen x:Nat)) h):ACalls Tryz.prog 41 [va] h K:=by
 refine in_law15_words (by simp) fun hw=> ?_
 unfold c_law15_words
 simp only[go_sem]
 refine LenN_calls hv ?_
 simp only[go_sem]
 exact fun _=>hk
theorem Nf.nil_of {b:Nat} {v:AV} (hv:Nf b h v 0):∃id c,v= .sl id 0 0 c:=by
 obtain⟨xs,h1,h2,h3,h4⟩:=hv
 have:xs.length=0:=by rw[top_len h2 h3,h4];rfl
 obtain⟨id,c,e⟩:=h1.form
 rw[this] at e
 exact⟨id,c,e⟩
theorem wakes15_calls (hk:∀h',h'.wf→h.le h'→K (.bool true) h'):ACalls Tryz.prog 40 [] h K:=by
 refine in_law15_wakes (by simp) fun hw=> ?_
 unfold c_law15_wakes
 have e1:∀l:List AV,abuild l []=some l:=fun l=>by simp[abuild]
 simp only[go_sem,e1]
 refine diNew_calls (t:=⟨0,0,0,0,0,0,0,0,0,0,0⟩) fun e u h1 hw1 hl1 hn1 hue he ht=> ?_
 simp only[go_sem,Bool.false_bne,Option.isNone]
 have hw2:=H.wf_new hw1 ⟨some 47,1,[AV.int .u64 7]⟩
 have hl2:=H.le_new hw1 (H.le_refl h1) ⟨some 47,1,[AV.int .u64 7]⟩
 have hl3:=H.le_new hw2 (H.le_refl _) ⟨some 47,1,[AV.int .u64 9]⟩
 have d1:Dig [7]:=Dig.one (by omega)
 have d2:Dig [9]:=Dig.one (by omega)
 refine DivMod2_calls (clamp_ok _) (a:=val 18446744073709551616 [7]) (b:=val 18446744073709551616 [9]) ((he.mono hl2).mono hl3) ((ht.mono hl2).mono hl3) (((IsN.lit [7] _ rfl rfl).mono hl3).nn d1 (by simp)) ((IsN.lit [9] _ rfl rfl).nn d2 (by simp)) (by decide) (by decide) (by omega) (fun h=>absurd h (by decide)) fun _ q r h4 m4 dp4 hw4 hl4 ht4 _ hq hr=> ?_
 rw[show val 18446744073709551616 [7]/val 18446744073709551616 [9]=0 by decide] at hq
 obtain⟨iq,cq,rfl⟩:=hq.nil_of
 obtain⟨rs,hr1,hr2,hr3,hr4⟩:=hr
 have hrl:rs=[7]:=top_inj hr2 (Dig.one (by omega)) hr3 (fun z hz=>by simp at hz;omega) (by rw[hr4];decide)
 subst hrl
 have hl04:=H.le_over hw (H.le_trans hl1 (H.le_trans hl2 hl3)) hn1 hl4
 simp only[go_sem,beq_self_eq_true,eqT (show((0:Nat):Int)=0 from rfl)]
 have hl5:=H.le_new hw4 (H.le_refl h4) ⟨some 47,1,[AV.int .u64 7]⟩
 refine kSame_calls (xs:=[7]) (hr1.isN.mono hl5) (IsN.lit [7] _ rfl rfl) (by simp) ?_
 simp only[go_sem]
 exact fun hw'=>hk _ hw' (H.le_trans hl04 hl5)
theorem mul_wlen {n k:Nat} (hx:wlen x≤n) (hy:wlen y≤k):wlen (x*y)≤n+k:=by
 have h1:x*y<18446744073709551616^n*18446744073709551616^k:=Nat.mul_lt_mul_of_lt_of_le (wlen_le.1 hx) (Nat.le_of_lt (wlen_le.1 hy)) (Nat.pow_pos (by omega))
 rw[←Nat.pow_add] at h1
 exact wlen_le.2 h1
end
end
section
def pr (xss:List (List Nat)):Nat:=xss.foldr (fun ys p=>val 18446744073709551616 ys*p) 1
theorem pr_append (xss yss:List (List Nat)):pr (xss++yss)=pr xss*pr yss:=by
 induction xss with
 |nil=>simp[pr]
 |cons x xss ih=>
  have:pr (x::xss++yss)=val 18446744073709551616 x*pr (xss++yss):=rfl
  rw[this,ih,←Nat.mul_assoc]
  rfl
theorem pr_cut (xss:List (List Nat)) (k:Nat):pr xss=pr (xss.take k)*pr (xss.drop k):=by
 rw[←pr_append,List.take_append_drop]
theorem pr_pos {xss:List (List Nat)} (h:∀ys∈xss,0<val 18446744073709551616 ys):0<pr xss:=by
 induction xss with
 |nil=>exact Nat.one_pos
 |cons x xss ih=>exact Nat.mul_pos (h x (by simp)) (ih fun y hy=>h y (by simp[hy]))
theorem pr_dvd {xss:List (List Nat)} {ys:List Nat} (h:ys∈xss):val 18446744073709551616 ys∣pr xss:=by
 induction xss with
 |nil=>cases h
 |cons x xss ih=>
  rcases List.mem_cons.1 h with rfl|h
  ·exact⟨pr xss,rfl⟩
  ·obtain⟨c,hc⟩:=ih h
   exact⟨val 18446744073709551616 x*c,by show val 18446744073709551616 x*pr xss=_;rw[hc];ac_rfl⟩
theorem pr_wlen {xss:List (List Nat)} (h:∀ys∈xss,ys.length≤8∧Dig ys):wlen (pr xss)≤8*xss.length+1:=by
 induction xss with
 |nil=>exact Nat.le_refl _
 |cons x xss ih=>
  have h1:=ih fun y hy=>h y (by simp[hy])
  obtain⟨h2,h3⟩:=h x (by simp)
  have:=mul_wlen (Nat.le_trans (wlen_len h3) h2) h1
  show wlen (val 18446744073709551616 x*pr xss)≤_
  rw[List.length_cons]
  omega
theorem isA_cuts {h:H} {id:Option Nat} {off:Nat} {c:Option Nat} {xss:List (List Nat)} (hv:IsA 1 IsD h (.sl id off xss.length c) xss) {k:Nat} (hk:k≤xss.length) (c1 c2:Option Nat):IsA 1 IsD h (.sl id off k c1) (xss.take k)∧IsA 1 IsD h (.sl id (off+k) (xss.length-k) c2) (xss.drop k):=by
 have h1:=hv.cut (c':=c1) (a:=0) (b:=k) (by omega) hk
 have h2:=hv.cut (c':=c2) (a:=k) (b:=xss.length) hk (Nat.le_refl _)
 rw[Nat.zero_mul,Nat.add_zero,Nat.sub_zero,List.drop_zero] at h1
 rw[Nat.mul_one,List.take_length] at h2
 exact⟨h1,h2⟩
theorem isd_nn {h:H} {v:AV} {ys:List Nat} (hv:IsD h [v] ys) (hl:ys.length≤8):Nn h v (val 18446744073709551616 ys)∧Dig ys:=by
 obtain⟨v',e,h1,h2,_⟩:=hv
 injection e with e
 subst e
 exact⟨h1.nn h2 (by omega),h2⟩
theorem isA_dig {h:H} {v:AV} {xss:List (List Nat)} (hv:IsA 1 IsD h v xss):∀ys∈xss,Dig ys:=by
 intro ys hy
 obtain⟨id,off,c,rfl⟩:=hv.form
 obtain⟨i,hi,rfl⟩:=List.getElem_of_mem hy
 obtain⟨_,_,_,_,_,v',_,_,h2,_⟩:=hv.at1 hi
 exact h2
section
variable {u:Nat} {t:Tb}
set_option maxHeartbeats 1000000 in
theorem Product_calls:∀(n:Nat) {e m nw dp:Nat} {vl:AV} {xss:List (List Nat)} {h:H} {K:AV→H→Prop},xss.length≤n→xss.length≤64→Eng 4 h e u→Tune h u m nw dp t→IsA 1 IsD h vl xss→(∀ys∈xss,ys.length≤8)→nw≤600000000→
  (∀r h' m' dp',h'.wf→H.lee u h h'→Tune h' u m' nw dp' t→Nf h.next h' r (pr xss)→K r h')→ACalls Tryz.prog 119 [.ptr (some (e,0)),vl] h K:=by
 intro n
 induction n with
 |zero=>
  intro e m nw dp vl xss h K hn h64 he ht hl hs hnw hk
  obtain rfl:xss=[]:=List.eq_nil_of_length_eq_zero (by omega)
  obtain⟨id,off,c,rfl⟩:=hl.form
  refine in_mul_Engine_Product (by simp) fun hw=> ?_
  unfold c_mul_Engine_Product
  simp only[go_sem,eqT (show((([]:List (List Nat)).length:Nat):Int)=0 from rfl)]
  refine One_calls (x:=1) (by decide) fun r h1 hw1 hl1 hr=> ?_
  simp only[go_sem]
  exact fun hw'=>hk r h1 _ _ hw' hl1.lee (ht.mono hl1) hr
 |succ n ih=>
  intro e m nw dp vl xss h K hn h64 he ht hl hs hnw hk
  obtain⟨id,off,c,rfl⟩:=hl.form
  refine in_mul_Engine_Product (by simp) fun hw=> ?_
  unfold c_mul_Engine_Product
  have hu:=H.row_lt hw ht
  have hD:=isA_dig hl
  rcases Nat.lt_or_ge xss.length 2 with c1|c1
  ·match xss,c1 with
   |[],_=>
    simp only[go_sem,eqT (show((([]:List (List Nat)).length:Nat):Int)=0 from rfl)]
    refine One_calls (x:=1) (by decide) fun r h1 hw1 hl1 hr=> ?_
    simp only[go_sem]
    exact fun hw'=>hk r h1 _ _ hw' hl1.lee (ht.mono hl1) hr
   |[ys],_=>
    obtain⟨ii,a,rfl,_,hg,ha⟩:=hl.at1 (j:=0) (by simp)
    have hn:=(isd_nn (show IsD h [a] ys from ha) (hs ys (by simp))).1
    simp only[go_sem,eqF (show((([ys]:List (List Nat)).length:Nat):Int)≠0 by simp),eqT (show((([ys]:List (List Nat)).length:Nat):Int)=1 from rfl)]
    refine⟨by simp,by simp, ?_⟩
    simp only[go_sem,hg]
    refine Norm_calls hn fun r h1 hw1 hl1 hr=> ?_
    simp only[go_sem]
    refine fun hw'=>hk r h1 _ _ hw' hl1.lee (ht.mono hl1) ?_
    rw[show pr [ys]=val 18446744073709551616 ys from Nat.mul_one _]
    exact hr
  ·obtain⟨k,hkk⟩:∃k,k=xss.length/2:=⟨_,rfl⟩
   have e1:((xss.length:Nat):Int).tdiv 2=(k:Int):=by rw[hkk];exact tdivN (a:=xss.length) (b:=2)
   have e2:=wNI (n:=k) (by omega)
   have hlen1:(xss.take k).length=k:=by rw[List.length_take];omega
   have hlen2:(xss.drop k).length=xss.length-k:=by rw[List.length_drop]
   obtain⟨hc1,hc2⟩:=isA_cuts hl (k:=k) (by omega) c (c.map (· -k))
   have hs1:∀ys∈xss.take k,ys.length≤8:=fun ys hy=>hs ys (List.mem_of_mem_take hy)
   have hs2:∀ys∈xss.drop k,ys.length≤8:=fun ys hy=>hs ys (List.mem_of_mem_drop hy)
   have w1:=pr_wlen (xss:=xss.take k) fun ys hy=>⟨hs1 ys hy,hD ys (List.mem_of_mem_take hy)⟩
   have w2:=pr_wlen (xss:=xss.drop k) fun ys hy=>⟨hs2 ys hy,hD ys (List.mem_of_mem_drop hy)⟩
   simp only[go_sem,eqF (show((xss.length:Nat):Int)≠0 by omega),eqF (show((xss.length:Nat):Int)≠1 by omega),e1,e2,two_and]
   refine⟨by omega, .inl (by omega),hl.row, ?_⟩
   refine⟨by omega,by omega,hl.row, ?_⟩
   refine ih (by omega) (by omega) he ht hc1 hs1 hnw fun r1 h1 m1 dp1 hw1 hl1 ht1 hr1=> ?_
   have hl':=hl.monoE (fun hx=>IsD.monoE ht hl1 hx) ht (by omega) hl1
   have hc2':=hc2.monoE (fun hx=>IsD.monoE ht hl1 hx) ht (by omega) hl1
   simp only[go_sem,e1,e2,two_and]
   refine⟨⟨⟨by omega,by omega,hl'.row,trivial⟩,trivial⟩, ?_⟩
   refine ih (by omega) (by omega) (he.monoE ht hl1) ht1 hc2' hs2 hnw fun r2 h2 m2 dp2 hw2 hl2 ht2 hr2=> ?_
   have l02:=hl1.trans hl2
   have hu1:=H.row_lt hw1 ht1
   simp only[go_sem]
   refine Mul2_calls (he.monoE ht l02) ht2 ((hr1.monoE hu hl2).nn (wbig w1 (by omega))) (hr2.nn (wbig w2 (by omega))) (by omega) (by omega) (by omega) fun r3 h3 m3 dp3 hw3 hl3 ht3 _ hr3=> ?_
   rw[←pr_cut] at hr3
   simp only[go_sem]
   exact fun hw'=>hk r3 h3 _ _ hw' (l02.trans hl3) ht3 (hr3.base l02.1)
end
def Kp (b u:Nat) (h h':H):Prop:=h.next≤h'.next∧∀j r,j≠u→(j<b∨r.own=some 47)→h.rows j=some r→h'.rows j=some r
theorem Kp.refl (b u:Nat) (h:H):Kp b u h h:=⟨Nat.le_refl _,fun _ _ _ _ e=>e⟩
theorem Kp.trans {b u:Nat} {h1 h2 h3:H} (h:Kp b u h1 h2) (k:Kp b u h2 h3):Kp b u h1 h3:=⟨Nat.le_trans h.1 k.1,fun j r hj ho e=>k.2 j r hj ho (h.2 j r hj ho e)⟩
theorem H.lee.kp {b u:Nat} {h h':H} (hl:H.lee u h h'):Kp b u h h':=⟨hl.1,fun j r hj _ e=>hl.2 j r hj e⟩
theorem Kp.lee {u:Nat} {a h h':H} (ha:a.wf) (hl:H.lee u a h) (hk:Kp a.next u h h'):H.lee u a h':=⟨Nat.le_trans hl.1 hk.1,fun j r hj e=>hk.2 j r hj (.inl (H.row_lt ha e)) (hl.2 j r hj e)⟩
theorem Nf.keepW {b x:Nat} {h h':H} {v:AV} (hk:∀j q,q.own=some 47→h.rows j=some q→h'.rows j=some q) (hv:Nf b h v x):Nf b h' v x:=by
 obtain⟨xs,⟨id,c,rfl,h1⟩,h2⟩:=hv
 refine⟨xs,⟨id,c,rfl, ?_⟩,h2⟩
 rcases h1 with h1|⟨j,q,rfl,hb,hq,hqo,h3⟩
 ·exact .inl h1
 ·exact .inr ⟨j,q,rfl,hb,hk j q hqo hq,hqo,h3⟩
theorem Nf.kp {b c u x:Nat} {h h':H} {v:AV} (hv:Nf c h v x) (hk:Kp b u h h') (hu:∀r,h.rows u=some r→r.own≠some 47):Nf c h' v x:=
 hv.keepW fun j q ho e=>hk.2 j q (fun ej=>hu q (by rw[←ej];exact e) ho) (.inr ho) e
theorem Tune.ty {u m nw dp:Nat} {t:Tb} {h:H} (ht:Tune h u m nw dp t):∀r,h.rows u=some r→r.own≠some 47:=by
 intro r e
 rw[ht] at e
 injection e with e
 subst e
 show some 82≠_
 decide
theorem Live.io_row {b n:Nat} {h:H} {io c:Option Nat} {xs:List Nat} (hv:Live 30 1 b (NfL b) h (.sl io 0 n c) xs):∀j,io=some j→b≤j∧∃r,h.rows j=some r∧r.own=some 30:=by
 obtain⟨io',c',cs,e,⟨_,id2,c2,e2,h3⟩,_⟩:=hv
 injection e2 with e2
 subst e2
 rintro j rfl
 rcases h3 with⟨h0,_⟩|⟨i,q,h0,hb,hq,ho,_⟩
 ·cases h0
 ·injection h0 with h0
  subst h0
  exact⟨hb,q,hq,ho⟩
theorem Live.setB {b i:Nat} {h:H} {v:AV} {r0 r:Row} {xs:List Nat} (hv:Live 30 1 b (NfL b) h v xs) (hr:h.rows i=some r0) (ho:r0.own=some 91):Live 30 1 b (NfL b) (h.set i r) v xs:=by
 obtain⟨io,c,cs,rfl,⟨q1,id2,c2,e2,h3⟩,hc⟩:=hv
 injection e2 with e2 _ _ e4
 subst e2;subst e4
 refine⟨io,c,cs,rfl,⟨q1,io,c,rfl, ?_⟩,hc.mono ?_⟩
 ·rcases h3 with h3|⟨j,q,h0,hb,hq,hqo,h4⟩
  ·exact .inl h3
  ·refine .inr ⟨j,q,h0,hb, ?_,hqo,h4⟩
   rw[H.rows_set_ne ?_]
   ·exact hq
   ·rintro rfl
    rw[hr] at hq
    injection hq with hq
    rw[←hq,ho] at hqo
    injection hqo with hqo
    exact absurd hqo (by decide)
 ·rintro l x ⟨w,rfl,hw⟩
  refine⟨w,rfl,hw.keepW fun j q hqo e=> ?_⟩
  simp only[H.del] at e⊢
  split at e
  ·cases e
  ·rename_i hj
   rw[if_neg hj,H.rows_set_ne ?_]
   ·exact e
   ·rintro rfl
    rw[hr] at e
    injection e with e
    rw[←e,ho] at hqo
    injection hqo with hqo
    exact absurd hqo (by decide)
theorem Kp.app {b u:Nat} {h h':H} {io:Option Nat} (hl:(h.del io).le h') (hio:∀j,io=some j→b≤j∧∃r,h.rows j=some r∧r.own=some 30):Kp b u h h':=
 ⟨hl.1,fun j r _ ho e=>hl.2 j r (by
  simp only[H.del]
  rw[if_neg ?_]
  ·exact e
  ·intro ej
   obtain⟨h1,r',h2,h3⟩:=hio j ej.symm
   rcases ho with ho|ho
   ·omega
   ·rw[e] at h2
    injection h2 with h2
    rw[←h2,ho] at h3
    injection h3 with h3
    exact absurd h3 (by decide))⟩
theorem Kp.set {b u i:Nat} {h:H} {r0:Row} (hb:b≤i) (hr:h.rows i=some r0) (ho:r0.own=some 91) (r:Row):Kp b u h (h.set i r):=
 ⟨Nat.le_refl _,fun j q _ hq e=>by
  rw[H.rows_set_ne ?_]
  ·exact e
  ·rintro rfl
   rcases hq with hq|hq
   ·omega
   ·rw[hr] at e
    injection e with e
    rw[←e,ho] at hq
    injection hq with hq
    exact absurd hq (by decide)⟩
section
variable {e u m00 nw dp00 i:Nat} {t:Tb} {a0:H}
set_option maxHeartbeats 2000000 in
theorem down_calls (hT:TbOK t) (hw0:a0.wf) (he0:Eng 7 a0 e u) (ht0:Tune a0 u m00 nw dp00 t) (hi:a0.next≤i) (hnw:nw≤500000000):
  ∀(n:Nat) {h:H} {m dp A:Nat} {va vl v:AV} {yss:List (List Nat)} {xs:List Nat} {K:AV→H→Prop},yss.length≤n→yss.length≤64→H.lee u a0 h→Tune h u m nw dp t→(∀g,Kp a0.next u h g→Nn g va A)→wlen A≤2000→IsA 1 IsD a0 vl yss→(∀ys∈yss,0<val 18446744073709551616 ys∧ys.length≤8)→
  h.rows i=some ⟨some 91,1,[v]⟩→Live 30 1 a0.next (NfL a0.next) h v xs→xs.length+yss.length≤1000→
  (∀h' m' dp' v',h'.wf→Kp a0.next u h h'→Tune h' u m' nw dp' t→h'.rows i=some ⟨some 91,1,[v']⟩→Live 30 1 a0.next (NfL a0.next) h' v' (xs++yss.map fun ys=>A%val 18446744073709551616 ys)→K (.tup []) h')→
  ACalls Tryz.prog 96 [.ptr (some (e,0)),va,vl, .ptr (some (i,0))] h K:=by
 have hu0:=H.row_lt hw0 ht0
 have hiu:i≠u:=by omega
 intro n
 induction n with
 |zero=>
  intro h m dp A va vl v yss xs K hn h64 hlee ht hA wA hl hys hr hv hxs hk
  obtain rfl:yss=[]:=List.eq_nil_of_length_eq_zero (by omega)
  obtain⟨id,off,c,rfl⟩:=hl.form
  refine in_div_Engine_down (by simp) fun hw=> ?_
  unfold c_div_Engine_down
  simp only[go_sem,eqT (show((([]:List (List Nat)).length:Nat):Int)=0 from rfl)]
  exact fun hw'=>hk h _ _ v hw' (Kp.refl _ _ _) ht hr (by simpa using hv)
 |succ n ih=>
  intro h m dp A va vl v yss xs K hn h64 hlee ht hA wA hl hys hr hv hxs hk
  obtain⟨id,off,c,rfl⟩:=hl.form
  refine in_div_Engine_down (by simp) fun hw=> ?_
  unfold c_div_Engine_down
  have he:=he0.monoE ht0 hlee
  have hlh:=hl.monoE (fun hx=>IsD.monoE ht0 hlee hx) ht0 (by omega) hlee
  have hb:a0.next≤h.next:=hlee.1
  have bA:Big A:=wbig wA (by omega)
  have hul:=H.row_lt hw ht
  rcases Nat.lt_or_ge yss.length 2 with c1|c1
  ·match yss,c1 with
   |[],_=>
    simp only[go_sem,eqT (show((([]:List (List Nat)).length:Nat):Int)=0 from rfl)]
    exact fun hw'=>hk h _ _ v hw' (Kp.refl _ _ _) ht hr (by simpa using hv)
   |[ys],_=>
    obtain⟨ii,a,rfl,_,hg,ha⟩:=hlh.at1 (j:=0) (by simp)
    obtain⟨hy0,hy8⟩:=hys ys (by simp)
    obtain⟨hn,hyd⟩:=isd_nn (show IsD h [a] ys from ha) hy8
    have wy:wlen (val 18446744073709551616 ys)≤8:=Nat.le_trans (wlen_len hyd) hy8
    simp only[go_sem,eqF (show((([ys]:List (List Nat)).length:Nat):Int)≠0 by simp),eqT (show((([ys]:List (List Nat)).length:Nat):Int)=1 from rfl)]
    refine⟨by simp,by simp, ?_⟩
    simp only[go_sem,hg]
    refine DivMod2_calls hT he ht (hA h (Kp.refl _ _ _)) hn (by omega) (by omega) (by omega) (fun h0=>absurd h0 (by omega)) fun _ q r h1 m1 dp1 hw1 hl1 ht1 _ _ hrr=> ?_
    have hr1:=hl1.2 _ _ hiu hr
    have hv1:=hv.monoE (fun⟨v,e,hx⟩ hl=>⟨v,e,hx.monoE hu0 hl⟩) hu0 hl1
    obtain⟨io,co,ev⟩:=hv1.form
    subst ev
    have hio:=hv1.io_row
    have hiol:=hv.io_lt hw
    have g1:h1.get i 0=some (.sl io 0 xs.length co):=by rw[H.get_of hr1];rfl
    simp only[go_sem,g1,k_lit1 hrr.one]
    refine Live.app2 NfL.grows (by omega) hw1 (Nat.le_trans hb hl1.1) hv1 rfl (y:=A%val 18446744073709551616 ys) ⟨r,rfl,(hrr.del fun j hj=>hiol j hj).base hb⟩ rfl (by simp[hrr.one]) (by omega) (by simp at hxs;omega) rfl fun v2 h2 hw2 hl2 hs2=> ?_
    have hk12:=Kp.app (b:=a0.next) (u:=u) hl2 hio
    have hr2:h2.rows i=some ⟨some 91,1,[.sl io 0 xs.length co]⟩:=hl2.2 _ _ (by
     simp only[H.del]
     rw[if_neg ?_]
     ·exact hr1
     ·intro ej
      obtain⟨_,r',h2',h3⟩:=hio i ej.symm
      rw[hr1] at h2'
      injection h2' with h2'
      rw[←h2'] at h3
      injection h3 with h3
      exact absurd h3 (by decide))
    have ht2:Tune h2 u m1 nw dp1 t:=hl2.2 _ _ (by
     simp only[H.del]
     rw[if_neg ?_]
     ·exact ht1
     ·intro ej
      obtain⟨h5,_⟩:=hio u ej.symm
      omega)
    obtain⟨io2,co2,ev2⟩:=hs2.form
    subst ev2
    simp only[go_sem,hr2]
    refine⟨by simp,by simp, ?_⟩
    have hset:=H.rows_set h2 i ⟨some 91,1,putAt [.sl io 0 xs.length co] 0 [.sl io2 0 (xs++[A%val 18446744073709551616 ys]).length co2]⟩
    refine fun hw'=>hk _ m1 dp1 (.sl io2 0 (xs++[A%val 18446744073709551616 ys]).length co2) hw' ((hl1.kp.trans hk12).trans (Kp.set hi hr2 rfl _)) ?_ hset (hs2.setB hr2 rfl)
    unfold Tune
    rw[H.rows_set_ne (by omega)]
    exact ht2
  ·obtain⟨k,hkk⟩:∃k,k=yss.length/2:=⟨_,rfl⟩
   have e1:((yss.length:Nat):Int).tdiv 2=(k:Int):=by rw[hkk];exact tdivN (a:=yss.length) (b:=2)
   have e2:=wNI (n:=k) (by omega)
   have hlen1:(yss.take k).length=k:=by rw[List.length_take];omega
   have hlen2:(yss.drop k).length=yss.length-k:=by rw[List.length_drop]
   obtain⟨hc1,hc2⟩:=isA_cuts hl (k:=k) (by omega) c (c.map (· -k))
   have hD:=isA_dig hl
   have wp:=pr_wlen (xss:=yss) fun ys hy=>⟨(hys ys hy).2,hD ys hy⟩
   have bp:Big (pr yss):=wbig wp (by omega)
   have hp0:=pr_pos (xss:=yss) fun ys hy=>(hys ys hy).1
   obtain⟨f,rfl,rfl,G,E⟩:=Eng.path ht he
   have l0:=H.lee_refl (f 7) h
   simp only[go_sem,eqF (show((yss.length:Nat):Int)≠0 by omega),eqF (show((yss.length:Nat):Int)≠1 by omega),G 0 (by omega) _ l0,G 1 (by omega) _ l0,G 2 (by omega) _ l0]
   refine Product_calls yss.length (Nat.le_refl _) h64 (E 3 (by omega)) ht hlh (fun ys hy=>(hys ys hy).2) (by omega) fun p h1 m1 dp1 hw1 hl1 ht1 hp=> ?_
   simp only[go_sem]
   refine lCmp_calls (hA h1 hl1.kp) (hp.nn bp) ?_
   simp only[go_sem]
   refine cond_cut (fun ρ' h2=>h2.wf∧Kp a0.next (f 7) h h2∧(∃m dp,Tune h2 (f 7) m nw dp t)∧h2.rows i=some ⟨some 91,1,[v]⟩∧Live 30 1 a0.next (NfL a0.next) h2 v xs∧ρ' 0= .ptr (some (f 0,0))∧ρ' 2= .sl id off yss.length c∧ρ' 3= .ptr (some (i,0))∧∃A',(∀g,Kp a0.next (f 7) h2 g→Nn g (ρ' 1) A')∧wlen A'≤2000∧∀ys∈yss,A'%val 18446744073709551616 ys=A%val 18446744073709551616 ys) ?_ ?_
   ·have hv1:=hv.monoE (fun⟨v,e,hx⟩ hl=>⟨v,e,hx.monoE hu0 hl⟩) hu0 hl1
    rcases Nat.lt_or_ge A (pr yss) with c2|c2
    ·simp only[go_sem,show decide (cmpI A (pr yss)≥0)=false by unfold cmpI;rw[if_pos c2];rfl]
     exact⟨hw1,hl1.kp,⟨_,_,ht1⟩,hl1.2 _ _ hiu hr,hv1,trivial,trivial,trivial,A,fun g hg=>hA g (hl1.kp.trans hg),wA,fun _ _=>rfl⟩
    ·simp only[go_sem,show decide (cmpI A (pr yss)≥0)=true by unfold cmpI;rw[if_neg (by omega)];split<;>rfl]
     refine DivMod2_calls hT (he.monoE ht hl1) ht1 (hA h1 hl1.kp) (hp.nn bp) (by omega) (by omega) (by omega) (fun h0=>absurd h0 (by omega)) fun _ q r h2 m2 dp2 hw2 hl2 ht2 _ _ hrr=> ?_
     have l02:=hl1.trans hl2
     have hv2:=hv1.monoE (fun⟨v,e,hx⟩ hl=>⟨v,e,hx.monoE hu0 hl⟩) hu0 hl2
     have hlt:=Nat.mod_lt A hp0
     simp only[go_sem]
     refine⟨hw2,l02.kp,⟨_,_,ht2⟩,l02.2 _ _ hiu hr,hv2,trivial,trivial,trivial,A%pr yss,fun g hg=>(hrr.kp hg ht2.ty).nn (bp.le (Nat.le_of_lt hlt)),Nat.le_trans (wlen_mono (Nat.le_of_lt hlt)) (by omega),fun ys hy=>Nat.mod_mod_of_dvd _ (pr_dvd hy)⟩
   rintro ρ h2 ⟨hw2,hk2,⟨m2,dp2,ht2⟩,hr2,hv2,q0,q2,q3,A',hA',wA',hAA⟩
   have hlee2:=hk2.lee hw0 hlee
   have hl2:=hl.monoE (fun hx=>IsD.monoE ht0 hlee2 hx) ht0 (by omega) hlee2
   simp only[go_sem,q0,q2,q3,e1,e2,two_and]
   refine⟨by omega, .inl (by omega),hl2.row, ?_⟩
   refine ih (by omega) (by omega) hlee2 ht2 hA' wA' hc1 (fun ys hy=>hys ys (List.mem_of_mem_take hy)) hr2 hv2 (by omega) fun h3 m3 dp3 v3 hw3 hk3 ht3 hr3 hv3=> ?_
   have hlee3:=hk3.lee hw0 hlee2
   have hl3:=hl.monoE (fun hx=>IsD.monoE ht0 hlee3 hx) ht0 (by omega) hlee3
   simp only[go_sem,q0,q2,q3,e1,e2,two_and]
   refine⟨by omega,by omega,hl3.row, ?_⟩
   refine ih (by omega) (by omega) hlee3 ht3 (fun g hg=>hA' g (hk3.trans hg)) wA' hc2 (fun ys hy=>hys ys (List.mem_of_mem_drop hy)) hr3 hv3 (by simp;omega) fun h4 m4 dp4 v4 hw4 hk4 ht4 hr4 hv4=> ?_
   simp only[go_sem]
   refine fun hw'=>hk h4 m4 dp4 v4 hw' ((hk2.trans hk3).trans hk4) ht4 hr4 ?_
   have e3:(yss.take k).map (fun ys=>A'%val 18446744073709551616 ys)++(yss.drop k).map (fun ys=>A'%val 18446744073709551616 ys)=yss.map fun ys=>A%val 18446744073709551616 ys:=by
    rw[←List.map_append,List.take_append_drop]
    exact List.map_congr_left hAA
   rw[List.append_assoc,e3] at hv4
   exact hv4
end
end
section
set_option maxRecDepth 100000
section
variable {e u m nw dp A:Nat} {t:Tb} {va vl:AV} {yss:List (List Nat)} {h:H} {K:AV→H→Prop}
def ModRes (b:Nat) (h:H) (A:Nat) (yss:List (List Nat)) (x:AV) (f:Int):Prop:=
 ((∃ys∈yss,val 18446744073709551616 ys=0)∧x= .sl none 0 0 none∧f=2)∨((∀ys∈yss,0<val 18446744073709551616 ys)∧IsA 1 (NfL b) h x (yss.map fun ys=>A%val 18446744073709551616 ys)∧f=0)
theorem dMod_calls (hT:TbOK t) (he:Eng 7 h e u) (ht:Tune h u m nw dp t) (na:Nn h va A) (wA:wlen A≤2000) (hl:IsA 1 IsD h vl yss) (hlen:yss.length≤64) (hsm:∀ys∈yss,ys.length≤8) (hnw:nw≤500000000)
  (hk:∀x f h' m' dp',h'.wf→H.lee u h h'→Tune h' u m' nw dp' t→ModRes h.next h' A yss x f→K (.tup [x, .int .i64 f]) h'):
  ACalls Tryz.prog 53 [.ptr (some (e,0)),va,vl] h K:=by
 obtain⟨id,off,c,rfl⟩:=hl.form
 refine in_div_Engine_Mod (by simp) fun hw=> ?_
 unfold c_div_Engine_Mod
 have hu:=H.row_lt hw ht
 simp only[go_sem]
 refine loop_cut (fun ρ h'=>h'=h∧ρ 0= .ptr (some (e,0))∧ρ 1=va∧ρ 2= .sl id off yss.length c∧∀ys∈yss,0<val 18446744073709551616 ys) ?_ ?_
 ·refine for_rule (fun i ρ h'=>i≤yss.length∧h'=h∧ρ 0= .ptr (some (e,0))∧ρ 1=va∧ρ 2= .sl id off yss.length c∧ρ 11= .sl id off yss.length c∧ρ 12= .int .i64 (yss.length:Int)∧ρ 13= .int .i64 (i:Int)∧∀ys∈yss.take i,0<val 18446744073709551616 ys) yss.length ⟨by omega,rfl,by first|rfl|trivial|assumption,by first|rfl|trivial|assumption,by first|rfl|trivial|assumption,by first|rfl|trivial|assumption,by first|rfl|trivial|assumption,by first|rfl|trivial|assumption,by simp⟩ (fun i ρ h hI=>hI.1) ?_
  rintro i ρ h' ⟨hi,rfl,q0,q1,q2,q11,q12,q13,hpos⟩
  rcases Nat.lt_or_ge i yss.length with h1|h1
  ·obtain⟨ii,a,rfl,_,hg,ha⟩:=hl.at1 h1
   have hn:=(isd_nn ha (hsm _ (List.getElem_mem h1))).1
   simp only[go_sem,q0,q1,q2,q11,q12,q13,ltT h1]
   refine⟨by omega,by omega, ?_⟩
   simp only[go_sem,hg]
   refine Zero_calls hn ?_
   by_cases hz:val 18446744073709551616 yss[i]=0
   ·simp only[go_sem,decide_eq_true hz]
    exact fun hw'=>hk _ _ h' _ _ hw' (H.lee_refl _ _) ht (.inl ⟨⟨_,List.getElem_mem h1,hz⟩,rfl,rfl⟩)
   ·simp only[go_sem,decide_eq_false hz,q0,q1,q2,q11,q12,q13,incI (i:=i) (by omega)]
    refine⟨by omega,by first|rfl|trivial|assumption,by first|rfl|trivial|assumption,by first|rfl|trivial|assumption,by first|rfl|trivial|assumption,by first|rfl|trivial|assumption,by first|rfl|trivial|assumption,by first|rfl|trivial|assumption,fun ys hy=> ?_⟩
    rw[List.take_succ_eq_append_getElem h1] at hy
    rcases List.mem_append.1 hy with hy|hy
    ·exact hpos ys hy
    ·simp at hy;subst hy;omega
  ·simp only[go_sem,q0,q1,q2,q11,q12,q13,ltF h1]
   rw[List.take_of_length_le h1] at hpos
   exact⟨trivial,trivial,trivial,trivial,hpos⟩
 ·rintro ρ h' ⟨rfl,q0,q1,q2,hpos⟩
  have hl1:=H.le_new hw (H.le_refl h') ⟨some 91,1,[.sl none 0 0 none]⟩
  have hw1:=H.wf_new hw ⟨some 91,1,[.sl none 0 0 none]⟩
  have hr1:=H.rows_new h' ⟨some 91,1,[.sl none 0 0 none]⟩
  simp only[go_sem,q0,q1,q2]
  simp only[List.length_cons,List.length_nil,Nat.zero_add]
  refine down_calls (i:=h'.next) hT hw he ht (Nat.le_refl _) hnw yss.length (Nat.le_refl _) hlen hl1.lee (ht.mono hl1) (fun g hg=>na.monoE' ht (hg.lee hw hl1.lee)) wA hl (fun ys hy=>⟨hpos ys hy,hsm ys hy⟩) hr1 (Live.nil _ _ _ _ _ _) (by simp;omega) fun h2 m2 dp2 v2 hw2 hk2 ht2 hr2 hv2=> ?_
  have g2:h2.get h'.next 0=some v2:=by rw[H.get_of hr2];rfl
  simp only[go_sem,g2]
  exact fun hw'=>hk _ _ h2 _ _ hw' (hk2.lee hw hl1.lee) ht2 (.inr ⟨hpos,by simpa using hv2.isA NfL.grows,rfl⟩)
theorem Divides_calls (hT:TbOK t) (he:Eng 7 h e u) (ht:Tune h u m nw dp t) (na:Nn h va A) (wA:wlen A≤2000) (hl:IsA 1 IsD h vl yss) (hlen:yss.length≤64) (hsm:∀ys∈yss,ys.length≤8) (hnw:nw≤500000000)
  (hk:∀b f h' m' dp',h'.wf→H.lee u h h'→Tune h' u m' nw dp' t→(A=0→b=false∧f=2)→(0<A→f=0∧(b=true↔∀ys∈yss,val 18446744073709551616 ys%A=0))→K (.tup [.bool b, .int .i64 f]) h'):
  ACalls Tryz.prog 55 [.ptr (some (e,0)),va,vl] h K:=by
 obtain⟨id,off,c,rfl⟩:=hl.form
 have bA:Big A:=wbig wA (by omega)
 refine in_div_Engine_Divides (by simp) fun hw=> ?_
 unfold c_div_Engine_Divides
 have hu:=H.row_lt hw ht
 simp only[go_sem]
 refine Zero_calls na ?_
 rcases Nat.eq_zero_or_pos A with h0|h0
 ·simp only[go_sem,decide_eq_true h0]
  exact fun hw'=>hk _ _ h _ _ hw' (H.lee_refl _ _) ht (fun _=>⟨rfl,rfl⟩) (fun h=>absurd h (by omega))
 simp only[go_sem,decide_eq_false (show¬A=0 by omega)]
 refine for_rule (fun i ρ h2=>i≤yss.length∧h2.wf∧H.lee u h h2∧(∃m dp,Tune h2 u m nw dp t)∧ρ 0= .ptr (some (e,0))∧ρ 1=va∧ρ 15= .sl id off yss.length c∧ρ 16= .int .i64 (yss.length:Int)∧ρ 17= .int .i64 (i:Int)∧∀ys∈yss.take i,val 18446744073709551616 ys%A=0) yss.length
  ⟨by omega,hw,H.lee_refl _ _,⟨_,_,ht⟩,by first|rfl|trivial|assumption,by first|rfl|trivial|assumption,by first|rfl|trivial|assumption,by first|rfl|trivial|assumption,by first|rfl|trivial|assumption,by simp⟩ (fun i ρ h hI=>hI.1) ?_
 rintro i ρ h2 ⟨hi,hw2,hle,⟨m2,dp2,ht2⟩,q0,q1,q15,q16,q17,hall⟩
 rcases Nat.lt_or_ge i yss.length with h1|h1
 ·have hl2:=hl.monoE (fun hx=>IsD.monoE ht hle hx) ht (by omega) hle
  obtain⟨ii,a,rfl,_,hg,ha⟩:=hl2.at1 h1
  have h8:=hsm _ (List.getElem_mem h1)
  obtain⟨hn,hnd⟩:=isd_nn ha h8
  have wy:wlen (val 18446744073709551616 yss[i])≤8:=Nat.le_trans (wlen_len hnd) h8
  simp only[go_sem,q0,q1,q15,q16,q17,ltT h1]
  refine⟨by omega,by omega, ?_⟩
  simp only[go_sem,hg,q0,q1]
  refine DivMod2_calls hT (he.monoE ht hle) ht2 hn (na.monoE' ht hle) (by omega) (by omega) (by omega) (fun hz=>absurd hz (by omega)) fun _ q r h3 m3 dp3 hw3 hl3 ht3 _ _ hr=> ?_
  have l3:=hle.trans hl3
  simp only[go_sem]
  refine Zero_calls (hr.nn (bA.le (Nat.le_of_lt (Nat.mod_lt _ h0)))) ?_
  by_cases hz:val 18446744073709551616 yss[i]%A=0
  ·simp only[go_sem,decide_eq_true hz,Bool.not_true,q0,q1,q15,q16,q17,incI (i:=i) (by omega)]
   refine⟨by omega,hw3,l3,⟨_,_,ht3⟩,by first|rfl|trivial|assumption,by first|rfl|trivial|assumption,by first|rfl|trivial|assumption,by first|rfl|trivial|assumption,by first|rfl|trivial|assumption,fun ys hy=> ?_⟩
   rw[List.take_succ_eq_append_getElem h1] at hy
   rcases List.mem_append.1 hy with hy|hy
   ·exact hall ys hy
   ·simp at hy;subst hy;exact hz
  ·simp only[go_sem,decide_eq_false hz,Bool.not_false]
   exact fun hw'=>hk _ _ h3 _ _ hw' l3 ht3 (fun h=>absurd h (by omega)) (fun _=>⟨rfl,by simp;exact⟨_,List.getElem_mem h1,hz⟩⟩)
 ·rw[List.take_of_length_le h1] at hall
  simp only[go_sem,q0,q1,q15,q16,q17,ltF h1]
  exact fun hw'=>hk _ _ h2 _ _ hw' hle ht2 (fun h=>absurd h (by omega)) (fun _=>⟨rfl,by simpa using hall⟩)
end
set_option maxHeartbeats 2000000 in
theorem DivTrees_law {t:Tb} {va vl:AV} {xs0:List Nat} {yss0:List (List Nat)} {h:H} {K:AV→H→Prop} (hv0:IsN h va xs0) (hx0:Dig xs0) (hu0:IsA 1 IsD h vl yss0) (hk:∀h',h'.wf→K (.bool true) h'):ACalls Tryz.prog 12 [t.av,va,vl] h K:=by
 refine in_law15_DivTrees (by simp) fun hw=> ?_
 unfold c_law15_DivTrees
 have hl0:=H.le_new hw (H.le_refl h) ⟨some 23,11,t.cells⟩
 have hr0:=H.rows_new h ⟨some 23,11,t.cells⟩
 simp only[go_sem,av_held,av_cells,cells_len,true_and]
 generalize hg:h.new ⟨some 23,11,t.cells⟩=g0 at*
 refine Cut_calls (n:=30) (hv0.mono hl0) fun a ha=> ?_
 simp only[go_sem]
 refine Cuts_calls (k:=9) (n:=8) (hu0.mono IsD.grows hl0) (by omega) fun l g1 hw1 hl1 hl=> ?_
 have hxd:Dig (xs0.take 30):=Dig.take hx0 30
 have hxl:(xs0.take 30).length≤30:=by simp;omega
 have hyl:((yss0.take 9).map (·.take 8)).length≤9:=by simp;omega
 have hys:∀ys∈(yss0.take 9).map (·.take 8),ys.length≤8:=by
  intro ys hm
  obtain⟨zs,_,rfl⟩:=List.mem_map.1 hm
  simp;omega
 generalize xs0.take 30=xs at*
 generalize (yss0.take 9).map (·.take 8)=yss at*
 have ha1:=ha.mono hl1
 simp only[go_sem,gsT (hl1.2 _ _ hr0)]
 refine diNew_calls fun e u g2 hw2 hl2 hn2 hue he ht=> ?_
 have na2:=(ha1.mono hl2).nn hxd (by omega)
 have hL2:=hl.mono IsD.grows hl2
 have wA:wlen (val 18446744073709551616 xs)≤30:=Nat.le_trans (wlen_len hxd) hxl
 have bA:Big (val 18446744073709551616 xs):=wbig wA (by omega)
 clear ha ha1 hxd hxl hv0 hu0
 generalize val 18446744073709551616 xs=A at*
 obtain⟨il,ol,cl,rfl⟩:=hl.form
 simp only[go_sem,Option.isNone,Bool.false_bne]
 refine Nats_calls hL2 (by omega) fun nl g3 hw3 hl3 hnl=> ?_
 have na3:=na2.mono hl3
 have hL3:=hL2.mono IsD.grows hl3
 have ht3:=ht.mono hl3
 have he3:=he.mono hl3
 simp only[go_sem]
 refine dMod_calls (clamp_ok _) he3 ht3 na3 (by omega) hnl (by omega) hys (by omega) fun x f g4 m4 dp4 hw4 hl4 ht4 hres=> ?_
 have na4:=na3.monoE' ht3 hl4
 have hL4:=hL3.monoE (fun hx=>IsD.monoE ht3 hl4 hx) ht3 (by omega) hl4
 have he4:=he3.monoE ht3 hl4
 have hu3:=H.row_lt hw3 ht3
 simp only[go_sem]
 refine Nats_calls hL4 (by omega) fun nl2 g5 hw5 hl5 hnl2=> ?_
 have na5:=na4.mono hl5
 have hL5:=hL4.mono IsD.grows hl5
 have ht5:=ht4.mono hl5
 simp only[go_sem]
 refine Divides_calls (clamp_ok _) (he4.mono hl5) ht5 na5 (by omega) hnl2 (by omega) hys (by omega) fun all gi g6 m6 dp6 hw6 hl6 ht6 hd0 hd1=> ?_
 have na6:=na5.monoE' ht5 hl6
 have hL6:=hL5.monoE (fun hx=>IsD.monoE ht5 hl6 hx) ht5 (by omega) hl6
 have hres6:ModRes g3.next g6 A yss x f:=by
  rcases hres with h1|⟨h1,h2,h3⟩
  ·exact .inl h1
  ·exact .inr ⟨h1,(h2.mono NfL.grows hl5).monoE (fun⟨v,e,hx⟩=>⟨v,e,hx.monoE hu3 hl6⟩) ht5 (by omega) hl6,h3⟩
 clear hres hL2 hL3 hL4 hL5 na2 na3 na4 na5 hnl hnl2
 simp only[go_sem]
 refine words15_calls na6 ?_
 have hbA:∀ys∈yss,Big (val 18446744073709551616 ys):=fun ys hy=>Dig.big (isA_dig hL6 ys hy) (by have:=hys ys hy;omega)
 simp only[go_sem]
 refine loop_cut (fun ρ h'=>h'.wf∧g6.le h'∧ρ 1=a∧ρ 2= .sl il ol yss.length cl∧ρ 8=x∧ρ 9= .int .i64 f∧ρ 10= .bool all∧ρ 11= .int .i64 gi∧∃b,ρ 12= .bool b∧(b=true↔0<A∧∀ys∈yss,val 18446744073709551616 ys%A=0)) ?_ ?_
 ·refine for_rule (fun i ρ h'=>i≤yss.length∧h'.wf∧g6.le h'∧ρ 1=a∧ρ 2= .sl il ol yss.length cl∧ρ 8=x∧ρ 9= .int .i64 f∧ρ 10= .bool all∧ρ 11= .int .i64 gi∧ρ 13= .int .i64 (i:Int)∧∃b,ρ 12= .bool b∧(b=true↔0<A∧∀ys∈yss.take i,val 18446744073709551616 ys%A=0)) yss.length
   ⟨by omega,hw6,H.le_refl _,by first|rfl|trivial|assumption,by first|rfl|trivial|assumption,by first|rfl|trivial|assumption,by first|rfl|trivial|assumption,by first|rfl|trivial|assumption,by first|rfl|trivial|assumption,by first|rfl|trivial|assumption,_,rfl,by
    have:=wlen_eq_zero (x:=A)
    simp
    omega⟩ (fun i ρ h hI=>hI.1) ?_
  rintro i ρ h' ⟨hi,hw',hle,q1,q2,q8,q9,q10,q11,q13,b,q12,hb⟩
  rcases Nat.lt_or_ge i yss.length with h1|h1
  ·cases b with
   |false=>
    simp only[go_sem,q1,q2,q8,q9,q10,q11,q12,q13,ltT h1]
    refine⟨hw',hle,by first|rfl|trivial|assumption,by first|rfl|trivial|assumption,by first|rfl|trivial|assumption,by first|rfl|trivial|assumption,by first|rfl|trivial|assumption,by first|rfl|trivial|assumption,false,by first|rfl|trivial|assumption, ?_⟩
    constructor
    ·intro h2;cases h2
    ·rintro⟨h2,h3⟩
     exact hb.2 ⟨h2,fun ys hy=>h3 ys (List.mem_of_mem_take hy)⟩
   |true=>
    obtain⟨hA0,hall⟩:=hb.1 rfl
    obtain⟨ii,av,rfl,_,hgv,hav⟩:=(hL6.mono IsD.grows hle).at1 h1
    have hm:=List.getElem_mem h1
    obtain⟨hn,_⟩:=isd_nn hav (hys _ hm)
    simp only[go_sem,q1,q2,q8,q9,q10,q11,q12,q13,ltT h1]
    refine⟨by omega,by omega, ?_⟩
    simp only[go_sem,hgv,q1]
    refine from15_calls hn fun f1 g7 hw7 hl7 n1=> ?_
    simp only[go_sem,q1]
    refine from15_calls (na6.mono (H.le_trans hle hl7)) fun f2 g8 hw8 hl8 n2=> ?_
    simp only[go_sem]
    refine rMod_calls (n1.mono hl8) n2 (hbA _ hm) bA hA0 fun r g9 hw9 hl9 nr=> ?_
    simp only[go_sem]
    refine rZero_calls nr ?_
    simp only[go_sem,q1,q2,q8,q9,q10,q11,q13,incI (i:=i) (by omega)]
    refine⟨by omega,hw9,(H.le_trans hle (H.le_trans hl7 (H.le_trans hl8 hl9))),by first|rfl|trivial|assumption,by first|rfl|trivial|assumption,by first|rfl|trivial|assumption,by first|rfl|trivial|assumption,by first|rfl|trivial|assumption,by first|rfl|trivial|assumption,by first|rfl|trivial|assumption,_,by first|rfl|trivial|assumption, ?_⟩
    rw[decide_eq_true_iff,List.take_succ_eq_append_getElem h1]
    constructor
    ·intro h2
     refine⟨hA0,fun ys hy=> ?_⟩
     rcases List.mem_append.1 hy with hy|hy
     ·exact hall ys hy
     ·simp at hy;subst hy;exact h2
    ·intro h2
     exact h2.2 _ (List.mem_append.2 (.inr (by simp)))
  ·rw[List.take_of_length_le h1] at hb
   simp only[go_sem,q1,q2,q8,q9,q10,q11,q12,q13,ltF h1]
   exact⟨hw',hle,by first|rfl|trivial|assumption,by first|rfl|trivial|assumption,by first|rfl|trivial|assumption,by first|rfl|trivial|assumption,by first|rfl|trivial|assumption,by first|rfl|trivial|assumption,b,by first|rfl|trivial|assumption,hb⟩
 rintro ρ g7 ⟨hw7,hle7,q1,q2,q8,q9,q10,q11,b,q12,hb⟩
 have na7:=na6.mono hle7
 have hL7:=hL6.mono IsD.grows hle7
 have hres7:ModRes g3.next g7 A yss x f:=by
  rcases hres6 with h1|⟨h1,h2,h3⟩
  ·exact .inl h1
  ·exact .inr ⟨h1,h2.mono NfL.grows hle7,h3⟩
 clear hres6
 obtain⟨idx,offx,nx,cx,ex⟩:∃id off n c,x= .sl id off n c:=by
  rcases hres7 with⟨_,h2,_⟩|⟨_,h2,_⟩
  ·exact⟨_,_,_,_,h2⟩
  ·obtain⟨_,_,_,h3⟩:=h2.form
   exact⟨_,_,_,_,h3⟩
 subst ex
 simp only[go_sem,q1,q2,q8,q9,q10,q11,q12]
 refine words15_calls na7 ?_
 apply two_ways (M:=fun ρ h'=>h'=g7∧ρ 1=a∧ρ 2= .sl il ol yss.length cl∧ρ 8= .sl idx offx nx cx∧ρ 9= .int .i64 f∧∀ys∈yss,0<val 18446744073709551616 ys)
 ·intro rest
  rcases Nat.eq_zero_or_pos A with h0|h0
  case' inl=>
   obtain⟨e1,e2⟩:=hd0 h0
   have e3:b=false:=by
    cases b
    ·rfl
    ·exact absurd (hb.1 rfl).1 (by omega)
   subst e1 e2 e3
   rw[h0,wlen_zero]
   simp only[go_sem,show(((0:Nat):Int)==0)=true from rfl,show((2:Int) !=2)=false from rfl,q1,q2,q8,q9,q10,q11,q12]
   refine words15_calls na7 ?_
   rw[h0,wlen_zero]
   simp only[go_sem,show decide ((0:Int)<((0:Nat):Int))=false from rfl,q1,q2,q8,q9,q10,q11,q12,Bool.false_bne]
  case' inr=>
   obtain⟨e1,e2⟩:=hd1 h0
   have e3:all=b:=by
    rw[Bool.eq_iff_iff,e2,hb]
    exact⟨fun h=>⟨h0,h⟩,fun h=>h.2⟩
   subst e1 e3
   have hwA:wlen A≠0:=fun h=>by have:=wlen_eq_zero.1 h;omega
   simp only[go_sem,eqF (show((wlen A:Nat):Int)≠0 by omega),q1,q2,q8,q9,q10,q11,q12]
   refine words15_calls na7 ?_
   simp only[go_sem,show decide ((0:Int)<((wlen A:Nat):Int))=true from decide_eq_true (by omega),show((0:Int) !=0)=false from rfl,q1,q2,q8,q9,q10,q11,q12,bne_self_eq_false]
  all_goals
   refine loop_cut _ ?_ rest
   refine for_rule (fun i ρ h'=>i≤yss.length∧h'=g7∧ρ 1=a∧ρ 2= .sl il ol yss.length cl∧ρ 8= .sl idx offx nx cx∧ρ 9= .int .i64 f∧ρ 14= .int .i64 (i:Int)∧∀ys∈yss.take i,0<val 18446744073709551616 ys) yss.length ⟨by omega,rfl,by first|rfl|trivial|assumption,by first|rfl|trivial|assumption,by first|rfl|trivial|assumption,by first|rfl|trivial|assumption,by first|rfl|trivial|assumption,by simp⟩ (fun i ρ h hI=>hI.1) ?_
   rintro i ρ h' ⟨hi,rfl,q1,q2,q8,q9,q14,hp⟩
   rcases Nat.lt_or_ge i yss.length with h1|h1
   ·obtain⟨ii,av,rfl,_,hgv,hav⟩:=hL7.at1 h1
    have hm:=List.getElem_mem h1
    simp only[go_sem,q1,q2,q8,q9,q14,ltT h1]
    refine⟨by omega,by omega, ?_⟩
    simp only[go_sem,hgv]
    refine words15_calls (isd_nn hav (hys _ hm)).1 ?_
    by_cases hz0:val 18446744073709551616 yss[i]=0
    ·rw[hz0,wlen_zero]
     rcases hres7 with⟨_,h2,h3⟩|⟨h2,_⟩
     ·injection h2 with _ _ h2
      subst h2 h3
      simp only[go_sem,eqT (show((0:Nat):Int)=0 from rfl),q8,q9,beq_self_eq_true]
      refine wakes15_calls fun g5 hw5 hl5=> ?_
      simp only[go_sem]
      exact fun _=>hk g5 hw5
     ·have:=h2 _ hm
      omega
    ·simp only[go_sem,eqF (show((wlen (val 18446744073709551616 yss[i]):Nat):Int)≠0 by have:=mt wlen_eq_zero.1 hz0;omega),q1,q2,q8,q9,q14,incI (i:=i) (by omega)]
     refine⟨by omega,by first|rfl|trivial|assumption,by first|rfl|trivial|assumption,by first|rfl|trivial|assumption,by first|rfl|trivial|assumption,by first|rfl|trivial|assumption,by first|rfl|trivial|assumption,fun ys hy=> ?_⟩
     rw[List.take_succ_eq_append_getElem h1] at hy
     rcases List.mem_append.1 hy with hy|hy
     ·exact hp ys hy
     ·simp at hy;subst hy;omega
   ·rw[List.take_of_length_le h1] at hp
    simp only[go_sem,q1,q2,q8,q9,q14,ltF h1]
    exact⟨trivial,trivial,trivial,trivial,trivial,hp⟩
 ·rintro ρ h' ⟨rfl,q1,q2,q8,q9,hpos⟩
  rcases hres7 with⟨⟨ys,hm,h2⟩,_⟩|⟨_,hr,h3⟩
  ·have:=hpos ys hm
   omega
  subst h3
  have hlr:(yss.map fun ys=>A%val 18446744073709551616 ys).length=yss.length:=by simp
  obtain⟨_,_,_,e4⟩:=hr.form
  injection e4 with _ _ e4
  rw[hlr] at e4
  subst e4
  simp only[go_sem,q1,q2,q8,q9,show((0:Int) !=0)=false from rfl,bne_self_eq_false]
  refine for_rule (fun i ρ h5=>i≤yss.length∧h5.wf∧h'.le h5∧ρ 1=a∧ρ 2= .sl il ol yss.length cl∧ρ 8= .sl idx offx yss.length cx∧ρ 15= .int .i64 (i:Int)) yss.length ⟨by omega,hw7,H.le_refl _,q1,q2,q8,by first|rfl|trivial|assumption⟩ (fun i ρ h hI=>hI.1) ?_
  rintro i ρ h5 ⟨hi,hw5,hle5,q1,q2,q8,q15⟩
  rcases Nat.lt_or_ge i yss.length with h1|h1
  ·obtain⟨ii,av,rfl,_,hgv,hav⟩:=(hL7.mono IsD.grows hle5).at1 h1
   have hm:=List.getElem_mem h1
   have hz0:=hpos _ hm
   obtain⟨jj,rv,rfl,_,hgr,rv',e,hrv⟩:=(hr.mono NfL.grows hle5).at1 (j:=i) (by rw[hlr];exact h1)
   injection e with e
   subst e
   obtain⟨hn,_⟩:=isd_nn hav (hys _ hm)
   rw[List.getElem_map] at hrv
   simp only[go_sem,q1,q2,q8,q15,ltT h1]
   refine⟨by omega,by omega, ?_⟩
   simp only[go_sem,hgv,q1,q2,q8,q15]
   refine⟨by omega,by omega, ?_⟩
   simp only[go_sem,hgr,q1,q2,q8,q15]
   refine from15_calls (na7.mono hle5) fun fa g8 hw8 hl8 nfa=> ?_
   simp only[go_sem,hgv,H.get_le hl8 hgv,H.get_le hl8 hgr,true_and]
   refine from15_calls (hn.mono hl8) fun fb g9 hw9 hl9 nfb=> ?_
   simp only[go_sem,H.get_le hl9 (H.get_le hl8 hgr),true_and]
   refine rMod_calls (nfa.mono hl9) nfb bA (hbA _ hm) hz0 fun m g10 hw10 hl10 nm=> ?_
   simp only[go_sem,H.get_le hl10 (H.get_le hl9 (H.get_le hl8 hgr)),true_and]
   refine rSame_calls nm (bA.le (Nat.mod_le _ _)) ((hrv.mono (H.le_trans hl8 (H.le_trans hl9 hl10))).nt) fun g11 hw11 hl11=> ?_
   simp only[go_sem,Bool.not_true,q1,q2,q8,q15,incI (i:=i) (by omega)]
   exact⟨by omega,hw11,(H.le_trans hle5 (H.le_trans hl8 (H.le_trans hl9 (H.le_trans hl10 hl11)))),by first|rfl|trivial|assumption,by first|rfl|trivial|assumption,by first|rfl|trivial|assumption,by first|rfl|trivial|assumption⟩
  ·simp only[go_sem,q1,q2,q8,q15,ltF h1]
   refine wakes15_calls fun g8 hw8 hl8=> ?_
   simp only[go_sem]
   exact fun _=>hk g8 hw8
set_option maxRecDepth 100000 in
theorem DivTrees_row (h:H) (avs:List AV) (_:h.wf) (r:ReadsAll Tryz.prog h [23,24,89] avs):ACalls Tryz.prog 12 avs h (fun r _=>r= .bool true):=by
 match avs,r with
 |[_,_,_],⟨r0,r1,r2,_⟩=>
  obtain⟨t0,rfl⟩:=reads_table r0
  obtain⟨xs,h1,hx,_⟩:=reads_words r1
  obtain⟨yss,h2,_⟩:=reads_rows r2
  exact DivTrees_law h1 hx h2 fun _ _=>rfl
end
end Ab
end Go.Proofs.YtdfpgoppcflpjaaGreatDoor
