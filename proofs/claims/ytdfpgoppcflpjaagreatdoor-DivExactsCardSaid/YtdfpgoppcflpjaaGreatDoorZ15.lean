/- Joined texts: J1 I1 J4 J5 J6. No condition. -/
import Derived.Test.YtdfpgoppcflpjaaGreatDoorZ14
import Derived.Test.YtdfpgoppcflpjaaGreatDoorProg
import Derived.KernelRfl
namespace Go.Proofs.YtdfpgoppcflpjaaGreatDoor
namespace Ab
open Go Go.RowKit
set_option linter.unusedSimpArgs false
set_option linter.unusedVariables false
attribute [local go_sem ↓] x_mv x_pick x_bin x_beq x_peq x_seq x_cat x_aeq x_idxS x_idxV x_un x_cvI x_idx x_idxA x_fld x_ld x_st x_nn x_prt x_slc x_mk x_bsl x_bld x_box x_alloc x_len x_capo x_mnx x_app x_cpy x_mkf x_ext x_call x_callV x_bad s_none s_some s_nil s_cons s_chks w_skip w_reg tP_fin tP_no tP_alt w_seq w_cond w_block w_exit w_ret t_normal t_exit t_ret b_normal b_ret b_exit n_normal n_exit n_ret p_normal p_ret f_nil f_t f_c k_ops k_chk k_fin
attribute [local go_sem] e_t e_c e_f u_some u_none u_at env_at k_v k_pick k_add k_sub k_mul k_quo k_rem k_and k_or k_xor k_shl k_shr k_eql k_neq k_lss k_leq k_gtr k_geq k_beq k_peqn k_peqs k_neg k_not k_com k_cvI k_idxS k_idxV1 k_idxVn k_idx k_idxA k_idxG k_ldG k_gld k_seq k_cat k_aeq k_eqs k_fld k_ld1 k_ldn k_get k_gets k_sti k_stb k_stp k_sts k_stf k_sta k_put k_nn k_prt1 k_prtn k_slc_a k_slc_b k_slc_c k_mk k_agg k_bsl k_box k_len k_lenS k_cap k_max k_min k_ext k_callV k_true k_false k_gtt k_gtf k_gft k_gsk k_gff k_lit1i k_lit2i k_lit3i k_c0 k_c1 k_ck List.getElem?_cons_zero List.getElem?_cons_succ List.getElem?_nil Option.getD_some Option.getD_none tupOf List.map_cons List.map_nil Option.map_some Option.map_none List.nil_append List.cons_append List.append_nil Nat.mul_one Int.toNat_natCast Nat.zero_add
attribute [local go_sem] e_t e_c e_f u_some u_none u_at env_at k_v k_pick k_add k_sub k_mul k_quo k_rem k_and k_or k_xor k_shl k_shr k_eql k_neq k_lss k_leq k_gtr k_geq k_beq k_peqn k_peqs k_neg k_not k_com k_cvI k_idxS k_idxV1 k_idxVn k_idx k_idxA k_idxG k_ldG k_gld k_seq k_cat k_aeq k_eqs k_fld k_ld1 k_ldn k_get k_gets k_sti k_stb k_stp k_sts k_stf k_sta k_put k_nn k_prt1 k_prtn k_slc_a k_slc_b k_slc_c k_mk k_agg k_bsl k_box k_len k_lenS k_cap k_max k_min k_ext k_callV k_true k_false k_gtt k_gtf k_gft k_gsk k_gff k_lit1i k_lit2i k_lit3i k_c0 k_c1 k_ck List.getElem?_cons_zero List.getElem?_cons_succ List.getElem?_nil Option.getD_some Option.getD_none tupOf List.map_cons List.map_nil Option.map_some Option.map_none List.nil_append List.cons_append List.append_nil Nat.mul_one Int.toNat_natCast Nat.zero_add
--what a store into a cell of two leaves
attribute [local go_sem_proc] Nat.reduceEqDiff Nat.reduceAdd Int.reduceToNat
attribute [local go_sem_proc ↓] reduceIte
attribute [local go_sem] Bool.false_eq_true
theorem H.le_over {u:Nat} {a b c:H} (hw:a.wf) (h1:a.le b) (hu:a.next≤u) (h2:H.lee u b c):a.le c:=
 ⟨Nat.le_trans h1.1 h2.1,fun i r e=>h2.2 i r (by have:=H.row_lt hw e;omega) (h1.2 i r e)⟩
section
def sg (b:Bool) (x:Nat):Int:=if b=true then-(x:Int) else(x:Int)
theorem g2 {h:H} {i:Nat} {T:Option TypeId} {a b:AV} (hr:h.rows i=some ⟨T,2,[a,b]⟩):h.get i 0=some a∧h.get i 1=some b∧h.gets i 0 2=some [a,b]:=by
 rw[H.get_of hr,H.get_of hr,H.gets_of hr (by simp)]
 exact⟨rfl,rfl,rfl⟩
section
variable {v u wa wb:AV} {ba bb:Bool} {x y:Nat} {h:H} {K:AV→H→Prop}
theorem rZero_calls (nv:Num 4294967296 h v x) (hk:K (.bool (decide (x=0))) h):ACalls Tryz.prog 47 [v] h K:=by
 obtain⟨xs,h1,h2,h3,rfl⟩:=nv
 obtain⟨id,off,c,rfl⟩:=h1.form
 refine in_ref02_Zero (by simp) fun hw=> ?_
 unfold c_ref02_Zero
 have e:((xs.length:Int)==0)=decide (val 4294967296 xs=0):=by
  rw[Bool.eq_iff_iff]
  simp only[beq_iff_eq,decide_eq_true_eq]
  constructor
  ·intro h0
   have:xs=[]:=List.eq_nil_of_length_eq_zero (by omega)
   subst this
   rfl
  ·intro h0
   rcases Nat.eq_zero_or_pos xs.length with h|h
   ·omega
   ·exfalso
    have h4:xs≠ []:=by intro e;subst e;simp at h
    have h5:=val_ge 4294967296 xs h3 h4
    have h6:0<4294967296^(xs.length-1):=Nat.pow_pos (by omega)
    omega
 simp only[go_sem,e]
 exact fun _=>hk
end
end
section
section
variable {va vb:AV} {x y n:Nat} {xs:List Nat} {h:H} {K:AV→H→Prop}
theorem from15_calls (hv:Nn h va x) (hk:∀r h',h'.wf→h.le h'→Num 4294967296 h' r x→K r h'):ACalls Tryz.prog 42 [va] h K:=by
 obtain⟨xs,h1,h2,h3,rfl⟩:=hv
 refine in_law15_from (by simp) fun hw=> ?_
 unfold c_law15_from
 simp only[go_sem]
 refine From_calls h1 h2 (by omega) fun r h' hw' hl' hr=> ?_
 simp only[go_sem]
 exact fun _=>hk r h' hw' hl' hr
theorem words15_calls (hv:Nn h va x) (hk:K (.int .i64 (wlen x:Nat)) h):ACalls Tryz.prog 41 [va] h K:=by
 refine in_law15_words (by simp) fun hw=> ?_
 unfold c_law15_words
 simp only[go_sem]
 refine LenN_calls hv ?_
 simp only[go_sem]
 exact fun _=>hk
theorem Nf.nil_of {b:Nat} {v:AV} (hv:Nf b h v 0):∃id c,v= .sl id 0 0 c:=by
 obtain⟨xs,h1,h2,h3,h4⟩:=hv
 have:xs.length=0:=by rw[top_len h2 h3,h4];rfl
 obtain⟨id,c,e⟩:=h1.form
 rw[this] at e
 exact⟨id,c,e⟩
theorem wakes15_calls (hk:∀h',h'.wf→h.le h'→K (.bool true) h'):ACalls Tryz.prog 40 [] h K:=by
 refine in_law15_wakes (by simp) fun hw=> ?_
 unfold c_law15_wakes
 have e1:∀l:List AV,abuild l []=some l:=fun l=>by simp[abuild]
 simp only[go_sem,e1]
 refine diNew_calls (t:=⟨0,0,0,0,0,0,0,0,0,0,0⟩) fun e u h1 hw1 hl1 hn1 hue he ht=> ?_
 simp only[go_sem,Bool.false_bne,Option.isNone]
 have hw2:=H.wf_new hw1 ⟨some 47,1,[AV.int .u64 7]⟩
 have hl2:=H.le_new hw1 (H.le_refl h1) ⟨some 47,1,[AV.int .u64 7]⟩
 have hl3:=H.le_new hw2 (H.le_refl _) ⟨some 47,1,[AV.int .u64 9]⟩
 have d1:Dig [7]:=Dig.one (by omega)
 have d2:Dig [9]:=Dig.one (by omega)
 refine DivMod2_calls (clamp_ok _) (a:=val 18446744073709551616 [7]) (b:=val 18446744073709551616 [9]) ((he.mono hl2).mono hl3) ((ht.mono hl2).mono hl3) (((IsN.lit [7] _ rfl rfl).mono hl3).nn d1 (by simp)) ((IsN.lit [9] _ rfl rfl).nn d2 (by simp)) (by decide) (by decide) (by omega) (fun h=>absurd h (by decide)) fun _ q r h4 m4 dp4 hw4 hl4 ht4 _ hq hr=> ?_
 rw[show val 18446744073709551616 [7]/val 18446744073709551616 [9]=0 by decide] at hq
 obtain⟨iq,cq,rfl⟩:=hq.nil_of
 obtain⟨rs,hr1,hr2,hr3,hr4⟩:=hr
 have hrl:rs=[7]:=top_inj hr2 (Dig.one (by omega)) hr3 (fun z hz=>by simp at hz;omega) (by rw[hr4];decide)
 subst hrl
 have hl04:=H.le_over hw (H.le_trans hl1 (H.le_trans hl2 hl3)) hn1 hl4
 simp only[go_sem,beq_self_eq_true,eqT (show((0:Nat):Int)=0 from rfl)]
 have hl5:=H.le_new hw4 (H.le_refl h4) ⟨some 47,1,[AV.int .u64 7]⟩
 refine kSame_calls (xs:=[7]) (hr1.isN.mono hl5) (IsN.lit [7] _ rfl rfl) (by simp) ?_
 simp only[go_sem]
 exact fun hw'=>hk _ hw' (H.le_trans hl04 hl5)
theorem mul_wlen {n k:Nat} (hx:wlen x≤n) (hy:wlen y≤k):wlen (x*y)≤n+k:=by
 have h1:x*y<18446744073709551616^n*18446744073709551616^k:=Nat.mul_lt_mul_of_lt_of_le (wlen_le.1 hx) (Nat.le_of_lt (wlen_le.1 hy)) (Nat.pow_pos (by omega))
 rw[←Nat.pow_add] at h1
 exact wlen_le.2 h1
end
section
variable {t:Tb} {va vb vc:AV} {xs0 ys0 zs0:List Nat} {h:H} {K:AV→H→Prop}
theorem DivExacts_law {even:Bool} (ha0:IsN h va xs0) (hx0:Dig xs0) (hb0:IsN h vb ys0) (hy0:Dig ys0) (hk:∀h',h'.wf→K (.bool true) h'):ACalls Tryz.prog 9 [t.av,va,vb, .bool even] h K:=by
 refine in_law15_DivExacts (by simp) fun hw=> ?_
 unfold c_law15_DivExacts
 have hl0:=H.le_new hw (H.le_refl h) ⟨some 23,11,t.cells⟩
 have hr0:=H.rows_new h ⟨some 23,11,t.cells⟩
 simp only[go_sem,av_held,av_cells,cells_len,true_and]
 generalize hg:h.new ⟨some 23,11,t.cells⟩=g0 at*
 refine Cut_calls (n:=30) (ha0.mono hl0) fun a ha=> ?_
 simp only[go_sem]
 refine Cut_calls (n:=20) (hb0.mono hl0) fun b hb=> ?_
 have hxd:Dig (xs0.take 30):=Dig.take hx0 30
 have hxl:(xs0.take 30).length≤30:=by simp;omega
 have hyd:Dig (ys0.take 20):=Dig.take hy0 20
 have hyl:(ys0.take 20).length≤20:=by simp;omega
 generalize xs0.take 30=xs at*
 generalize ys0.take 20=ys at*
 simp only[go_sem,gsT hr0]
 refine diNew_calls fun e u g1 hw1 hl1 hn1 hue he ht=> ?_
 have na:=(ha.mono hl1).nn hxd (by omega)
 have nb:=(hb.mono hl1).nn hyd (by omega)
 have wa:wlen (val 18446744073709551616 xs)≤30:=Nat.le_trans (wlen_len hxd) hxl
 have wb:wlen (val 18446744073709551616 ys)≤20:=Nat.le_trans (wlen_len hyd) hyl
 clear ha hb ha0 hb0 hxd hxl hyd hyl
 generalize val 18446744073709551616 xs=x0 at*
 generalize val 18446744073709551616 ys=y at*
 have by_:Big y:=wbig wb (by omega)
 simp only[go_sem,Option.isNone,Bool.false_bne]
 refine cond_cut (fun ρ' h2=>h2.wf∧g1.le h2∧ρ' 2=b∧ρ' 9= .ptr (some (e,0))∧∃a' x,ρ' 1=a'∧Nn h2 a' x∧wlen x≤50) ?_ ?_
 ·cases even
  ·simp only[go_sem]
   exact⟨hw1,H.le_refl _,trivial,trivial,_,_,rfl,na,by omega⟩
  ·simp only[go_sem]
   refine from15_calls na fun f1 g2 hw2 hl2 n1=> ?_
   simp only[go_sem]
   refine from15_calls (nb.mono hl2) fun f2 g3 hw3 hl3 n2=> ?_
   simp only[go_sem]
   refine Mul_calls (n1.mono hl3) n2 (wbig wa (by omega)) by_ fun p g4 hw4 hl4 np=> ?_
   simp only[go_sem]
   have wp:=mul_wlen wa wb
   have bp:Big (x0*y):=wbig wp (by omega)
   refine To_calls np bp fun s g5 hw5 hl5 hs=> ?_
   simp only[go_sem]
   exact⟨hw5,(H.le_trans hl2 (H.le_trans hl3 (H.le_trans hl4 hl5))),trivial,trivial,_,_,rfl,hs.nn bp,wp⟩
 rintro ρ g2 ⟨hw2,hl2,q2,q9,a',x,q1,na,wa⟩
 have nb:=nb.mono hl2
 have he:=he.mono hl2
 have ht:=ht.mono hl2
 have bx:Big x:=wbig wa (by omega)
 have wrd:∀{g:H} {K:AV→H→Prop},H.lee u g2 g→(K (.int .i64 (wlen y:Nat)) g)→ACalls Tryz.prog 41 [b] g K:=fun hl hk=>words15_calls (nb.monoE' ht hl) hk
 simp only[go_sem,q1,q2,q9]
 refine Exact_calls (clamp_ok _) he ht na nb (by omega) (by omega) (by omega) (fun h0 hw3=> ?_) (fun h0 hz g3 m3 dp3 hw3 hl3 ht3=> ?_) (fun h0 hz q g3 m3 dp3 hw3 hl3 ht3 hq=> ?_)
 ·simp only[go_sem,q2]
  refine wrd (H.lee_refl _ _) ?_
  rw[h0,wlen_zero]
  simp only[go_sem,eqT (show((0:Nat):Int)=0 from rfl),beq_self_eq_true]
  refine wakes15_calls fun g5 hw5 hl5=> ?_
  simp only[go_sem]
  exact fun _=>hk g5 hw5
 ·have hw0:wlen y≠0:=fun h=>by have:=wlen_eq_zero.1 h;omega
  simp only[go_sem,q2]
  refine wrd hl3 ?_
  simp only[go_sem,eqF (show((wlen y:Nat):Int)≠0 by omega),q1,q2]
  refine from15_calls (na.monoE' ht hl3) fun f1 g4 hw4 hl4 n1=> ?_
  simp only[go_sem,q2]
  refine from15_calls ((nb.monoE' ht hl3).mono hl4) fun f2 g5 hw5 hl5 n2=> ?_
  simp only[go_sem]
  refine DivMod_calls (n1.mono hl5) n2 bx by_ h0 fun qq rr g6 hw6 hl6 nq nr=> ?_
  simp only[go_sem]
  refine rZero_calls nr ?_
  simp only[go_sem,decide_eq_false hz,Bool.not_false,beq_self_eq_true,eqT (show((0:Nat):Int)=0 from rfl)]
  refine wakes15_calls fun g5 hw5 hl5=> ?_
  simp only[go_sem]
  exact fun _=>hk g5 hw5
 ·have hw0:wlen y≠0:=fun h=>by have:=wlen_eq_zero.1 h;omega
  simp only[go_sem,q2]
  refine wrd hl3 ?_
  simp only[go_sem,eqF (show((wlen y:Nat):Int)≠0 by omega),q1,q2]
  refine from15_calls (na.monoE' ht hl3) fun f1 g4 hw4 hl4 n1=> ?_
  simp only[go_sem,q2]
  refine from15_calls ((nb.monoE' ht hl3).mono hl4) fun f2 g5 hw5 hl5 n2=> ?_
  simp only[go_sem]
  refine DivMod_calls (n1.mono hl5) n2 bx by_ h0 fun qq rr g6 hw6 hl6 nq nr=> ?_
  simp only[go_sem]
  refine rZero_calls nr ?_
  simp only[go_sem,decide_eq_true hz,Bool.not_true,beq_self_eq_true]
  refine rSame_calls nq (bx.le (Nat.div_le_self _ _)) (hq.nt.mono (H.le_trans hl4 (H.le_trans hl5 hl6))) fun g7 hw7 hl7=> ?_
  simp only[go_sem]
  refine wakes15_calls fun g5 hw5 hl5=> ?_
  simp only[go_sem]
  exact fun _=>hk g5 hw5
end
end
set_option maxRecDepth 100000 in
theorem DivExacts_row (h:H) (avs:List AV) (_:h.wf) (r:ReadsAll Tryz.prog h [23,24,24,4] avs):ACalls Tryz.prog 9 avs h (fun r _=>r= .bool true):=by
 match avs,r with
 |[_,_,_,_],⟨r0,r1,r2,r3,_⟩=>
  obtain⟨t0,rfl⟩:=reads_table r0
  obtain⟨xs,h1,hx,_⟩:=reads_words r1
  obtain⟨ys,h2,hy,_⟩:=reads_words r2
  obtain⟨b,rfl⟩:=reads_bool r3
  exact DivExacts_law h1 hx h2 hy fun _ _=>rfl
def Kp (b u:Nat) (h h':H):Prop:=h.next≤h'.next∧∀j r,j≠u→(j<b∨r.own=some 47)→h.rows j=some r→h'.rows j=some r
end Ab
end Go.Proofs.YtdfpgoppcflpjaaGreatDoor
