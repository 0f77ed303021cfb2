/- Joined texts: J1 J2 I1 J6. No condition. -/
import Derived.Test.YtdfpgoppcflpjaaGreatDoorZ14
import Derived.Test.YtdfpgoppcflpjaaGreatDoorProg
import Derived.KernelRfl
namespace Go.Proofs.YtdfpgoppcflpjaaGreatDoor
namespace Ab
open Go Go.RowKit
set_option linter.unusedSimpArgs false
set_option linter.unusedVariables false
attribute [local go_sem ↓] x_mv x_pick x_bin x_beq x_peq x_seq x_cat x_aeq x_idxS x_idxV x_un x_cvI x_idx x_idxA x_fld x_ld x_st x_nn x_prt x_slc x_mk x_bsl x_bld x_box x_alloc x_len x_capo x_mnx x_app x_cpy x_mkf x_ext x_call x_callV x_bad s_none s_some s_nil s_cons s_chks w_skip w_reg tP_fin tP_no tP_alt w_seq w_cond w_block w_exit w_ret t_normal t_exit t_ret b_normal b_ret b_exit n_normal n_exit n_ret p_normal p_ret f_nil f_t f_c k_ops k_chk k_fin
attribute [local go_sem] e_t e_c e_f u_some u_none u_at env_at k_v k_pick k_add k_sub k_mul k_quo k_rem k_and k_or k_xor k_shl k_shr k_eql k_neq k_lss k_leq k_gtr k_geq k_beq k_peqn k_peqs k_neg k_not k_com k_cvI k_idxS k_idxV1 k_idxVn k_idx k_idxA k_idxG k_ldG k_gld k_seq k_cat k_aeq k_eqs k_fld k_ld1 k_ldn k_get k_gets k_sti k_stb k_stp k_sts k_stf k_sta k_put k_nn k_prt1 k_prtn k_slc_a k_slc_b k_slc_c k_mk k_agg k_bsl k_box k_len k_lenS k_cap k_max k_min k_ext k_callV k_true k_false k_gtt k_gtf k_gft k_gsk k_gff k_lit1i k_lit2i k_lit3i k_c0 k_c1 k_ck List.getElem?_cons_zero List.getElem?_cons_succ List.getElem?_nil Option.getD_some Option.getD_none tupOf List.map_cons List.map_nil Option.map_some Option.map_none List.nil_append List.cons_append List.append_nil Nat.mul_one Int.toNat_natCast Nat.zero_add
attribute [local go_sem] e_t e_c e_f u_some u_none u_at env_at k_v k_pick k_add k_sub k_mul k_quo k_rem k_and k_or k_xor k_shl k_shr k_eql k_neq k_lss k_leq k_gtr k_geq k_beq k_peqn k_peqs k_neg k_not k_com k_cvI k_idxS k_idxV1 k_idxVn k_idx k_idxA k_idxG k_ldG k_gld k_seq k_cat k_aeq k_eqs k_fld k_ld1 k_ldn k_get k_gets k_sti k_stb k_stp k_sts k_stf k_sta k_put k_nn k_prt1 k_prtn k_slc_a k_slc_b k_slc_c k_mk k_agg k_bsl k_box k_len k_lenS k_cap k_max k_min k_ext k_callV k_true k_false k_gtt k_gtf k_gft k_gsk k_gff k_lit1i k_lit2i k_lit3i k_c0 k_c1 k_ck List.getElem?_cons_zero List.getElem?_cons_succ List.getElem?_nil Option.getD_some Option.getD_none tupOf List.map_cons List.map_nil Option.map_some Option.map_none List.nil_append List.cons_append List.append_nil Nat.mul_one Int.toNat_natCast Nat.zero_add
--what a store into a cell of two leaves
attribute [local go_sem_proc] Nat.reduceEqDiff Nat.reduceAdd Int.reduceToNat
attribute [local go_sem_proc ↓] reduceIte
attribute [local go_sem] Bool.false_eq_true
theorem H.le_over {u:Nat} {a b c:H} (hw:a.wf) (h1:a.le b) (hu:a.next≤u) (h2:H.lee u b c):a.le c:=
 ⟨Nat.le_trans h1.1 h2.1,fun i r e=>h2.2 i r (by have:=H.row_lt hw e;omega) (h1.2 i r e)⟩
theorem grd_sym {P:Program} {b:Bool} {o:AOp} {ρ:Env} {h:H} {K:AV→H→Prop} (v:AV) (h1:b=true→∀K':AV→H→Prop,aexec P o ρ h K'=K' v h) (h2:K (if b=true then v else .tup []) h):grdK P (.bool b) true o ρ h K:=by
 cases b
 ·exact h2
 ·show aexec P o ρ h K
  rw[h1 rfl]
  exact h2
section
theorem two_big {n:Nat} (hn:n≤1048576):Big (2^n):=bits_big (b:=n+1) (Nat.pow_lt_pow_right (by omega) (by omega)) (by omega)
section
variable {va vb:AV} {x y n:Nat} {h:H} {K:AV→H→Prop}
theorem from14_calls (hv:Nn h va x) (hk:∀r h',h'.wf→h.le h'→Num 4294967296 h' r x→K r h'):ACalls Tryz.prog 27 [va] h K:=by
 obtain⟨xs,h1,h2,h3,rfl⟩:=hv
 refine in_law14_from (by simp) fun hw=> ?_
 unfold c_law14_from
 simp only[go_sem]
 refine From_calls h1 h2 (by omega) fun r h' hw' hl' hr=> ?_
 simp only[go_sem]
 exact fun _=>hk r h' hw' hl' hr
theorem power14_calls (hn:n≤1048576) (hk:∀r h',h'.wf→h.le h'→Num 4294967296 h' r (2^n)→K r h'):ACalls Tryz.prog 26 [.int .i64 (n:Int)] h K:=by
 refine in_law14_power (by simp) fun hw=> ?_
 unfold c_law14_power
 simp only[go_sem]
 refine Small_calls (x:=1) (by decide) fun r h1 hw1 hl1 hr=> ?_
 simp only[go_sem]
 refine rShl_calls hr (word_big (by decide)) hn fun s h2 hw2 hl2 hs=> ?_
 rw[Nat.one_mul] at hs
 simp only[go_sem]
 exact fun _=>hk s h2 hw2 (H.le_trans hl1 hl2) hs
theorem wakes14_calls (hk:∀h',h'.wf→h.le h'→K (.bool true) h'):ACalls Tryz.prog 24 [] h K:=by
 refine in_law14_wakes (by simp) fun hw=> ?_
 unfold c_law14_wakes
 have e1:∀l:List AV,abuild l []=some l:=fun l=>by simp[abuild]
 simp only[go_sem,e1]
 refine rNew_calls (t:=⟨0,0,0,0,0,0,0,0,0,0,0⟩) fun e u h1 hw1 hl1 hn1 hue he ht=> ?_
 simp only[go_sem,Bool.false_bne,Option.isNone]
 have hl2:=H.le_new hw1 (H.le_refl h1) ⟨some 47,1,[AV.int .u64 3]⟩
 have d2:Dig [3]:=Dig.one (by omega)
 refine Recip_calls (n:=4) (d:=val 18446744073709551616 [3]) (he.mono hl2) (ht.mono hl2) ((IsN.lit [3] _ rfl rfl).nn d2 (by simp)) (by decide) (by decide) (by omega) (by omega) fun v h3 m3 dp3 hw3 hl3 ht3 _ hv=> ?_
 rw[show 2^4/val 18446744073709551616 [3]=5 by decide] at hv
 obtain⟨vs,hv1,hv2,hv3,hv4⟩:=hv
 have hvl:vs=[5]:=top_inj hv2 (Dig.one (by omega)) hv3 (fun z hz=>by simp at hz;omega) (by rw[hv4];decide)
 subst hvl
 have hl03:=H.le_over hw (H.le_trans hl1 hl2) hn1 hl3
 simp only[go_sem,beq_self_eq_true]
 have hl4:=H.le_new hw3 (H.le_refl h3) ⟨some 47,1,[AV.int .u64 5]⟩
 refine kSame_calls (xs:=[5]) (hv1.isN.mono hl4) (IsN.lit [5] _ rfl rfl) (by simp) ?_
 simp only[go_sem]
 exact fun hw'=>hk _ hw' (H.le_trans hl03 hl4)
end
section
variable {t:Tb} {va vb:AV} {xs0 ys0:List Nat} {h:H} {K:AV→H→Prop}
set_option maxHeartbeats 1000000 in
theorem RecipRecips_law {n:Int} (hv0:IsN h va xs0) (hx0:Dig xs0) (hk:∀h',h'.wf→K (.bool true) h'):ACalls Tryz.prog 3 [t.av,va, .int .i64 n] h K:=by
 refine in_law14_RecipRecips (by simp) fun hw=> ?_
 unfold c_law14_RecipRecips
 have hl0:=H.le_new hw (H.le_refl h) ⟨some 23,11,t.cells⟩
 have hr0:=H.rows_new h ⟨some 23,11,t.cells⟩
 simp only[go_sem,av_held,av_cells,cells_len,true_and]
 generalize hg:h.new ⟨some 23,11,t.cells⟩=g0 at*
 refine Cut_calls (n:=30) (hv0.mono hl0) fun a ha=> ?_
 have hxd:Dig (xs0.take 30):=Dig.take hx0 30
 have hxl:(xs0.take 30).length≤30:=by simp;omega
 generalize xs0.take 30=xs at*
 simp only[go_sem,gsT hr0]
 refine rNew_calls fun e u g1 hw1 hl1 hn1 hue he ht=> ?_
 have ha1:=ha.mono hl1
 simp only[go_sem,Option.isNone,Bool.false_bne]
 refine grd_sym (.int .i64 n) (fun _ _=>by simp only[go_sem]) ?_
 simp only[go_sem]
 refine grd_sym (.bool (decide (n≤1048576))) (fun hb _=>by simp only[go_sem,hb]) ?_
 simp only[go_sem]
 refine cond_cut (fun ρ' h2=>h2=g1∧ρ' 1=a∧ρ' 7= .ptr (some (e,0))∧∃n':Int,ρ' 2= .int .i64 n'∧(n'<0∨(0≤n'∧n'≤4000)∨1048576<n')) ?_ ?_
 ·by_cases c1:4000<n
  ·by_cases c2:n≤1048576
   ·simp only[go_sem,decide_eq_true c1,decide_eq_true c2]
    refine Within_calls (n:=4000) (by omega) (by omega) fun k hk4 _=> ?_
    simp only[go_sem]
    exact⟨trivial,trivial,trivial,_,rfl,by omega⟩
   ·simp only[go_sem,decide_eq_true c1,decide_eq_false c2]
    exact⟨trivial,trivial,trivial,_,rfl,by omega⟩
  ·simp only[go_sem,decide_eq_false c1]
   exact⟨trivial,trivial,trivial,_,rfl,by omega⟩
 rintro ρ g1' ⟨rfl,q1,q7,n',q2,hn'⟩
 simp only[go_sem,q1,q2,q7]
 refine Lend_calls ha1 (by omega) fun x g2 hw2 hl2 lx=> ?_
 have ha2:=ha1.mono hl2
 have he2:=he.mono hl2
 have ht2:=ht.mono hl2
 have hut:=H.row_lt hw1 ht
 have nx:=lx.isN.nn hxd (by omega)
 have na:=ha2.nn hxd (by omega)
 have wd:wlen (val 18446744073709551616 xs)≤30:=Nat.le_trans (wlen_len hxd) hxl
 have bd:Big (val 18446744073709551616 xs):=wbig wd (by omega)
 simp only[go_sem,q1,q2,q7]
 rcases Nat.eq_zero_or_pos (val 18446744073709551616 xs) with h0|h0
 ·rw[h0] at nx na
  refine Recip0_calls nx fun hw3=> ?_
  simp only[go_sem,q1]
  refine Zero_calls na ?_
  rw[show decide ((0:Nat)=0)=true from rfl]
  simp only[go_sem,beq_self_eq_true,eqT (show((0:Nat):Int)=0 from rfl)]
  refine wakes14_calls fun g5 hw5 hl5=> ?_
  simp only[go_sem]
  exact fun _=>hk g5 hw5
 by_cases c3:n'<0∨1048576<n'
 ·refine RecipArg_calls nx h0 c3 fun hw3=> ?_
  simp only[go_sem,q1]
  refine Zero_calls na ?_
  simp only[go_sem,decide_eq_false (show¬val 18446744073709551616 xs=0 by omega),q2]
  by_cases c4:n'<0
  ·simp only[go_sem,decide_eq_true c4,beq_self_eq_true,eqT (show((0:Nat):Int)=0 from rfl)]
   refine wakes14_calls fun g5 hw5 hl5=> ?_
   simp only[go_sem]
   exact fun _=>hk g5 hw5
  ·simp only[go_sem,decide_eq_false c4,q2,show decide (n'>1048576)=true from decide_eq_true (by omega),beq_self_eq_true,eqT (show((0:Nat):Int)=0 from rfl)]
   refine wakes14_calls fun g5 hw5 hl5=> ?_
   simp only[go_sem]
   exact fun _=>hk g5 hw5
 ·obtain⟨k,rfl⟩:∃k:Nat,n'=(k:Int):=⟨n'.toNat,by omega⟩
  have hk4:k≤4000:=by omega
  refine Recip_calls he2 ht2 nx h0 (by omega) (by omega) (by omega) fun v g3 m3 dp3 hw3 hl3 ht3 _ hv=> ?_
  simp only[go_sem,q1]
  refine Zero_calls (na.monoE' ht2 hl3) ?_
  simp only[go_sem,decide_eq_false (show¬val 18446744073709551616 xs=0 by omega),q1,q2,show decide ((k:Int)<0)=false from decide_eq_false (by omega),show decide ((k:Int)>1048576)=false from decide_eq_false (by omega)]
  refine power14_calls (n:=k) (by omega) fun f1 g4 hw4 hl4 n1=> ?_
  simp only[go_sem,q1]
  refine from14_calls ((na.monoE' ht2 hl3).mono hl4) fun f2 g5 hw5 hl5 n2=> ?_
  simp only[go_sem]
  refine DivMod_calls (n1.mono hl5) n2 (two_big (by omega)) bd h0 fun qq rr g6 hw6 hl6 nq _=> ?_
  have bq:Big (2^k/val 18446744073709551616 xs):=(two_big (n:=k) (by omega)).le (Nat.div_le_self _ _)
  have l36:=(H.le_trans hl4 (H.le_trans hl5 hl6))
  simp only[go_sem,show((0:Int) !=0)=false from rfl]
  refine rSame_calls nq bq (hv.nt.mono l36) fun g7 hw7 hl7=> ?_
  have l37:=(H.le_trans l36 hl7)
  have hle27:H.lee u g2 g7:=hl3.trans l37.lee
  have uw:=H.upto_wf g7 g2.next
  have ule:=H.upto_le hle27.1
  have hun:=Nat.le_of_eq (H.upto_next g7 g2.next)
  have ux:=lx.upto hw2 hle27 hut
  have ua:=ha2.upto hw2 ht2 hle27
  generalize g7.upto g2.next=gu at*
  simp only[go_sem,Bool.not_true]
  refine Spoil_calls (hv.mono l37).own fun g8 hw8 hka8 _=> ?_
  have ul:=hka8 gu uw ule hun
  simp only[go_sem,q1]
  refine Intact_calls (ux.mono ul) (ua.mono ul) (by omega) ?_
  simp only[go_sem]
  refine wakes14_calls fun g9 hw9 hl9=> ?_
  simp only[go_sem]
  exact fun _=>hk g9 hw9
end
set_option maxRecDepth 100000 in
theorem RecipRecips_row (h:H) (avs:List AV) (_:h.wf) (r:ReadsAll Tryz.prog h [23,24,3] avs):ACalls Tryz.prog 3 avs h (fun r _=>r= .bool true):=by
 match avs,r with
 |[_,_,_],⟨r0,r1,r2,_⟩=>
  obtain⟨t0,rfl⟩:=reads_table r0
  obtain⟨xs,h1,hx,_⟩:=reads_words r1
  obtain⟨n,rfl,_⟩:=reads_i64 r2
  exact RecipRecips_law h1 hx fun _ _=>rfl
end
def sg (b:Bool) (x:Nat):Int:=if b=true then-(x:Int) else(x:Int)
theorem g2 {h:H} {i:Nat} {T:Option TypeId} {a b:AV} (hr:h.rows i=some ⟨T,2,[a,b]⟩):h.get i 0=some a∧h.get i 1=some b∧h.gets i 0 2=some [a,b]:=by
 rw[H.get_of hr,H.get_of hr,H.gets_of hr (by simp)]
 exact⟨rfl,rfl,rfl⟩
def Kp (b u:Nat) (h h':H):Prop:=h.next≤h'.next∧∀j r,j≠u→(j<b∨r.own=some 47)→h.rows j=some r→h'.rows j=some r
end Ab
end Go.Proofs.YtdfpgoppcflpjaaGreatDoor
