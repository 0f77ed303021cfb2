/- Joined texts: J1 I1 I8 J8 J9 J10. No condition. -/
import Derived.Test.YtkbglkjpdndkiaaGreatDoorZ12
import Derived.Test.YtkbglkjpdndkiaaGreatDoorProg
import Derived.KernelRfl
namespace Go.Proofs.YtkbglkjpdndkiaaGreatDoor
namespace Ab
open Go Go.RowKit
set_option linter.unusedSimpArgs false
set_option linter.unusedVariables false
attribute [local go_sem ↓] x_mv x_pick x_bin x_beq x_peq x_seq x_cat x_aeq x_idxS x_idxV x_un x_cvI x_bts x_idx x_idxA x_fld x_ld x_st x_nn x_prt x_slc x_mk x_bsl x_bld x_box x_alloc x_len x_capo x_mnx x_app x_cpy x_mkf x_ext x_call x_callV x_bad s_none s_some s_nil s_cons s_chks w_skip w_reg tP_fin tP_no tP_alt w_seq w_cond w_block w_exit w_ret t_normal t_exit t_ret b_normal b_ret b_exit n_normal n_exit n_ret p_normal p_ret f_nil f_t f_c k_ops k_chk k_fin
attribute [local go_sem] e_t e_c e_f u_some u_none u_at env_at k_v k_pick k_add k_sub k_mul k_quo k_rem k_and k_or k_xor k_shl k_shr k_eql k_neq k_lss k_leq k_gtr k_geq k_beq k_peqn k_peqs k_neg k_not k_com k_cvI k_idxS k_idxV1 k_idxVn k_idx k_idxA k_idxG k_ldG k_gld k_seq k_cat k_aeq k_eqs k_fld k_ld1 k_ldn k_get k_gets k_sti k_stb k_stp k_sts k_stf k_sta k_put k_nn k_prt1 k_prtn k_slc_a k_slc_b k_slc_c k_mk k_agg k_bsl k_box k_len k_lenS k_cap k_max k_min k_ext k_callV k_true k_false k_gtt k_gtf k_gft k_gsk k_gff k_lit1i k_lit2i k_lit3i k_c0 k_c1 k_ck List.getElem?_cons_zero List.getElem?_cons_succ List.getElem?_nil Option.getD_some Option.getD_none tupOf List.map_cons List.map_nil Option.map_some Option.map_none List.nil_append List.cons_append List.append_nil Nat.mul_one Int.toNat_natCast Nat.zero_add
attribute [local go_sem] e_t e_c e_f u_some u_none u_at env_at k_v k_pick k_add k_sub k_mul k_quo k_rem k_and k_or k_xor k_shl k_shr k_eql k_neq k_lss k_leq k_gtr k_geq k_beq k_peqn k_peqs k_neg k_not k_com k_cvI k_idxS k_idxV1 k_idxVn k_idx k_idxA k_idxG k_ldG k_gld k_seq k_cat k_aeq k_eqs k_fld k_ld1 k_ldn k_get k_gets k_sti k_stb k_stp k_sts k_stf k_sta k_put k_nn k_prt1 k_prtn k_slc_a k_slc_b k_slc_c k_mk k_agg k_bsl k_box k_len k_lenS k_cap k_max k_min k_ext k_callV k_true k_false k_gtt k_gtf k_gft k_gsk k_gff k_lit1i k_lit2i k_lit3i k_c0 k_c1 k_ck List.getElem?_cons_zero List.getElem?_cons_succ List.getElem?_nil Option.getD_some Option.getD_none tupOf List.map_cons List.map_nil Option.map_some Option.map_none List.nil_append List.cons_append List.append_nil Nat.mul_one Int.toNat_natCast Nat.zero_add
--what a store into a cell of two leaves
attribute [local go_sem_proc] Nat.reduceEqDiff Nat.reduceAdd Int.reduceToNat
attribute [local go_sem_proc ↓] reduceIte
attribute [local go_sem] Bool.false_eq_true
theorem H.le_over {u:Nat} {a b c:H} (hw:a.wf) (h1:a.le b) (hu:a.next≤u) (h2:H.lee u b c):a.le c:=
 ⟨Nat.le_trans h1.1 h2.1,fun i r e=>h2.2 i r (by have:=H.row_lt hw e;omega) (h1.2 i r e)⟩
theorem two_and {p:Prop}:((2:Int)≠0∧p)=p:=by simp
theorem nz_and {k:Int} (h:k≠0) {p:Prop}:(k≠0∧p)=p:=by simp[h]
def sg (b:Bool) (x:Nat):Int:=if b=true then-(x:Int) else(x:Int)
theorem g2 {h:H} {i:Nat} {T:Option TypeId} {a b:AV} (hr:h.rows i=some ⟨T,2,[a,b]⟩):h.get i 0=some a∧h.get i 1=some b∧h.gets i 0 2=some [a,b]:=by
 rw[H.get_of hr,H.get_of hr,H.gets_of hr (by simp)]
 exact⟨rfl,rfl,rfl⟩
section
section
variable {t:Tb} {h:H} {K:AV→H→Prop}
theorem roNew_calls (hk:∀e u h',h'.wf→h.le h'→h.next≤u→u<e→Eng 8 h' e u→Tune h' u 0 0 0 (clampT t)→K (.ptr (some (e,0))) h'):ACalls Tryz.prog 27 [t.av] h K:=by
 refine in_root_New (by simp) fun hw=> ?_
 unfold c_root_New
 have hl1:=H.le_new hw (H.le_refl h) ⟨some 23,11,t.cells⟩
 have hn1:h.next<(h.new ⟨some 23,11,t.cells⟩).next:=Nat.lt_succ_self _
 simp only[go_sem,av_held,av_cells,cells_len,true_and,gsT (H.rows_new h _)]
 refine diNew_calls fun e u h1 hw1 hl2 hn2 _ he ht=> ?_
 simp only[go_sem,bldp]
 simp only[AV.held,AV.cells,true_and,go_sem]
 have hl3:=H.le_new hw1 (H.le_refl h1) ⟨some 112,1,[AV.ptr (some (e,0))]⟩
 exact fun hw'=>hk _ u _ hw' (H.le_trans hl1 (H.le_trans hl2 hl3)) (by omega) (H.row_lt hw1 ht) ⟨_,e,H.rows_new _ _,rfl,he.mono hl3⟩ (ht.mono hl3)
end
end
section
theorem amgm_step {r x A B C:Int} {k:Int} (hk:0≤k) (hP:0≤A) (h:k*(r*A)≤B+(k-1)*(x*A)) (hr:0≤r) (hAx:x*A=C):(k+1)*(r*C)≤r*B+k*(x*C):=by
 subst hAx
 have h1:r*(k*(r*A))≤r*(B+(k-1)*(x*A)):=Int.mul_le_mul_of_nonneg_left h hr
 have h2:0≤(r-x)*(r-x):=by
  rcases Int.le_total r x with h|h
  ·have:=Int.mul_nonneg (a:=x-r) (b:=x-r) (by omega) (by omega)
   have e:(r-x)*(r-x)=(x-r)*(x-r):=by grind
   omega
  ·exact Int.mul_nonneg (by omega) (by omega)
 have h3:0≤k*(A*((r-x)*(r-x))):=Int.mul_nonneg hk (Int.mul_nonneg hP h2)
 have e1:r*(k*(r*A))=k*(r*r*A):=by grind
 have e2:r*(B+(k-1)*(x*A))=r*B+k*(r*x*A)-r*x*A:=by grind
 have e3:k*(A*((r-x)*(r-x)))=k*(r*r*A)-2*(k*(r*x*A))+k*(x*x*A):=by grind
 have e4:(k+1)*(r*(x*A))=k*(r*x*A)+r*x*A:=by grind
 have e5:k*(x*(x*A))=k*(x*x*A):=by grind
 rw[e1,e2] at h1
 rw[e3] at h3
 rw[e4,e5]
 omega
theorem amgm {r x:Nat}:∀k:Nat,((k:Int)+1)*((r:Int)*(x^k:Nat))≤(r^(k+1):Nat)+(k:Int)*((x:Int)*(x^k:Nat)):=by
 intro k
 induction k with
 |zero=>simp
 |succ k ih=>
  have h:=amgm_step (r:=(r:Int)) (x:=(x:Int)) (A:=((x^k:Nat):Int)) (B:=((r^(k+1):Nat):Int)) (C:=((x^(k+1):Nat):Int)) (k:=(k:Int)+1) (by omega) (by omega) (by rw[show(k:Int)+1-1=k by omega];exact ih) (by omega) (by rw[Nat.pow_succ];simp[Int.mul_comm])
  have e:((r^(k+1+1):Nat):Int)=(r:Int)*((r^(k+1):Nat):Int):=by rw[Nat.pow_succ r (k+1)];simp[Int.mul_comm]
  rw[e]
  exact_mod_cast h
theorem newton_ge {r x a k:Nat} (hk:1≤k) (hx:0<x) (hr:r^k≤a):k*r≤(k-1)*x+a/x^(k-1):=by
 obtain⟨j,rfl⟩:∃j,k=j+1:=⟨k-1,by omega⟩
 rw[Nat.add_sub_cancel]
 have hA:0<x^j:=Nat.pow_pos hx
 rcases Nat.le_total ((j+1)*r) (j*x) with h|h
 ·exact Nat.le_trans h (Nat.le_add_right _ _)
 ·obtain⟨d,hd⟩:∃d,(j+1)*r=j*x+d:=⟨(j+1)*r-j*x,by omega⟩
  rw[hd]
  refine Nat.add_le_add_left ?_ _
  rw[Nat.le_div_iff_mul_le hA]
  have h1:=amgm (r:=r) (x:=x) j
  have h2:(j+1)*r*x^j≤r^(j+1)+j*x*x^j:=by
   have e1:(((j+1)*r*x^j:Nat):Int)=((j:Int)+1)*((r:Int)*(x^j:Nat)):=by simp[Int.mul_assoc]
   have e2:((r^(j+1)+j*x*x^j:Nat):Int)=(r^(j+1):Nat)+(j:Int)*((x:Int)*(x^j:Nat)):=by simp[Int.mul_assoc]
   rw[←e1,←e2] at h1
   exact Int.ofNat_le.1 h1
  rw[hd,Nat.add_mul] at h2
  omega
theorem root_uniq {a k r s:Nat} (h1:r^k≤a) (h2:a<(r+1)^k) (h3:s^k≤a) (h4:a<(s+1)^k):r=s:=by
 have key:∀{r s:Nat},r^k≤a→a<(s+1)^k→r≤s:=by
  intro r s h1 h4
  rcases Nat.lt_or_ge s r with h|h
  ·exact absurd (Nat.lt_of_le_of_lt h1 (Nat.lt_of_lt_of_le h4 (Nat.pow_le_pow_left h k))) (Nat.lt_irrefl _)
  ·exact h
 exact Nat.le_antisymm (key h1 h4) (key h3 h2)
theorem mul_wlen' {x y n k:Nat} (hx:wlen x≤n) (hy:wlen y≤k):wlen (x*y)≤n+k:=by
 have h1:x*y<18446744073709551616^n*18446744073709551616^k:=Nat.mul_lt_mul_of_lt_of_le (wlen_le.1 hx) (Nat.le_of_lt (wlen_le.1 hy)) (Nat.pow_pos (by omega))
 rw[←Nat.pow_add] at h1
 exact wlen_le.2 h1
theorem pow_half {x k:Nat}:x^k=(x*x)^(k/2)*x^(k%2):=by
 rw[←Nat.pow_two,←Nat.pow_mul,←Nat.pow_add]
 congr 1
 omega
section
variable {e u m nw dp a x k:Nat} {t:Tb} {va vx:AV} {h:H} {K:AV→H→Prop}
set_option maxHeartbeats 1000000 in
theorem raise_calls (he:Eng 8 h e u) (ht:Tune h u m nw dp t) (nx:Nn h vx x) (hx:0<x) (hT:wlen (x^k)≤8000) (hk9:k≤1000000) (hnw:nw≤600000000)
  (hk:∀r h' m' dp',h'.wf→H.lee u h h'→Tune h' u m' nw dp' t→Nf h.next h' r (x^k)→K r h'):
  ACalls Tryz.prog 68 [.ptr (some (e,0)),vx, .int .i64 (k:Int)] h K:=by
 refine in_root_Engine_raise (by simp) fun hw=> ?_
 unfold c_root_Engine_raise
 obtain⟨f,rfl,rfl,G,E⟩:=Eng.path ht he
 have hu:=H.row_lt hw ht
 have hT0:0<x^k:=Nat.pow_pos hx
 generalize hTT:x^k=T at*
 have small:∀{z:Nat},z≤T→wlen z≤8000∧Big z:=fun hz=>⟨Nat.le_trans (wlen_mono hz) hT,wbig (Nat.le_trans (wlen_mono hz) hT) (by omega)⟩
 simp only[go_sem]
 refine One_calls (x:=1) (by decide) fun o h1 hw1 hl1 ho=> ?_
 simp only[go_sem]
 refine loop_cut (fun ρ h'=>h'.wf∧H.lee (f 8) h h'∧(∃m' dp',Tune h' (f 8) m' nw dp' t)∧Nf h.next h' (ρ 7) T) ?_ ?_
 ·refine⟨fun j ρ h'=>h'.wf∧H.lee (f 8) h h'∧(∃m' dp',Tune h' (f 8) m' nw dp' t)∧ρ 0= .ptr (some (f 0,0))∧ρ 2= .int .i64 (j:Int)∧j≤k∧∃O ξ,0<O∧0<ξ∧Nf h.next h' (ρ 7) O∧Nn h' (ρ 1) ξ∧O*ξ^j=T,k,
   ⟨hw1,hl1.lee,⟨_,_,ht.mono hl1⟩,by first|rfl|trivial|assumption,by first|rfl|trivial|assumption,Nat.le_refl _,1,x,by omega,hx,ho,nx.mono hl1,by rw[Nat.one_mul];exact hTT⟩, ?_⟩
  rintro j ρ h2 ⟨hw2,hl2,⟨m2,dp2,ht2⟩,q0,q2,hjk,O,ξ,hO,hξ,n7,n1,hinv⟩
  rcases Nat.eq_zero_or_pos j with h0|h0
  ·subst h0
   rw[Nat.pow_zero,Nat.mul_one] at hinv
   subst hinv
   simp only[go_sem,q0,q2,show decide ((0:Int)<((0:Nat):Int))=false from rfl]
   exact⟨hw2,hl2,⟨_,_,ht2⟩,n7⟩
  have hO1:O*ξ≤T:=by
   rw[←hinv]
   refine Nat.mul_le_mul_left _ ?_
   calc ξ=ξ^1:=(Nat.pow_one ξ).symm
    _≤ξ^j:=Nat.pow_le_pow_right hξ h0
  have hO2:O≤T:=Nat.le_trans (Nat.le_mul_of_pos_right _ hξ) hO1
  have hξ1:ξ≤T:=Nat.le_trans (Nat.le_mul_of_pos_left _ hO) hO1
  have hpw:=pow_half (x:=ξ) (k:=j)
  have e1:((j:Nat):Int).tmod 2=((j%2:Nat):Int):=tmodN (a:=j) (b:=2)
  have e2:((j:Nat):Int).tdiv 2=((j/2:Nat):Int):=tdivN (a:=j) (b:=2)
  have e3:=wNI (n:=j%2) (by omega)
  have e4:=wNI (n:=j/2) (by omega)
  simp only[go_sem,q0,q2,show decide ((0:Int)<((j:Nat):Int))=true from decide_eq_true (by omega),e1,e3,two_and]
  refine cond_cut (fun ρ' h3=>h3.wf∧H.lee (f 8) h h3∧(∃m' dp',Tune h3 (f 8) m' nw dp' t)∧ρ' 0= .ptr (some (f 0,0))∧ρ' 2= .int .i64 (j:Int)∧∃O',0<O'∧Nf h.next h3 (ρ' 7) O'∧Nn h3 (ρ' 1) ξ∧O'*(ξ*ξ)^(j/2)=T) ?_ ?_
  ·rcases Nat.mod_two_eq_zero_or_one j with h1'|h1'
   ·rw[h1',Nat.pow_zero,Nat.mul_one] at hpw
    simp only[go_sem,h1',show(((0:Nat):Int)==1)=false from rfl]
    exact⟨hw2,hl2,⟨_,_,ht2⟩,q0,q2,O,hO,n7,n1,by rw[←hpw];exact hinv⟩
   ·rw[h1',Nat.pow_one] at hpw
    simp only[go_sem,h1',show(((1:Nat):Int)==1)=true from rfl,q0,G 0 (by omega) _ hl2,G 1 (by omega) _ hl2,G 2 (by omega) _ hl2,G 3 (by omega) _ hl2]
    refine Mul2_calls ((E 4 (by omega)).monoE ht hl2) ht2 (n7.nn (small hO2).2) n1 (by have:=(small hO2).1;omega) (by have:=(small hξ1).1;omega) (by omega) fun p h3 m3 dp3 hw3 hl3 ht3 _ hp=> ?_
    simp only[go_sem,q0,q2]
    refine⟨hw3,hl2.trans hl3,⟨_,_,ht3⟩,by first|rfl|trivial|assumption,by first|rfl|trivial|assumption,O*ξ,Nat.mul_pos hO hξ,hp.base hl2.1,n1.monoE' ht2 hl3, ?_⟩
    rw[←hinv,hpw]
    ac_rfl
  rintro ρ h3 ⟨hw3,hl3,⟨m3,dp3,ht3⟩,q0,q2,O',hO',n7,n1,hinv'⟩
  rcases Nat.lt_or_ge 1 j with h5|h5
  ·have hξ2:ξ*ξ≤T:=by
    rw[←hinv']
    have h6:ξ*ξ≤(ξ*ξ)^(j/2):=by
     calc ξ*ξ=(ξ*ξ)^1:=(Nat.pow_one _).symm
      _≤(ξ*ξ)^(j/2):=Nat.pow_le_pow_right (Nat.mul_pos hξ hξ) (by omega)
    exact Nat.le_trans h6 (Nat.le_mul_of_pos_left _ hO')
   simp only[go_sem,q0,q2,show decide ((1:Int)<((j:Nat):Int))=true from decide_eq_true (by omega),G 0 (by omega) _ hl3,G 1 (by omega) _ hl3,G 2 (by omega) _ hl3,G 3 (by omega) _ hl3]
   refine Mul2_calls ((E 4 (by omega)).monoE ht hl3) ht3 n1 n1 (by have:=(small hξ1).1;omega) (by have:=(small hξ1).1;omega) (by omega) fun p h4 m4 dp4 hw4 hl4 ht4 _ hp=> ?_
   simp only[go_sem,q0,q2,e2,e4,two_and]
   exact⟨j/2,by omega,hw4,hl3.trans hl4,⟨_,_,ht4⟩,by first|rfl|trivial|assumption,by first|rfl|trivial|assumption,by omega,O',ξ*ξ,hO',Nat.mul_pos hξ hξ,n7.monoE hu hl4,hp.nn (small hξ2).2,hinv'⟩
  ·obtain rfl:j=1:=by omega
   simp only[go_sem,q0,q2,show decide ((1:Int)<((1:Nat):Int))=false from rfl,show(((1:Nat):Int)).tdiv 2=((0:Nat):Int) from rfl,show IntKind.i64.wrap ((0:Nat):Int)=((0:Nat):Int) from rfl,two_and]
   exact⟨0,by omega,hw3,hl3,⟨_,_,ht3⟩,by first|rfl|trivial|assumption,by first|rfl|trivial|assumption,by omega,O',ξ,hO',hξ,n7,n1,by simpa using hinv'⟩
 ·rintro ρ h2 ⟨hw2,hl2,⟨m2,dp2,ht2⟩,n7⟩
  simp only[go_sem]
  exact fun hw'=>hk _ h2 _ _ hw' hl2 ht2 n7
set_option maxHeartbeats 1000000 in
set_option maxRecDepth 100000 in
theorem zRoot_calls (hT:TbOK t) (he:Eng 8 h e u) (ht:Tune h u m nw dp t) (na:Nn h va a) (wa:wlen a≤100) (hk1:1≤k) (hk2:k≤64) (hnw:nw≤500000000)
  (hk:∀r R h' m' dp',h'.wf→H.lee u h h'→Tune h' u m' nw dp' t→Nf h.next h' r R→R^k≤a→a<(R+1)^k→K (.tup [r, .int .i64 0]) h'):
  ACalls Tryz.prog 33 [.ptr (some (e,0)),va, .int .i64 (k:Int)] h K:=by
 have ba:Big a:=wbig wa (by omega)
 refine in_root_Engine_Root (by simp) fun hw=> ?_
 unfold c_root_Engine_Root
 obtain⟨f,rfl,rfl,G,E⟩:=Eng.path ht he
 have hu:=H.row_lt hw ht
 have l0:=H.lee_refl (f 8) h
 rcases Nat.lt_or_ge 1 k with c1|c1
 rotate_left
 ·obtain rfl:k=1:=by omega
  simp only[go_sem,show decide (((1:Nat):Int)<1)=false from rfl,show decide (((1:Nat):Int)>64)=false from rfl,show(((1:Nat):Int)==1)=true from rfl]
  refine Norm_calls na fun r h1 hw1 hl1 hr=> ?_
  simp only[go_sem]
  exact fun hw'=>hk r a h1 _ _ hw' hl1.lee (ht.mono hl1) hr (by simp) (by simp)
 simp only[go_sem,show decide ((k:Int)<1)=false from decide_eq_false (by omega),show decide ((k:Int)>64)=false from decide_eq_false (by omega),eqF (show(k:Int)≠1 by omega)]
 refine LenN_calls na ?_
 rcases Nat.eq_zero_or_pos a with h0|h0
 ·subst h0
  rw[wlen_zero]
  simp only[go_sem,eqT (show((0:Nat):Int)=0 from rfl)]
  refine Norm_calls na fun r h1 hw1 hl1 hr=> ?_
  simp only[go_sem]
  exact fun hw'=>hk r 0 h1 _ _ hw' hl1.lee (ht.mono hl1) hr (by rw[Nat.zero_pow (by omega)];exact Nat.le_refl _) (by simp)
 have hw0:wlen a≠0:=fun h=>by have:=wlen_eq_zero.1 h;omega
 simp only[go_sem,eqF (show((wlen a:Nat):Int)≠0 by omega)]
 refine nBits_calls na ?_
 have hbl:=blen_lt a
 have hbb:blen a≤6400:=by have:=wlen_blen a;omega
 rcases Nat.lt_or_ge k (blen a) with c2|c2
 rotate_left
 ·simp only[go_sem,show decide (((blen a:Nat):Int)≤(k:Int))=true from decide_eq_true (by omega)]
  refine One_calls (x:=1) (by decide) fun r h1 hw1 hl1 hr=> ?_
  simp only[go_sem]
  refine fun hw'=>hk r 1 h1 _ _ hw' hl1.lee (ht.mono hl1) hr (by simp;omega) (Nat.lt_of_lt_of_le hbl ?_)
  exact Nat.pow_le_pow_right (by omega) c2
 simp only[go_sem,show decide (((blen a:Nat):Int)≤(k:Int))=false from decide_eq_false (by omega)]
 obtain⟨b,hB⟩:∃b,b=blen a:=⟨_,rfl⟩
 rw[←hB] at hbl hbb c2⊢
 obtain⟨c,hc⟩:∃c,c=(b+k-1)/k:=⟨_,rfl⟩
 have hck:b≤c*k∧c*k≤b+k-1:=by
  constructor
  ·have:=Nat.lt_div_mul_add (a:=b+k-1) (b:=k) (by omega)
   rw[hc];omega
  ·rw[hc];exact Nat.div_mul_le_self _ _
 have hcb:c≤b+k:=by
  have:=Nat.le_mul_of_pos_right c (show 0<k by omega)
  omega
 have a1:IntKind.i64.wrap ((b:Int)+(k:Int))=((b+k:Nat):Int):=addI (by omega)
 have a2:IntKind.i64.wrap (((b+k:Nat):Int)-1)=((b+k-1:Nat):Int):=(wI (by omega) (by omega)).trans (by omega)
 have a3:((b+k-1:Nat):Int).tdiv (k:Int)=(c:Int):=by rw[hc];exact tdivN
 have a4:=wNI (n:=c) (by omega)
 refine One_calls (x:=1) (by decide) fun o h1 hw1 hl1 ho=> ?_
 simp only[go_sem]
 refine nBits_calls (na.mono hl1) ?_
 rw[←hB]
 simp only[go_sem,a1,a2,a3,a4,nz_and (show(k:Int)≠0 by omega)]
 refine lShl_calls (ho.nn (word_big (by decide))) (by omega) fun x0 h2 hw2 hl2 hx0=> ?_
 rw[Nat.one_mul] at hx0
 have l02:=(H.le_trans hl1 hl2)
 have hxk:∀X,X≤2^c→X^(k-1)≤2^(b+k):=fun X hX=>by
  refine Nat.le_trans (Nat.pow_le_pow_left hX _) ?_
  rw[←Nat.pow_mul]
  refine Nat.pow_le_pow_right (by omega) ?_
  have:c*(k-1)≤c*k:=Nat.mul_le_mul_left _ (by omega)
  omega
 have wxk:∀X,X≤2^c→wlen (X^(k-1))≤120:=fun X hX=>Nat.le_trans (wlen_two (hxk X hX)) (by omega)
 have wxc:∀X,X≤2^c→wlen X≤120:=fun X hX=>Nat.le_trans (wlen_two (Nat.le_trans hX (Nat.pow_le_pow_right (by omega) hcb))) (by omega)
 have a5:IntKind.i64.wrap ((k:Int)-1)=((k-1:Nat):Int):=(wI (by omega) (by omega)).trans (by omega)
 have a6:IntKind.u64.wrap ((k-1:Nat):Int)=((k-1:Nat):Int):=wUn (by omega)
 have a7:IntKind.u64.wrap (k:Int)=(k:Int):=wUn (by omega)
 simp only[go_sem]
 refine⟨fun X ρ h'=>h'.wf∧H.lee (f 8) h h'∧(∃m' dp',Tune h' (f 8) m' nw dp' t)∧ρ 0= .ptr (some (f 0,0))∧ρ 1=va∧ρ 2= .int .i64 (k:Int)∧Nf h.next h' (ρ 8) X∧X≤2^c∧∀r,r^k≤a→r≤X,2^c,
  ⟨hw2,l02.lee,⟨_,_,ht.mono l02⟩,by first|rfl|trivial|assumption,by first|rfl|trivial|assumption,by first|rfl|trivial|assumption,hx0.base hl1.1,Nat.le_refl _,fun r hr=> ?_⟩, ?_⟩
 ·rcases Nat.lt_or_ge (2^c) r with h5|h5
  ·exfalso
   have h6:(2^c)^k≤r^k:=Nat.pow_le_pow_left (Nat.le_of_lt h5) k
   rw[←Nat.pow_mul] at h6
   have h7:2^b≤2^(c*k):=Nat.pow_le_pow_right (by omega) hck.1
   omega
  ·exact h5
 rintro X ρ h3 ⟨hw3,hl3,⟨m3,dp3,ht3⟩,q0,q1,q2,n8,hXc,hXr⟩
 have hX0:0<X:=by
  have:=hXr 1 (by simp;omega)
  omega
 have wX:=wxc X hXc
 have bX:Big X:=wbig wX (by omega)
 simp only[go_sem,q0,q1,q2,a5,G 0 (by omega) _ hl3]
 refine raise_calls (x:=X) (k:=k-1) (he.monoE ht hl3) ht3 (n8.nn bX) hX0 (by have:=wxk X hXc;omega) (by omega) (by omega) fun p h4 m4 dp4 hw4 hl4 ht4 hp=> ?_
 have l4:=hl3.trans hl4
 have hA0:0<X^(k-1):=Nat.pow_pos hX0
 have wA:=wxk X hXc
 have bA:Big (X^(k-1)):=wbig wA (by omega)
 have hge:=fun r hr=>newton_ge (r:=r) (x:=X) (a:=a) hk1 hX0 hr
 have hex:X≤a/X^(k-1)→X^k≤a:=fun h5=>by
  have h6:=(Nat.le_div_iff_mul_le hA0).1 h5
  rw[Nat.mul_comm,←Nat.pow_succ,Nat.succ_eq_add_one,Nat.sub_add_cancel hk1] at h6
  exact h6
 simp only[go_sem,q0,q1,q2,G 0 (by omega) _ l4,true_and]
 refine DivMod2_calls hT ((E 1 (by omega)).monoE ht l4) ht4 (na.monoE' ht l4) (hp.nn bA) (by omega) (by omega) (by omega) (fun h5=>absurd h5 (by omega)) fun _ q r h5 m5 dp5 hw5 hl5 ht5 _ hq _=> ?_
 have l5:=l4.trans hl5
 have n8':=(n8.monoE hu hl4).monoE hu hl5
 have wq:wlen (a/X^(k-1))≤100:=Nat.le_trans (wlen_mono (Nat.div_le_self _ _)) wa
 generalize a/X^(k-1)=Q at*
 simp only[go_sem,q0,q1,q2,a5,a6]
 refine lAddMul_calls (w:=k-1) (hq.nn (wbig wq (by omega))) (n8'.nn bX) (by omega) fun s h6 hw6 hl6 hs=> ?_
 have bs:Big (Q+X*(k-1)):=by
  have h7:=wlen_le.1 (Nat.le_trans wq (show 100≤120 by omega))
  have h8:=wlen_le.1 wX
  have h9:X*(k-1)≤18446744073709551616^120*64:=Nat.mul_le_mul (Nat.le_of_lt h8) (by omega)
  have h10:18446744073709551616^121=18446744073709551616^120*18446744073709551616:=Nat.pow_succ ..
  exact lt_bigW (k:=121) (by omega) (by omega)
 simp only[go_sem,q0,q1,q2,a7]
 refine lDivWord_calls (w:=k) (hs.nn bs) (by omega) (by omega) fun y h7 hw7 hl7 hy=> ?_
 have bY:Big ((Q+X*(k-1))/k):=bs.le (Nat.div_le_self _ _)
 have n8'':=n8'.mono (H.le_trans hl6 hl7)
 have l7:=l5.trans (H.le_trans hl6 hl7).lee
 have ht7:=(ht5.mono hl6).mono hl7
 simp only[go_sem]
 refine lCmp_calls (hy.nn bY) (n8''.nn bX) ?_
 have hyr:∀r,r^k≤a→r≤(Q+X*(k-1))/k:=fun r hr=>by
  rw[Nat.le_div_iff_mul_le (by omega),Nat.mul_comm r k]
  have:=hge r hr
  rw[Nat.mul_comm (k-1) X] at this
  omega
 rcases Nat.lt_or_ge ((Q+X*(k-1))/k) X with c3|c3
 ·simp only[go_sem,show decide (cmpI ((Q+X*(k-1))/k) X≥0)=false by unfold cmpI;rw[if_pos c3];rfl,q0,q1,q2]
  exact⟨_,c3,hw7,l7,⟨_,_,ht7⟩,by first|rfl|trivial|assumption,by first|rfl|trivial|assumption,by first|rfl|trivial|assumption,hy.base (by have:=l5.1;have:=hl6.1;omega),by omega,hyr⟩
 ·simp only[go_sem,show decide (cmpI ((Q+X*(k-1))/k) X≥0)=true by unfold cmpI;rw[if_neg (by omega)];split<;>rfl]
  refine fun hw'=>hk _ X h7 _ _ hw' l7 ht7 n8'' ?_ ?_
  ·refine hex ?_
   have h8:=(Nat.le_div_iff_mul_le (show 0<k by omega)).1 c3
   have h9:X*k=X*(k-1)+X:=by rw[←Nat.mul_succ];congr 1;omega
   omega
  ·rcases Nat.lt_or_ge a ((X+1)^k) with h8|h8
   ·exact h8
   ·have:=hXr (X+1) h8
    omega
theorem Sqrt_calls (hT:TbOK t) (he:Eng 8 h e u) (ht:Tune h u m nw dp t) (na:Nn h va a) (wa:wlen a≤100) (hnw:nw≤500000000)
  (hk:∀s r S h' m' dp',h'.wf→H.lee u h h'→Tune h' u m' nw dp' t→Nf h.next h' s S→Nf h.next h' r (a-S*S)→S^2≤a→a<(S+1)^2→K (.tup [s,r]) h'):
  ACalls Tryz.prog 28 [.ptr (some (e,0)),va] h K:=by
 have ba:Big a:=wbig wa (by omega)
 refine in_root_Engine_Sqrt (by simp) fun hw=> ?_
 unfold c_root_Engine_Sqrt
 obtain⟨f,rfl,rfl,G,E⟩:=Eng.path ht he
 have hu:=H.row_lt hw ht
 simp only[go_sem]
 refine zRoot_calls (k:=2) hT he ht na wa (by omega) (by omega) hnw fun s S h1 m1 dp1 hw1 hl1 ht1 hs hS1 hS2=> ?_
 have hSS:S*S≤a:=by rw[←Nat.pow_two];exact hS1
 have hSa:S≤a:=by
  rcases Nat.eq_zero_or_pos S with h0|h0
  ·omega
  ·exact Nat.le_trans (Nat.le_mul_of_pos_right _ h0) hSS
 have wS:wlen S≤100:=Nat.le_trans (wlen_mono hSa) wa
 simp only[go_sem,G 0 (by omega) _ hl1,G 1 (by omega) _ hl1,G 2 (by omega) _ hl1,G 3 (by omega) _ hl1]
 refine Mul2_calls ((E 4 (by omega)).monoE ht hl1) ht1 (hs.nn (ba.le hSa)) (hs.nn (ba.le hSa)) (by omega) (by omega) (by omega) fun p h2 m2 dp2 hw2 hl2 ht2 _ hp=> ?_
 have l2:=hl1.trans hl2
 simp only[go_sem]
 refine lSub_calls (na.monoE' ht l2) (hp.nn (ba.le hSS)) (fun h5=>absurd h5 (by omega)) fun _ r h3 hw3 hl3 hr=> ?_
 simp only[go_sem]
 exact fun hw'=>hk _ r S h3 _ _ hw' (l2.trans hl3.lee) (ht2.mono hl3) ((hs.monoE hu hl2).mono hl3) (hr.base l2.1) hS1 hS2
end
end
section
section
variable {va vx:AV} {a x k:Nat} {h:H} {K:AV→H→Prop}
theorem rPow3_calls (na:Num 4294967296 h va a) (wa:wlen a≤100)
  (hk:∀r h',h'.wf→h.le h'→Num 4294967296 h' r (a^3)→K r h'):ACalls Tryz.prog 34 [va, .int .i64 3] h K:=by
 have ba:Big a:=wbig wa (by omega)
 refine in_ref02_Pow (by simp) fun hw=> ?_
 unfold c_ref02_Pow
 simp only[go_sem]
 refine Small_calls (x:=1) (by decide) fun o h1 hw1 hl1 ho=> ?_
 simp only[go_sem]
 refine for_rule (fun i ρ h'=>i≤3∧h'.wf∧h.le h'∧ρ 0=va∧ρ 1= .int .i64 3∧ρ 6= .int .i64 (i:Int)∧Num 4294967296 h' (ρ 5) (a^i)) 3 ⟨Nat.zero_le _,hw1,hl1,by first|rfl|trivial|assumption,by first|rfl|trivial|assumption,by first|rfl|trivial|assumption,by rw[Nat.pow_zero];exact ho⟩ (fun i ρ h hI=>hI.1) ?_
 rintro i ρ h2 ⟨hi,hw2,hl2,q0,q1,q6,n5⟩
 rcases Nat.lt_or_ge i 3 with c1|c1
 ·have bp:Big (a^i):=by
   have h3:a^i≤(18446744073709551616^100)^i:=Nat.pow_le_pow_left (Nat.le_of_lt (wlen_le.1 wa)) i
   rw[←Nat.pow_mul] at h3
   exact lt_bigW (k:=100*i+1) (Nat.lt_of_le_of_lt h3 (Nat.pow_lt_pow_right (by omega) (by omega))) (by omega)
  simp only[go_sem,q0,q1,q6,show decide ((i:Int)<3)=true from decide_eq_true (by omega)]
  refine Mul_calls n5 (na.mono hl2) bp ba fun p h3 hw3 hl3 hp=> ?_
  rw[←Nat.pow_succ] at hp
  simp only[go_sem,q0,q1,q6,incI (i:=i) (by omega)]
  exact⟨by omega,hw3,(H.le_trans hl2 hl3),by first|rfl|trivial|assumption,by first|rfl|trivial|assumption,by first|rfl|trivial|assumption,hp⟩
 ·obtain rfl:i=3:=by omega
  simp only[go_sem,q0,q1,q6,show decide (((3:Nat):Int)<3)=false from rfl]
  exact fun _=>hk _ h2 hw2 hl2 n5
end
end
section
theorem sq_le {S a:Nat} (h:S^2≤a):S≤a∧S*S≤a:=by
 rw[Nat.pow_two] at h
 refine⟨?_,h⟩
 rcases Nat.eq_zero_or_pos S with h0|h0
 ·omega
 ·exact Nat.le_trans (Nat.le_mul_of_pos_right _ h0) h
theorem pow_ge {S k:Nat} (hk:1≤k):S≤S^k:=by
 rcases Nat.eq_zero_or_pos S with h5|h5
 ·subst h5;simp
 ·calc S=S^1:=(Nat.pow_one S).symm
   _≤S^k:=Nat.pow_le_pow_right h5 hk
section
variable {va vb:AV} {x y n:Nat} {xs:List Nat} {h:H} {K:AV→H→Prop}
theorem from16_calls (hv:Nn h va x) (hk:∀r h',h'.wf→h.le h'→Num 4294967296 h' r x→K r h'):ACalls Tryz.prog 30 [va] h K:=by
 obtain⟨xs,h1,h2,h3,rfl⟩:=hv
 refine in_law16_from (by simp) fun hw=> ?_
 unfold c_law16_from
 simp only[go_sem]
 refine From_calls h1 h2 (by omega) fun r h' hw' hl' hr=> ?_
 simp only[go_sem]
 exact fun _=>hk r h' hw' hl' hr
theorem wakes16_calls (hk:∀h',h'.wf→h.le h'→K (.bool true) h'):ACalls Tryz.prog 36 [] h K:=by
 refine in_law16_wakes (by simp) fun hw=> ?_
 unfold c_law16_wakes
 have e1:∀l:List AV,abuild l []=some l:=fun l=>by simp[abuild]
 simp only[go_sem,e1]
 refine roNew_calls (t:=⟨0,0,0,0,0,0,0,0,0,0,0⟩) fun e u h1 hw1 hl1 hn1 hue he ht=> ?_
 simp only[go_sem,Bool.false_bne,Option.isNone]
 have hl2:=H.le_new hw1 (H.le_refl h1) ⟨some 73,1,[AV.int .u64 10]⟩
 have d1:Dig [10]:=Dig.one (by omega)
 refine Sqrt_calls (clamp_ok _) (a:=val 18446744073709551616 [10]) (he.mono hl2) (ht.mono hl2) ((IsN.lit [10] _ rfl rfl).nn d1 (by simp)) (by decide) (by omega) fun s r S h4 m4 dp4 hw4 hl4 ht4 hs hr hS1 hS2=> ?_
 have hS:=root_uniq (a:=val 18446744073709551616 [10]) (k:=2) (s:=3) hS1 hS2 (by decide) (by decide)
 subst hS
 rw[show val 18446744073709551616 [10]-3*3=1 by decide] at hr
 obtain⟨ss,hs1,hs2,hs3,hs4⟩:=hs
 have hsl:ss=[3]:=top_inj hs2 (Dig.one (by omega)) hs3 (fun z hz=>by simp at hz;omega) (by rw[hs4];decide)
 subst hsl
 obtain⟨rs,hr1,hr2,hr3,hr4⟩:=hr
 have hrl:rs=[1]:=top_inj hr2 (Dig.one (by omega)) hr3 (fun z hz=>by simp at hz;omega) (by rw[hr4];decide)
 subst hrl
 have hl04:=H.le_over hw (H.le_trans hl1 hl2) hn1 hl4
 simp only[go_sem]
 have hw5:=H.wf_new hw4 ⟨some 73,1,[AV.int .u64 3]⟩
 have hl5:=H.le_new hw4 (H.le_refl h4) ⟨some 73,1,[AV.int .u64 3]⟩
 refine kSame_calls (xs:=[3]) (hs1.isN.mono hl5) (IsN.lit [3] _ rfl rfl) (by simp) ?_
 simp only[go_sem]
 have hl6:=H.le_new hw5 (H.le_refl _) ⟨some 73,1,[AV.int .u64 1]⟩
 refine kSame_calls (xs:=[1]) ((hr1.isN.mono hl5).mono hl6) (IsN.lit [1] _ rfl rfl) (by simp) ?_
 simp only[go_sem]
 exact fun hw'=>hk _ hw' (H.le_trans hl04 (H.le_trans hl5 hl6))
end
section
variable {t:Tb} {va vb vc:AV} {xs0 ys0 zs0:List Nat} {h:H} {K:AV→H→Prop}
set_option maxHeartbeats 1000000 in
theorem RootBounds_law (hv0:IsN h va xs0) (hx0:Dig xs0) (hk:∀h',h'.wf→K (.bool true) h'):ACalls Tryz.prog 6 [t.av,va] h K:=by
 refine in_law16_RootBounds (by simp) fun hw=> ?_
 unfold c_law16_RootBounds
 have hl0:=H.le_new hw (H.le_refl h) ⟨some 23,11,t.cells⟩
 have hr0:=H.rows_new h ⟨some 23,11,t.cells⟩
 simp only[go_sem,av_held,av_cells,cells_len,true_and]
 generalize hg:h.new ⟨some 23,11,t.cells⟩=g0 at*
 refine Cut_calls (n:=60) (hv0.mono hl0) fun a ha=> ?_
 have hxd:Dig (xs0.take 60):=Dig.take hx0 60
 have hxl:(xs0.take 60).length≤60:=by simp;omega
 generalize xs0.take 60=xs at*
 simp only[go_sem,gsT hr0]
 refine roNew_calls fun e u g1 hw1 hl1 hn1 hue he ht=> ?_
 have na:=(ha.mono hl1).nn hxd (by omega)
 have wd:wlen (val 18446744073709551616 xs)≤60:=Nat.le_trans (wlen_len hxd) hxl
 have bd:Big (val 18446744073709551616 xs):=wbig wd (by omega)
 clear ha hxd hxl
 generalize val 18446744073709551616 xs=x at*
 have hu1:=H.row_lt hw1 ht
 simp only[go_sem,Option.isNone,Bool.false_bne]
 refine Sqrt_calls (clamp_ok _) he ht na (by omega) (by omega) fun s r S g2 m2 dp2 hw2 hl2 ht2 hs hr hS1 hS2=> ?_
 obtain⟨hSa,hSS⟩:=sq_le hS1
 have bS:=bd.le hSa
 have wS:=Nat.le_trans (wlen_mono hSa) wd
 have br:=bd.le (Nat.sub_le x (S*S))
 have na2:=na.monoE' ht hl2
 simp only[go_sem]
 refine from16_calls (hs.nn bS) fun f1 g3 hw3 hl3 n1=> ?_
 simp only[go_sem]
 refine from16_calls ((hs.nn bS).mono hl3) fun f2 g4 hw4 hl4 n2=> ?_
 simp only[go_sem]
 refine Mul_calls (n1.mono hl4) n2 bS bS fun p g5 hw5 hl5 np=> ?_
 have l25:=(H.le_trans hl3 (H.le_trans hl4 hl5))
 simp only[go_sem]
 refine from16_calls ((hr.nn br).mono l25) fun f3 g6 hw6 hl6 n3=> ?_
 simp only[go_sem]
 refine Add_calls (np.mono hl6) n3 (bd.le hSS) br fun q g7 hw7 hl7 nq=> ?_
 rw[show S*S+(x-S*S)=x by omega] at nq
 have l27:=(H.le_trans l25 (H.le_trans hl6 hl7))
 simp only[go_sem]
 refine from16_calls (na2.mono l27) fun f4 g8 hw8 hl8 n4=> ?_
 simp only[go_sem]
 refine Cmp_calls (nq.mono hl8) n4 bd bd ?_
 have l28:=(H.le_trans l27 hl8)
 simp only[go_sem,cmpI_ne]
 refine from16_calls ((hr.nn br).mono l28) fun f5 g9 hw9 hl9 n5=> ?_
 simp only[go_sem]
 refine from16_calls ((hs.nn bS).mono (H.le_trans l28 hl9)) fun f6 g10 hw10 hl10 n6=> ?_
 simp only[go_sem]
 refine from16_calls ((hs.nn bS).mono (H.le_trans l28 (H.le_trans hl9 hl10))) fun f7 g11 hw11 hl11 n7=> ?_
 simp only[go_sem]
 refine Add_calls (n6.mono hl11) n7 bS bS fun q2 g12 hw12 hl12 nq2=> ?_
 have l212:=(H.le_trans l28 (H.le_trans hl9 (H.le_trans hl10 (H.le_trans hl11 hl12))))
 have wSS:wlen (S+S)≤61:=by
  have h4:=wlen_le.1 wS
  have h5:18446744073709551616^61=18446744073709551616^60*18446744073709551616:=Nat.pow_succ ..
  exact wlen_le.2 (by omega)
 have hrS:x-S*S≤S+S:=by
  have e:(S+1)^2=S*S+(S+S)+1:=by rw[Nat.pow_two];grind
  omega
 simp only[go_sem]
 refine Cmp_calls (n5.mono (H.le_trans hl10 (H.le_trans hl11 hl12))) nq2 br (wbig wSS (by omega)) ?_
 simp only[go_sem,show decide (0<cmpI (x-S*S) (S+S))=false by unfold cmpI;split;rfl;rw[if_pos (by omega)];rfl]
 have l12:=hl2.trans l212.lee
 have ht12:=ht2.mono l212
 refine zRoot_calls (k:=3) (clamp_ok _) (he.monoE ht l12) ht12 (na.monoE' ht l12) (by omega) (by omega) (by omega) (by omega) fun c C g13 m13 dp13 hw13 hl13 ht13 hc hC1 hC2=> ?_
 have hCx:C≤x:=Nat.le_trans (pow_ge (show 1≤3 by omega)) hC1
 have bC:=bd.le hCx
 have wC:=Nat.le_trans (wlen_mono hCx) wd
 have wC1:wlen (C+1)≤61:=by
  have h4:=wlen_le.1 wC
  have h5:18446744073709551616^61=18446744073709551616^60*18446744073709551616:=Nat.pow_succ ..
  exact wlen_le.2 (by omega)
 have na13:=na.monoE' ht (l12.trans hl13)
 have bC3:Big ((C+1)^3):=by
  have h6:=mul_wlen' (mul_wlen' wC1 wC1) wC1
  have e:(C+1)^3=(C+1)*(C+1)*(C+1):=by rw[Nat.pow_succ,Nat.pow_two]
  rw[e]
  exact wbig h6 (by omega)
 simp only[go_sem]
 refine from16_calls (hc.nn bC) fun f8 g14 hw14 hl14 n8=> ?_
 simp only[go_sem]
 refine rPow3_calls n8 (by omega) fun q3 g15 hw15 hl15 nq3=> ?_
 simp only[go_sem]
 refine from16_calls ((hc.nn bC).mono (H.le_trans hl14 hl15)) fun f9 g16 hw16 hl16 n9=> ?_
 simp only[go_sem]
 refine Small_calls (x:=1) (by decide) fun f10 g17 hw17 hl17 n10=> ?_
 simp only[go_sem]
 refine Add_calls (n9.mono hl17) n10 bC (word_big (by decide)) fun q4 g18 hw18 hl18 nq4=> ?_
 simp only[go_sem]
 refine rPow3_calls nq4 (by omega) fun q5 g19 hw19 hl19 nq5=> ?_
 have l1319:=(H.le_trans hl14 (H.le_trans hl15 (H.le_trans hl16 (H.le_trans hl17 (H.le_trans hl18 hl19)))))
 simp only[go_sem,beq_self_eq_true]
 refine from16_calls (na13.mono l1319) fun f11 g20 hw20 hl20 n11=> ?_
 simp only[go_sem]
 refine Cmp_calls (nq3.mono (H.le_trans hl16 (H.le_trans hl17 (H.le_trans hl18 (H.le_trans hl19 hl20))))) n11 (bd.le hC1) bd ?_
 simp only[go_sem,show decide (cmpI (C^3) x≤0)=true by unfold cmpI;split;rfl;rw[if_pos (by omega)];rfl]
 refine from16_calls (na13.mono (H.le_trans l1319 hl20)) fun f12 g21 hw21 hl21 n12=> ?_
 simp only[go_sem]
 refine Cmp_calls (nq5.mono (H.le_trans hl20 hl21)) n12 bC3 bd ?_
 simp only[go_sem,show decide (0<cmpI ((C+1)^3) x)=true by unfold cmpI;rw[if_neg (by omega),if_neg (by omega)];rfl]
 refine wakes16_calls fun g9 hw9 hl9=> ?_
 simp only[go_sem]
 exact fun _=>hk g9 hw9
end
set_option maxRecDepth 100000 in
theorem RootBounds_row (h:H) (avs:List AV) (_:h.wf) (r:ReadsAll Tryz.prog h [23,36] avs):ACalls Tryz.prog 6 avs h (fun r _=>r= .bool true):=by
 match avs,r with
 |[_,_],⟨r0,r1,_⟩=>
  obtain⟨t0,rfl⟩:=reads_table r0
  obtain⟨xs,h1,hx,_⟩:=reads_words r1
  exact RootBounds_law h1 hx fun _ _=>rfl
end
end Ab
end Go.Proofs.YtkbglkjpdndkiaaGreatDoor
