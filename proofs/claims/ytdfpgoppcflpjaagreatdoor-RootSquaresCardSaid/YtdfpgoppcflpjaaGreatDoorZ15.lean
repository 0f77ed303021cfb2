/- Joined texts: J1 I1 J6 I8 J8 J9 J10. No condition. -/
import Derived.Test.YtdfpgoppcflpjaaGreatDoorZ14
import Derived.Test.YtdfpgoppcflpjaaGreatDoorProg
import Derived.KernelRfl
namespace Go.Proofs.YtdfpgoppcflpjaaGreatDoor
namespace Ab
open Go Go.RowKit
set_option linter.unusedSimpArgs false
set_option linter.unusedVariables false
attribute [local go_sem ↓] x_mv x_pick x_bin x_beq x_peq x_seq x_cat x_aeq x_idxS x_idxV x_un x_cvI x_idx x_idxA x_fld x_ld x_st x_nn x_prt x_slc x_mk x_bsl x_bld x_box x_alloc x_len x_capo x_mnx x_app x_cpy x_mkf x_ext x_call x_callV x_bad s_none s_some s_nil s_cons s_chks w_skip w_reg tP_fin tP_no tP_alt w_seq w_cond w_block w_exit w_ret t_normal t_exit t_ret b_normal b_ret b_exit n_normal n_exit n_ret p_normal p_ret f_nil f_t f_c k_ops k_chk k_fin
attribute [local go_sem] e_t e_c e_f u_some u_none u_at env_at k_v k_pick k_add k_sub k_mul k_quo k_rem k_and k_or k_xor k_shl k_shr k_eql k_neq k_lss k_leq k_gtr k_geq k_beq k_peqn k_peqs k_neg k_not k_com k_cvI k_idxS k_idxV1 k_idxVn k_idx k_idxA k_idxG k_ldG k_gld k_seq k_cat k_aeq k_eqs k_fld k_ld1 k_ldn k_get k_gets k_sti k_stb k_stp k_sts k_stf k_sta k_put k_nn k_prt1 k_prtn k_slc_a k_slc_b k_slc_c k_mk k_agg k_bsl k_box k_len k_lenS k_cap k_max k_min k_ext k_callV k_true k_false k_gtt k_gtf k_gft k_gsk k_gff k_lit1i k_lit2i k_lit3i k_c0 k_c1 k_ck List.getElem?_cons_zero List.getElem?_cons_succ List.getElem?_nil Option.getD_some Option.getD_none tupOf List.map_cons List.map_nil Option.map_some Option.map_none List.nil_append List.cons_append List.append_nil Nat.mul_one Int.toNat_natCast Nat.zero_add
attribute [local go_sem] e_t e_c e_f u_some u_none u_at env_at k_v k_pick k_add k_sub k_mul k_quo k_rem k_and k_or k_xor k_shl k_shr k_eql k_neq k_lss k_leq k_gtr k_geq k_beq k_peqn k_peqs k_neg k_not k_com k_cvI k_idxS k_idxV1 k_idxVn k_idx k_idxA k_idxG k_ldG k_gld k_seq k_cat k_aeq k_eqs k_fld k_ld1 k_ldn k_get k_gets k_sti k_stb k_stp k_sts k_stf k_sta k_put k_nn k_prt1 k_prtn k_slc_a k_slc_b k_slc_c k_mk k_agg k_bsl k_box k_len k_lenS k_cap k_max k_min k_ext k_callV k_true k_false k_gtt k_gtf k_gft k_gsk k_gff k_lit1i k_lit2i k_lit3i k_c0 k_c1 k_ck List.getElem?_cons_zero List.getElem?_cons_succ List.getElem?_nil Option.getD_some Option.getD_none tupOf List.map_cons List.map_nil Option.map_some Option.map_none List.nil_append List.cons_append List.append_nil Nat.mul_one Int.toNat_natCast Nat.zero_add
--what a store into a cell of two leaves
attribute [local go_sem_proc] Nat.reduceEqDiff Nat.reduceAdd Int.reduceToNat
attribute [local go_sem_proc ↓] reduceIte
attribute [local go_sem] Bool.false_eq_true
theorem H.le_over {u:Nat} {a b c:H} (hw:a.wf) (h1:a.le b) (hu:a.next≤u) (h2:H.lee u b c):a.le c:=
 ⟨Nat.le_trans h1.1 h2.1,fun i r e=>h2.2 i r (by have:=H.row_lt hw e;omega) (h1.2 i r e)⟩
theorem two_and {p:Prop}:((2:Int)≠0∧p)=p:=by simp
theorem nz_and {k:Int} (h:k≠0) {p:Prop}:(k≠0∧p)=p:=by simp[h]
section
def sg (b:Bool) (x:Nat):Int:=if b=true then-(x:Int) else(x:Int)
theorem Num.monoE {B u m nw dp:Nat} {t:Tb} {h h':H} {v:AV} {n:Nat} (ht:Tune h u m nw dp t) (hv:Num B h v n) (hl:H.lee u h h'):Num B h' v n:=by
 obtain⟨xs,h1,h2⟩:=hv
 exact⟨xs,h1.monoE ht hl,h2⟩
theorem g2 {h:H} {i:Nat} {T:Option TypeId} {a b:AV} (hr:h.rows i=some ⟨T,2,[a,b]⟩):h.get i 0=some a∧h.get i 1=some b∧h.gets i 0 2=some [a,b]:=by
 rw[H.get_of hr,H.get_of hr,H.gets_of hr (by simp)]
 exact⟨rfl,rfl,rfl⟩
section
variable {v u wa wb:AV} {ba bb:Bool} {x y:Nat} {h:H} {K:AV→H→Prop}
theorem rZero_calls (nv:Num 4294967296 h v x) (hk:K (.bool (decide (x=0))) h):ACalls Tryz.prog 47 [v] h K:=by
 obtain⟨xs,h1,h2,h3,rfl⟩:=nv
 obtain⟨id,off,c,rfl⟩:=h1.form
 refine in_ref02_Zero (by simp) fun hw=> ?_
 unfold c_ref02_Zero
 have e:((xs.length:Int)==0)=decide (val 4294967296 xs=0):=by
  rw[Bool.eq_iff_iff]
  simp only[beq_iff_eq,decide_eq_true_eq]
  constructor
  ·intro h0
   have:xs=[]:=List.eq_nil_of_length_eq_zero (by omega)
   subst this
   rfl
  ·intro h0
   rcases Nat.eq_zero_or_pos xs.length with h|h
   ·omega
   ·exfalso
    have h4:xs≠ []:=by intro e;subst e;simp at h
    have h5:=val_ge 4294967296 xs h3 h4
    have h6:0<4294967296^(xs.length-1):=Nat.pow_pos (by omega)
    omega
 simp only[go_sem,e]
 exact fun _=>hk
end
end
def Kp (b u:Nat) (h h':H):Prop:=h.next≤h'.next∧∀j r,j≠u→(j<b∨r.own=some 47)→h.rows j=some r→h'.rows j=some r
section
section
variable {t:Tb} {h:H} {K:AV→H→Prop}
theorem roNew_calls (hk:∀e u h',h'.wf→h.le h'→h.next≤u→u<e→Eng 8 h' e u→Tune h' u 0 0 0 (clampT t)→K (.ptr (some (e,0))) h'):ACalls Tryz.prog 57 [t.av] h K:=by
 refine in_root_New (by simp) fun hw=> ?_
 unfold c_root_New
 have hl1:=H.le_new hw (H.le_refl h) ⟨some 23,11,t.cells⟩
 have hn1:h.next<(h.new ⟨some 23,11,t.cells⟩).next:=Nat.lt_succ_self _
 simp only[go_sem,av_held,av_cells,cells_len,true_and,gsT (H.rows_new h _)]
 refine diNew_calls fun e u h1 hw1 hl2 hn2 _ he ht=> ?_
 simp only[go_sem,bldp]
 simp only[AV.held,AV.cells,true_and,go_sem]
 have hl3:=H.le_new hw1 (H.le_refl h1) ⟨some 135,1,[AV.ptr (some (e,0))]⟩
 exact fun hw'=>hk _ u _ hw' (H.le_trans hl1 (H.le_trans hl2 hl3)) (by omega) (H.row_lt hw1 ht) ⟨_,e,H.rows_new _ _,rfl,he.mono hl3⟩ (ht.mono hl3)
end
end
section
theorem amgm_step {r x A B C:Int} {k:Int} (hk:0≤k) (hP:0≤A) (h:k*(r*A)≤B+(k-1)*(x*A)) (hr:0≤r) (hAx:x*A=C):(k+1)*(r*C)≤r*B+k*(x*C):=by
 subst hAx
 have h1:r*(k*(r*A))≤r*(B+(k-1)*(x*A)):=Int.mul_le_mul_of_nonneg_left h hr
 have h2:0≤(r-x)*(r-x):=by
  rcases Int.le_total r x with h|h
  ·have:=Int.mul_nonneg (a:=x-r) (b:=x-r) (by omega) (by omega)
   have e:(r-x)*(r-x)=(x-r)*(x-r):=by grind
   omega
  ·exact Int.mul_nonneg (by omega) (by omega)
 have h3:0≤k*(A*((r-x)*(r-x))):=Int.mul_nonneg hk (Int.mul_nonneg hP h2)
 have e1:r*(k*(r*A))=k*(r*r*A):=by grind
 have e2:r*(B+(k-1)*(x*A))=r*B+k*(r*x*A)-r*x*A:=by grind
 have e3:k*(A*((r-x)*(r-x)))=k*(r*r*A)-2*(k*(r*x*A))+k*(x*x*A):=by grind
 have e4:(k+1)*(r*(x*A))=k*(r*x*A)+r*x*A:=by grind
 have e5:k*(x*(x*A))=k*(x*x*A):=by grind
 rw[e1,e2] at h1
 rw[e3] at h3
 rw[e4,e5]
 omega
theorem amgm {r x:Nat}:∀k:Nat,((k:Int)+1)*((r:Int)*(x^k:Nat))≤(r^(k+1):Nat)+(k:Int)*((x:Int)*(x^k:Nat)):=by
 intro k
 induction k with
 |zero=>simp
 |succ k ih=>
  have h:=amgm_step (r:=(r:Int)) (x:=(x:Int)) (A:=((x^k:Nat):Int)) (B:=((r^(k+1):Nat):Int)) (C:=((x^(k+1):Nat):Int)) (k:=(k:Int)+1) (by omega) (by omega) (by rw[show(k:Int)+1-1=k by omega];exact ih) (by omega) (by rw[Nat.pow_succ];simp[Int.mul_comm])
  have e:((r^(k+1+1):Nat):Int)=(r:Int)*((r^(k+1):Nat):Int):=by rw[Nat.pow_succ r (k+1)];simp[Int.mul_comm]
  rw[e]
  exact_mod_cast h
theorem newton_ge {r x a k:Nat} (hk:1≤k) (hx:0<x) (hr:r^k≤a):k*r≤(k-1)*x+a/x^(k-1):=by
 obtain⟨j,rfl⟩:∃j,k=j+1:=⟨k-1,by omega⟩
 rw[Nat.add_sub_cancel]
 have hA:0<x^j:=Nat.pow_pos hx
 rcases Nat.le_total ((j+1)*r) (j*x) with h|h
 ·exact Nat.le_trans h (Nat.le_add_right _ _)
 ·obtain⟨d,hd⟩:∃d,(j+1)*r=j*x+d:=⟨(j+1)*r-j*x,by omega⟩
  rw[hd]
  refine Nat.add_le_add_left ?_ _
  rw[Nat.le_div_iff_mul_le hA]
  have h1:=amgm (r:=r) (x:=x) j
  have h2:(j+1)*r*x^j≤r^(j+1)+j*x*x^j:=by
   have e1:(((j+1)*r*x^j:Nat):Int)=((j:Int)+1)*((r:Int)*(x^j:Nat)):=by simp[Int.mul_assoc]
   have e2:((r^(j+1)+j*x*x^j:Nat):Int)=(r^(j+1):Nat)+(j:Int)*((x:Int)*(x^j:Nat)):=by simp[Int.mul_assoc]
   rw[←e1,←e2] at h1
   exact Int.ofNat_le.1 h1
  rw[hd,Nat.add_mul] at h2
  omega
theorem root_uniq {a k r s:Nat} (h1:r^k≤a) (h2:a<(r+1)^k) (h3:s^k≤a) (h4:a<(s+1)^k):r=s:=by
 have key:∀{r s:Nat},r^k≤a→a<(s+1)^k→r≤s:=by
  intro r s h1 h4
  rcases Nat.lt_or_ge s r with h|h
  ·exact absurd (Nat.lt_of_le_of_lt h1 (Nat.lt_of_lt_of_le h4 (Nat.pow_le_pow_left h k))) (Nat.lt_irrefl _)
  ·exact h
 exact Nat.le_antisymm (key h1 h4) (key h3 h2)
theorem mul_wlen' {x y n k:Nat} (hx:wlen x≤n) (hy:wlen y≤k):wlen (x*y)≤n+k:=by
 have h1:x*y<18446744073709551616^n*18446744073709551616^k:=Nat.mul_lt_mul_of_lt_of_le (wlen_le.1 hx) (Nat.le_of_lt (wlen_le.1 hy)) (Nat.pow_pos (by omega))
 rw[←Nat.pow_add] at h1
 exact wlen_le.2 h1
theorem pow_half {x k:Nat}:x^k=(x*x)^(k/2)*x^(k%2):=by
 rw[←Nat.pow_two,←Nat.pow_mul,←Nat.pow_add]
 congr 1
 omega
section
variable {e u m nw dp a x k:Nat} {t:Tb} {va vx:AV} {h:H} {K:AV→H→Prop}
set_option maxHeartbeats 1000000 in
theorem raise_calls (he:Eng 8 h e u) (ht:Tune h u m nw dp t) (nx:Nn h vx x) (hx:0<x) (hT:wlen (x^k)≤8000) (hk9:k≤1000000) (hnw:nw≤600000000)
  (hk:∀r h' m' dp',h'.wf→H.lee u h h'→Tune h' u m' nw dp' t→Nf h.next h' r (x^k)→K r h'):
  ACalls Tryz.prog 97 [.ptr (some (e,0)),vx, .int .i64 (k:Int)] h K:=by
 refine in_root_Engine_raise (by simp) fun hw=> ?_
 unfold c_root_Engine_raise
 obtain⟨f,rfl,rfl,G,E⟩:=Eng.path ht he
 have hu:=H.row_lt hw ht
 have hT0:0<x^k:=Nat.pow_pos hx
 generalize hTT:x^k=T at*
 have small:∀{z:Nat},z≤T→wlen z≤8000∧Big z:=fun hz=>⟨Nat.le_trans (wlen_mono hz) hT,wbig (Nat.le_trans (wlen_mono hz) hT) (by omega)⟩
 simp only[go_sem]
 refine One_calls (x:=1) (by decide) fun o h1 hw1 hl1 ho=> ?_
 simp only[go_sem]
 refine loop_cut (fun ρ h'=>h'.wf∧H.lee (f 8) h h'∧(∃m' dp',Tune h' (f 8) m' nw dp' t)∧Nf h.next h' (ρ 7) T) ?_ ?_
 ·refine⟨fun j ρ h'=>h'.wf∧H.lee (f 8) h h'∧(∃m' dp',Tune h' (f 8) m' nw dp' t)∧ρ 0= .ptr (some (f 0,0))∧ρ 2= .int .i64 (j:Int)∧j≤k∧∃O ξ,0<O∧0<ξ∧Nf h.next h' (ρ 7) O∧Nn h' (ρ 1) ξ∧O*ξ^j=T,k,
   ⟨hw1,hl1.lee,⟨_,_,ht.mono hl1⟩,by first|rfl|trivial|assumption,by first|rfl|trivial|assumption,Nat.le_refl _,1,x,by omega,hx,ho,nx.mono hl1,by rw[Nat.one_mul];exact hTT⟩, ?_⟩
  rintro j ρ h2 ⟨hw2,hl2,⟨m2,dp2,ht2⟩,q0,q2,hjk,O,ξ,hO,hξ,n7,n1,hinv⟩
  rcases Nat.eq_zero_or_pos j with h0|h0
  ·subst h0
   rw[Nat.pow_zero,Nat.mul_one] at hinv
   subst hinv
   simp only[go_sem,q0,q2,show decide ((0:Int)<((0:Nat):Int))=false from rfl]
   exact⟨hw2,hl2,⟨_,_,ht2⟩,n7⟩
  have hO1:O*ξ≤T:=by
   rw[←hinv]
   refine Nat.mul_le_mul_left _ ?_
   calc ξ=ξ^1:=(Nat.pow_one ξ).symm
    _≤ξ^j:=Nat.pow_le_pow_right hξ h0
  have hO2:O≤T:=Nat.le_trans (Nat.le_mul_of_pos_right _ hξ) hO1
  have hξ1:ξ≤T:=Nat.le_trans (Nat.le_mul_of_pos_left _ hO) hO1
  have hpw:=pow_half (x:=ξ) (k:=j)
  have e1:((j:Nat):Int).tmod 2=((j%2:Nat):Int):=tmodN (a:=j) (b:=2)
  have e2:((j:Nat):Int).tdiv 2=((j/2:Nat):Int):=tdivN (a:=j) (b:=2)
  have e3:=wNI (n:=j%2) (by omega)
  have e4:=wNI (n:=j/2) (by omega)
  simp only[go_sem,q0,q2,show decide ((0:Int)<((j:Nat):Int))=true from decide_eq_true (by omega),e1,e3,two_and]
  refine cond_cut (fun ρ' h3=>h3.wf∧H.lee (f 8) h h3∧(∃m' dp',Tune h3 (f 8) m' nw dp' t)∧ρ' 0= .ptr (some (f 0,0))∧ρ' 2= .int .i64 (j:Int)∧∃O',0<O'∧Nf h.next h3 (ρ' 7) O'∧Nn h3 (ρ' 1) ξ∧O'*(ξ*ξ)^(j/2)=T) ?_ ?_
  ·rcases Nat.mod_two_eq_zero_or_one j with h1'|h1'
   ·rw[h1',Nat.pow_zero,Nat.mul_one] at hpw
    simp only[go_sem,h1',show(((0:Nat):Int)==1)=false from rfl]
    exact⟨hw2,hl2,⟨_,_,ht2⟩,q0,q2,O,hO,n7,n1,by rw[←hpw];exact hinv⟩
   ·rw[h1',Nat.pow_one] at hpw
    simp only[go_sem,h1',show(((1:Nat):Int)==1)=true from rfl,q0,G 0 (by omega) _ hl2,G 1 (by omega) _ hl2,G 2 (by omega) _ hl2,G 3 (by omega) _ hl2]
    refine Mul2_calls ((E 4 (by omega)).monoE ht hl2) ht2 (n7.nn (small hO2).2) n1 (by have:=(small hO2).1;omega) (by have:=(small hξ1).1;omega) (by omega) fun p h3 m3 dp3 hw3 hl3 ht3 _ hp=> ?_
    simp only[go_sem,q0,q2]
    refine⟨hw3,hl2.trans hl3,⟨_,_,ht3⟩,by first|rfl|trivial|assumption,by first|rfl|trivial|assumption,O*ξ,Nat.mul_pos hO hξ,hp.base hl2.1,n1.monoE' ht2 hl3, ?_⟩
    rw[←hinv,hpw]
    ac_rfl
  rintro ρ h3 ⟨hw3,hl3,⟨m3,dp3,ht3⟩,q0,q2,O',hO',n7,n1,hinv'⟩
  rcases Nat.lt_or_ge 1 j with h5|h5
  ·have hξ2:ξ*ξ≤T:=by
    rw[←hinv']
    have h6:ξ*ξ≤(ξ*ξ)^(j/2):=by
     calc ξ*ξ=(ξ*ξ)^1:=(Nat.pow_one _).symm
      _≤(ξ*ξ)^(j/2):=Nat.pow_le_pow_right (Nat.mul_pos hξ hξ) (by omega)
    exact Nat.le_trans h6 (Nat.le_mul_of_pos_left _ hO')
   simp only[go_sem,q0,q2,show decide ((1:Int)<((j:Nat):Int))=true from decide_eq_true (by omega),G 0 (by omega) _ hl3,G 1 (by omega) _ hl3,G 2 (by omega) _ hl3,G 3 (by omega) _ hl3]
   refine Mul2_calls ((E 4 (by omega)).monoE ht hl3) ht3 n1 n1 (by have:=(small hξ1).1;omega) (by have:=(small hξ1).1;omega) (by omega) fun p h4 m4 dp4 hw4 hl4 ht4 _ hp=> ?_
   simp only[go_sem,q0,q2,e2,e4,two_and]
   exact⟨j/2,by omega,hw4,hl3.trans hl4,⟨_,_,ht4⟩,by first|rfl|trivial|assumption,by first|rfl|trivial|assumption,by omega,O',ξ*ξ,hO',Nat.mul_pos hξ hξ,n7.monoE hu hl4,hp.nn (small hξ2).2,hinv'⟩
  ·obtain rfl:j=1:=by omega
   simp only[go_sem,q0,q2,show decide ((1:Int)<((1:Nat):Int))=false from rfl,show(((1:Nat):Int)).tdiv 2=((0:Nat):Int) from rfl,show IntKind.i64.wrap ((0:Nat):Int)=((0:Nat):Int) from rfl,two_and]
   exact⟨0,by omega,hw3,hl3,⟨_,_,ht3⟩,by first|rfl|trivial|assumption,by first|rfl|trivial|assumption,by omega,O',ξ,hO',hξ,n7,n1,by simpa using hinv'⟩
 ·rintro ρ h2 ⟨hw2,hl2,⟨m2,dp2,ht2⟩,n7⟩
  simp only[go_sem]
  exact fun hw'=>hk _ h2 _ _ hw' hl2 ht2 n7
set_option maxHeartbeats 1000000 in
set_option maxRecDepth 100000 in
theorem zRoot_calls (hT:TbOK t) (he:Eng 8 h e u) (ht:Tune h u m nw dp t) (na:Nn h va a) (wa:wlen a≤100) (hk1:1≤k) (hk2:k≤64) (hnw:nw≤500000000)
  (hk:∀r R h' m' dp',h'.wf→H.lee u h h'→Tune h' u m' nw dp' t→Nf h.next h' r R→R^k≤a→a<(R+1)^k→K (.tup [r, .int .i64 0]) h'):
  ACalls Tryz.prog 63 [.ptr (some (e,0)),va, .int .i64 (k:Int)] h K:=by
 have ba:Big a:=wbig wa (by omega)
 refine in_root_Engine_Root (by simp) fun hw=> ?_
 unfold c_root_Engine_Root
 obtain⟨f,rfl,rfl,G,E⟩:=Eng.path ht he
 have hu:=H.row_lt hw ht
 have l0:=H.lee_refl (f 8) h
 rcases Nat.lt_or_ge 1 k with c1|c1
 rotate_left
 ·obtain rfl:k=1:=by omega
  simp only[go_sem,show decide (((1:Nat):Int)<1)=false from rfl,show decide (((1:Nat):Int)>64)=false from rfl,show(((1:Nat):Int)==1)=true from rfl]
  refine Norm_calls na fun r h1 hw1 hl1 hr=> ?_
  simp only[go_sem]
  exact fun hw'=>hk r a h1 _ _ hw' hl1.lee (ht.mono hl1) hr (by simp) (by simp)
 simp only[go_sem,show decide ((k:Int)<1)=false from decide_eq_false (by omega),show decide ((k:Int)>64)=false from decide_eq_false (by omega),eqF (show(k:Int)≠1 by omega)]
 refine LenN_calls na ?_
 rcases Nat.eq_zero_or_pos a with h0|h0
 ·subst h0
  rw[wlen_zero]
  simp only[go_sem,eqT (show((0:Nat):Int)=0 from rfl)]
  refine Norm_calls na fun r h1 hw1 hl1 hr=> ?_
  simp only[go_sem]
  exact fun hw'=>hk r 0 h1 _ _ hw' hl1.lee (ht.mono hl1) hr (by rw[Nat.zero_pow (by omega)];exact Nat.le_refl _) (by simp)
 have hw0:wlen a≠0:=fun h=>by have:=wlen_eq_zero.1 h;omega
 simp only[go_sem,eqF (show((wlen a:Nat):Int)≠0 by omega)]
 refine nBits_calls na ?_
 have hbl:=blen_lt a
 have hbb:blen a≤6400:=by have:=wlen_blen a;omega
 rcases Nat.lt_or_ge k (blen a) with c2|c2
 rotate_left
 ·simp only[go_sem,show decide (((blen a:Nat):Int)≤(k:Int))=true from decide_eq_true (by omega)]
  refine One_calls (x:=1) (by decide) fun r h1 hw1 hl1 hr=> ?_
  simp only[go_sem]
  refine fun hw'=>hk r 1 h1 _ _ hw' hl1.lee (ht.mono hl1) hr (by simp;omega) (Nat.lt_of_lt_of_le hbl ?_)
  exact Nat.pow_le_pow_right (by omega) c2
 simp only[go_sem,show decide (((blen a:Nat):Int)≤(k:Int))=false from decide_eq_false (by omega)]
 obtain⟨b,hB⟩:∃b,b=blen a:=⟨_,rfl⟩
 rw[←hB] at hbl hbb c2⊢
 obtain⟨c,hc⟩:∃c,c=(b+k-1)/k:=⟨_,rfl⟩
 have hck:b≤c*k∧c*k≤b+k-1:=by
  constructor
  ·have:=Nat.lt_div_mul_add (a:=b+k-1) (b:=k) (by omega)
   rw[hc];omega
  ·rw[hc];exact Nat.div_mul_le_self _ _
 have hcb:c≤b+k:=by
  have:=Nat.le_mul_of_pos_right c (show 0<k by omega)
  omega
 have a1:IntKind.i64.wrap ((b:Int)+(k:Int))=((b+k:Nat):Int):=addI (by omega)
 have a2:IntKind.i64.wrap (((b+k:Nat):Int)-1)=((b+k-1:Nat):Int):=(wI (by omega) (by omega)).trans (by omega)
 have a3:((b+k-1:Nat):Int).tdiv (k:Int)=(c:Int):=by rw[hc];exact tdivN
 have a4:=wNI (n:=c) (by omega)
 refine One_calls (x:=1) (by decide) fun o h1 hw1 hl1 ho=> ?_
 simp only[go_sem]
 refine nBits_calls (na.mono hl1) ?_
 rw[←hB]
 simp only[go_sem,a1,a2,a3,a4,nz_and (show(k:Int)≠0 by omega)]
 refine lShl_calls (ho.nn (word_big (by decide))) (by omega) fun x0 h2 hw2 hl2 hx0=> ?_
 rw[Nat.one_mul] at hx0
 have l02:=(H.le_trans hl1 hl2)
 have hxk:∀X,X≤2^c→X^(k-1)≤2^(b+k):=fun X hX=>by
  refine Nat.le_trans (Nat.pow_le_pow_left hX _) ?_
  rw[←Nat.pow_mul]
  refine Nat.pow_le_pow_right (by omega) ?_
  have:c*(k-1)≤c*k:=Nat.mul_le_mul_left _ (by omega)
  omega
 have wxk:∀X,X≤2^c→wlen (X^(k-1))≤120:=fun X hX=>Nat.le_trans (wlen_two (hxk X hX)) (by omega)
 have wxc:∀X,X≤2^c→wlen X≤120:=fun X hX=>Nat.le_trans (wlen_two (Nat.le_trans hX (Nat.pow_le_pow_right (by omega) hcb))) (by omega)
 have a5:IntKind.i64.wrap ((k:Int)-1)=((k-1:Nat):Int):=(wI (by omega) (by omega)).trans (by omega)
 have a6:IntKind.u64.wrap ((k-1:Nat):Int)=((k-1:Nat):Int):=wUn (by omega)
 have a7:IntKind.u64.wrap (k:Int)=(k:Int):=wUn (by omega)
 simp only[go_sem]
 refine⟨fun X ρ h'=>h'.wf∧H.lee (f 8) h h'∧(∃m' dp',Tune h' (f 8) m' nw dp' t)∧ρ 0= .ptr (some (f 0,0))∧ρ 1=va∧ρ 2= .int .i64 (k:Int)∧Nf h.next h' (ρ 8) X∧X≤2^c∧∀r,r^k≤a→r≤X,2^c,
  ⟨hw2,l02.lee,⟨_,_,ht.mono l02⟩,by first|rfl|trivial|assumption,by first|rfl|trivial|assumption,by first|rfl|trivial|assumption,hx0.base hl1.1,Nat.le_refl _,fun r hr=> ?_⟩, ?_⟩
 ·rcases Nat.lt_or_ge (2^c) r with h5|h5
  ·exfalso
   have h6:(2^c)^k≤r^k:=Nat.pow_le_pow_left (Nat.le_of_lt h5) k
   rw[←Nat.pow_mul] at h6
   have h7:2^b≤2^(c*k):=Nat.pow_le_pow_right (by omega) hck.1
   omega
  ·exact h5
 rintro X ρ h3 ⟨hw3,hl3,⟨m3,dp3,ht3⟩,q0,q1,q2,n8,hXc,hXr⟩
 have hX0:0<X:=by
  have:=hXr 1 (by simp;omega)
  omega
 have wX:=wxc X hXc
 have bX:Big X:=wbig wX (by omega)
 simp only[go_sem,q0,q1,q2,a5,G 0 (by omega) _ hl3]
 refine raise_calls (x:=X) (k:=k-1) (he.monoE ht hl3) ht3 (n8.nn bX) hX0 (by have:=wxk X hXc;omega) (by omega) (by omega) fun p h4 m4 dp4 hw4 hl4 ht4 hp=> ?_
 have l4:=hl3.trans hl4
 have hA0:0<X^(k-1):=Nat.pow_pos hX0
 have wA:=wxk X hXc
 have bA:Big (X^(k-1)):=wbig wA (by omega)
 have hge:=fun r hr=>newton_ge (r:=r) (x:=X) (a:=a) hk1 hX0 hr
 have hex:X≤a/X^(k-1)→X^k≤a:=fun h5=>by
  have h6:=(Nat.le_div_iff_mul_le hA0).1 h5
  rw[Nat.mul_comm,←Nat.pow_succ,Nat.succ_eq_add_one,Nat.sub_add_cancel hk1] at h6
  exact h6
 simp only[go_sem,q0,q1,q2,G 0 (by omega) _ l4,true_and]
 refine DivMod2_calls hT ((E 1 (by omega)).monoE ht l4) ht4 (na.monoE' ht l4) (hp.nn bA) (by omega) (by omega) (by omega) (fun h5=>absurd h5 (by omega)) fun _ q r h5 m5 dp5 hw5 hl5 ht5 _ hq _=> ?_
 have l5:=l4.trans hl5
 have n8':=(n8.monoE hu hl4).monoE hu hl5
 have wq:wlen (a/X^(k-1))≤100:=Nat.le_trans (wlen_mono (Nat.div_le_self _ _)) wa
 generalize a/X^(k-1)=Q at*
 simp only[go_sem,q0,q1,q2,a5,a6]
 refine lAddMul_calls (w:=k-1) (hq.nn (wbig wq (by omega))) (n8'.nn bX) (by omega) fun s h6 hw6 hl6 hs=> ?_
 have bs:Big (Q+X*(k-1)):=by
  have h7:=wlen_le.1 (Nat.le_trans wq (show 100≤120 by omega))
  have h8:=wlen_le.1 wX
  have h9:X*(k-1)≤18446744073709551616^120*64:=Nat.mul_le_mul (Nat.le_of_lt h8) (by omega)
  have h10:18446744073709551616^121=18446744073709551616^120*18446744073709551616:=Nat.pow_succ ..
  exact lt_bigW (k:=121) (by omega) (by omega)
 simp only[go_sem,q0,q1,q2,a7]
 refine lDivWord_calls (w:=k) (hs.nn bs) (by omega) (by omega) fun y h7 hw7 hl7 hy=> ?_
 have bY:Big ((Q+X*(k-1))/k):=bs.le (Nat.div_le_self _ _)
 have n8'':=n8'.mono (H.le_trans hl6 hl7)
 have l7:=l5.trans (H.le_trans hl6 hl7).lee
 have ht7:=(ht5.mono hl6).mono hl7
 simp only[go_sem]
 refine lCmp_calls (hy.nn bY) (n8''.nn bX) ?_
 have hyr:∀r,r^k≤a→r≤(Q+X*(k-1))/k:=fun r hr=>by
  rw[Nat.le_div_iff_mul_le (by omega),Nat.mul_comm r k]
  have:=hge r hr
  rw[Nat.mul_comm (k-1) X] at this
  omega
 rcases Nat.lt_or_ge ((Q+X*(k-1))/k) X with c3|c3
 ·simp only[go_sem,show decide (cmpI ((Q+X*(k-1))/k) X≥0)=false by unfold cmpI;rw[if_pos c3];rfl,q0,q1,q2]
  exact⟨_,c3,hw7,l7,⟨_,_,ht7⟩,by first|rfl|trivial|assumption,by first|rfl|trivial|assumption,by first|rfl|trivial|assumption,hy.base (by have:=l5.1;have:=hl6.1;omega),by omega,hyr⟩
 ·simp only[go_sem,show decide (cmpI ((Q+X*(k-1))/k) X≥0)=true by unfold cmpI;rw[if_neg (by omega)];split<;>rfl]
  refine fun hw'=>hk _ X h7 _ _ hw' l7 ht7 n8'' ?_ ?_
  ·refine hex ?_
   have h8:=(Nat.le_div_iff_mul_le (show 0<k by omega)).1 c3
   have h9:X*k=X*(k-1)+X:=by rw[←Nat.mul_succ];congr 1;omega
   omega
  ·rcases Nat.lt_or_ge a ((X+1)^k) with h8|h8
   ·exact h8
   ·have:=hXr (X+1) h8
    omega
theorem Sqrt_calls (hT:TbOK t) (he:Eng 8 h e u) (ht:Tune h u m nw dp t) (na:Nn h va a) (wa:wlen a≤100) (hnw:nw≤500000000)
  (hk:∀s r S h' m' dp',h'.wf→H.lee u h h'→Tune h' u m' nw dp' t→Nf h.next h' s S→Nf h.next h' r (a-S*S)→S^2≤a→a<(S+1)^2→K (.tup [s,r]) h'):
  ACalls Tryz.prog 58 [.ptr (some (e,0)),va] h K:=by
 have ba:Big a:=wbig wa (by omega)
 refine in_root_Engine_Sqrt (by simp) fun hw=> ?_
 unfold c_root_Engine_Sqrt
 obtain⟨f,rfl,rfl,G,E⟩:=Eng.path ht he
 have hu:=H.row_lt hw ht
 simp only[go_sem]
 refine zRoot_calls (k:=2) hT he ht na wa (by omega) (by omega) hnw fun s S h1 m1 dp1 hw1 hl1 ht1 hs hS1 hS2=> ?_
 have hSS:S*S≤a:=by rw[←Nat.pow_two];exact hS1
 have hSa:S≤a:=by
  rcases Nat.eq_zero_or_pos S with h0|h0
  ·omega
  ·exact Nat.le_trans (Nat.le_mul_of_pos_right _ h0) hSS
 have wS:wlen S≤100:=Nat.le_trans (wlen_mono hSa) wa
 simp only[go_sem,G 0 (by omega) _ hl1,G 1 (by omega) _ hl1,G 2 (by omega) _ hl1,G 3 (by omega) _ hl1]
 refine Mul2_calls ((E 4 (by omega)).monoE ht hl1) ht1 (hs.nn (ba.le hSa)) (hs.nn (ba.le hSa)) (by omega) (by omega) (by omega) fun p h2 m2 dp2 hw2 hl2 ht2 _ hp=> ?_
 have l2:=hl1.trans hl2
 simp only[go_sem]
 refine lSub_calls (na.monoE' ht l2) (hp.nn (ba.le hSS)) (fun h5=>absurd h5 (by omega)) fun _ r h3 hw3 hl3 hr=> ?_
 simp only[go_sem]
 exact fun hw'=>hk _ r S h3 _ _ hw' (l2.trans hl3.lee) (ht2.mono hl3) ((hs.monoE hu hl2).mono hl3) (hr.base l2.1) hS1 hS2
theorem Square_calls (hT:TbOK t) (he:Eng 8 h e u) (ht:Tune h u m nw dp t) (na:Nn h va a) (wa:wlen a≤100) (hnw:nw≤500000000)
  (hk1:∀h' m' dp',h'.wf→H.lee u h h'→Tune h' u m' nw dp' t→(∀S,S*S≠a)→K (.tup [.sl none 0 0 none, .bool false]) h')
  (hk2:∀s S h' m' dp',h'.wf→H.lee u h h'→Tune h' u m' nw dp' t→Nf h.next h' s S→S*S=a→K (.tup [s, .bool true]) h'):
  ACalls Tryz.prog 66 [.ptr (some (e,0)),va] h K:=by
 have ba:Big a:=wbig wa (by omega)
 refine in_root_Engine_Square (by simp) fun hw=> ?_
 unfold c_root_Engine_Square
 simp only[go_sem]
 refine Sqrt_calls hT he ht na wa hnw fun s r S h1 m1 dp1 hw1 hl1 ht1 hs hr hS1 hS2=> ?_
 have hSS:S*S≤a:=by rw[←Nat.pow_two];exact hS1
 simp only[go_sem]
 refine Zero_calls (hr.nn (ba.le (Nat.sub_le _ _))) ?_
 by_cases h0:a-S*S=0
 ·simp only[go_sem,decide_eq_true h0,Bool.not_true]
  exact fun hw'=>hk2 s S h1 _ _ hw' hl1 ht1 hs (by omega)
 ·simp only[go_sem,decide_eq_false h0,Bool.not_false]
  refine fun hw'=>hk1 h1 _ _ hw' hl1 ht1 fun S' e=>h0 ?_
  have:=root_uniq (a:=a) (k:=2) (r:=S) (s:=S') hS1 hS2 (by rw[Nat.pow_two,e];exact Nat.le_refl _) (by rw[←e,Nat.pow_two];exact Nat.mul_lt_mul_of_lt_of_le (Nat.lt_succ_self _) (Nat.le_succ _) (by omega))
  subst this
  omega
end
end
section
theorem three_and {p:Prop}:((3:Int)≠0∧p)=p:=by simp
theorem pow_gt {x a i k:Nat} (hx:0<x) (h:a<x^i) (hik:i≤k):a<x^k:=Nat.lt_of_lt_of_le h (Nat.pow_le_pow_right hx hik)
section
variable {va vx:AV} {a x k:Nat} {h:H} {K:AV→H→Prop}
theorem rPowAtMost_calls (nx:Num 4294967296 h vx x) (na:Num 4294967296 h va a) (hx:0<x) (hb:Big ((a+1)*x)) (hk1:1≤k) (hk9:k≤1000000)
  (hk:∀h',h'.wf→h.le h'→K (.bool (decide (x^k≤a))) h'):ACalls Tryz.prog 99 [vx, .int .i64 (k:Int),va] h K:=by
 have ba:Big a:=hb.le (Nat.le_trans (Nat.le_succ a) (Nat.le_mul_of_pos_right _ hx))
 have bx:Big x:=hb.le (Nat.le_mul_of_pos_left _ (Nat.succ_pos a))
 refine in_ref02_powAtMost (by simp) fun hw=> ?_
 unfold c_ref02_powAtMost
 simp only[go_sem]
 refine Small_calls (x:=1) (by decide) fun o h1 hw1 hl1 ho=> ?_
 simp only[go_sem]
 refine for_rule (fun i ρ h'=>i≤k∧h'.wf∧h.le h'∧ρ 0=vx∧ρ 1= .int .i64 (k:Int)∧ρ 2=va∧ρ 8= .int .i64 (i:Int)∧Num 4294967296 h' (ρ 7) (x^i)∧(0<i→x^i≤a)) k ⟨Nat.zero_le _,hw1,hl1,by first|rfl|trivial|assumption,by first|rfl|trivial|assumption,by first|rfl|trivial|assumption,by first|rfl|trivial|assumption,by rw[Nat.pow_zero];exact ho,fun h=>absurd h (by omega)⟩ (fun i ρ h hI=>hI.1) ?_
 rintro i ρ h2 ⟨hi,hw2,hl2,q0,q1,q2,q8,n7,hle⟩
 have hp1:x^i≤a+1:=by
  rcases Nat.eq_zero_or_pos i with h0|h0
  ·subst h0;simp
  ·have:=hle h0;omega
 rcases Nat.lt_or_ge i k with c1|c1
 ·simp only[go_sem,q0,q1,q2,q8,ltT c1]
  refine Mul_calls n7 (nx.mono hl2) (hb.le (Nat.le_trans hp1 (Nat.le_mul_of_pos_right _ hx))) bx fun p h3 hw3 hl3 hp=> ?_
  have bp:Big (x^i*x):=hb.le (Nat.mul_le_mul_right _ hp1)
  rw[←Nat.pow_succ] at hp bp
  simp only[go_sem,q0,q1,q2,q8]
  refine Cmp_calls hp ((na.mono hl2).mono hl3) bp ba ?_
  rcases Nat.lt_or_ge a (x^(i+1)) with c2|c2
  ·simp only[go_sem,show decide (0<cmpI (x^(i+1)) a)=true by unfold cmpI;rw[if_neg (by omega),if_neg (by omega)];rfl]
   have c3:=pow_gt hx c2 (show i+1≤k from c1)
   have:=hk h3 hw3 (H.le_trans hl2 hl3)
   rw[decide_eq_false (show¬x^k≤a by omega)] at this
   exact fun _=>this
  ·simp only[go_sem,show decide (0<cmpI (x^(i+1)) a)=false by unfold cmpI;split;rfl;rw[if_pos (by omega)];rfl,q0,q1,q2,q8,incI (i:=i) (by omega)]
   exact⟨by omega,hw3,(H.le_trans hl2 hl3),by first|rfl|trivial|assumption,by first|rfl|trivial|assumption,by first|rfl|trivial|assumption,by first|rfl|trivial|assumption,hp,fun _=>c2⟩
 ·obtain rfl:i=k:=by omega
  simp only[go_sem,q0,q1,q2,q8,ltF c1]
  have:=hk h2 hw2 hl2
  rw[decide_eq_true (hle hk1)] at this
  exact fun _=>this
set_option maxHeartbeats 1000000 in
theorem rRoot_calls (na:Num 4294967296 h va a) (wa:wlen a≤100) (hk1:1≤k) (hk2:k≤64)
  (hk:∀r R h',h'.wf→h.le h'→Num 4294967296 h' r R→R^k≤a→a<(R+1)^k→K r h'):ACalls Tryz.prog 64 [va, .int .i64 (k:Int)] h K:=by
 have ba:Big a:=wbig wa (by omega)
 refine in_ref02_Root (by simp) fun hw=> ?_
 unfold c_ref02_Root
 simp only[go_sem]
 refine Bits_calls na ba fun L _ hL=> ?_
 have hLb:=BL.uniq hL (blen_spec a)
 have hL6:L≤6400:=by have:=wlen_blen a;omega
 have haL:a<2^L:=hL.1
 clear hLb hL
 obtain⟨d,hd⟩:∃d,d=L/k:=⟨_,rfl⟩
 have hdL:d≤L:=by rw[hd];exact Nat.div_le_self _ _
 have hdk:L<(d+1)*k:=by
  have:=Nat.lt_div_mul_add (a:=L) (b:=k) (by omega)
  rw[hd,Nat.add_mul,Nat.one_mul]
  exact this
 have a1:((L:Nat):Int).tdiv (k:Int)=(d:Int):=by rw[hd];exact tdivN
 have a2:=wNI (n:=d) (by omega)
 simp only[go_sem,a1,a2,nz_and (show(k:Int)≠0 by omega)]
 refine⟨fun j ρ h'=>h'.wf∧h.le h'∧ρ 0=va∧ρ 1= .int .i64 (k:Int)∧ρ 6= .int .i64 ((j:Int)-1)∧j≤d+1∧∃S,Num 4294967296 h' (ρ 5) S∧S^k≤a∧a<(S+2^j)^k,d+1,
  ⟨hw,H.le_refl _,by first|rfl|trivial|assumption,by first|rfl|trivial|assumption, ?_,Nat.le_refl _,0,⟨[],IsN.nil _ _,by simp,by simp,rfl⟩,by rw[Nat.zero_pow (by omega)];exact Nat.zero_le _, ?_⟩, ?_⟩
 ·simp only[go_sem]
  congr 1
  omega
 ·rw[Nat.zero_add,←Nat.pow_mul]
  exact Nat.lt_of_lt_of_le haL (Nat.pow_le_pow_right (by omega) (by omega))
 rintro j ρ h2 ⟨hw2,hl2,q0,q1,q6,hjd,S,n5,hS1,hS2⟩
 rcases Nat.eq_zero_or_pos j with h0|h0
 ·subst h0
  simp only[go_sem,q0,q1,q6,show decide ((0:Int)≤((0:Nat):Int)-1)=false by decide]
  exact fun _=>hk _ S h2 hw2 hl2 n5 hS1 hS2
 obtain⟨i,rfl⟩:∃i,j=i+1:=⟨j-1,by omega⟩
 have e6:((i+1:Nat):Int)-1=(i:Int):=by omega
 rw[e6] at q6
 have hSa:S≤a:=by
  refine Nat.le_trans ?_ hS1
  calc S=S^1:=(Nat.pow_one S).symm
   _≤S^k:=by
    rcases Nat.eq_zero_or_pos S with h5|h5
    ·subst h5;simp
    ·exact Nat.pow_le_pow_right h5 hk1
 have w2i:wlen (2^i)≤101:=Nat.le_trans (wlen_two (Nat.le_refl _)) (by omega)
 have b2i:Big (2^i):=wbig w2i (by omega)
 have wS:=Nat.le_trans (wlen_mono hSa) wa
 have bS:Big S:=ba.le hSa
 have h2p:0<2^i:=Nat.pow_pos (by omega)
 have wt:wlen (S+2^i)≤102:=by
  have h3:=wlen_le.1 w2i
  have h4:=wlen_le.1 (Nat.le_trans wS (show 100≤101 by omega))
  have h5:18446744073709551616^102=18446744073709551616^101*18446744073709551616:=Nat.pow_succ ..
  exact wlen_le.2 (by omega)
 have wa1:wlen (a+1)≤101:=by
  have h4:=wlen_le.1 wa
  have h5:18446744073709551616^101=18446744073709551616^100*18446744073709551616:=Nat.pow_succ ..
  exact wlen_le.2 (by omega)
 have hbt:Big ((a+1)*(S+2^i)):=mul_big wa1 wt (by omega)
 have e2:S+2^(i+1)=S+2^i+2^i:=by rw[Nat.pow_succ];omega
 have d6:IntKind.i64.wrap ((i:Int)-1)=(i:Int)-1:=wI (by omega) (by omega)
 simp only[go_sem,q0,q1,q6,show decide ((0:Int)≤(i:Int))=true from decide_eq_true (by omega)]
 refine Small_calls (x:=1) (by decide) fun o h3 hw3 hl3 ho=> ?_
 simp only[go_sem,q0,q1,q6]
 refine rShl_calls ho (word_big (by decide)) (by omega) fun p h4 hw4 hl4 hp=> ?_
 rw[Nat.one_mul] at hp
 simp only[go_sem,q0,q1,q6]
 refine Add_calls (n5.mono (H.le_trans hl3 hl4)) hp bS b2i fun v h5 hw5 hl5 hv=> ?_
 have l25:=(H.le_trans hl3 (H.le_trans hl4 hl5))
 simp only[go_sem,q0,q1,q6]
 refine rPowAtMost_calls hv (na.mono (H.le_trans hl2 l25)) (by omega) hbt hk1 (by omega) fun h6 hw6 hl6=> ?_
 have l06:=(H.le_trans hl2 (H.le_trans l25 hl6))
 by_cases hc:(S+2^i)^k≤a
 ·simp only[go_sem,decide_eq_true hc,q0,q1,q6,d6]
  exact⟨i,by omega,hw6,l06,by first|rfl|trivial|assumption,by first|rfl|trivial|assumption,by first|rfl|trivial|assumption,by omega,S+2^i,hv.mono hl6,hc,by rw[←e2];exact hS2⟩
 ·simp only[go_sem,decide_eq_false hc,q0,q1,q6,d6]
  exact⟨i,by omega,hw6,l06,by first|rfl|trivial|assumption,by first|rfl|trivial|assumption,by first|rfl|trivial|assumption,by omega,S,n5.mono (H.le_trans l25 hl6),hS1,by omega⟩
theorem rSqrt_calls (na:Num 4294967296 h va a) (wa:wlen a≤100)
  (hk:∀r R h',h'.wf→h.le h'→Num 4294967296 h' r R→R^2≤a→a<(R+1)^2→K r h'):ACalls Tryz.prog 59 [va] h K:=by
 refine in_ref02_Sqrt (by simp) fun hw=> ?_
 unfold c_ref02_Sqrt
 simp only[go_sem]
 refine rRoot_calls (k:=2) na wa (by omega) (by omega) fun r R h' hw' hl' hr h1 h2=> ?_
 simp only[go_sem]
 exact fun _=>hk r R h' hw' hl' hr h1 h2
end
end
section
theorem cmpI_neq {x y:Nat} (h:x≠y):(cmpI x y==0)=false:=by
 unfold cmpI
 repeat' split
 all_goals first|rfl|contradiction
theorem sq_le {S a:Nat} (h:S^2≤a):S≤a∧S*S≤a:=by
 rw[Nat.pow_two] at h
 refine⟨?_,h⟩
 rcases Nat.eq_zero_or_pos S with h0|h0
 ·omega
 ·exact Nat.le_trans (Nat.le_mul_of_pos_right _ h0) h
section
variable {va vb:AV} {x y n:Nat} {xs:List Nat} {h:H} {K:AV→H→Prop}
theorem from16_calls (hv:Nn h va x) (hk:∀r h',h'.wf→h.le h'→Num 4294967296 h' r x→K r h'):ACalls Tryz.prog 60 [va] h K:=by
 obtain⟨xs,h1,h2,h3,rfl⟩:=hv
 refine in_law16_from (by simp) fun hw=> ?_
 unfold c_law16_from
 simp only[go_sem]
 refine From_calls h1 h2 (by omega) fun r h' hw' hl' hr=> ?_
 simp only[go_sem]
 exact fun _=>hk r h' hw' hl' hr
theorem wakes16_calls (hk:∀h',h'.wf→h.le h'→K (.bool true) h'):ACalls Tryz.prog 62 [] h K:=by
 refine in_law16_wakes (by simp) fun hw=> ?_
 unfold c_law16_wakes
 have e1:∀l:List AV,abuild l []=some l:=fun l=>by simp[abuild]
 simp only[go_sem,e1]
 refine roNew_calls (t:=⟨0,0,0,0,0,0,0,0,0,0,0⟩) fun e u h1 hw1 hl1 hn1 hue he ht=> ?_
 simp only[go_sem,Bool.false_bne,Option.isNone]
 have hl2:=H.le_new hw1 (H.le_refl h1) ⟨some 47,1,[AV.int .u64 10]⟩
 have d1:Dig [10]:=Dig.one (by omega)
 refine Sqrt_calls (clamp_ok _) (a:=val 18446744073709551616 [10]) (he.mono hl2) (ht.mono hl2) ((IsN.lit [10] _ rfl rfl).nn d1 (by simp)) (by decide) (by omega) fun s r S h4 m4 dp4 hw4 hl4 ht4 hs hr hS1 hS2=> ?_
 have hS:=root_uniq (a:=val 18446744073709551616 [10]) (k:=2) (s:=3) hS1 hS2 (by decide) (by decide)
 subst hS
 rw[show val 18446744073709551616 [10]-3*3=1 by decide] at hr
 obtain⟨ss,hs1,hs2,hs3,hs4⟩:=hs
 have hsl:ss=[3]:=top_inj hs2 (Dig.one (by omega)) hs3 (fun z hz=>by simp at hz;omega) (by rw[hs4];decide)
 subst hsl
 obtain⟨rs,hr1,hr2,hr3,hr4⟩:=hr
 have hrl:rs=[1]:=top_inj hr2 (Dig.one (by omega)) hr3 (fun z hz=>by simp at hz;omega) (by rw[hr4];decide)
 subst hrl
 have hl04:=H.le_over hw (H.le_trans hl1 hl2) hn1 hl4
 simp only[go_sem]
 have hw5:=H.wf_new hw4 ⟨some 47,1,[AV.int .u64 3]⟩
 have hl5:=H.le_new hw4 (H.le_refl h4) ⟨some 47,1,[AV.int .u64 3]⟩
 refine kSame_calls (xs:=[3]) (hs1.isN.mono hl5) (IsN.lit [3] _ rfl rfl) (by simp) ?_
 simp only[go_sem]
 have hl6:=H.le_new hw5 (H.le_refl _) ⟨some 47,1,[AV.int .u64 1]⟩
 refine kSame_calls (xs:=[1]) ((hr1.isN.mono hl5).mono hl6) (IsN.lit [1] _ rfl rfl) (by simp) ?_
 simp only[go_sem]
 exact fun hw'=>hk _ hw' (H.le_trans hl04 (H.le_trans hl5 hl6))
end
section
variable {t:Tb} {va vb vc:AV} {xs0 ys0 zs0:List Nat} {h:H} {K:AV→H→Prop}
set_option maxHeartbeats 1000000 in
theorem RootSquares_law {square:Bool} {less:Nat} (hless:less<18446744073709551616) (hv0:IsN h va xs0) (hx0:Dig xs0) (hk:∀h',h'.wf→K (.bool true) h'):ACalls Tryz.prog 17 [t.av,va, .bool square, .int .u64 (less:Int)] h K:=by
 refine in_law16_RootSquares (by simp) fun hw=> ?_
 unfold c_law16_RootSquares
 have hl0:=H.le_new hw (H.le_refl h) ⟨some 23,11,t.cells⟩
 have hr0:=H.rows_new h ⟨some 23,11,t.cells⟩
 simp only[go_sem,av_held,av_cells,cells_len,true_and]
 generalize hg:h.new ⟨some 23,11,t.cells⟩=g0 at*
 refine Cut_calls (n:=12) (hv0.mono hl0) fun a ha=> ?_
 have hxd:Dig (xs0.take 12):=Dig.take hx0 12
 have hxl:(xs0.take 12).length≤12:=by simp;omega
 generalize xs0.take 12=xs at*
 simp only[go_sem,gsT hr0]
 refine roNew_calls fun e u g1 hw1 hl1 hn1 hue he ht=> ?_
 have na:=(ha.mono hl1).nn hxd (by omega)
 have wd:wlen (val 18446744073709551616 xs)≤12:=Nat.le_trans (wlen_len hxd) hxl
 have bd:Big (val 18446744073709551616 xs):=wbig wd (by omega)
 clear ha hxd hxl
 generalize val 18446744073709551616 xs=x at*
 simp only[go_sem,Option.isNone,Bool.false_bne]
 refine from16_calls na fun f1 g2 hw2 hl2 n1=> ?_
 have wxx:=mul_wlen' wd wd
 have bxx:Big (x*x):=wbig wxx (by omega)
 have e1:((less:Nat):Int).tmod 3=((less%3:Nat):Int):=tmodN (a:=less) (b:=3)
 have e2:IntKind.u64.wrap ((less%3:Nat):Int)=((less%3:Nat):Int):=wUn (by omega)
 simp only[go_sem]
 refine cond_cut (fun ρ' h2=>h2.wf∧g1.le h2∧ρ' 9= .ptr (some (e,0))∧∃N,Num 4294967296 h2 (ρ' 10) N∧wlen N≤25) ?_ ?_
 ·cases square
  ·simp only[go_sem]
   exact⟨hw2,hl2,trivial,x,n1,by omega⟩
  ·simp only[go_sem]
   refine Mul_calls n1 n1 bd bd fun p g3 hw3 hl3 np=> ?_
   have l3:=(H.le_trans hl2 hl3)
   have wx1:wlen (x*x+1)≤25:=by
    have h4:=wlen_le.1 wxx
    have h5:18446744073709551616^25=18446744073709551616^24*18446744073709551616:=Nat.pow_succ ..
    exact wlen_le.2 (by omega)
   simp only[go_sem,e1,e2,three_and]
   rcases(show less%3=0∨less%3=1∨less%3=2 by omega) with h3|h3|h3
   ·simp only[go_sem,h3,show(((0:Nat):Int)==1)=false from rfl,show(((0:Nat):Int)==2)=false from rfl,e1,e2,three_and]
    exact⟨hw3,l3,trivial,_,np,by omega⟩
   ·simp only[go_sem,h3,show(((1:Nat):Int)==1)=true from rfl]
    refine rZero_calls np ?_
    by_cases h4:x*x=0
    ·simp only[go_sem,decide_eq_true h4,Bool.not_true,e1,e2,three_and,h3,show(((1:Nat):Int)==2)=false from rfl]
     exact⟨hw3,l3,trivial,_,np,by omega⟩
    ·simp only[go_sem,decide_eq_false h4,Bool.not_false]
     refine Small_calls (x:=1) (by decide) fun f2 g4 hw4 hl4 n2=> ?_
     simp only[go_sem]
     refine rSub_calls (np.mono hl4) n2 bxx (by omega) fun d g5 hw5 hl5 nd=> ?_
     simp only[go_sem,e1,e2,three_and,h3,show(((1:Nat):Int)==2)=false from rfl]
     exact⟨hw5,(H.le_trans l3 (H.le_trans hl4 hl5)),trivial,_,nd,Nat.le_trans (wlen_mono (Nat.sub_le _ _)) (by omega)⟩
   ·simp only[go_sem,h3,show(((2:Nat):Int)==1)=false from rfl,e1,e2,three_and,show(((2:Nat):Int)==2)=true from rfl]
    refine Small_calls (x:=1) (by decide) fun f2 g4 hw4 hl4 n2=> ?_
    simp only[go_sem]
    refine Add_calls (np.mono hl4) n2 bxx (word_big (by decide)) fun d g5 hw5 hl5 nd=> ?_
    simp only[go_sem]
    exact⟨hw5,(H.le_trans l3 (H.le_trans hl4 hl5)),trivial,_,nd,wx1⟩
 rintro ρ g3 ⟨hw3,hl3,q9,N,nN,wN⟩
 have bN:Big N:=wbig wN (by omega)
 have he3:=he.mono hl3
 have ht3:=ht.mono hl3
 simp only[go_sem,q9]
 refine rSqrt_calls nN (by omega) fun ur R g4 hw4 hl4 nR hR1 hR2=> ?_
 obtain⟨hRN,hRR⟩:=sq_le hR1
 have bR:=bN.le hRN
 simp only[go_sem,q9]
 refine Mul_calls nR nR bR bR fun p g5 hw5 hl5 np=> ?_
 simp only[go_sem,q9]
 refine Cmp_calls np (nN.mono (H.le_trans hl4 hl5)) (bN.le hRR) bN ?_
 simp only[go_sem,q9]
 refine To_calls (nN.mono (H.le_trans hl4 hl5)) bN fun o g6 hw6 hl6 ho=> ?_
 have l36:=(H.le_trans hl4 (H.le_trans hl5 hl6))
 simp only[go_sem,q9]
 refine Square_calls (clamp_ok _) (he3.mono l36) (ht3.mono l36) (ho.nn bN) (by omega) (by omega) (fun g7 m7 dp7 hw7 hl7 ht7 hno=> ?_) (fun s S g7 m7 dp7 hw7 hl7 ht7 hs hS=> ?_)
 ·simp only[go_sem,cmpI_neq (hno R),beq_self_eq_true,Bool.not_false,eqT (show((0:Nat):Int)=0 from rfl)]
  refine wakes16_calls fun g9 hw9 hl9=> ?_
  simp only[go_sem]
  exact fun _=>hk g9 hw9
 ·have hSR:S=R:=root_uniq (a:=N) (k:=2) (by rw[Nat.pow_two,hS];exact Nat.le_refl _) (by rw[←hS,Nat.pow_two];exact Nat.mul_lt_mul_of_lt_of_le (Nat.lt_succ_self _) (Nat.le_succ _) (by omega)) hR1 hR2
  subst hSR
  have nR7:=(nR.mono (H.le_trans hl5 hl6)).monoE (ht3.mono l36) hl7
  simp only[go_sem,hS,cmpI_eq,beq_self_eq_true,Bool.not_true]
  refine rSame_calls nR7 bR hs.nt fun g8 hw8 hl8=> ?_
  simp only[go_sem]
  refine wakes16_calls fun g9 hw9 hl9=> ?_
  simp only[go_sem]
  exact fun _=>hk g9 hw9
end
set_option maxRecDepth 100000 in
theorem RootSquares_row (h:H) (avs:List AV) (_:h.wf) (r:ReadsAll Tryz.prog h [23,24,4,47] avs):ACalls Tryz.prog 17 avs h (fun r _=>r= .bool true):=by
 match avs,r with
 |[_,_,_,_],⟨r0,r1,r2,r3,_⟩=>
  obtain⟨t0,rfl⟩:=reads_table r0
  obtain⟨xs,h1,hx,_⟩:=reads_words r1
  obtain⟨b,rfl⟩:=reads_bool r2
  obtain⟨w,rfl,hw⟩:=reads_u64 r3
  exact RootSquares_law hw h1 hx fun _ _=>rfl
end
end Ab
end Go.Proofs.YtdfpgoppcflpjaaGreatDoor
