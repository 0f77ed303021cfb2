/- Joined texts: R2 R3 R4 R5 R6 R7 R8 R9 R10 R11 R12. No condition. -/
import Derived.Test.YtkbglkjpdndkiaaGreatDoorZ10
namespace Go.Proofs.YtkbglkjpdndkiaaGreatDoor
namespace Ab
open Go Go.RowKit
set_option linter.unusedSimpArgs false
set_option linter.unusedVariables false
attribute [local go_sem ↓] x_mv x_pick x_bin x_beq x_peq x_seq x_cat x_aeq x_idxS x_idxV x_un x_cvI x_bts x_idx x_idxA x_fld x_ld x_st x_nn x_prt x_slc x_mk x_bsl x_bld x_box x_alloc x_len x_capo x_mnx x_app x_cpy x_mkf x_ext x_call x_callV x_bad s_none s_some s_nil s_cons s_chks w_skip w_reg tP_fin tP_no tP_alt w_seq w_cond w_block w_exit w_ret t_normal t_exit t_ret b_normal b_ret b_exit n_normal n_exit n_ret p_normal p_ret f_nil f_t f_c k_ops k_chk k_fin
attribute [local go_sem] e_t e_c e_f u_some u_none u_at env_at k_v k_pick k_add k_sub k_mul k_quo k_rem k_and k_or k_xor k_shl k_shr k_eql k_neq k_lss k_leq k_gtr k_geq k_beq k_peqn k_peqs k_neg k_not k_com k_cvI k_idxS k_idxV1 k_idxVn k_idx k_idxA k_idxG k_ldG k_gld k_seq k_cat k_aeq k_eqs k_fld k_ld1 k_ldn k_get k_gets k_sti k_stb k_stp k_sts k_stf k_sta k_put k_nn k_prt1 k_prtn k_slc_a k_slc_b k_slc_c k_mk k_agg k_bsl k_box k_len k_lenS k_cap k_max k_min k_ext k_callV k_true k_false k_gtt k_gtf k_gft k_gsk k_gff k_lit1i k_lit2i k_lit3i k_c0 k_c1 k_ck List.getElem?_cons_zero List.getElem?_cons_succ List.getElem?_nil Option.getD_some Option.getD_none tupOf List.map_cons List.map_nil Option.map_some Option.map_none List.nil_append List.cons_append List.append_nil Nat.mul_one Int.toNat_natCast Nat.zero_add
attribute [local go_sem] e_t e_c e_f u_some u_none u_at env_at k_v k_pick k_add k_sub k_mul k_quo k_rem k_and k_or k_xor k_shl k_shr k_eql k_neq k_lss k_leq k_gtr k_geq k_beq k_peqn k_peqs k_neg k_not k_com k_cvI k_idxS k_idxV1 k_idxVn k_idx k_idxA k_idxG k_ldG k_gld k_seq k_cat k_aeq k_eqs k_fld k_ld1 k_ldn k_get k_gets k_sti k_stb k_stp k_sts k_stf k_sta k_put k_nn k_prt1 k_prtn k_slc_a k_slc_b k_slc_c k_mk k_agg k_bsl k_box k_len k_lenS k_cap k_max k_min k_ext k_callV k_true k_false k_gtt k_gtf k_gft k_gsk k_gff k_lit1i k_lit2i k_lit3i k_c0 k_c1 k_ck List.getElem?_cons_zero List.getElem?_cons_succ List.getElem?_nil Option.getD_some Option.getD_none tupOf List.map_cons List.map_nil Option.map_some Option.map_none List.nil_append List.cons_append List.append_nil Nat.mul_one Int.toNat_natCast Nat.zero_add
--what a store into a cell of two leaves
attribute [local go_sem_proc] Nat.reduceEqDiff Nat.reduceAdd Int.reduceToNat
attribute [local go_sem_proc ↓] reduceIte
attribute [local go_sem] Bool.false_eq_true
section
def pwl:Nat→Nat→Nat→Nat→Nat→Nat
 |0,out,_,_,_=>out
 |f+1,out,a,k,n=>if k=0 then out else pwl f (if k%2=1 then out*a%n else out) (a*a%n) (k/2) n
theorem pwl_eq {n:Nat} (hn:0<n):∀(f out a k:Nat),k<2^f→out<n→pwl f out a k n=out*a^k%n
 |0,out,a,k,hk,ho=>by
  have:k=0:=by omega
  subst this
  simp[pwl,Nat.mod_eq_of_lt ho]
 |f+1,out,a,k,hk,ho=>by
  unfold pwl
  by_cases h0:k=0
  ·subst h0
   simp[Nat.mod_eq_of_lt ho]
  rw[if_neg h0,pwl_eq hn f _ _ (k/2) (by omega) (by split;exact Nat.mod_lt _ hn;exact ho)]
  have e:a^k=a^(k%2)*(a*a)^(k/2):=by
   rw[←Nat.pow_two,←Nat.pow_mul,←Nat.pow_add];congr 1;omega
  rw[e]
  rcases Nat.mod_two_eq_zero_or_one k with h|h
  ·rw[if_neg (by omega),h,Nat.pow_zero,Nat.one_mul,Nat.mul_mod,Nat.pow_mod,Nat.mod_mod,←Nat.pow_mod,←Nat.mul_mod]
  ·rw[if_pos h,h,Nat.pow_one,←Nat.mul_assoc,Nat.mul_mod,Nat.mod_mod,Nat.pow_mod,Nat.mod_mod,←Nat.pow_mod,←Nat.mul_mod]
def ps12:List Nat:=[2,3,5,7,11,13,17,19,23,29,31,37]
def smallL:List Nat→Nat→Option Bool
 |[],_=>none
 |p::ps,n=>if n%p=0 then some (decide (n=p)) else smallL ps n
def witL:Nat→Nat→Nat→Bool
 |0,_,_=>true
 |k+1,x,n=>if x*x%n=n-1 then false else witL k (x*x%n) n
def wit (a n d s:Nat):Bool:=if pwl 64 (1%n) (a%n) d n=0∨pwl 64 (1%n) (a%n) d n=1∨pwl 64 (1%n) (a%n) d n=n-1 then false else witL (s-1) (pwl 64 (1%n) (a%n) d n) n
def tzf:Nat→Nat→Nat
 |0,_=>0
 |f+1,x=>if x%2=1 then 0 else tzf f (x/2)+1
theorem tzf_spec:∀(f x:Nat),0<x→x<2^f→∃m,m%2=1∧x=2^tzf f x*m
 |0,x,h,h2=>by omega
 |f+1,x,h,h2=>by
  unfold tzf
  by_cases hx:x%2=1
  ·rw[if_pos hx]
   exact⟨x,hx,by simp⟩
  ·rw[if_neg hx]
   obtain⟨m,h3,h4⟩:=tzf_spec f (x/2) (by omega) (by omega)
   refine⟨m,h3, ?_⟩
   rw[Nat.pow_succ,Nat.mul_right_comm,←h4]
   omega
def isPr (n:Nat):Bool:=if n<2 then false else match smallL ps12 n with
 |some b=>b
 |none=>ps12.all fun a=> !wit a n ((n-1)/2^tzf 64 (n-1)) (tzf 64 (n-1))
section
variable {a b n k:Nat} {h:H} {K:AV→H→Prop}
theorem pmul_calls (ha:a<n) (hb:b<18446744073709551616) (hn:n<18446744073709551616) (hk:K (.int .u64 (a*b%n:Nat)) h):ACalls Tryz.prog 191 [.int .u64 (a:Int), .int .u64 (b:Int), .int .u64 (n:Int)] h K:=by
 refine in_prime_mul (by simp) fun hw=> ?_
 unfold c_prime_mul
 simp only[go_sem]
 refine Mul64_calls (by omega) hb ?_
 simp only[go_sem]
 have hlt:a*b/18446744073709551616<n:=by
  rw[Nat.div_lt_iff_lt_mul (by omega)]
  exact Nat.mul_lt_mul_of_lt_of_le ha (Nat.le_of_lt hb) (by omega)
 have e:a*b/18446744073709551616*18446744073709551616+a*b%18446744073709551616=a*b:=by omega
 refine Div64_calls hlt (Nat.mod_lt _ (by omega)) hn ?_
 rw[e]
 simp only[go_sem]
 exact fun _=>hk
theorem ppow_calls (ha:a<n) (hkB:k<18446744073709551616) (hn:n<18446744073709551616) (hk:K (.int .u64 (a^k%n:Nat)) h):ACalls Tryz.prog 190 [.int .u64 (a:Int), .int .u64 (k:Int), .int .u64 (n:Int)] h K:=by
 refine in_prime_pow (by simp) fun hw=> ?_
 unfold c_prime_pow
 have e1:(1:Int).tmod (n:Int)=((1%n:Nat):Int):=tmodN (a:=1)
 simp only[go_sem,e1]
 refine⟨by omega, ?_⟩
 refine⟨fun s ρ h'=>h'=h∧ρ 1= .int .u64 (s:Int)∧ρ 2= .int .u64 (n:Int)∧s<18446744073709551616∧∃x o:Nat,ρ 0= .int .u64 (x:Int)∧ρ 7= .int .u64 (o:Int)∧x<n∧o<n∧o*x^s%n=a^k%n,k,
  ⟨rfl,rfl,rfl,hkB,a,1%n,rfl,rfl,ha,Nat.mod_lt _ (by omega),by rw[Nat.mod_mul_mod,Nat.one_mul]⟩, ?_⟩
 rintro s ρ h' ⟨rfl,q1,q2,hs,x,o,q0,q7,hx,ho,hv⟩
 rcases Nat.eq_zero_or_pos s with rfl|hpos
 ·rw[Nat.pow_zero,Nat.mul_one,Nat.mod_eq_of_lt ho] at hv
  subst hv
  simp only[go_sem,q0,q1,q2,q7,show decide ((0:Int)<((0:Nat):Int))=false from rfl]
  exact fun _=>hk
 ·have hc:decide ((0:Int)<(s:Int))=true:=decide_eq_true (by omega)
  have e2:((s:Int)).tmod 2=((s%2:Nat):Int):=tmodN (b:=2)
  have e3:IntKind.u64.wrap ((s:Int).tdiv 2)=((s/2:Nat):Int):=by
   have e:((s:Int)).tdiv 2=((s/2:Nat):Int):=tdivN (b:=2)
   rw[e,wU]<;>omega
  have e:x^s=x^(s%2)*(x*x)^(s/2):=by
   rw[←Nat.pow_two,←Nat.pow_mul,←Nat.pow_add];congr 1;omega
  simp only[go_sem,q0,q1,q2,q7,hc,e2]
  refine⟨by omega, ?_⟩
  refine cond_cut (fun ρ h2=>h2=h'∧ρ 0= .int .u64 (x:Int)∧ρ 1= .int .u64 (s:Int)∧ρ 2= .int .u64 (n:Int)∧∃o',ρ 7= .int .u64 (o':Nat)∧o'<n∧o'*(x*x%n)^(s/2)%n=a^k%n) ?_ ?_
  ·rcases Nat.mod_two_eq_zero_or_one s with h0|h1
   ·simp only[go_sem,eqF (show((s%2:Nat):Int)≠1 by omega),q0,q1,q2,q7]
    refine⟨trivial,trivial,trivial,trivial,o,rfl,ho, ?_⟩
    rw[←hv,e,h0,Nat.pow_zero,Nat.one_mul,Nat.mul_mod,Nat.pow_mod,Nat.mod_mod,←Nat.pow_mod,←Nat.mul_mod]
   ·simp only[go_sem,eqT (show((s%2:Nat):Int)=1 by omega),q0,q1,q2,q7]
    refine pmul_calls ho (by omega) hn ?_
    simp only[go_sem,q0,q1,q2,q7]
    refine⟨trivial,trivial,trivial,trivial,_,rfl,Nat.mod_lt _ (by omega), ?_⟩
    rw[←hv,e,h1,Nat.pow_one,←Nat.mul_assoc,Nat.mul_mod,Nat.mod_mod,Nat.pow_mod,Nat.mod_mod,←Nat.pow_mod,←Nat.mul_mod]
  ·rintro ρ h2 ⟨rfl,q0,q1,q2,o',q7,ho',hv'⟩
   simp only[go_sem,q0,q1,q2,q7]
   refine pmul_calls hx (by omega) hn ?_
   simp only[go_sem,q0,q1,q2,q7,e3]
   exact⟨by omega,s/2,by omega,by first|rfl|trivial|assumption,by first|rfl|trivial|assumption,by first|rfl|trivial|assumption,by omega,_,o',rfl,rfl,Nat.mod_lt _ (by omega),ho',hv'⟩
theorem witness_calls {d s:Nat} (hn:n<18446744073709551616) (h2:2≤n) (hd:d<18446744073709551616) (hs:1≤s∧s≤64) (hk:K (.bool (wit a n d s)) h):ACalls Tryz.prog 188 [.int .u64 (a:Int), .int .u64 (n:Int), .int .u64 (d:Int), .int .i64 (s:Int)] h K:=by
 refine in_prime_witness (by simp) fun hw=> ?_
 unfold c_prime_witness
 have ep:pwl 64 (1%n) (a%n) d n=(a%n)^d%n:=by rw[pwl_eq (by omega) _ _ _ _ hd (Nat.mod_lt _ (by omega)),Nat.mod_mul_mod,Nat.one_mul]
 unfold wit at hk
 rw[ep] at hk
 simp only[go_sem,tmodN]
 refine⟨by omega, ?_⟩
 refine ppow_calls (Nat.mod_lt _ (by omega)) hd hn ?_
 have hx:(a%n)^d%n<n:=Nat.mod_lt _ (by omega)
 generalize (a%n)^d%n=x at*
 have e1:IntKind.u64.wrap ((n:Int)-1)=((n-1:Nat):Int):=subN1 (by omega) hn
 by_cases c0:x=0
 ·rw[if_pos (Or.inl c0)] at hk
  simp only[go_sem,eqT (show(x:Int)=0 by omega)]
  exact fun _=>hk
 by_cases c1:x=1
 ·rw[if_pos (Or.inr (Or.inl c1))] at hk
  simp only[go_sem,eqF (show(x:Int)≠0 by omega),eqT (show(x:Int)=1 by omega)]
  exact fun _=>hk
 by_cases c2:x=n-1
 ·rw[if_pos (Or.inr (Or.inr c2))] at hk
  simp only[go_sem,eqF (show(x:Int)≠0 by omega),eqF (show(x:Int)≠1 by omega),e1,eqT (show(x:Int)=((n-1:Nat):Int) by omega)]
  exact fun _=>hk
 rw[if_neg (by omega)] at hk
 have e4:IntKind.i64.wrap ((s:Int)-1)=((s-1:Nat):Int):=by rw[wI]<;>omega
 simp only[go_sem,eqF (show(x:Int)≠0 by omega),eqF (show(x:Int)≠1 by omega),e1,eqF (show(x:Int)≠((n-1:Nat):Int) by omega),e4]
 refine⟨fun m ρ h'=>h'=h∧ρ 1= .int .u64 (n:Int)∧ρ 29= .int .i64 ((s-1:Nat):Int)∧m≤s-1∧ρ 30= .int .i64 ((s-1-m:Nat):Int)∧∃x:Nat,ρ 9= .int .u64 (x:Int)∧x<n∧K (.bool (witL m x n)) h,s-1,⟨rfl,rfl,rfl,Nat.le_refl _,by rw[Nat.sub_self];rfl,x,rfl,hx,hk⟩, ?_⟩
 rintro m ρ h' ⟨rfl,q1,q29,hm,q30,x,q9,hx,hk⟩
 cases m with
 |zero=>
  simp only[go_sem,q1,q29,q30,q9,show decide (((s-1-0:Nat):Int)<((s-1:Nat):Int))=false from decide_eq_false (by omega)]
  exact fun _=>hk
 |succ m=>
  have c:decide (((s-1-(m+1):Nat):Int)<((s-1:Nat):Int))=true:=decide_eq_true (by omega)
  have e6:IntKind.i64.wrap (((s-1-(m+1):Nat):Int)+1)=((s-1-m:Nat):Int):=by rw[wI]<;>omega
  unfold witL at hk
  simp only[go_sem,q1,q29,q30,q9,c]
  refine pmul_calls hx (by omega) hn ?_
  have hy:x*x%n<n:=Nat.mod_lt _ (by omega)
  generalize x*x%n=y at*
  by_cases c2:y=n-1
  ·rw[if_pos c2] at hk
   simp only[go_sem,q1,q29,q30,e1,eqT (show(y:Int)=((n-1:Nat):Int) by omega)]
   exact fun _=>hk
  ·rw[if_neg c2] at hk
   simp only[go_sem,q1,q29,q30,e1,eqF (show(y:Int)≠((n-1:Nat):Int) by omega),e6]
   exact⟨m,by omega,by first|rfl|trivial|assumption,by first|rfl|trivial|assumption,by first|rfl|trivial|assumption,by omega,by first|rfl|trivial|assumption,y,rfl,hy,hk⟩
theorem ps12_get:∀i,i<12→∃q,(ps12.map fun q=>AV.int .u64 ((q:Nat):Int))[i]? =some (.int .u64 (q:Int))∧ps12.drop i=q::ps12.drop (i+1)∧2≤q∧q<18446744073709551616:=by
 intro i hi
 have hl:i<ps12.length:=hi
 refine⟨ps12[i],by simp[hl],by rw[List.drop_eq_getElem_cons hl], ?_⟩
 have:∀q∈ps12,2≤q∧q<18446744073709551616:=by decide
 exact this _ (List.getElem_mem hl)
theorem smallL_none {q:Nat}:∀ps:List Nat,smallL ps n=none→q∈ps→n%q≠0
 |p::ps,h,hq=>by
  unfold smallL at h
  split at h
  ·cases h
  ·rename_i h2
   rcases List.mem_cons.1 hq with rfl|h3
   ·exact h2
   ·exact smallL_none ps h h3
theorem new_agg {e:TypeId} {z:Nat} {Z L:List AV} {h1:H} (hw:h.wf) (hz:Z.length=L.length) (hh:(h.new ⟨some e,z,Z⟩).set h.next ⟨some e,z,putAt Z 0 L⟩=h1):h.le h1∧h1.gets h.next 0 L.length=some L∧h1.wf∧h.next<h1.next:=by
 subst hh
 refine⟨H.le_set hw (H.le_new hw (H.le_refl h) _) (Nat.le_refl _) _, ?_,H.wf_set (H.wf_new hw _) (Nat.lt_succ_self _) _,Nat.lt_succ_self _⟩
 have e:putAt Z 0 L=L:=by simp[putAt,hz]
 rw[H.gets_of (H.rows_set _ _ _) (by simp[e]),e]
 simp
theorem bld12:abuild [.int .u64 0, .int .u64 0, .int .u64 0, .int .u64 0, .int .u64 0, .int .u64 0, .int .u64 0, .int .u64 0, .int .u64 0, .int .u64 0, .int .u64 0, .int .u64 0] [(0,1, .int .u64 2),(1,1, .int .u64 3),(2,1, .int .u64 5),(3,1, .int .u64 7),(4,1, .int .u64 11),(5,1, .int .u64 13),(6,1, .int .u64 17),(7,1, .int .u64 19),(8,1, .int .u64 23),(9,1, .int .u64 29),(10,1, .int .u64 31),(11,1, .int .u64 37)]=some (ps12.map fun q=>AV.int .u64 ((q:Nat):Int)):=rfl
theorem Is_calls (hn:n<18446744073709551616) (hk:∀h',h'.wf→h.le h'→K (.bool (isPr n)) h'):ACalls Tryz.prog 180 [.int .u64 (n:Int)] h K:=by
 refine in_prime_Is (by simp) fun hw=> ?_
 unfold c_prime_Is
 unfold isPr at hk
 by_cases h2:n<2
 ·rw[if_pos h2] at hk
  simp only[go_sem,show decide ((n:Int)<2)=true from decide_eq_true (by omega)]
  exact fun hw=>hk _ hw (H.le_refl h)
 rw[if_neg h2] at hk
 simp only[go_sem,show decide ((n:Int)<2)=false from decide_eq_false (by omega)]
 rw[bld12]
 have gp:=ps12_get
 have hL:(ps12.map fun q=>AV.int .u64 ((q:Nat):Int)).length=12:=rfl
 have hL1:(ps12.map fun q=>AV.int .u64 ((q:Nat):Int)).all (·.one)=true:=rfl
 generalize (ps12.map fun q=>AV.int .u64 ((q:Nat):Int))=L at*
 simp only[go_sem]
 refine⟨hL,hL1, ?_⟩
 rw[H.rows_new]
 simp only[go_sem]
 refine⟨by simp,by simp, ?_⟩
 generalize hh:(h.new ⟨some _,_,_⟩).set h.next ⟨some _,_,_⟩=h1
 obtain⟨hl1,hg,hw1,_⟩:=new_agg hw (by rw[hL];rfl) hh
 rw[hL] at hg
 simp only[go_sem,hg]
 have hk:=fun hw=>hk h1 hw hl1
 refine⟨fun s ρ h'=>h'=h1∧ρ 0= .int .u64 (n:Int)∧ρ 3= .ptr (some (h.next,0))∧ρ 13= .agg L∧s≤12∧ρ 14= .int .i64 ((12-s:Nat):Int)∧smallL (ps12.drop (12-s)) n=smallL ps12 n,12,⟨rfl,rfl,rfl,rfl,Nat.le_refl _,rfl,rfl⟩, ?_⟩
 rintro s ρ h' ⟨rfl,q0,q3,q13,hs,q14,hv⟩
 cases s with
 |zero=>
  have c:decide (((12-0:Nat):Int)<12)=false:=rfl
  have hv:smallL ps12 n=none:=hv.symm
  rw[hv] at hk
  simp only at hk
  have h20:=smallL_none (q:=2) ps12 hv (by decide)
  have e1:IntKind.u64.wrap ((n:Int)-1)=((n-1:Nat):Int):=subN1 (by omega) hn
  obtain⟨m,hm,hx⟩:=tzf_spec 64 (n-1) (by omega) (by omega)
  generalize tzf 64 (n-1)=t at*
  have htl:t<64:=pow_lt64 hm (by omega)
  have ht:1≤t:=by
   rcases Nat.eq_zero_or_pos t with rfl|h0
   ·omega
   ·exact h0
  have e2:IntKind.u64.wrap (t:Int)=(t:Int):=wUn (by omega)
  have e3:=shrU (x:=n-1) (n:=t) (by omega)
  have hd:(n-1)/2^t<18446744073709551616:=Nat.lt_of_le_of_lt (Nat.div_le_self _ _) (by omega)
  simp only[go_sem,q0,q3,q13,q14,c,e1]
  rw[hx]
  refine TZ_calls hm (by omega) ?_
  rw[←hx]
  generalize (n-1)/2^t=d at*
  simp only[go_sem,q0,q3,e1,e2,e3,hg]
  refine⟨by omega, ?_⟩
  refine⟨fun s ρ h2=>h2=h'∧ρ 0= .int .u64 (n:Int)∧ρ 6= .int .i64 (t:Int)∧ρ 7= .int .u64 (d:Int)∧ρ 33= .agg L∧s≤12∧ρ 34= .int .i64 ((12-s:Nat):Int)∧(h'.wf→K (.bool ((ps12.drop (12-s)).all fun a=> !wit a n d t)) h'),12,⟨rfl,by first|rfl|trivial|assumption,by first|rfl|trivial|assumption,by first|rfl|trivial|assumption,rfl,Nat.le_refl _,rfl,by rw[Nat.sub_self,List.drop_zero];exact hk⟩, ?_⟩
  rintro s ρ h2 ⟨rfl,q0,q6,q7,q33,hs,q34,hk⟩
  cases s with
  |zero=>
   simp only[go_sem,q0,q6,q7,q33,q34,show decide (((12-0:Nat):Int)<12)=false from rfl]
   exact hk
  |succ s=>
   have c:decide (((12-(s+1):Nat):Int)<12)=true:=decide_eq_true (by omega)
   have e6:IntKind.i64.wrap (((12-(s+1):Nat):Int)+1)=((12-s:Nat):Int):=by rw[wI]<;>omega
   obtain⟨q,hq,hdr,h2q,hqB⟩:=gp (12-(s+1)) (by omega)
   rw[hdr,show 12-(s+1)+1=12-s by omega,List.all_cons] at hk
   simp only[go_sem,q0,q6,q7,q33,q34,c,hq,Int.toNat_natCast,Nat.mul_one]
   refine⟨by omega,by omega, ?_⟩
   refine witness_calls hn (by omega) hd ⟨ht,by omega⟩ ?_
   cases hwt:wit q n d t with
   |true=>
    rw[hwt] at hk
    simp only[go_sem,q0,q6,q7,q33,q34]
    exact hk
   |false=>
    rw[hwt] at hk
    simp only[go_sem,q0,q6,q7,q33,q34,e6]
    exact⟨s,by omega,by first|rfl|trivial|assumption,by first|rfl|trivial|assumption,by first|rfl|trivial|assumption,by first|rfl|trivial|assumption,by first|rfl|trivial|assumption,by omega,by first|rfl|trivial|assumption,hk⟩
 |succ s=>
  have c:decide (((12-(s+1):Nat):Int)<12)=true:=decide_eq_true (by omega)
  have e6:IntKind.i64.wrap (((12-(s+1):Nat):Int)+1)=((12-s:Nat):Int):=by rw[wI]<;>omega
  obtain⟨q,hq,hdr,h2q,hqB⟩:=gp (12-(s+1)) (by omega)
  rw[hdr,show 12-(s+1)+1=12-s by omega] at hv
  rw[smallL] at hv
  simp only[go_sem,q0,q3,q13,q14,c,hq,Int.toNat_natCast,Nat.mul_one,tmodN]
  refine⟨by omega,by omega,by omega, ?_⟩
  by_cases h0:n%q=0
  ·rw[if_pos h0] at hv
   rw[←hv] at hk
   have eD:((n:Int)==(q:Int))=decide (n=q):=by
    rw[Bool.eq_iff_iff];simp;omega
   simp only[go_sem,q0,q3,q13,q14,eqT (show((n%q:Nat):Int)=0 by omega),eD]
   exact hk
  ·rw[if_neg h0] at hv
   simp only[go_sem,q0,q3,q13,q14,eqF (show((n%q:Nat):Int)≠0 by omega),e6]
   exact⟨s,by omega,by first|rfl|trivial|assumption,by first|rfl|trivial|assumption,by first|rfl|trivial|assumption,by first|rfl|trivial|assumption,by omega,by first|rfl|trivial|assumption,hv⟩
theorem pMod_calls {p:Nat} (hp:3≤p∧p<4611686018427387904) (ho:p%2=1) (hi:isPr p=true) (hk:∀i h',h'.wf→h.le h'→h.next≤i→MW h' i p→K (.tup [.ptr (some (i,0)), .int .i64 0]) h'):ACalls Tryz.prog 174 [.int .u64 (p:Int)] h K:=by
 refine in_prime_Mod (by simp) fun hw=> ?_
 unfold c_prime_Mod
 have e2:((p:Int)).tmod 2=((p%2:Nat):Int):=tmodN (b:=2)
 have c2:decide (4611686018427387904≤(p:Int))=false:=decide_eq_false (by omega)
 simp only[go_sem,c2,e2,eqF (show((p%2:Nat):Int)≠0 by omega)]
 refine⟨by decide, ?_⟩
 refine Is_calls (by omega) fun h1 hw1 hl1=> ?_
 rw[hi]
 simp only[go_sem,Bool.not_true]
 refine mwNew_calls hp ho fun i h2 hw2 hl2 hn hm=> ?_
 simp only[go_sem]
 exact fun hw'=>hk i _ hw' (H.le_trans hl1 hl2) (by have:=hl1.1;omega) hm
theorem Root_calls {p log:Nat} (hp:3≤p∧p<4611686018427387904) (ho:p%2=1) (hi:isPr p=true) (hl:log≤20) (hd:(p-1)%2^20=0) (hg:∃g,2≤g∧g<18446744073709551616∧g^((p-1)/2)%p=p-1)
  (hk:∀w h',h'.wf→h.le h'→(0<log→w<p∧w^(2^(log-1))%p=p-1)→(log=0→w=1)→K (.tup [.int .u64 (w:Nat), .int .i64 0]) h'):ACalls Tryz.prog 166 [.int .u64 (p:Int), .int .i64 (log:Int)] h K:=by
 refine in_prime_Root (by simp) fun hw=> ?_
 unfold c_prime_Root
 simp only[go_sem]
 refine pMod_calls hp ho hi fun i h1 hw1 hl1 hn hm=> ?_
 have e1:IntKind.u64.wrap ((p:Int)-1)=((p-1:Nat):Int):=subN1 (by omega) (by omega)
 have e2:IntKind.u64.wrap (log:Int)=(log:Int):=wUn (by omega)
 have hpl:2^log≤2^20:=Nat.pow_le_pow_right (by decide) hl
 have hp0:0<2^log:=Nat.pow_pos (by decide)
 have e3:bShl .u64 1 log=((2^log:Nat):Int):=by
  have:=shlU (x:=1) (n:=log) (by omega)
  rw[Nat.one_mul,Nat.mod_eq_of_lt (by omega)] at this
  exact this
 have hdl:(p-1)%2^log=0:=Nat.mod_eq_zero_of_dvd (Nat.dvd_trans (Nat.pow_dvd_pow 2 hl) (Nat.dvd_of_mod_eq_zero hd))
 simp only[go_sem,show decide ((log:Int)<0)=false from decide_eq_false (by omega),show decide ((20:Int)<(log:Int))=false from decide_eq_false (by omega),e1,e2,e3,tmodN,hdl,show((0:Int) !=0)=false from rfl,show(((0:Nat):Int) !=0)=false from rfl]
 refine⟨by omega,by omega, ?_⟩
 rcases Nat.eq_zero_or_pos log with rfl|h0
 ·simp only[go_sem,show(((0:Nat):Int)==0)=true from rfl]
  exact fun hw'=>hk 1 _ hw' hl1 (fun h=>absurd h (by omega)) (fun _=>rfl)
 obtain⟨g,hg2,hgB,hgp⟩:=hg
 have e4:IntKind.u64.wrap (((p-1:Nat):Int).tdiv 2)=(((p-1)/2:Nat):Int):=by
  have e:(((p-1:Nat):Int)).tdiv 2=(((p-1)/2:Nat):Int):=tdivN (b:=2)
  rw[e,wU]<;>omega
 simp only[go_sem,eqF (show(log:Int)≠0 by omega)]
 refine⟨fun s ρ h'=>h'=h1∧ρ 0= .int .u64 (p:Int)∧ρ 1= .int .i64 (log:Int)∧ρ 6= .ptr (some (i,0))∧s≤g-2∧ρ 8= .int .u64 ((g-s:Nat):Int),g-2,⟨rfl,rfl,rfl,rfl,Nat.le_refl _,by rw[Nat.sub_sub_self hg2];rfl⟩, ?_⟩
 rintro s ρ h' ⟨rfl,q0,q1,q6,hs,q8⟩
 simp only[go_sem,q0,q1,q6,q8,e1,e4]
 refine⟨by decide, ?_⟩
 refine mPow_calls hm (by omega) ?_
 by_cases hx:(g-s)^((p-1)/2)%p=p-1
 ·have e5:((((g-s)^((p-1)/2)%p:Nat):Int) !=((p-1:Nat):Int))=false:=by rw[hx];simp
  have e6:=shrU (x:=p-1) (n:=log) (by omega)
  simp only[go_sem,q0,q1,q6,q8,e1,e2,e5,e6]
  refine⟨by omega, ?_⟩
  refine mPow_calls hm (Nat.lt_of_le_of_lt (Nat.div_le_self _ _) (by omega)) ?_
  simp only[go_sem]
  refine fun hw'=>hk _ _ hw' hl1 (fun _=>⟨Nat.mod_lt _ (by omega), ?_⟩) (fun h=>absurd h (by omega))
  have he:(p-1)/2^log*2^(log-1)=(p-1)/2:=by
   have h2:2^log=2^(log-1)*2:=by rw[←Nat.pow_succ,show(log-1).succ=log by omega]
   have h3:=Nat.div_add_mod (p-1) (2^log)
   rw[hdl,h2] at h3
   rw[h2]
   generalize (p-1)/(2^(log-1)*2)=u at*
   rw[←h3,Nat.add_zero,Nat.mul_right_comm,Nat.mul_div_cancel _ (by decide),Nat.mul_comm]
  rw[←Nat.pow_mod,←Nat.pow_mul,he,hx]
 ·have e5:((((g-s)^((p-1)/2)%p:Nat):Int) !=((p-1:Nat):Int))=true:=by
   rw[bne_iff_ne]
   omega
  have hs0:0<s:=by
   rcases Nat.eq_zero_or_pos s with rfl|h
   ·exact absurd hgp hx
   ·exact h
  have e7:IntKind.u64.wrap (((g-s:Nat):Int)+1)=((g-(s-1):Nat):Int):=by rw[wU]<;>omega
  simp only[go_sem,q0,q1,q6,q8,e1,e5,e7]
  exact⟨s-1,by omega,by first|rfl|trivial|assumption,by first|rfl|trivial|assumption,by first|rfl|trivial|assumption,by first|rfl|trivial|assumption,by omega,by first|rfl|trivial|assumption⟩
theorem bld3 {a b c:AV} {z:List AV} (hz:z.length=3) (ha:a.cells=[a]) (hb:b.cells=[b]) (hc:c.cells=[c]) (h1:a.held=true) (h2:b.held=true) (h3:c.held=true):abuild z [(0,1,a),(1,1,b),(2,1,c)]=some [a,b,c]:=by
 match z,hz with
 |[x,y,t],_=>simp[abuild,putAt,ha,hb,hc,h1,h2,h3]
def threeL:List AV:=[.int .u64 180143985094819841, .int .i64 55, .int .u64 6, .int .u64 1945555039024054273, .int .i64 56, .int .u64 5, .int .u64 4179340454199820289, .int .i64 57, .int .u64 3]
theorem bld9:abuild [.int .u64 0, .int .i64 0, .int .u64 0, .int .u64 0, .int .i64 0, .int .u64 0, .int .u64 0, .int .i64 0, .int .u64 0] [(0,3, .agg [.int .u64 180143985094819841, .int .i64 55, .int .u64 6]),(3,3, .agg [.int .u64 1945555039024054273, .int .i64 56, .int .u64 5]),(6,3, .agg [.int .u64 4179340454199820289, .int .i64 57, .int .u64 3])]=some threeL:=rfl
theorem Three_calls (hk:∀h',h'.wf→h.le h'→K (.agg threeL) h'):ACalls Tryz.prog 162 [] h K:=by
 refine in_prime_Three (by simp) fun hw=> ?_
 unfold c_prime_Three
 simp only[go_sem]
 rw[bld3 rfl rfl rfl rfl rfl rfl rfl]
 simp only[go_sem]
 rw[bld3 rfl rfl rfl rfl rfl rfl rfl]
 simp only[go_sem]
 rw[bld3 rfl rfl rfl rfl rfl rfl rfl]
 simp only[go_sem]
 rw[bld9]
 have hL:threeL.length=9:=rfl
 have hL1:threeL.all (·.one)=true:=rfl
 generalize threeL=L at*
 simp only[go_sem]
 refine⟨hL,hL1, ?_⟩
 rw[H.rows_new]
 simp only[go_sem]
 refine⟨by simp,by simp, ?_⟩
 generalize hh:(h.new ⟨some _,_,_⟩).set h.next ⟨some _,_,_⟩=h1
 obtain⟨hl1,hg,hw1,_⟩:=new_agg hw (by rw[hL];rfl) hh
 rw[hL] at hg
 simp only[go_sem,hg]
 exact fun hw'=>hk _ hw' hl1
def PrimeOK (p g:Nat):Prop:=3≤p∧p<4611686018427387904∧p%2=1∧isPr p=true∧(p-1)%2^20=0∧2≤g∧g<18446744073709551616∧g^((p-1)/2)%p=p-1
theorem gen_of {p g:Nat} (hp:0<p) (hp1:1<p) (hpB:p<18446744073709551616) (h:pwl 64 1 g ((p-1)/2) p=p-1):g^((p-1)/2)%p=p-1:=by
 rw[pwl_eq hp _ _ _ _ (Nat.lt_of_le_of_lt (Nat.div_le_self _ _) (by omega)) hp1,Nat.one_mul] at h
 exact h
theorem primeOK_of {p g:Nat} (h1:3≤p) (h2:p<4611686018427387904) (h3:p%2=1) (h4:isPr p=true) (h5:(p-1)%2^20=0) (h6:2≤g) (h7:g<18446744073709551616) (h8:pwl 64 1 g ((p-1)/2) p=p-1):PrimeOK p g:=
 ⟨h1,h2,h3,h4,h5,h6,h7,gen_of (by omega) (by omega) (by omega) h8⟩
theorem prime1:PrimeOK 180143985094819841 6:=primeOK_of (by decide) (by decide) (by decide) (by decide+kernel) (by decide) (by decide) (by decide) (by decide+kernel)
theorem prime2:PrimeOK 1945555039024054273 5:=primeOK_of (by decide) (by decide) (by decide) (by decide+kernel) (by decide) (by decide) (by decide) (by decide+kernel)
theorem prime3:PrimeOK 4179340454199820289 3:=primeOK_of (by decide) (by decide) (by decide) (by decide+kernel) (by decide) (by decide) (by decide) (by decide+kernel)
end
end
section
def pwL (p w n:Nat):List Nat:=(List.range n).map fun i=>w^i%p
def shL (p w n:Nat):List Nat:=(List.range n).map fun i=>w^i%p%p*18446744073709551616/p
theorem pwL_succ {p w n:Nat}:pwL p w (n+1)=pwL p w n++[w^n%p]:=by simp[pwL,List.range_succ]
theorem shL_succ {p w n:Nat}:shL p w (n+1)=shL p w n++[w^n%p%p*18446744073709551616/p]:=by simp[shL,List.range_succ]
theorem pwL_len {p w n:Nat}:(pwL p w n).length=n:=by simp[pwL]
theorem shL_len {p w n:Nat}:(shL p w n).length=n:=by simp[shL]
theorem pwL_get {p w n i:Nat} (hi:i<(pwL p w n).length):(pwL p w n)[i]=w^i%p:=by simp[pwL]
theorem shL_get {p w n i:Nat} (hi:i<(shL p w n).length):(shL p w n)[i]=w^i%p%p*18446744073709551616/p:=by simp[shL]
theorem IsG.id {b:Nat} {h:H} {i:Nat} {n:Nat} {c:Option Nat} {xs:List Nat} (hw:h.wf) (hv:IsG b h (.sl (some i) 0 n c) xs) (hl:0<xs.length):b≤i∧i<h.next:=by
 obtain⟨i',r,h1,h2,h3,_⟩:=hv.put hw (j:=0) hl
 injection h1 with h1
 subst h1
 exact⟨h2,h3⟩
section
variable {p i w n:Nat} {h:H} {K:AV→H→Prop}
theorem powers_calls (hm:MW h i p) (hw1:w<18446744073709551616) (hn:n≤1048576) (hk:∀a b h',h'.wf→h.le h'→IsG h.next h' a (pwL p w n)→IsG h.next h' b (shL p w n)→K (.tup [a,b]) h'):ACalls Tryz.prog 167 [.ptr (some (i,0)), .int .u64 (w:Int), .int .i64 (n:Int)] h K:=by
 refine in_ntt_powers (by simp) fun hw=> ?_
 unfold c_ntt_powers
 simp only[go_sem]
 refine awp_cut (fun ρ h'=>h'.wf∧h.le h'∧ρ 0= .ptr (some (i,0))∧ρ 1= .int .u64 (w:Int)∧∃ia ib,ia≠ib∧ρ 8= .sl (some ia) 0 n (some n)∧ρ 9= .sl (some ib) 0 n (some n)∧
  IsG h.next h' (.sl (some ia) 0 n (some n)) (List.replicate n 0)∧IsG h.next h' (.sl (some ib) 0 n (some n)) (List.replicate n 0)) ?_ ?_
 ·simp only[go_sem,w_regt]
  have w1:=H.wf_new hw ⟨some 73,1,zs [AV.int .u64 0] n⟩
  have k1:=H.le_new hw (H.le_refl _) ⟨some 73,1,zs [AV.int .u64 0] n⟩
  have k2:=H.le_new w1 (H.le_refl _) ⟨some 73,1,zs [AV.int .u64 0] n⟩
  refine⟨⟨by omega,by omega,by omega,⟨by omega,by omega,by omega, ?_⟩,trivial⟩,⟨by omega,by omega,by omega,⟨by omega,by omega,by omega, ?_⟩,trivial⟩,trivial⟩
  ·exact⟨H.wf_new w1 _,H.le_trans k1 k2,trivial,trivial,_,_,by simp[H.new],rfl,rfl,(IsG.made (Nat.le_refl _) _).mono k2,IsG.made (by simp[H.new]) _⟩
  ·exact⟨H.wf_new w1 _,H.le_trans k1 k2,trivial,trivial,_,_,by simp[H.new],rfl,rfl,IsG.made (by simp[H.new]) _,(IsG.made (Nat.le_refl _) _).mono k2⟩
 rintro ρ h1 ⟨hw',hl1,q0,q1,ia,ib,hab,q8,q9,ga,gb⟩
 have hp:=hm.p0
 simp only[go_sem,q0,q1,q8,q9]
 refine for_rule (fun k ρ h'=>k≤n∧h'.wf∧h.le h'∧ρ 0= .ptr (some (i,0))∧ρ 1= .int .u64 (w:Int)∧ρ 8= .sl (some ia) 0 n (some n)∧ρ 9= .sl (some ib) 0 n (some n)∧ρ 10= .int .u64 (w^k%p:Nat)∧ρ 17= .int .i64 (n:Int)∧ρ 18= .int .i64 (k:Int)∧
  IsG h.next h' (.sl (some ia) 0 n (some n)) (pwL p w k++List.replicate (n-k) 0)∧IsG h.next h' (.sl (some ib) 0 n (some n)) (shL p w k++List.replicate (n-k) 0)) n
  ⟨by omega,hw',hl1,by first|rfl|trivial|assumption,by first|rfl|trivial|assumption,by first|rfl|trivial|assumption,by first|rfl|trivial|assumption,by rw[Nat.pow_zero,Nat.mod_eq_of_lt (by omega)];rfl,rfl,rfl,ga,gb⟩ (fun i ρ h hI=>hI.1) ?_
 rintro k ρ h' ⟨hkn,hw2,hl2,q0,q1,q8,q9,q10,q17,q18,ga,gb⟩
 rcases Nat.lt_or_ge k n with h1|h1
 ·simp only[go_sem,q0,q1,q8,q9,q10,q17,q18,ltT h1]
  rw[show n-k=n-(k+1)+1 by omega] at ga gb
  obtain⟨ja,ra,ea,ba,la,hra,oa,fa,pa⟩:=ga.step hw2
  injection ea with ea
  subst ea
  rw[pwL_len] at fa pa
  refine⟨by omega,by omega, ?_⟩
  simp only[go_sem,q0,q1,q8,q9,q10,q17,q18,hra,Int.toNat_natCast]
  refine⟨oa,by omega, ?_⟩
  have pa:=pa (w^k%p)
  have gb:=gb.other (r:={ra with cells:=putAt ra.cells k [AV.int .u64 ((w^k%p:Nat):Int)]}) (Ne.symm hab)
  have hw3:=H.wf_set hw2 la {ra with cells:=putAt ra.cells k [AV.int .u64 ((w^k%p:Nat):Int)]}
  have hl3:=H.le_set hw hl2 ba {ra with cells:=putAt ra.cells k [AV.int .u64 ((w^k%p:Nat):Int)]}
  generalize h'.set ia {ra with cells:=putAt ra.cells k [AV.int .u64 ((w^k%p:Nat):Int)]}=h3 at*
  refine Shoup_calls (hm.mono hl3) ?_
  obtain⟨jb,rb,eb,bb,lb,hrb,ob,fb,pb⟩:=gb.step hw3
  injection eb with eb
  subst eb
  rw[shL_len] at fb pb
  simp only[go_sem,q0,q1,q8,q9,q10,q17,q18]
  refine⟨by omega,by omega, ?_⟩
  simp only[go_sem,q0,q1,q8,q9,q10,q17,q18,hrb,Int.toNat_natCast]
  refine⟨ob,by omega, ?_⟩
  have pb:=pb (w^k%p%p*18446744073709551616/p)
  have pa:=pa.other (r:={rb with cells:=putAt rb.cells k [AV.int .u64 ((w^k%p%p*18446744073709551616/p:Nat):Int)]}) hab
  have hw4:=H.wf_set hw3 lb {rb with cells:=putAt rb.cells k [AV.int .u64 ((w^k%p%p*18446744073709551616/p:Nat):Int)]}
  have hl4:=H.le_set hw hl3 bb {rb with cells:=putAt rb.cells k [AV.int .u64 ((w^k%p%p*18446744073709551616/p:Nat):Int)]}
  generalize h3.set ib {rb with cells:=putAt rb.cells k [AV.int .u64 ((w^k%p%p*18446744073709551616/p:Nat):Int)]}=h4 at*
  refine mMul_calls (hm.mono hl4) ?_
  rw[Nat.mod_mul_mod,←Nat.pow_succ]
  rw[←pwL_succ] at pa
  rw[←shL_succ] at pb
  simp only[go_sem,q0,q1,q8,q9,q10,q17,q18,incI (i:=k) (by omega)]
  exact⟨by omega,hw4,hl4,by first|rfl|trivial|assumption,by first|rfl|trivial|assumption,by first|rfl|trivial|assumption,by first|rfl|trivial|assumption,by first|rfl|trivial|assumption,by first|rfl|trivial|assumption,by first|rfl|trivial|assumption,pa,pb⟩
 ·obtain rfl:k=n:=by omega
  rw[Nat.sub_self,List.replicate_zero,List.append_nil] at ga gb
  simp only[go_sem,q0,q1,q8,q9,q10,q17,q18,ltF h1]
  exact fun _=>hk _ _ _ hw2 hl2 ga gb
end
end
section
def PL (h:H) (T u p log w v:Nat):Prop:=∃m up dn ups dns part,h.rows T=some ⟨some 248,8,[.ptr (some (m,0)), .ptr (some (u,0)), .int .i64 (log:Int),up,dn,ups,dns, .int .u64 (part:Nat)]⟩∧MW h m p∧IsN h up (pwL p w (2^log/2))∧IsN h dn (pwL p v (2^log/2))∧IsN h ups (shL p w (2^log/2))∧IsN h dns (shL p v (2^log/2))∧
 part<p∧2^log*part%p=1∧w*v%p=1∧(0<log→w^(2^(log-1))%p=p-1)∧w<p∧v<p∧log≤20∧m≠u∧T≠u
theorem PL.monoE {h h':H} {T u m nw dp p log w v:Nat} {t:Tb} (ht:Tune h u m nw dp t) (hp:PL h T u p log w v) (hl:H.lee u h h'):PL h' T u p log w v:=by
 obtain⟨m,up,dn,ups,dns,part,h1,h2,h3,h4,h5,h6,h7,h8,h9,h10,h11,h12,h13,h14,h15⟩:=hp
 exact⟨m,up,dn,ups,dns,part,hl.2 _ _ h15 h1,h2.monoE h14 hl,h3.monoE ht hl,h4.monoE ht hl,h5.monoE ht hl,h6.monoE ht hl,h7,h8,h9,h10,h11,h12,h13,h14,h15⟩
theorem IsN.setP {h:H} {T:Nat} {v:AV} {xs:List Nat} {ru r:Row} (hu:h.rows T=some ru) (ho:ru.own≠none) (hz:ru.esz≠1) (hv:IsN h v xs):IsN (h.set T r) v xs:=IsW.monoE hu ho hz hv (H.lee_set r)
theorem gcd_two {p log:Nat} (ho:p%2=1):Nat.gcd p (2^log%p)=1:=by
 rw[Nat.gcd_comm,←Nat.gcd_rec]
 have:Nat.Coprime p 2:=by
  have h1:=Nat.gcd_dvd_right p 2
  have h2:=Nat.gcd_dvd_left p 2
  have h3:Nat.gcd p 2≤2:=Nat.le_of_dvd (by decide) h1
  have h4:0<Nat.gcd p 2:=Nat.gcd_pos_of_pos_right _ (by decide)
  unfold Nat.Coprime
  rcases Nat.lt_or_ge (Nat.gcd p 2) 2 with h|h
  ·omega
  ·rw[show Nat.gcd p 2=2 by omega] at h2
   omega
 exact Nat.Coprime.pow_right log this
theorem gcd_root {p w N:Nat} (hp:2≤p) (hN:0<N) (hw:w^N%p=p-1):Nat.gcd p (w%p)=1:=by
 have h1:=Nat.gcd_dvd_left p (w%p)
 have h2:=Nat.gcd_dvd_right p (w%p)
 generalize Nat.gcd p (w%p)=d at*
 have h3:d∣w:=(Nat.dvd_mod_iff h1).1 h2
 have h4:d∣w^N:=Nat.dvd_trans h3 (by
  obtain⟨k,rfl⟩:∃k,N=k+1:=⟨N-1,by omega⟩
  rw[Nat.pow_succ]
  exact Nat.dvd_mul_left _ _)
 have h5:d∣p-1:=by rw[←hw];exact(Nat.dvd_mod_iff h1).2 h4
 have h6:d∣p-(p-1):=Nat.dvd_sub h1 h5
 rw[show p-(p-1)=1 by omega] at h6
 exact Nat.dvd_one.1 h6
theorem bld8 {a b c:AV} {z:List AV} {z3 z4 z5 z6 z7:AV} (hz:z=[.ptr none, .ptr none, .int .i64 0,z3,z4,z5,z6,z7]) (ha:a.cells=[a]) (hb:b.cells=[b]) (hc:c.cells=[c]) (h1:a.held=true) (h2:b.held=true) (h3:c.held=true):abuild z [(0,1,a),(1,1,b),(2,1,c)]=some [a,b,c,z3,z4,z5,z6,z7]:=by
 subst hz;simp[abuild,putAt,ha,hb,hc,h1,h2,h3]
section
variable {p u log g:Nat} {h:H} {K:AV→H→Prop}
theorem nttNew_calls (hP:PrimeOK p g) (hl:log≤20) (hu:u<h.next) (hk:∀T w v h',h'.wf→h.le h'→h.next≤T→PL h' T u p log w v→K (.tup [.ptr (some (T,0)), .int .i64 0]) h'):ACalls Tryz.prog 156 [.ptr (some (u,0)), .int .u64 (p:Int), .int .i64 (log:Int)] h K:=by
 obtain⟨hp3,hpM,ho,hi,hd,hg2,hgB,hg⟩:=hP
 refine in_ntt_New (by simp) fun hw=> ?_
 unfold c_ntt_New
 simp only[go_sem]
 refine Root_calls ⟨hp3,hpM⟩ ho hi hl hd ⟨g,hg2,hgB,hg⟩ fun w h1 hw1 hl1 hr hr0=> ?_
 simp only[go_sem,show((0:Int) !=0)=false from rfl]
 refine mwNew_calls ⟨hp3,hpM⟩ ho fun m h2 hw2 hl2 hm2 hM=> ?_
 simp only[go_sem,show((0:Int) !=0)=false from rfl]
 rw[bld8 rfl rfl rfl rfl rfl rfl rfl]
 have hwp:w<p:=by
  rcases Nat.eq_zero_or_pos log with h0|h0
  ·rw[hr0 h0];omega
  ·exact(hr h0).1
 have hr:=fun h0=>(hr h0).2
 have hgw:Nat.gcd p (w%p)=1:=by
  rcases Nat.eq_zero_or_pos log with h0|h0
  ·rw[hr0 h0,Nat.mod_eq_of_lt (by omega),Nat.gcd_one_right]
  ·exact gcd_root (by omega) (Nat.pow_pos (by decide)) (hr h0)
 have hp2:=gcd_two (log:=log) ho
 have hpl:2^log≤2^20:=Nat.pow_le_pow_right (by decide) hl
 have hp0:0<2^log:=Nat.pow_pos (by decide)
 have e2:IntKind.u64.wrap (log:Int)=(log:Int):=wUn (by omega)
 have e3:bShl .u64 1 log=((2^log:Nat):Int):=by
  have:=shlU (x:=1) (n:=log) (by omega)
  rw[Nat.one_mul,Nat.mod_eq_of_lt (by omega)] at this
  exact this
 generalize hN:2^log=N at*
 simp only[go_sem,e2,e3]
 simp only[AV.held,AV.cells,List.all_cons,List.all_nil,AV.one,Bool.and_true,List.length_cons,List.length_nil,Nat.zero_add,Nat.reduceAdd,true_and]
 refine⟨by omega, ?_⟩
 have k3:=H.le_new hw2 (H.le_refl h2) ⟨some 248,8,[.ptr (some (m,0)), .ptr (some (u,0)), .int .i64 (log:Int), .sl none 0 0 none, .sl none 0 0 none, .sl none 0 0 none, .sl none 0 0 none, .int .u64 0]⟩
 have hw3:=H.wf_new hw2 ⟨some 248,8,[.ptr (some (m,0)), .ptr (some (u,0)), .int .i64 (log:Int), .sl none 0 0 none, .sl none 0 0 none, .sl none 0 0 none, .sl none 0 0 none, .int .u64 0]⟩
 have hr3:=H.rows_new h2 ⟨some 248,8,[.ptr (some (m,0)), .ptr (some (u,0)), .int .i64 (log:Int), .sl none 0 0 none, .sl none 0 0 none, .sl none 0 0 none, .sl none 0 0 none, .int .u64 0]⟩
 generalize h2.new ⟨some 248,8,[.ptr (some (m,0)), .ptr (some (u,0)), .int .i64 (log:Int), .sl none 0 0 none, .sl none 0 0 none, .sl none 0 0 none, .sl none 0 0 none, .int .u64 0]⟩=h3 at*
 refine mInv_calls (hM.mono k3) fun part hpart hpx=> ?_
 rw[if_pos hp2]
 have hpx:=hpx hp2
 have p7:∀a b c d e f g k x:AV,putAt [a,b,c,d,e,f,g,k] 7 [x]=[a,b,c,d,e,f,g,x]:=fun _ _ _ _ _ _ _ _ _=>rfl
 have p3:∀a b c d e f g k x:AV,putAt [a,b,c,d,e,f,g,k] 3 [x]=[a,b,c,x,e,f,g,k]:=fun _ _ _ _ _ _ _ _ _=>rfl
 have p4:∀a b c d e f g k x:AV,putAt [a,b,c,d,e,f,g,k] 4 [x]=[a,b,c,d,x,f,g,k]:=fun _ _ _ _ _ _ _ _ _=>rfl
 have p5:∀a b c d e f g k x:AV,putAt [a,b,c,d,e,f,g,k] 5 [x]=[a,b,c,d,e,x,g,k]:=fun _ _ _ _ _ _ _ _ _=>rfl
 have p6:∀a b c d e f g k x:AV,putAt [a,b,c,d,e,f,g,k] 6 [x]=[a,b,c,d,e,f,x,k]:=fun _ _ _ _ _ _ _ _ _=>rfl
 simp only[go_sem,hr3]
 refine⟨by simp,by simp, ?_⟩
 simp only[p7]
 have hw4:=H.wf_set hw3 (H.row_lt hw3 hr3) ⟨some 248,8,[.ptr (some (m,0)), .ptr (some (u,0)), .int .i64 (log:Int), .sl none 0 0 none, .sl none 0 0 none, .sl none 0 0 none, .sl none 0 0 none, .int .u64 (part:Int)]⟩
 have k4:=H.le_set hw2 k3 (Nat.le_refl _) ⟨some 248,8,[.ptr (some (m,0)), .ptr (some (u,0)), .int .i64 (log:Int), .sl none 0 0 none, .sl none 0 0 none, .sl none 0 0 none, .sl none 0 0 none, .int .u64 (part:Int)]⟩
 have hr4:=H.rows_set h3 h2.next ⟨some 248,8,[.ptr (some (m,0)), .ptr (some (u,0)), .int .i64 (log:Int), .sl none 0 0 none, .sl none 0 0 none, .sl none 0 0 none, .sl none 0 0 none, .int .u64 (part:Int)]⟩
 have n4:(h3.set h2.next ⟨some 248,8,[.ptr (some (m,0)), .ptr (some (u,0)), .int .i64 (log:Int), .sl none 0 0 none, .sl none 0 0 none, .sl none 0 0 none, .sl none 0 0 none, .int .u64 (part:Int)]⟩).next=h3.next:=rfl
 generalize h3.set h2.next ⟨some 248,8,[.ptr (some (m,0)), .ptr (some (u,0)), .int .i64 (log:Int), .sl none 0 0 none, .sl none 0 0 none, .sl none 0 0 none, .sl none 0 0 none, .int .u64 (part:Int)]⟩=h4 at*
 refine mInv_calls (hM.mono k4) fun v hv hvx=> ?_
 rw[if_pos hgw]
 have hvx:=hvx hgw
 have e5:IntKind.i64.wrap (IntKind.u64.wrap ((N:Int).tdiv 2))=((N/2:Nat):Int):=by
  have e:((N:Int)).tdiv 2=((N/2:Nat):Int):=tdivN (b:=2)
  rw[e,wU (by omega) (by omega),wI]<;>omega
 simp only[go_sem,e5]
 refine⟨by decide, ?_⟩
 refine powers_calls (hM.mono k4) (by omega) (by omega) fun a1 b1 h5 hw5 k45 ga1 gb1=> ?_
 have hr5:=k45.2 _ _ hr4
 have k5:=H.le_trans k4 k45
 obtain⟨ia1,ca1,ea1⟩:=ga1.form
 obtain⟨ib1,cb1,eb1⟩:=gb1.form
 have na1:=ga1.isN
 have nb1:=gb1.isN
 subst ea1
 subst eb1
 clear ga1 gb1
 simp only[go_sem,hr5]
 generalize AV.sl ia1 0 (pwL p w (N/2)).length ca1=a1 at*
 generalize AV.sl ib1 0 (shL p w (N/2)).length cb1=b1 at*
 refine⟨by simp,by simp, ?_⟩
 simp only[p3]
 have hw6:=H.wf_set hw5 (H.row_lt hw5 hr5) ⟨some 248,8,[.ptr (some (m,0)), .ptr (some (u,0)), .int .i64 (log:Int),a1, .sl none 0 0 none, .sl none 0 0 none, .sl none 0 0 none, .int .u64 (part:Int)]⟩
 have k6:=H.le_set hw2 k5 (Nat.le_refl _) ⟨some 248,8,[.ptr (some (m,0)), .ptr (some (u,0)), .int .i64 (log:Int),a1, .sl none 0 0 none, .sl none 0 0 none, .sl none 0 0 none, .int .u64 (part:Int)]⟩
 have hr6:=H.rows_set h5 h2.next ⟨some 248,8,[.ptr (some (m,0)), .ptr (some (u,0)), .int .i64 (log:Int),a1, .sl none 0 0 none, .sl none 0 0 none, .sl none 0 0 none, .int .u64 (part:Int)]⟩
 have na1:=na1.setP (r:=⟨some 248,8,[.ptr (some (m,0)), .ptr (some (u,0)), .int .i64 (log:Int),a1, .sl none 0 0 none, .sl none 0 0 none, .sl none 0 0 none, .int .u64 (part:Int)]⟩) hr5 (by simp) (by simp)
 have nb1:=nb1.setP (r:=⟨some 248,8,[.ptr (some (m,0)), .ptr (some (u,0)), .int .i64 (log:Int),a1, .sl none 0 0 none, .sl none 0 0 none, .sl none 0 0 none, .int .u64 (part:Int)]⟩) hr5 (by simp) (by simp)
 generalize h5.set h2.next ⟨some 248,8,[.ptr (some (m,0)), .ptr (some (u,0)), .int .i64 (log:Int),a1, .sl none 0 0 none, .sl none 0 0 none, .sl none 0 0 none, .int .u64 (part:Int)]⟩=h6 at*
 simp only[go_sem,hr6]
 refine⟨by simp,by simp, ?_⟩
 simp only[p5]
 have hw7:=H.wf_set hw6 (H.row_lt hw6 hr6) ⟨some 248,8,[.ptr (some (m,0)), .ptr (some (u,0)), .int .i64 (log:Int),a1, .sl none 0 0 none,b1, .sl none 0 0 none, .int .u64 (part:Int)]⟩
 have k7:=H.le_set hw2 k6 (Nat.le_refl _) ⟨some 248,8,[.ptr (some (m,0)), .ptr (some (u,0)), .int .i64 (log:Int),a1, .sl none 0 0 none,b1, .sl none 0 0 none, .int .u64 (part:Int)]⟩
 have hr7:=H.rows_set h6 h2.next ⟨some 248,8,[.ptr (some (m,0)), .ptr (some (u,0)), .int .i64 (log:Int),a1, .sl none 0 0 none,b1, .sl none 0 0 none, .int .u64 (part:Int)]⟩
 have na1:=na1.setP (r:=⟨some 248,8,[.ptr (some (m,0)), .ptr (some (u,0)), .int .i64 (log:Int),a1, .sl none 0 0 none,b1, .sl none 0 0 none, .int .u64 (part:Int)]⟩) hr6 (by simp) (by simp)
 have nb1:=nb1.setP (r:=⟨some 248,8,[.ptr (some (m,0)), .ptr (some (u,0)), .int .i64 (log:Int),a1, .sl none 0 0 none,b1, .sl none 0 0 none, .int .u64 (part:Int)]⟩) hr6 (by simp) (by simp)
 generalize h6.set h2.next ⟨some 248,8,[.ptr (some (m,0)), .ptr (some (u,0)), .int .i64 (log:Int),a1, .sl none 0 0 none,b1, .sl none 0 0 none, .int .u64 (part:Int)]⟩=h7 at*
 simp only[go_sem,e5]
 refine⟨by decide, ?_⟩
 refine powers_calls (hM.mono k7) (by omega) (by omega) fun a2 b2 h8 hw8 k78 ga2 gb2=> ?_
 have hr8:=k78.2 _ _ hr7
 have k8:=H.le_trans k7 k78
 have na1:=na1.mono k78
 have nb1:=nb1.mono k78
 obtain⟨ia2,ca2,ea2⟩:=ga2.form
 obtain⟨ib2,cb2,eb2⟩:=gb2.form
 have na2:=ga2.isN
 have nb2:=gb2.isN
 subst ea2
 subst eb2
 clear ga2 gb2
 simp only[go_sem,hr8]
 generalize AV.sl ia2 0 (pwL p v (N/2)).length ca2=a2 at*
 generalize AV.sl ib2 0 (shL p v (N/2)).length cb2=b2 at*
 refine⟨by simp,by simp, ?_⟩
 simp only[p4]
 have hw9:=H.wf_set hw8 (H.row_lt hw8 hr8) ⟨some 248,8,[.ptr (some (m,0)), .ptr (some (u,0)), .int .i64 (log:Int),a1,a2,b1, .sl none 0 0 none, .int .u64 (part:Int)]⟩
 have k9:=H.le_set hw2 k8 (Nat.le_refl _) ⟨some 248,8,[.ptr (some (m,0)), .ptr (some (u,0)), .int .i64 (log:Int),a1,a2,b1, .sl none 0 0 none, .int .u64 (part:Int)]⟩
 have hr9:=H.rows_set h8 h2.next ⟨some 248,8,[.ptr (some (m,0)), .ptr (some (u,0)), .int .i64 (log:Int),a1,a2,b1, .sl none 0 0 none, .int .u64 (part:Int)]⟩
 have na1:=na1.setP (r:=⟨some 248,8,[.ptr (some (m,0)), .ptr (some (u,0)), .int .i64 (log:Int),a1,a2,b1, .sl none 0 0 none, .int .u64 (part:Int)]⟩) hr8 (by simp) (by simp)
 have nb1:=nb1.setP (r:=⟨some 248,8,[.ptr (some (m,0)), .ptr (some (u,0)), .int .i64 (log:Int),a1,a2,b1, .sl none 0 0 none, .int .u64 (part:Int)]⟩) hr8 (by simp) (by simp)
 have na2:=na2.setP (r:=⟨some 248,8,[.ptr (some (m,0)), .ptr (some (u,0)), .int .i64 (log:Int),a1,a2,b1, .sl none 0 0 none, .int .u64 (part:Int)]⟩) hr8 (by simp) (by simp)
 have nb2:=nb2.setP (r:=⟨some 248,8,[.ptr (some (m,0)), .ptr (some (u,0)), .int .i64 (log:Int),a1,a2,b1, .sl none 0 0 none, .int .u64 (part:Int)]⟩) hr8 (by simp) (by simp)
 generalize h8.set h2.next ⟨some 248,8,[.ptr (some (m,0)), .ptr (some (u,0)), .int .i64 (log:Int),a1,a2,b1, .sl none 0 0 none, .int .u64 (part:Int)]⟩=h9 at*
 simp only[go_sem,hr9]
 refine⟨by simp,by simp, ?_⟩
 simp only[p6]
 have hw10:=H.wf_set hw9 (H.row_lt hw9 hr9) ⟨some 248,8,[.ptr (some (m,0)), .ptr (some (u,0)), .int .i64 (log:Int),a1,a2,b1,b2, .int .u64 (part:Int)]⟩
 have k10:=H.le_set hw2 k9 (Nat.le_refl _) ⟨some 248,8,[.ptr (some (m,0)), .ptr (some (u,0)), .int .i64 (log:Int),a1,a2,b1,b2, .int .u64 (part:Int)]⟩
 have hr10:=H.rows_set h9 h2.next ⟨some 248,8,[.ptr (some (m,0)), .ptr (some (u,0)), .int .i64 (log:Int),a1,a2,b1,b2, .int .u64 (part:Int)]⟩
 have na1:=na1.setP (r:=⟨some 248,8,[.ptr (some (m,0)), .ptr (some (u,0)), .int .i64 (log:Int),a1,a2,b1,b2, .int .u64 (part:Int)]⟩) hr9 (by simp) (by simp)
 have nb1:=nb1.setP (r:=⟨some 248,8,[.ptr (some (m,0)), .ptr (some (u,0)), .int .i64 (log:Int),a1,a2,b1,b2, .int .u64 (part:Int)]⟩) hr9 (by simp) (by simp)
 have na2:=na2.setP (r:=⟨some 248,8,[.ptr (some (m,0)), .ptr (some (u,0)), .int .i64 (log:Int),a1,a2,b1,b2, .int .u64 (part:Int)]⟩) hr9 (by simp) (by simp)
 have nb2:=nb2.setP (r:=⟨some 248,8,[.ptr (some (m,0)), .ptr (some (u,0)), .int .i64 (log:Int),a1,a2,b1,b2, .int .u64 (part:Int)]⟩) hr9 (by simp) (by simp)
 generalize h9.set h2.next ⟨some 248,8,[.ptr (some (m,0)), .ptr (some (u,0)), .int .i64 (log:Int),a1,a2,b1,b2, .int .u64 (part:Int)]⟩=h10 at*
 have hl2':=H.le_trans hl1 hl2
 subst hN
 have u1:=hl2'.1
 have u2:=hl1.1
 refine fun hw'=>hk h2.next w v h10 hw' (H.le_trans hl2' k10) u1 ⟨m,a1,a2,b1,b2,part,hr10,hM.mono k10,na1,na2,nb1,nb2,hpart,hpx,hvx,hr,hwp,hv,hl,by omega,by omega⟩
end
end
section
section
variable {p:Nat} [NeZero p]
def Bk (g:Nat→_root_.Fin p) (L:Nat) (ω:_root_.Fin p) (s i:Nat):_root_.Fin p:=blk g s (i/2^s) ((ω^(2^(L-s)))^(i%2^s))
theorem place1 {q hf j:Nat} (hj:j<hf):(q*(2*hf)+j)/(2*hf)=q∧(q*(2*hf)+j)%(2*hf)=j∧(q*(2*hf)+j)/hf=2*q∧(q*(2*hf)+j)%hf=j:=by
 have e:q*(2*hf)+j=hf*(2*q)+j:=by rw[show q*(2*hf)=hf*(2*q) by ac_rfl]
 refine⟨?_, ?_, ?_, ?_⟩
 ·rw[Nat.mul_comm,Nat.mul_add_div (by omega),Nat.div_eq_of_lt (by omega),Nat.add_zero]
 ·rw[Nat.mul_comm,Nat.mul_add_mod,Nat.mod_eq_of_lt (by omega)]
 ·rw[e,Nat.mul_add_div (by omega),Nat.div_eq_of_lt hj,Nat.add_zero]
 ·rw[e,Nat.mul_add_mod,Nat.mod_eq_of_lt hj]
theorem place2 {q hf j:Nat} (hj:j<hf):(q*(2*hf)+hf+j)/(2*hf)=q∧(q*(2*hf)+hf+j)%(2*hf)=hf+j∧(q*(2*hf)+hf+j)/hf=2*q+1∧(q*(2*hf)+hf+j)%hf=j:=by
 have e:q*(2*hf)+hf+j=hf*(2*q+1)+j:=by rw[Nat.mul_add,show q*(2*hf)=hf*(2*q) by ac_rfl,Nat.mul_one]
 refine⟨?_, ?_, ?_, ?_⟩
 ·rw[Nat.add_assoc,Nat.mul_comm,Nat.mul_add_div (by omega),Nat.div_eq_of_lt (by omega),Nat.add_zero]
 ·rw[Nat.add_assoc,Nat.mul_comm,Nat.mul_add_mod,Nat.mod_eq_of_lt (by omega)]
 ·rw[e,Nat.mul_add_div (by omega),Nat.div_eq_of_lt hj,Nat.add_zero]
 ·rw[e,Nat.mul_add_mod,Nat.mod_eq_of_lt hj]
variable {g:Nat→_root_.Fin p} {L s q j:Nat} {ω:_root_.Fin p}
theorem root_sq (hs:s<L):(ω^(2^(L-(s+1))))^j*(ω^(2^(L-(s+1))))^j=(ω^(2^(L-s)))^j:=by
 rw[←fmul_pow,show L-s=(L-(s+1))+1 by omega,Nat.pow_succ,fpow_mul]
 generalize ω^2^(L-(s+1))=z
 rw[show z^2=z*z by grind]
theorem root_half (hs:s<L) (hω:ω^(2^(L-1))= -1):(ω^(2^(L-(s+1))))^(2^s)= -1:=by
 rw[←fpow_mul,←Nat.pow_add,show L-(s+1)+s=L-1 by omega,hω]
theorem stage_lo (hs:s<L) (hj:j<2^s):Bk g L ω (s+1) (q*(2*2^s)+j)=Bk g L ω s (q*(2*2^s)+j)+(ω^(2^(L-(s+1))))^j*Bk g L ω s (q*(2*2^s)+2^s+j):=by
 obtain⟨a1,a2,a3,a4⟩:=place1 (q:=q) hj
 obtain⟨b1,b2,b3,b4⟩:=place2 (q:=q) hj
 unfold Bk
 rw[Nat.pow_succ,Nat.mul_comm (2^s) 2,a1,a2,a3,a4,b3,b4,blk,root_sq hs]
theorem stage_hi (hs:s<L) (hω:ω^(2^(L-1))= -1) (hj:j<2^s):Bk g L ω (s+1) (q*(2*2^s)+2^s+j)=Bk g L ω s (q*(2*2^s)+j)-(ω^(2^(L-(s+1))))^j*Bk g L ω s (q*(2*2^s)+2^s+j):=by
 obtain⟨a1,a2,a3,a4⟩:=place1 (q:=q) hj
 obtain⟨b1,b2,b3,b4⟩:=place2 (q:=q) hj
 unfold Bk
 rw[Nat.pow_succ,Nat.mul_comm (2^s) 2,b1,b2,a3,a4,b3,b4,blk,fpow_add,root_half hs hω]
 have e:(-1*(ω^(2^(L-(s+1))))^j)*(-1*(ω^(2^(L-(s+1))))^j)=(ω^(2^(L-s)))^j:=by rw[←root_sq hs];grind
 rw[e]
 grind
theorem not_yet {a b:Nat}:¬(a<0∨a=0∧b<0):=by omega
def Stg (g:Nat→_root_.Fin p) (L:Nat) (ω:_root_.Fin p) (s q j:Nat) (ys:List Nat):Prop:=
 ys.length=2^L∧∀i,i<2^L→∃y,ys[i]? =some y∧y<p∧zp p y=if i/(2*2^s)<q∨i/(2*2^s)=q∧i%2^s<j then Bk g L ω (s+1) i else Bk g L ω s i
theorem pw_split (hs:s<L):2^L=2^(L-(s+1))*(2*2^s):=by
 rw[←Nat.pow_succ',←Nat.pow_add];congr 1;omega
theorem place_lt (hs:s<L) (hq:q<2^(L-(s+1))) (hj:j<2^s):q*(2*2^s)+2^s+j<2^L:=by
 rw[pw_split hs]
 have:=Nat.mul_le_mul_right (2*2^s) (show q+1≤2^(L-(s+1)) from hq)
 rw[Nat.add_mul,Nat.one_mul] at this
 omega
theorem Stg.step {ys:List Nat} (hs:s<L) (hω:ω^(2^(L-1))= -1) (h:Stg g L ω s q j ys) (hq:q<2^(L-(s+1))) (hj:j<2^s):
  ∃x y,ys[q*(2*2^s)+j]? =some x∧ys[q*(2*2^s)+2^s+j]? =some y∧x<p∧y<p∧∀a b,a<p→b<p→zp p a=zp p x+zp p y*(ω^(2^(L-(s+1))))^j→zp p b=zp p x-zp p y*(ω^(2^(L-(s+1))))^j→
   Stg g L ω s q (j+1) ((ys.set (q*(2*2^s)+j) a).set (q*(2*2^s)+2^s+j) b):=by
 obtain⟨a1,a2,a3,a4⟩:=place1 (q:=q) hj
 obtain⟨b1,b2,b3,b4⟩:=place2 (q:=q) hj
 have hlt:=place_lt hs hq hj
 obtain⟨hl,h⟩:=h
 obtain⟨x,x1,x2,x3⟩:=h (q*(2*2^s)+j) (by omega)
 obtain⟨y,y1,y2,y3⟩:=h _ hlt
 rw[a1,a4,if_neg (by omega)] at x3
 rw[b1,b4,if_neg (by omega)] at y3
 refine⟨x,y,x1,y1,x2,y2,fun a b ha hb ea eb=>⟨by simp[hl],fun i hi=> ?_⟩⟩
 have s1:=stage_lo (g:=g) (ω:=ω) (q:=q) hs hj
 have s2:=stage_hi (g:=g) (ω:=ω) (q:=q) hs hω hj
 rw[←x3,←y3] at s1 s2
 have hne:q*(2*2^s)+j≠q*(2*2^s)+2^s+j:=by omega
 by_cases c1:i=q*(2*2^s)+j
 ·subst c1
  refine⟨a, ?_,ha, ?_⟩
  ·rw[List.getElem?_set_ne (Ne.symm hne),List.getElem?_set_self (by omega)]
  ·rw[a1,a4,if_pos (by omega),s1,ea];grind
 by_cases c2:i=q*(2*2^s)+2^s+j
 ·subst c2
  refine⟨b, ?_,hb, ?_⟩
  ·rw[List.getElem?_set_self (by simp;omega)]
  ·rw[b1,b4,if_pos (by omega),s2,eb];grind
 obtain⟨z,z1,z2,z3⟩:=h i hi
 refine⟨z, ?_,z2, ?_⟩
 ·rw[List.getElem?_set_ne (Ne.symm c2),List.getElem?_set_ne (Ne.symm c1),z1]
 ·rw[z3]
  have hh:0<2^s:=Nat.pow_pos (by decide)
  have hc:i/(2*2^s)=q→i%2^s≠j:=by
   intro e1 e2
   have d1:=Nat.div_add_mod i (2*2^s)
   have d2:=Nat.div_add_mod (i%(2*2^s)) (2^s)
   have d3:=Nat.mod_lt i (show 0<2*2^s by omega)
   have d4:i%(2*2^s)%2^s=i%2^s:=Nat.mod_mod_of_dvd i (Nat.dvd_mul_left _ _)
   have d5:i%(2*2^s)/2^s<2:=by rw[Nat.div_lt_iff_lt_mul hh];exact d3
   rw[e1] at d1
   rw[d4,e2] at d2
   have d6:2*2^s*q=q*(2*2^s):=Nat.mul_comm _ _
   generalize i%(2*2^s)/2^s=k at*
   have:k=0∨k=1:=by omega
   rcases this with rfl|rfl
   ·rw[Nat.mul_zero] at d2;omega
   ·rw[Nat.mul_one] at d2;omega
  have hcc:(i/(2*2^s)<q∨i/(2*2^s)=q∧i%2^s<j)↔(i/(2*2^s)<q∨i/(2*2^s)=q∧i%2^s<j+1):=by
   constructor
   ·rintro(h|⟨h,h'⟩)
    ·exact .inl h
    ·exact .inr ⟨h,by omega⟩
   ·rintro(h|⟨h,h'⟩)
    ·exact .inl h
    ·exact .inr ⟨h,by have:=hc h;omega⟩
  simp only[hcc]
theorem Stg.next {ys:List Nat} (h:Stg g L ω s q (2^s) ys):Stg g L ω s (q+1) 0 ys:=by
 refine⟨h.1,fun i hi=> ?_⟩
 obtain⟨y,h1,h2,h3⟩:=h.2 i hi
 refine⟨y,h1,h2, ?_⟩
 rw[h3]
 have:=Nat.mod_lt i (Nat.pow_pos (n:=s) (show 0<2 by decide))
 have hcc:(i/(2*2^s)<q∨i/(2*2^s)=q∧i%2^s<2^s)↔(i/(2*2^s)<q+1∨i/(2*2^s)=q+1∧i%2^s<0):=by omega
 simp only[hcc]
theorem Stg.round {ys:List Nat} (hs:s<L) (h:Stg g L ω s (2^(L-(s+1))) 0 ys):Stg g L ω (s+1) 0 0 ys:=by
 refine⟨h.1,fun i hi=> ?_⟩
 obtain⟨y,h1,h2,h3⟩:=h.2 i hi
 refine⟨y,h1,h2, ?_⟩
 have hlt:i/(2*2^s)<2^(L-(s+1)):=by
  rw[Nat.div_lt_iff_lt_mul (by have:=Nat.pow_pos (n:=s) (show 0<2 by decide);omega),←pw_split hs]
  exact hi
 rw[h3,if_pos (.inl hlt),if_neg not_yet]
theorem Stg.begun {ys:List Nat} (hl:ys.length=2^L) (hp:∀y∈ys,y<p):Stg (fun q=>zp p (ys.getD q 0)) L ω 0 0 0 ys:=by
 refine⟨hl,fun i hi=>⟨ys[i],by simp[hl,hi],hp _ (List.getElem_mem _), ?_⟩⟩
 rw[if_neg not_yet]
 unfold Bk
 simp[blk,Nat.div_one,List.getD_eq_getElem?_getD,hl,hi]
theorem Stg.done {ys:List Nat} (h:Stg g L ω L 0 0 ys):ys.length=2^L∧∀i,i<2^L→∃y,ys[i]? =some y∧y<p∧zp p y=blk g L 0 (ω^i):=by
 refine⟨h.1,fun i hi=> ?_⟩
 obtain⟨y,h1,h2,h3⟩:=h.2 i hi
 refine⟨y,h1,h2, ?_⟩
 rw[h3,if_neg not_yet]
 unfold Bk
 rw[Nat.div_eq_of_lt hi,Nat.mod_eq_of_lt hi,Nat.sub_self,Nat.pow_zero]
 congr 2
 grind
theorem revb_inv {L q:Nat} (hq:q<2^L):revb L (revb L q)=q:=by
 apply Nat.eq_of_testBit_eq
 intro j
 rcases Nat.lt_or_ge j L with h|h
 ·rw[revb_bit L _ j h,revb_bit L _ _ (by omega)]
  congr 1
  omega
 ·rw[Nat.testBit_lt_two_pow (Nat.lt_of_lt_of_le (revb_lt L _) (Nat.pow_le_pow_right (by omega) h)),Nat.testBit_lt_two_pow (Nat.lt_of_lt_of_le hq (Nat.pow_le_pow_right (by omega) h))]
end
end
section
section
variable {p u log T w v:Nat} {h:H} {K:AV→H→Prop}
theorem plSize_calls (hg:h.get T 2=some (.int .i64 (log:Int))) (hl:log≤20) (hk:K (.int .i64 (2^log:Nat)) h):ACalls Tryz.prog 159 [.ptr (some (T,0))] h K:=by
 refine in_ntt_Plan_Size (by simp) fun hw=> ?_
 unfold c_ntt_Plan_Size
 have hpl:2^log≤2^20:=Nat.pow_le_pow_right (by decide) hl
 have e2:IntKind.u64.wrap (log:Int)=(log:Int):=wUn (by omega)
 have e3:bShl .i64 1 log=((2^log:Nat):Int):=by
  unfold bShl
  rw[show IntKind.i64.bits=64 from rfl,Nat.min_eq_left (by omega),Int.one_mul]
  have:((2:Int)^log)=((2^log:Nat):Int):=by simp
  rw[this]
  clear this
  generalize 2^log=N at*
  rw[wI]<;>omega
 simp only[go_sem,hg,e2,e3,Int.toNat_natCast]
 exact⟨by omega,fun _=>hk⟩
theorem turned_calls {a:AV} {xs:List Nat} (hm:MW h v p) (hg0:h.get T 0=some (.ptr (some (v,0)))) (hg:h.get T 2=some (.int .i64 (log:Int))) (hl:log≤20) (ha:IsN h a xs) (hx:xs.length≤2^log)
  (hk:∀r ys h',h'.wf→h.le h'→IsG h.next h' r ys→ys.length=2^log→(∀q,q<2^log→ys[q]? =some (xs.getD (revb log q) 0%p))→K r h'):ACalls Tryz.prog 178 [.ptr (some (T,0)),a] h K:=by
 obtain⟨id,off,c,rfl⟩:=ha.form
 refine in_ntt_Plan_turned (by simp) fun hw=> ?_
 unfold c_ntt_Plan_turned
 have hpl:2^log≤2^20:=Nat.pow_le_pow_right (by decide) hl
 have hp0:0<2^log:=Nat.pow_pos (by decide)
 simp only[go_sem]
 refine plSize_calls hg hl ?_
 simp only[go_sem]
 refine⟨by omega,by omega,by omega, ?_⟩
 have hs1:=IsG.made (b:=h.next) (h:=h) (Nat.le_refl _) (2^log)
 refine for_rule (fun k ρ h'=>k≤xs.length∧h'.wf∧h.le h'∧ρ 0= .ptr (some (T,0))∧ρ 5= .sl (some h.next) 0 (2^log) (some (2^log))∧ρ 11= .sl id off xs.length c∧ρ 12= .int .i64 (xs.length:Int)∧ρ 13= .int .i64 (k:Int)∧
  ∃ys,IsG h.next h' (.sl (some h.next) 0 (2^log) (some (2^log))) ys∧ys.length=2^log∧∀q,q<2^log→ys[q]? =some (if revb log q<k then xs.getD (revb log q) 0%p else 0)) xs.length
  ⟨by omega,H.wf_new hw _,H.le_new hw (H.le_refl h) _,by first|rfl|trivial|assumption,by first|rfl|trivial|assumption,rfl,rfl,rfl,_,hs1,by simp,fun q hq=>by rw[if_neg (by omega),List.getElem?_replicate,if_pos hq]⟩ (fun i ρ h hI=>hI.1) ?_
 rintro k ρ h' ⟨hkx,hw',hle,q0,q5,q11,q12,q13,ys,hs,hyl,hys⟩
 have hm':=hm.mono hle
 have g0':=H.get_le hle hg0
 have g2':=H.get_le hle hg
 rcases Nat.lt_or_ge k xs.length with h1|h1
 ·obtain⟨j,rfl,_,hgx⟩:=(ha.mono hle).at h1
  have hgd:xs.getD k 0=xs[k]:=by simp[List.getD_eq_getElem?_getD,h1]
  generalize xs[k]=x at*
  have a1:IntKind.u64.wrap (k:Int)=(k:Int):=wUn (by omega)
  have a2:IntKind.i64.wrap (64-(log:Int))=((64-log:Nat):Int):=by rw[wI]<;>omega
  have a3:IntKind.u64.wrap ((64-log:Nat):Int)=((64-log:Nat):Int):=wUn (by omega)
  have hrl:rev64 k<2^64:=rev64_lt
  have a4:=shrU (x:=rev64 k) (n:=64-log) (by omega)
  have hrv:rev64 k/2^(64-log)=revb log k:=by
   rcases Nat.eq_zero_or_pos log with h0|h0
   ·subst h0
    rw[Nat.sub_zero,Nat.div_eq_of_lt hrl]
    rfl
   ·rw[←rev64_revb h0 (by omega),Nat.shiftRight_eq_div_pow]
  rw[hrv] at a4
  have hbl:=revb_lt log k
  simp only[go_sem,q0,q5,q11,q12,q13,ltT h1]
  refine⟨by omega,by omega, ?_⟩
  simp only[go_sem,q0,q5,q11,q12,q13,hgx,g0',g2',a1,a2,a3,Int.toNat_natCast]
  refine Reverse64_calls (x:=k) (by omega) ?_
  simp only[go_sem,g0',g2',a4,Int.toNat_natCast]
  refine⟨⟨trivial,trivial,trivial⟩,by omega, ?_⟩
  refine mRed_calls hm' ?_
  obtain⟨j2,r,ej,bj,lj,hr,oj,fj,pj⟩:=hs.put hw' (j:=revb log k) (by omega)
  injection ej with ej
  subst ej
  simp only[go_sem,g0',g2',a4,Int.toNat_natCast]
  refine⟨⟨trivial,trivial⟩,by omega,by omega, ?_⟩
  simp only[go_sem,hr,q0,q5,q11,q12,q13]
  refine⟨oj,by omega, ?_⟩
  have pj:=pj (x%p)
  have hw3:=H.wf_set hw' lj {r with cells:=putAt r.cells (revb log k) [AV.int .u64 ((x%p:Nat):Int)]}
  have hl3:=H.le_set hw hle bj {r with cells:=putAt r.cells (revb log k) [AV.int .u64 ((x%p:Nat):Int)]}
  generalize h'.set h.next {r with cells:=putAt r.cells (revb log k) [AV.int .u64 ((x%p:Nat):Int)]}=h3 at*
  simp only[go_sem,q0,q5,q11,q12,q13,incI (i:=k) (by omega)]
  refine⟨by omega,hw3,hl3,by first|rfl|trivial|assumption,by first|rfl|trivial|assumption,by first|rfl|trivial|assumption,by first|rfl|trivial|assumption,by first|rfl|trivial|assumption,_,pj,by simp[hyl],fun q hq=> ?_⟩
  by_cases c1:q=revb log k
  ·subst c1
   rw[List.getElem?_set_self (by omega),revb_inv (by omega),if_pos (by omega),hgd]
  ·rw[List.getElem?_set_ne (Ne.symm c1),hys q hq]
   have hne:revb log q≠k:=by
    rintro rfl
    exact c1 (revb_inv hq).symm
   by_cases c2:revb log q<k
   ·rw[if_pos c2,if_pos (by omega)]
   ·rw[if_neg c2,if_neg (by omega)]
 ·obtain rfl:k=xs.length:=by omega
  simp only[go_sem,q0,q5,q11,q12,q13,ltF h1]
  refine fun _=>hk _ ys _ hw' hle hs hyl fun q hq=> ?_
  rw[hys q hq]
  by_cases c:revb log q<xs.length
  ·rw[if_pos c]
  ·rw[if_neg c,List.getD_eq_getElem?_getD,List.getElem?_eq_none (by omega)]
   simp
end
end
section
theorem zp_neg_one {p w n:Nat} [NeZero p] (hp:1≤p) (h:w^n%p=p-1):zp p w^n= -1:=by
 rw[←zp_pow,←zp_mod,h,zp_sub hp,zp_self,zp_one]
 grind
theorem bfly_lo {p x y:Nat} [NeZero p] (hx:x<p) (hy:y<p):∀a,a=(if p≤x+y then x+y-p else x+y)→a<p∧zp p a=zp p x+zp p y:=by
 rintro a rfl
 split
 ·refine⟨by omega, ?_⟩
  rw[zp_sub (by assumption),zp_self,zp_add]
  grind
 ·exact⟨by omega,zp_add _ _⟩
theorem bfly_hi {p x y:Nat} [NeZero p] (hx:x<p) (hy:y<p):∀a,a=(if x<y then x+p else x)→a-y<p∧y≤a∧zp p (a-y)=zp p x-zp p y:=by
 rintro a rfl
 split
 ·refine⟨by omega,by omega, ?_⟩
  rw[zp_sub (by omega),zp_add,zp_self]
  grind
 ·exact⟨by omega,by omega,zp_sub (by omega)⟩
section
variable {p u log T w v m nw dp:Nat} [NeZero p] {tb:Tb} {h0 h:H} {K:AV→H→Prop}
theorem transform_calls {a lv sv:AV} {ys:List Nat} (hw0:h0.wf) (hg0:h0.get T 0=some (.ptr (some (v,0)))) (hg1:h0.get T 1=some (.ptr (some (u,0)))) (hg2:h0.get T 2=some (.int .i64 (log:Int))) (hm:MW h0 v p) (ht:Tune h0 u m nw dp tb) (hl:log≤20)
  (hlv:IsN h0 lv (pwL p w (2^log/2))) (hsv:IsN h0 sv (shL p w (2^log/2))) (hwr:0<log→w^(2^(log-1))%p=p-1) (hle:h0.le h) (ha:IsG h0.next h a ys) (hyl:ys.length=2^log) (hyp:∀y∈ys,y<p)
  (hk:∀h' zs,h'.wf→H.lee u h0 h'→Tune h' u (m+2^log/2*log) nw dp tb→IsG h0.next h' a zs→zs.length=2^log→(∀i,i<2^log→∃z,zs[i]? =some z∧z<p∧zp p z=blk (fun q=>zp p (ys.getD q 0)) log 0 (zp p w^i))→K (.tup []) h'):
  ACalls Tryz.prog 179 [.ptr (some (T,0)),a,lv,sv] h K:=by
 obtain⟨id,c,rfl⟩:=ha.form
 obtain⟨lid,loff,lc,rfl⟩:=hlv.form
 obtain⟨sid,soff,sc,rfl⟩:=hsv.form
 refine in_ntt_Plan_transform (by simp) fun hw1=> ?_
 unfold c_ntt_Plan_transform
 have hpl:2^log≤2^20:=Nat.pow_le_pow_right (by decide) hl
 have hp0:0<2^log:=Nat.pow_pos (by decide)
 have hp:=hm.p0
 have hm1:=hm.mono hle
 have q0':=H.get_le hle hg0
 simp only[go_sem,q0']
 refine mP_calls hm1 ?_
 rw[pwL_len] at hlv⊢
 rw[shL_len] at hsv⊢
 rw[hyl] at hk ha⊢
 simp only[go_sem]
 refine loop_cut (fun ρ h'=>h'.wf∧h0.le h'∧ρ 0= .ptr (some (T,0))∧ρ 1= .sl id 0 (2^log) c∧∃zs,IsG h0.next h' (.sl id 0 (2^log) c) zs∧Stg (fun q=>zp p (ys.getD q 0)) log (zp p w) log 0 0 zs) ?_ ?_
 ·refine for_rule (fun s ρ h'=>s≤log∧h'.wf∧h0.le h'∧ρ 0= .ptr (some (T,0))∧ρ 1= .sl id 0 (2^log) c∧ρ 2= .sl lid loff (2^log/2) lc∧ρ 3= .sl sid soff (2^log/2) sc∧ρ 8= .int .u64 (p:Int)∧ρ 9= .int .i64 ((2^s:Nat):Int)∧∃zs,IsG h0.next h' (.sl id 0 (2^log) c) zs∧Stg (fun q=>zp p (ys.getD q 0)) log (zp p w) s 0 0 zs) log
   ⟨by omega,hw1,hle,by first|rfl|trivial|assumption,by first|rfl|trivial|assumption,by first|rfl|trivial|assumption,by first|rfl|trivial|assumption,by first|rfl|trivial|assumption,rfl,ys,ha,Stg.begun hyl hyp⟩ (fun i ρ h hI=>hI.1) ?_
  rintro s ρ h1 ⟨hs,hw1,hle1,q0,q1,q2,q3,q8,q9,zs1,ga1,st1⟩
  rcases Nat.lt_or_ge s log with hsl|hsl
  ·have hlt:2^s<2^log:=Nat.pow_lt_pow_right (by decide) hsl
   have hω:=zp_neg_one (p:=p) (by omega) (hwr (by omega))
   have hsp:=pw_split hsl
   have hhf:0<2^s:=Nat.pow_pos (by decide)
   have hst:0<2^(log-(s+1)):=Nat.pow_pos (by decide)
   have hstep:∀{q j zs},Stg (fun q=>zp p (ys.getD q 0)) log (zp p w) s q j zs→_:=fun{q j zs} h hq hj=>Stg.step hsl hω h hq hj
   have hpl2:∀{q j},q<2^(log-(s+1))→j<2^s→q*(2*2^s)+2^s+j<2^log:=fun hq hj=>place_lt hsl hq hj
   have hnx:∀{q zs},Stg (fun q=>zp p (ys.getD q 0)) log (zp p w) s q (2^s) zs→Stg (fun q=>zp p (ys.getD q 0)) log (zp p w) s (q+1) 0 zs:=fun h=>h.next
   have hrd:∀{zs},Stg (fun q=>zp p (ys.getD q 0)) log (zp p w) s (2^(log-(s+1))) 0 zs→Stg (fun q=>zp p (ys.getD q 0)) log (zp p w) (s+1) 0 0 zs:=fun h=>h.round hsl
   have hps:2^(s+1)=2*2^s:=by rw[Nat.pow_succ,Nat.mul_comm]
   generalize hN:2^log=N at*
   generalize 2^s=hf at*
   generalize 2^(log-(s+1))=st at*
   have e1:IntKind.i64.wrap (2*(hf:Int))=((2*hf:Nat):Int):=mulI (a:=2) (b:=hf) (by omega)
   have e2:((N:Int)).tdiv ((2*hf:Nat):Int)=((st:Nat):Int):=by
    rw[tdivN,hsp,Nat.mul_div_cancel _ (by omega)]
   have e3:IntKind.i64.wrap (st:Int)=(st:Int):=by
    have:st≤N:=by rw[hsp];exact Nat.le_mul_of_pos_right _ (by omega)
    rw[wI]<;>omega
   simp only[go_sem,q0,q1,q2,q3,q8,q9,ltT hlt,e1,e2,e3]
   refine⟨by omega, ?_⟩
   refine for_rule (fun q ρ h'=>q≤st∧h'.wf∧h0.le h'∧ρ 0= .ptr (some (T,0))∧ρ 1= .sl id 0 N c∧ρ 2= .sl lid loff (N/2) lc∧ρ 3= .sl sid soff (N/2) sc∧ρ 8= .int .u64 (p:Int)∧ρ 9= .int .i64 (hf:Int)∧ρ 10= .int .i64 (st:Int)∧ρ 11= .int .i64 ((q*(2*hf):Nat):Int)∧∃zs,IsG h0.next h' (.sl id 0 N c) zs∧Stg (fun q=>zp p (ys.getD q 0)) log (zp p w) s q 0 zs) st
    ⟨by omega,hw1,hle1,by first|rfl|trivial|assumption,by first|rfl|trivial|assumption,by first|rfl|trivial|assumption,by first|rfl|trivial|assumption,by first|rfl|trivial|assumption,by first|rfl|trivial|assumption,rfl,by rw[Nat.zero_mul];rfl,zs1,ga1,st1⟩ (fun i ρ h hI=>hI.1) ?_
   rintro q ρ h2 ⟨hq,hw2,hle2,q0,q1,q2,q3,q8,q9,q10,q11,zs2,ga2,st2⟩
   rcases Nat.lt_or_ge q st with hqs|hqs
   ·have hF:q*(2*hf)+2*hf≤N:=by
     rw[hsp,←Nat.succ_mul]
     exact Nat.mul_le_mul_right _ hqs
    have e4:IntKind.i64.wrap (((q*(2*hf):Nat):Int)+((2*hf:Nat):Int))=(((q+1)*(2*hf):Nat):Int):=by
     rw[addI (by omega),Nat.add_mul q 1,Nat.one_mul]
    generalize hFe:q*(2*hf)=F at*
    simp only[go_sem,q0,q1,q2,q3,q8,q9,q10,q11,ltT (show F<N by omega)]
    refine for_rule (fun j ρ h'=>j≤hf∧h'.wf∧h0.le h'∧ρ 0= .ptr (some (T,0))∧ρ 1= .sl id 0 N c∧ρ 2= .sl lid loff (N/2) lc∧ρ 3= .sl sid soff (N/2) sc∧ρ 8= .int .u64 (p:Int)∧ρ 9= .int .i64 (hf:Int)∧ρ 10= .int .i64 (st:Int)∧ρ 11= .int .i64 (F:Int)∧ρ 12= .int .i64 (j:Int)∧∃zs,IsG h0.next h' (.sl id 0 N c) zs∧Stg (fun q=>zp p (ys.getD q 0)) log (zp p w) s q j zs) hf
     ⟨by omega,hw2,hle2,by first|rfl|trivial|assumption,by first|rfl|trivial|assumption,by first|rfl|trivial|assumption,by first|rfl|trivial|assumption,by first|rfl|trivial|assumption,by first|rfl|trivial|assumption,by first|rfl|trivial|assumption,by first|rfl|trivial|assumption,rfl,zs2,ga2,st2⟩ (fun i ρ h hI=>hI.1) ?_
    rintro j ρ h3 ⟨hj,hw3,hle3,q0,q1,q2,q3,q8,q9,q10,q11,q12,zs3,ga3,st3⟩
    rcases Nat.lt_or_ge j hf with hjh|hjh
    ·have hzl:=st3.1
     have hst3:=hstep st3 hqs hjh
     rw[hFe] at hst3
     obtain⟨x,y0,x1,y1,hxp,hyp0,hfin⟩:=hst3
     have i1:F+j<zs3.length:=by omega
     have i2:F+hf+j<zs3.length:=by omega
     obtain⟨k1,rfl,_,gx⟩:=ga3.isN.at i1
     obtain⟨k2,ek,_,gy⟩:=ga3.isN.at i2
     injection ek with ek
     subst ek
     rw[List.getElem?_eq_getElem i1] at x1
     rw[List.getElem?_eq_getElem i2] at y1
     injection x1 with x1
     injection y1 with y1
     rw[x1,Nat.zero_add] at gx
     rw[y1,Nat.zero_add] at gy
     have hjs:j*st<N/2:=by
      have h5:N/2=hf*st:=by
       rw[hsp,show st*(2*hf)=hf*st*2 by ac_rfl,Nat.mul_div_cancel _ (by decide)]
      rw[h5]
      exact Nat.mul_lt_mul_of_pos_right hjh hst
     obtain⟨kl,rfl,_,gl⟩:=(hlv.mono hle3).at (j:=j*st) (by rw[pwL_len];exact hjs)
     obtain⟨ks,rfl,_,gs⟩:=(hsv.mono hle3).at (j:=j*st) (by rw[shL_len];exact hjs)
     rw[pwL_get] at gl
     rw[shL_get] at gs
     have gv:=H.get_le hle3 hg0
     have hm3:=hm.mono hle3
     have a1:=addI (a:=F) (b:=j) (by omega)
     have a2:=addI (a:=F) (b:=hf) (by omega)
     have a3:=addI (a:=F+hf) (b:=j) (by omega)
     have a4:=mulI (a:=j) (b:=st) (by omega)
     simp only[go_sem,q0,q1,q2,q3,q8,q9,q10,q11,q12,ltT hjh,a1]
     refine⟨by omega,by omega, ?_⟩
     simp only[go_sem,q0,q1,q2,q3,q8,q9,q10,q11,q12,a1,a2,a3,a4,gx,gv,Int.toNat_natCast]
     refine⟨by omega,by omega, ?_⟩
     simp only[go_sem,q0,q1,q2,q3,q8,q9,q10,q11,q12,gy,a4,Int.toNat_natCast]
     refine⟨by omega,by omega, ?_⟩
     simp only[go_sem,q0,q1,q2,q3,q8,q9,q10,q11,q12,gl,a4,Int.toNat_natCast]
     refine⟨by omega,by omega, ?_⟩
     simp only[go_sem,q0,q1,q2,q3,q8,q9,q10,q11,q12,gs,Int.toNat_natCast]
     have hwp:w^(j*st)%p<p:=Nat.mod_lt _ (by omega)
     refine ShoupMul_calls hm3 (by omega) (by omega) rfl ?_
     have hyz:zp p (y0*(w^(j*st)%p)%p)=zp p y0*(zp p w^st)^j:=by
      rw[zp_mod,zp_mul,zp_mod,zp_pow,Nat.mul_comm j st,fpow_mul]
     have hylt:y0*(w^(j*st)%p)%p<p:=Nat.mod_lt _ (by omega)
     generalize y0*(w^(j*st)%p)%p=y at*
     rw[←hyz] at hfin
     have a5:=addU (a:=x) (b:=y) (by omega)
     simp only[go_sem,q0,q1,q2,q3,q8,q9,q10,q11,q12,a5]
     obtain⟨lo1,lo2⟩:=bfly_lo hxp hylt _ rfl
     obtain⟨hi1,hi2,hi3⟩:=bfly_hi hxp hylt _ rfl
     refine cond_cut (fun ρ h'=>h'=h3∧ρ 0= .ptr (some (T,0))∧ρ 1= .sl (some k1) 0 N c∧ρ 2= .sl (some kl) loff (N/2) lc∧ρ 3= .sl (some ks) soff (N/2) sc∧ρ 8= .int .u64 (p:Int)∧ρ 9= .int .i64 (hf:Int)∧ρ 10= .int .i64 (st:Int)∧ρ 11= .int .i64 (F:Int)∧ρ 12= .int .i64 (j:Int)∧ρ 13= .int .u64 (x:Int)∧ρ 14= .int .u64 (y:Int)∧ρ 15= .int .u64 ((if p≤x+y then x+y-p else x+y:Nat):Int)) ?_ ?_
     ·rcases Nat.lt_or_ge (x+y) p with c1|c1
      ·simp only[go_sem,q0,q1,q2,q3,q8,q9,q10,q11,q12,leF c1]
       rw[if_neg (by omega)]
       exact⟨trivial,trivial,trivial,trivial,trivial,trivial,trivial,trivial,trivial,trivial,trivial,trivial,rfl⟩
      ·simp only[go_sem,q0,q1,q2,q3,q8,q9,q10,q11,q12,leT c1,subN c1 (by omega)]
       rw[if_pos c1]
       exact⟨trivial,trivial,trivial,trivial,trivial,trivial,trivial,trivial,trivial,trivial,trivial,trivial,rfl⟩
     generalize hae:(if p≤x+y then x+y-p else x+y)=a at*
     clear q0 q1 q2 q3 q8 q9 q10 q11 q12
     rintro ρ h4 ⟨rfl,q0,q1,q2,q3,q8,q9,q10,q11,q12,q13,q14,q15⟩
     obtain⟨j1,r1,ej,bj1,lj1,hr1,oj1,fj1,pj1⟩:=ga3.put hw3 (j:=F+j) (by omega)
     injection ej with ej
     subst ej
     simp only[go_sem,q0,q1,q2,q3,q8,q9,q10,q11,q12,q13,q14,q15,a1,Int.toNat_natCast]
     refine⟨by omega,by omega, ?_⟩
     simp only[go_sem,hr1,q0,q1,q2,q3,q8,q9,q10,q11,q12,q13,q14,q15]
     refine⟨oj1,by omega, ?_⟩
     have pj1:=pj1 a
     have hw4:=H.wf_set hw3 lj1 {r1 with cells:=putAt r1.cells (F+j) [AV.int .u64 ((a:Nat):Int)]}
     have hle4:=H.le_set hw0 hle3 bj1 {r1 with cells:=putAt r1.cells (F+j) [AV.int .u64 ((a:Nat):Int)]}
     generalize h4.set k1 {r1 with cells:=putAt r1.cells (F+j) [AV.int .u64 ((a:Nat):Int)]}=h5 at*
     refine cond_cut (fun ρ h'=>h'=h5∧ρ 0= .ptr (some (T,0))∧ρ 1= .sl (some k1) 0 N c∧ρ 2= .sl (some kl) loff (N/2) lc∧ρ 3= .sl (some ks) soff (N/2) sc∧ρ 8= .int .u64 (p:Int)∧ρ 9= .int .i64 (hf:Int)∧ρ 10= .int .i64 (st:Int)∧ρ 11= .int .i64 (F:Int)∧ρ 12= .int .i64 (j:Int)∧ρ 13= .int .u64 ((if x<y then x+p else x:Nat):Int)∧ρ 14= .int .u64 (y:Int)) ?_ ?_
     ·rcases Nat.lt_or_ge x y with c1|c1
      ·simp only[go_sem,q0,q1,q2,q3,q8,q9,q10,q11,q12,q13,q14,q15,ltT c1,addU (a:=x) (b:=p) (by omega)]
       rw[if_pos c1]
       exact⟨trivial,trivial,trivial,trivial,trivial,trivial,trivial,trivial,trivial,trivial,rfl,trivial⟩
      ·simp only[go_sem,q0,q1,q2,q3,q8,q9,q10,q11,q12,q13,q14,q15,ltF c1]
       rw[if_neg (by omega)]
       exact⟨trivial,trivial,trivial,trivial,trivial,trivial,trivial,trivial,trivial,trivial,rfl,trivial⟩
     generalize hbe:(if x<y then x+p else x)=b at*
     have hbb:b<18446744073709551616:=by omega
     clear q0 q1 q2 q3 q8 q9 q10 q11 q12 q13 q14 q15
     rintro ρ h6 ⟨rfl,q0,q1,q2,q3,q8,q9,q10,q11,q12,q13,q14⟩
     obtain⟨j2,r2,ej,bj2,lj2,hr2,oj2,fj2,pj2⟩:=pj1.put hw4 (j:=F+hf+j) (by simp;omega)
     injection ej with ej
     subst ej
     simp only[go_sem,q0,q1,q2,q3,q8,q9,q10,q11,q12,q13,q14,a2,a3,subN hi2 hbb,Int.toNat_natCast]
     refine⟨by omega,by omega, ?_⟩
     simp only[go_sem,hr2,q0,q1,q2,q3,q8,q9,q10,q11,q12,q13,q14]
     refine⟨oj2,by omega, ?_⟩
     have pj2:=pj2 (b-y)
     have hw5:=H.wf_set hw4 lj2 {r2 with cells:=putAt r2.cells (F+hf+j) [AV.int .u64 ((b-y:Nat):Int)]}
     have hle5:=H.le_set hw0 hle4 bj2 {r2 with cells:=putAt r2.cells (F+hf+j) [AV.int .u64 ((b-y:Nat):Int)]}
     generalize h6.set k1 {r2 with cells:=putAt r2.cells (F+hf+j) [AV.int .u64 ((b-y:Nat):Int)]}=h7 at*
     simp only[go_sem,q0,q1,q2,q3,q8,q9,q10,q11,q12,incI (i:=j) (by omega)]
     exact⟨by omega,hw5,hle5,by first|rfl|trivial|assumption,by first|rfl|trivial|assumption,by first|rfl|trivial|assumption,by first|rfl|trivial|assumption,by first|rfl|trivial|assumption,by first|rfl|trivial|assumption,by first|rfl|trivial|assumption,by first|rfl|trivial|assumption,by first|rfl|trivial|assumption,_,pj2,hfin _ _ lo1 hi1 lo2 hi3⟩
    ·obtain rfl:j=hf:=by omega
     simp only[go_sem,q0,q1,q2,q3,q8,q9,q10,q11,q12,ltF hjh,e1,e4]
     exact⟨by omega,hw3,hle3,by first|rfl|trivial|assumption,by first|rfl|trivial|assumption,by first|rfl|trivial|assumption,by first|rfl|trivial|assumption,by first|rfl|trivial|assumption,by first|rfl|trivial|assumption,by first|rfl|trivial|assumption,by first|rfl|trivial|assumption,zs3,ga3,hnx st3⟩
   ·obtain rfl:q=st:=by omega
    rw[←hsp] at q11
    simp only[go_sem,q0,q1,q2,q3,q8,q9,q10,q11,ltF (show N≤N from Nat.le_refl _),e1]
    exact⟨by omega,hw2,hle2,by first|rfl|trivial|assumption,by first|rfl|trivial|assumption,by first|rfl|trivial|assumption,by first|rfl|trivial|assumption,by first|rfl|trivial|assumption,by rw[hps],zs2,ga2,hrd st2⟩
  ·obtain rfl:s=log:=by omega
   simp only[go_sem,q0,q1,q2,q3,q8,q9,ltF (show 2^s≤2^s from Nat.le_refl _)]
   exact⟨hw1,hle1,by first|rfl|trivial|assumption,by first|rfl|trivial|assumption,zs1,ga1,st1⟩
 ·rintro ρ h1 ⟨hw1,hle1,q0,q1,zs,ga,sg⟩
  obtain⟨z1,z2⟩:=sg.done
  have g1:=H.get_le hle1 hg1
  have g2:=H.get_le hle1 hg2
  have hdv:2^log/2*log≤2^20*20:=Nat.mul_le_mul (by omega) hl
  generalize hN:2^log=N at*
  have e1:IntKind.i64.wrap ((N:Int).tdiv 2)=((N/2:Nat):Int):=by
   have e:((N:Int)).tdiv 2=((N/2:Nat):Int):=tdivN (b:=2)
   rw[e,wI]<;>omega
  have e2:=mulI (a:=N/2) (b:=log) (by omega)
  simp only[go_sem,q0,q1,g1,g2,e1,e2]
  refine⟨by decide, ?_⟩
  refine Spend_calls (ht.mono hle1) fun h2 hw2 hl2 hn2 ht2=> ?_
  simp only[go_sem]
  have hub:=H.row_lt hw0 ht
  exact fun hw'=>hk _ zs hw' (H.lee.trans hle1.lee hl2) ht2 (ga.monoE hub hl2) z1 z2
end
end
section
section
variable {p u log T w v m nw dp:Nat} [NeZero p] {tb:Tb} {h:H} {K:AV→H→Prop}
theorem dft {xs ys:List Nat} {z:_root_.Fin p} (hyl:ys.length=2^log) (hys:∀q,q<2^log→ys[q]? =some (xs.getD (revb log q) 0%p)):
  blk (fun q=>zp p (ys.getD q 0)) log 0 z=fsum (2^log) (fun k=>zp p (xs.getD k 0)*z^k):=by
 rw[blk_sum (fun k=>zp p (xs.getD k 0)) _ log (fun q hq=>by
  rw[List.getD_eq_getElem?_getD,hys q hq,Option.getD_some,zp_mod]) log 0 0 z (by omega) (by simp)]
 refine fsum_congr fun k _=> ?_
 rw[show revb 0 0+k*2^0=k by simp[revb]]
omit [NeZero p] in
theorem mod_list {xs ys:List Nat} (hp:0<p) (hyl:ys.length=2^log) (hys:∀q,q<2^log→ys[q]? =some (xs.getD (revb log q) 0%p)):∀y∈ys,y<p:=by
 intro y hy
 obtain⟨i,hi,rfl⟩:=List.getElem_of_mem hy
 have:=hys i (by omega)
 rw[List.getElem?_eq_getElem hi] at this
 injection this with this
 rw[this]
 exact Nat.mod_lt _ hp
theorem fwd_calls {a:AV} {xs:List Nat} (hP:PL h T u p log w v) (ht:Tune h u m nw dp tb) (ha:IsN h a xs) (hx:xs.length≤2^log)
  (hk:∀r zs h',h'.wf→H.lee u h h'→Tune h' u (m+2^log/2*log) nw dp tb→IsG h.next h' r zs→zs.length=2^log→(∀i,i<2^log→∃z,zs[i]? =some z∧z<p∧zp p z=fsum (2^log) (fun k=>zp p (xs.getD k 0)*(zp p w^i)^k))→K r h'):
  ACalls Tryz.prog 170 [.ptr (some (T,0)),a] h K:=by
 obtain⟨mm,up,dn,ups,dns,part,hr,hM,hup,hdn,hups,hdns,h7,h8,h9,hwr,hwp,hvp,hl,h14,h15⟩:=hP
 refine in_ntt_Plan_forward (by simp) fun hw=> ?_
 unfold c_ntt_Plan_forward
 have g0:h.get T 0=some (.ptr (some (mm,0))):=by rw[H.get_of hr];rfl
 have g1:h.get T 1=some (.ptr (some (u,0))):=by rw[H.get_of hr];rfl
 have g2:h.get T 2=some (.int .i64 (log:Int)):=by rw[H.get_of hr];rfl
 have g3:h.get T 3=some up:=by rw[H.get_of hr];rfl
 have g5:h.get T 5=some ups:=by rw[H.get_of hr];rfl
 simp only[go_sem]
 refine turned_calls hM g0 g2 hl ha hx fun r ys h1 hw1 hl1 hG hyl hys=> ?_
 simp only[go_sem,H.get_le hl1 g3,H.get_le hl1 g5]
 refine transform_calls hw g0 g1 g2 hM ht hl hup hups hwr hl1 hG hyl (mod_list hM.pos hyl hys) fun h2 zs hw2 hl2 ht2 hG2 hzl hz=> ?_
 simp only[go_sem]
 refine fun hw'=>hk _ zs _ hw' hl2 ht2 hG2 hzl fun i hi=> ?_
 obtain⟨z,z1,z2,z3⟩:=hz i hi
 exact⟨z,z1,z2,by rw[z3,dft hyl hys]⟩
theorem inv_root {n:Nat} (hp:2≤p) (hwv:w*v%p=1) (hwr:w^n%p=p-1):v^n%p=p-1:=by
 have h1:=zp_neg_one (p:=p) (by omega) hwr
 have h2:zp p v*zp p w=1:=by
  rw[←zp_mul,Nat.mul_comm,←zp_mod,hwv,zp_one]
 have h3:=inv_half h1 h2
 have h4:zp p (v^n)=zp p (p-1):=by
  rw[zp_pow,h3,zp_sub (by omega),zp_self,zp_one]
  grind
 have h5:=zp_iff.1 h4
 rw[h5,Nat.mod_eq_of_lt (by omega)]
theorem inv_calls {a:AV} {xs:List Nat} (hP:PL h T u p log w v) (ht:Tune h u m nw dp tb) (ha:IsN h a xs) (hx:xs.length≤2^log)
  (hk:∀r zs h' part,h'.wf→H.lee u h h'→Tune h' u (m+2^log/2*log+2^log) nw dp tb→IsG h.next h' r zs→zs.length=2^log→2^log*part%p=1→(∀i,i<2^log→∃z,zs[i]? =some z∧z<p∧zp p z=fsum (2^log) (fun k=>zp p (xs.getD k 0)*(zp p v^i)^k)*zp p part)→K r h'):
  ACalls Tryz.prog 171 [.ptr (some (T,0)),a] h K:=by
 obtain⟨mm,up,dn,ups,dns,part,hr,hM,hup,hdn,hups,hdns,h7,h8,h9,hwr,hwp,hvp,hl,h14,h15⟩:=hP
 refine in_ntt_Plan_inverse (by simp) fun hw=> ?_
 unfold c_ntt_Plan_inverse
 have hpl:2^log≤2^20:=Nat.pow_le_pow_right (by decide) hl
 have g0:h.get T 0=some (.ptr (some (mm,0))):=by rw[H.get_of hr];rfl
 have g1:h.get T 1=some (.ptr (some (u,0))):=by rw[H.get_of hr];rfl
 have g2:h.get T 2=some (.int .i64 (log:Int)):=by rw[H.get_of hr];rfl
 have g4:h.get T 4=some dn:=by rw[H.get_of hr];rfl
 have g6:h.get T 6=some dns:=by rw[H.get_of hr];rfl
 have hp:=hM.p0
 simp only[go_sem]
 refine turned_calls hM g0 g2 hl ha hx fun r ys h1 hw1 hl1 hG hyl hys=> ?_
 simp only[go_sem,H.get_le hl1 g4,H.get_le hl1 g6]
 refine transform_calls hw g0 g1 g2 hM ht hl hdn hdns (fun h0=>inv_root (by omega) h9 (hwr h0)) hl1 hG hyl (mod_list hM.pos hyl hys) fun h2 zs hw2 hl2 ht2 hG2 hzl hz=> ?_
 obtain⟨id,c,rfl⟩:=hG2.form
 have hub:=H.row_lt hw ht
 rw[hzl] at hG2⊢
 simp only[go_sem]
 refine loop_cut (fun ρ h'=>h'.wf∧H.lee u h h'∧Tune h' u (m+2^log/2*log) nw dp tb∧ρ 0= .ptr (some (T,0))∧ρ 5= .sl id 0 (2^log) c∧
  ∃ts,IsG h.next h' (.sl id 0 (2^log) c) ts∧ts.length=2^log∧∀i,i<2^log→ts[i]? =some (zs.getD i 0*part%p)) ?_ ?_
 ·refine for_rule (fun k ρ h'=>k≤2^log∧h'.wf∧H.lee u h h'∧Tune h' u (m+2^log/2*log) nw dp tb∧ρ 0= .ptr (some (T,0))∧ρ 5= .sl id 0 (2^log) c∧ρ 22= .sl id 0 (2^log) c∧ρ 23= .int .i64 ((2^log:Nat):Int)∧ρ 24= .int .i64 (k:Int)∧
   ∃ts,IsG h.next h' (.sl id 0 (2^log) c) ts∧ts.length=2^log∧∀i,i<2^log→ts[i]? =some (if i<k then zs.getD i 0*part%p else zs.getD i 0)) (2^log)
   ⟨by omega,hw2,hl2,ht2,by first|rfl|trivial|assumption,by first|rfl|trivial|assumption,rfl,rfl,rfl,zs,hG2,hzl,fun i hi=>by rw[if_neg (by omega),List.getD_eq_getElem?_getD,List.getElem?_eq_getElem (by omega)];rfl⟩ (fun i ρ h hI=>hI.1) ?_
  rintro k ρ h3 ⟨hkn,hw3,hl3,ht3,q0,q5,q22,q23,q24,ts,hts,htl,htv⟩
  have g0':h3.get T 0=some (.ptr (some (mm,0))):=by rw[H.get_of (hl3.2 _ _ h15 hr)];rfl
  have g7':h3.get T 7=some (.int .u64 (part:Nat)):=by rw[H.get_of (hl3.2 _ _ h15 hr)];rfl
  have hM3:=hM.monoE h14 hl3
  generalize 2^log=N at*
  rcases Nat.lt_or_ge k N with h1|h1
  ·obtain⟨j,rfl,_,hg⟩:=hts.isN.at (j:=k) (by omega)
   have hv:=htv k h1
   rw[if_neg (by omega),List.getElem?_eq_getElem (by omega)] at hv
   injection hv with hv
   rw[hv,Nat.zero_add] at hg
   obtain⟨j2,r2,ej,bj,lj,hrj,oj,fj,pj⟩:=hts.put hw3 (j:=k) (by omega)
   injection ej with ej
   subst ej
   simp only[go_sem,q0,q5,q22,q23,q24,ltT h1]
   refine⟨by omega,by omega, ?_⟩
   simp only[go_sem,q0,q5,q22,q23,q24,hg,g0',g7',Int.toNat_natCast]
   refine mMul_calls hM3 ?_
   simp only[go_sem,q0,q5,q22,q23,q24,Int.toNat_natCast]
   refine⟨by omega,by omega, ?_⟩
   simp only[go_sem,hrj,q0,q5,q22,q23,q24]
   refine⟨oj,by omega, ?_⟩
   have pj:=pj (zs.getD k 0*part%p)
   have hw4:=H.wf_set hw3 lj {r2 with cells:=putAt r2.cells k [AV.int .u64 ((zs.getD k 0*part%p:Nat):Int)]}
   have hl4:H.lee u h (h3.set j {r2 with cells:=putAt r2.cells k [AV.int .u64 ((zs.getD k 0*part%p:Nat):Int)]}):=⟨hl3.1,fun i q hi hq=>by
    rw[H.rows_set_ne (by have:=H.row_lt hw hq;omega)]
    exact hl3.2 i q hi hq⟩
   have ht4:Tune (h3.set j {r2 with cells:=putAt r2.cells k [AV.int .u64 ((zs.getD k 0*part%p:Nat):Int)]}) u (m+N/2*log) nw dp tb:=by
    unfold Tune
    rw[H.rows_set_ne (by omega)]
    exact ht3
   generalize h3.set j {r2 with cells:=putAt r2.cells k [AV.int .u64 ((zs.getD k 0*part%p:Nat):Int)]}=h4 at*
   simp only[go_sem,q0,q5,q22,q23,q24,incI (i:=k) (by omega)]
   refine⟨by omega,hw4,hl4,ht4,by first|rfl|trivial|assumption,by first|rfl|trivial|assumption,by first|rfl|trivial|assumption,by first|rfl|trivial|assumption,by first|rfl|trivial|assumption,_,pj,by simp[htl],fun i hi=> ?_⟩
   by_cases c1:i=k
   ·subst c1
    rw[List.getElem?_set_self (by omega),if_pos (by omega)]
   ·rw[List.getElem?_set_ne (Ne.symm c1),htv i hi]
    by_cases c2:i<k
    ·rw[if_pos c2,if_pos (by omega)]
    ·rw[if_neg c2,if_neg (by omega)]
  ·obtain rfl:k=N:=by omega
   simp only[go_sem,q0,q5,q22,q23,q24,ltF h1]
   exact⟨hw3,hl3,ht3,by first|rfl|trivial|assumption,by first|rfl|trivial|assumption,ts,hts,htl,fun i hi=>by rw[htv i hi,if_pos hi]⟩
 ·rintro ρ h3 ⟨hw3,hl3,ht3,q0,q5,ts,hts,htl,htv⟩
  have g1':h3.get T 1=some (.ptr (some (u,0))):=by rw[H.get_of (hl3.2 _ _ h15 hr)];rfl
  simp only[go_sem,q0,q5,g1']
  refine Spend_calls ht3 fun h4 hw4 hl4 hn4 ht4=> ?_
  simp only[go_sem,q0,q5]
  refine fun hw'=>hk _ ts _ part hw' (H.lee.trans hl3 hl4) ht4 (hts.monoE hub hl4) htl h8 fun i hi=> ?_
  obtain⟨z,z1,z2,z3⟩:=hz i hi
  refine⟨_,htv i hi,Nat.mod_lt _ (by omega), ?_⟩
  rw[zp_mod,zp_mul,List.getD_eq_getElem?_getD,z1,Option.getD_some,z3,dft hyl hys]
end
end
section
section
variable {p u log T w v m nw dp:Nat} [NeZero p] {tb:Tb} {h:H} {K:AV→H→Prop}
theorem there_back0 {z v:_root_.Fin p} {part:Nat} (hz:0<log→z^(2^(log-1))= -1) (hv:v*z=1) (hpart:zp p (2^log)*zp p part=1) (c:Nat→_root_.Fin p) {k:Nat} (hk:k<2^log):
  fsum (2^log) (fun j=>fsum (2^log) (fun m=>c m*(z^j)^m)*(v^k)^j)*zp p part=c k:=by
 cases log with
 |zero=>
  have:k=0:=by simp at hk;exact hk
  subst this
  rw[Nat.pow_zero] at hpart⊢
  simp only[fsum]
  rw[zp_one] at hpart
  grind
 |succ L=>
  rw[there_back (L:=L) (show z^(2^L)= -1 from hz (by omega)) hv c hk]
  grind
theorem conv_math {xs ys:List Nat} {part:Nat} (hwv:w*v%p=1) (hwr:0<log→w^(2^(log-1))%p=p-1) (hp:1≤p) (hpart:2^log*part%p=1) (hx:0<xs.length) (hy:0<ys.length) (hl:xs.length+ys.length-1≤2^log) {zs:List Nat}
  (hzs:∀i,i<2^log→zp p (zs.getD i 0)=fsum (2^log) (fun k=>zp p (xs.getD k 0)*(zp p w^i)^k)*fsum (2^log) (fun k=>zp p (ys.getD k 0)*(zp p w^i)^k)) {k:Nat} (hk:k<2^log):
  fsum (2^log) (fun j=>zp p (zs.getD j 0)*(zp p v^k)^j)*zp p part=zp p ((cvL xs ys).getD k 0):=by
 have hcl:=cvL_len (xs:=xs) hy hx
 have e:∀i,i<2^log→zp p (zs.getD i 0)=fsum (2^log) (fun m=>zp p ((cvL xs ys).getD m 0)*(zp p w^i)^m):=by
  intro i hi
  rw[hzs i hi,←zp_pow,fsum_val _ _ _ (by omega),fsum_val _ _ _ (by omega),fsum_val _ _ _ (by omega),cvL_val,zp_mul]
 rw[fsum_congr (g:=fun j=>fsum (2^log) (fun m=>zp p ((cvL xs ys).getD m 0)*(zp p w^j)^m)*(zp p v^k)^j) (fun i hi=>by rw[e i hi])]
 refine there_back0 (fun h0=>zp_neg_one hp (hwr h0)) ?_ ?_ (fun m=>zp p ((cvL xs ys).getD m 0)) hk
 ·rw[←zp_mul,Nat.mul_comm,←zp_mod,hwv,zp_one]
 ·rw[←zp_mul,←zp_mod,hpart,zp_one]
def convCost (log:Nat):Nat:=3*(2^log/2*log)+2*2^log
theorem cyclic_calls {a b:AV} {xs ys:List Nat} (hP:PL h T u p log w v) (ht:Tune h u m nw dp tb) (ha:IsN h a xs) (hb:IsN h b ys) (hx:0<xs.length) (hy:0<ys.length) (hxy:xs.length+ys.length-1≤2^log)
  (hk:∀r zs h',h'.wf→H.lee u h h'→Tune h' u (m+convCost log) nw dp tb→IsG h.next h' r zs→zs.length=2^log→(∀i,i<2^log→zs[i]? =some ((cvL xs ys).getD i 0%p))→K r h'):
  ACalls Tryz.prog 160 [.ptr (some (T,0)),a,b] h K:=by
 have hP0:=hP
 obtain⟨mm,up,dn,ups,dns,part0,hr,hM,hup,hdn,hups,hdns,h7,h8,h9,hwr,hwp,hvp,hl,h14,h15⟩:=hP
 refine in_ntt_Plan_cyclic (by simp) fun hw=> ?_
 unfold c_ntt_Plan_cyclic
 have hpl:2^log≤2^20:=Nat.pow_le_pow_right (by decide) hl
 have hp:=hM.p0
 have hub:=H.row_lt hw ht
 simp only[go_sem]
 refine fwd_calls hP0 ht ha (by omega) fun x X h1 hw1 hl1 ht1 hX hXl hXv=> ?_
 simp only[go_sem]
 refine fwd_calls (hP0.monoE ht hl1) ht1 (hb.monoE ht hl1) (by omega) fun y Y h2 hw2 hl2 ht2 hY hYl hYv=> ?_
 have hu1:=H.row_lt hw1 ht1
 have hX2:=hX.monoE hub hl2
 obtain⟨ix,cx,rfl⟩:=hX.form
 obtain⟨iy,cy,rfl⟩:=hY.form
 rw[hXl] at hX hX2⊢
 rw[hYl] at hY⊢
 have hpos:0<2^log:=Nat.pow_pos (by decide)
 obtain⟨ix,rfl,-⟩:=hX.isN.at (j:=0) (by omega)
 obtain⟨iy,rfl,-⟩:=hY.isN.at (j:=0) (by omega)
 have hix:=hX.id hw1 (by omega)
 have hiy:=hY.id hw2 (by omega)
 simp only[go_sem]
 refine loop_cut (fun ρ h'=>h'.wf∧H.lee u h h'∧Tune h' u (m+2^log/2*log+2^log/2*log) nw dp tb∧ρ 0= .ptr (some (T,0))∧ρ 7= .sl (some ix) 0 (2^log) cx∧
  ∃Z,IsG h.next h' (.sl (some ix) 0 (2^log) cx) Z∧Z.length=2^log∧∀i,i<2^log→Z[i]? =some (X.getD i 0*Y.getD i 0%p)) ?_ ?_
 ·refine for_rule (fun k ρ h'=>k≤2^log∧h'.wf∧H.lee u h h'∧Tune h' u (m+2^log/2*log+2^log/2*log) nw dp tb∧ρ 0= .ptr (some (T,0))∧ρ 7= .sl (some ix) 0 (2^log) cx∧ρ 8= .sl (some iy) 0 (2^log) cy∧ρ 17= .int .i64 ((2^log:Nat):Int)∧ρ 18= .int .i64 (k:Int)∧IsG h1.next h' (.sl (some iy) 0 (2^log) cy) Y∧
   ∃Z,IsG h.next h' (.sl (some ix) 0 (2^log) cx) Z∧Z.length=2^log∧∀i,i<2^log→Z[i]? =some (if i<k then X.getD i 0*Y.getD i 0%p else X.getD i 0)) (2^log)
   ⟨by omega,hw2,H.lee.trans hl1 hl2,ht2,by first|rfl|trivial|assumption,by first|rfl|trivial|assumption,by first|rfl|trivial|assumption,rfl,rfl,hY,X,hX2,hXl,fun i hi=>by rw[if_neg (by omega),List.getD_eq_getElem?_getD,List.getElem?_eq_getElem (by omega)];rfl⟩ (fun i ρ h hI=>hI.1) ?_
  rintro k ρ h3 ⟨hkn,hw3,hl3,ht3,q0,q7,q8,q17,q18,hY3,Z,hZ,hZl,hZv⟩
  have g0':h3.get T 0=some (.ptr (some (mm,0))):=by rw[H.get_of (hl3.2 _ _ h15 hr)];rfl
  have hM3:=hM.monoE h14 hl3
  generalize 2^log=N at*
  rcases Nat.lt_or_ge k N with h1'|h1'
  ·obtain⟨j,ej,_,hg⟩:=hZ.isN.at (j:=k) (by omega)
   injection ej with ej
   subst ej
   have hv:=hZv k h1'
   rw[if_neg (by omega),List.getElem?_eq_getElem (by omega)] at hv
   injection hv with hv
   rw[hv,Nat.zero_add] at hg
   obtain⟨j,ej,_,hgy⟩:=hY3.isN.at (j:=k) (by omega)
   injection ej with ej
   subst ej
   have hvy:Y[k]'(by omega)=Y.getD k 0:=by rw[List.getD_eq_getElem?_getD,List.getElem?_eq_getElem (by omega)];rfl
   rw[hvy,Nat.zero_add] at hgy
   obtain⟨j2,r2,ej,bj,lj,hrj,oj,fj,pj⟩:=hZ.put hw3 (j:=k) (by omega)
   injection ej with ej
   subst ej
   simp only[go_sem,q0,q7,q8,q17,q18,ltT h1']
   simp only[go_sem,q0,q7,q8,q17,q18,g0',Int.toNat_natCast]
   refine⟨by omega,by omega, ?_⟩
   simp only[go_sem,q0,q7,q8,q17,q18,hg,Int.toNat_natCast]
   refine⟨by omega,by omega, ?_⟩
   simp only[go_sem,q0,q7,q8,q17,q18,hgy,Int.toNat_natCast]
   refine mMul_calls hM3 ?_
   simp only[go_sem,q0,q7,q8,q17,q18,Int.toNat_natCast]
   refine⟨by omega,by omega, ?_⟩
   simp only[go_sem,hrj,q0,q7,q8,q17,q18]
   refine⟨oj,by omega, ?_⟩
   have pj:=pj (X.getD k 0*Y.getD k 0%p)
   have hY4:=hY3.other (r:={r2 with cells:=putAt r2.cells k [AV.int .u64 ((X.getD k 0*Y.getD k 0%p:Nat):Int)]}) (show iy≠ix by omega)
   have hw4:=H.wf_set hw3 lj {r2 with cells:=putAt r2.cells k [AV.int .u64 ((X.getD k 0*Y.getD k 0%p:Nat):Int)]}
   have hl4:H.lee u h (h3.set ix {r2 with cells:=putAt r2.cells k [AV.int .u64 ((X.getD k 0*Y.getD k 0%p:Nat):Int)]}):=⟨hl3.1,fun i q hi hq=>by
    rw[H.rows_set_ne (by have:=H.row_lt hw hq;omega)]
    exact hl3.2 i q hi hq⟩
   have ht4:Tune (h3.set ix {r2 with cells:=putAt r2.cells k [AV.int .u64 ((X.getD k 0*Y.getD k 0%p:Nat):Int)]}) u (m+N/2*log+N/2*log) nw dp tb:=by
    unfold Tune
    rw[H.rows_set_ne (by omega)]
    exact ht3
   generalize h3.set ix {r2 with cells:=putAt r2.cells k [AV.int .u64 ((X.getD k 0*Y.getD k 0%p:Nat):Int)]}=h4 at*
   simp only[go_sem,q0,q7,q8,q17,q18,incI (i:=k) (by omega)]
   refine⟨by omega,hw4,hl4,ht4,by first|rfl|trivial|assumption,by first|rfl|trivial|assumption,by first|rfl|trivial|assumption,by first|rfl|trivial|assumption,by first|rfl|trivial|assumption,hY4,_,pj,by simp[hZl],fun i hi=> ?_⟩
   by_cases c1:i=k
   ·subst c1
    rw[List.getElem?_set_self (by omega),if_pos (by omega)]
   ·rw[List.getElem?_set_ne (Ne.symm c1),hZv i hi]
    by_cases c2:i<k
    ·rw[if_pos c2,if_pos (by omega)]
    ·rw[if_neg c2,if_neg (by omega)]
  ·obtain rfl:k=N:=by omega
   simp only[go_sem,q0,q7,q8,q17,q18,ltF h1']
   exact⟨hw3,hl3,ht3,by first|rfl|trivial|assumption,by first|rfl|trivial|assumption,Z,hZ,hZl,fun i hi=>by rw[hZv i hi,if_pos hi]⟩
 ·rintro ρ h3 ⟨hw3,hl3,ht3,q0,q7,Z,hZ,hZl,hZv⟩
  have g1':h3.get T 1=some (.ptr (some (u,0))):=by rw[H.get_of (hl3.2 _ _ h15 hr)];rfl
  simp only[go_sem,q0,q7,g1']
  refine Spend_calls ht3 fun h4 hw4 hl4 hn4 ht4=> ?_
  have hl04:=H.lee.trans hl3 hl4
  simp only[go_sem,q0,q7]
  refine inv_calls (hP0.monoE ht hl04) ht4 (hZ.isN.monoE ht3 hl4) (by omega) fun r zs h5 part hw5 hl5 ht5 hG5 hzl hpart hzv=> ?_
  simp only[go_sem]
  have hN:=hl04.1
  refine fun hw'=>hk r zs h5 hw' (H.lee.trans hl04 hl5) ?_ (IsF.base hG5 hN) hzl fun i hi=> ?_
  ·have:m+2^log/2*log+2^log/2*log+2^log+2^log/2*log+2^log=m+convCost log:=by unfold convCost;omega
   rw[this] at ht5
   exact ht5
  ·obtain⟨z,z1,z2,z3⟩:=hzv i hi
   rw[conv_math (xs:=xs) (ys:=ys) h9 hwr (by omega) hpart hx hy hxy (fun j hj=>by
    obtain⟨a,a1,a2,a3⟩:=hXv j hj
    obtain⟨b,b1,b2,b3⟩:=hYv j hj
    rw[List.getD_eq_getElem?_getD,hZv j hj,Option.getD_some,zp_mod,zp_mul,List.getD_eq_getElem?_getD,a1,Option.getD_some,List.getD_eq_getElem?_getD,b1,Option.getD_some,a3,b3]) hi] at z3
   have z4:=zp_iff.1 z3
   rw[Nat.mod_eq_of_lt z2] at z4
   rw[z1,z4]
end
end
section
section
variable {p u log T w v m nw dp:Nat} [NeZero p] {tb:Tb} {h:H} {K:AV→H→Prop}
theorem plConv_calls {a b:AV} {xs ys:List Nat} (hP:PL h T u p log w v) (ht:Tune h u m nw dp tb) (ha:IsN h a xs) (hb:IsN h b ys) (hx:0<xs.length) (hy:0<ys.length) (hxy:xs.length+ys.length-1≤2^log)
  (hk:∀r zs h',h'.wf→H.lee u h h'→Tune h' u (m+convCost log) nw dp tb→IsG h.next h' r zs→zs.length=xs.length+ys.length-1→(∀i,i<xs.length+ys.length-1→zs[i]? =some ((cvL xs ys).getD i 0%p))→K (.tup [r, .bool true]) h'):
  ACalls Tryz.prog 152 [.ptr (some (T,0)),a,b] h K:=by
 have hP0:=hP
 obtain⟨mm,up,dn,ups,dns,part0,hr,hM,hup,hdn,hups,hdns,h7,h8,h9,hwr,hwp,hvp,hl,h14,h15⟩:=hP
 obtain⟨ia,oa,ca,rfl⟩:=ha.form
 obtain⟨ib,ob,cb,rfl⟩:=hb.form
 refine in_ntt_Plan_Conv (by simp) fun hw=> ?_
 unfold c_ntt_Plan_Conv
 have hpl:2^log≤2^20:=Nat.pow_le_pow_right (by decide) hl
 have g2:h.get T 2=some (.int .i64 (log:Int)):=by rw[H.get_of hr];rfl
 simp only[go_sem,eqF (show(xs.length:Int)≠0 by omega),eqF (show(ys.length:Int)≠0 by omega)]
 refine plSize_calls g2 hl ?_
 have e1:=incI (i:=2^log) (by omega)
 have e2:=subI (a:=2^log+1) (b:=xs.length) (by omega) (by omega)
 simp only[go_sem,ltF (show xs.length≤2^log by omega)]
 refine plSize_calls g2 hl ?_
 have e3:=addI (a:=xs.length) (b:=ys.length) (by omega)
 have e4:IntKind.i64.wrap (((xs.length+ys.length:Nat):Int)-1)=((xs.length+ys.length-1:Nat):Int):=by rw[wI]<;>omega
 simp only[go_sem,e1,e2,ltF (show ys.length≤2^log+1-xs.length by omega)]
 refine cyclic_calls hP0 ht ha hb hx hy hxy fun r zs h1 hw1 hl1 ht1 hG hzl hzv=> ?_
 obtain⟨ir,cr,rfl⟩:=hG.form
 simp only[go_sem,e3,e4]
 refine⟨by omega, .inl (by omega),hG.isN.row, ?_⟩
 exact fun hw'=>hk _ _ _ hw' hl1 ht1 (hG.cut (m:=xs.length+ys.length-1) (by omega)) (by simp;omega) fun i hi=>by rw[List.getElem?_take,if_pos hi];exact hzv i (by omega)
end
end
section
def CR (h:H) (c p0 p1 p2:Nat):Prop:=∃m0 m1 m2 i01 i2 hi lo:Nat,h.rows c=some ⟨some 234,10,[.int .u64 (p0:Int), .int .u64 (p1:Int), .int .u64 (p2:Int), .ptr (some (m0,0)), .ptr (some (m1,0)), .ptr (some (m2,0)), .int .u64 (i01:Int), .int .u64 (i2:Int), .int .u64 (hi:Int), .int .u64 (lo:Int)]⟩∧
 MW h m0 p0∧MW h m1 p1∧MW h m2 p2∧(p0*i01)%p1=1∧(p0*p1*i2)%p2=1∧18446744073709551616*hi+lo=p0*p1∧lo<18446744073709551616
theorem CR.mono {h h':H} {c p0 p1 p2:Nat} (hc:CR h c p0 p1 p2) (hl:h.le h'):CR h' c p0 p1 p2:=by
 obtain⟨m0,m1,m2,i01,i2,hi,lo,h1,h2,h3,h4,h5⟩:=hc
 exact⟨m0,m1,m2,i01,i2,hi,lo,hl.2 _ _ h1,h2.mono hl,h3.mono hl,h4.mono hl,h5⟩
theorem CR.monoU {h h':H} {u c p0 p1 p2:Nat} (hc:CR h c p0 p1 p2) (hw:h.wf) (hl:H.lee u h h') {m nw dp:Nat} {t:Tb} (ht:Tune h u m nw dp t):CR h' c p0 p1 p2:=by
 obtain⟨m0,m1,m2,i01,i2,hi,lo,h1,h2,h3,h4,h5⟩:=hc
 have hne:∀{i:Nat} {r:Row},h.rows i=some r→r.cells.length≠14→i≠u:=by
  rintro i r hr hlen rfl
  rw[ht] at hr
  injection hr with hr
  rw[←hr] at hlen
  exact hlen (by simp[tuneRow,Tb.cells])
 have hM:∀{i p:Nat},MW h i p→i≠u:=by
  rintro i p ⟨ng,h1,_⟩
  exact hne h1 (by simp)
 exact⟨m0,m1,m2,i01,i2,hi,lo,hl.2 _ _ (hne h1 (by simp)) h1,h2.monoE (hM h2) hl,h3.monoE (hM h3) hl,h4.monoE (hM h4) hl,h5⟩
theorem three_sum {B a0 a1 b0 b1 l hh j hi lo d1 e d2 o0 mid o1:Nat} (hlo:lo*j=B*a1+a0) (hhi:hi*j=B*b1+b0) (e1:B*d1+o0=a0+l) (e2:B*e+mid=a1+b0) (e3:B*d2+o1=mid+hh+d1):
  o0+B*(o1+B*(b1+e+d2))=B*hh+l+(B*hi+lo)*j:=by
 have h1:(B*hi+lo)*j=B*(hi*j)+lo*j:=by rw[Nat.add_mul,Nat.mul_assoc]
 rw[h1,hlo,hhi]
 have f2:=congrArg (B* ·) e2
 have f3:=congrArg (B* ·) e3
 simp only[Nat.mul_add] at f2 f3⊢
 omega
theorem three_all {B a0 a1 b0 b1 l hh j hi lo c1 e c2 o0 mid o1 N:Nat} (hN:N=B*hh+l+(B*hi+lo)*j) (d3:B*a1+a0=lo*j) (d4:B*b1+b0=hi*j) (d5:B*c1+o0=a0+l+0) (d6:B*e+mid=a1+b0+0) (d7:B*c2+o1=mid+hh+c1):
  val B [o0,o1,b1+e+c2]=N:=by
 rw[hN,←three_sum d3.symm d4.symm d5 d6 d7]
 simp[val]
theorem div_parts {B x:Nat}:B*(x/B)+x%B=x:=Nat.div_add_mod _ _
theorem three_math {p0 p1 p2 i01 i2 hi lo N k hh l j x:Nat} (hp0:3≤p0∧p0<4611686018427387904) (hp1:3≤p1∧p1<4611686018427387904) (hp2:3≤p2∧p2<4611686018427387904) (hN:N<p0*p1*p2) (h01:(p0*i01)%p1=1) (h2:(p0*p1*i2)%p2=1) (hhl:18446744073709551616*hi+lo=p0*p1)
  (hk:k=((N%p1%p1+p1-N%p0%p1)%p1*i01)%p1) (hx:18446744073709551616*hh+l=N%p0+p0*k) (hxx:x%p2=(N%p0+p0*k)%p2) (hj:j=((N%p2%p2+p2-x%p2)%p2*i2)%p2):N=18446744073709551616*hh+l+(18446744073709551616*hi+lo)*j:=by
 have:NeZero p1:=⟨by omega⟩
 have:NeZero p2:=⟨by omega⟩
 rw[hhl,hx]
 have hd:∀{a b q:Nat},0<q→((a%q%q+q-b%q)%q+b)%q=a%q:=by
  intro a b q hq
  have hb:=Nat.mod_lt b hq
  rw[Nat.mod_add_mod,Nat.mod_mod]
  have e:a%q+q-b%q+b=a%q+q+(b-b%q):=by have:=Nat.mod_le b q;omega
  have e2:b-b%q=q*(b/q):=by have:=Nat.div_add_mod b q;omega
  rw[e,e2,Nat.add_mul_mod_self_left,Nat.add_mod_right,Nat.mod_mod]
 have h1:1%p1=1:=Nat.mod_eq_of_lt (by omega)
 have h3:1%p2=1:=Nat.mod_eq_of_lt (by omega)
 refine crt_three (p0:=p0) (p1:=p1) (p2:=p2) (by omega) hN (by rw[h1];exact h01) (by rw[h3];exact h2) _ _ (hd (by omega)) hk rfl ?_ hj
 rw[←hx] at hxx
 rw[←hx,Nat.add_mod,←hxx,←Nat.add_mod]
 exact hd (by omega)
section
variable {c p0 p1 p2 N:Nat} {h:H} {K:AV→H→Prop}
theorem three_calls (hC:CR h c p0 p1 p2) (hN:N<p0*p1*p2) (hk:∀o0 o1 o2:Nat,o0<18446744073709551616→o1<18446744073709551616→o2<18446744073709551616→val 18446744073709551616 [o0,o1,o2]=N→∀h':H,h'.wf→h.le h'→K (.agg [.int .u64 (o0:Int), .int .u64 (o1:Int), .int .u64 (o2:Int)]) h'):
  ACalls Tryz.prog 158 [.ptr (some (c,0)), .int .u64 ((N%p0:Nat):Int), .int .u64 ((N%p1:Nat):Int), .int .u64 ((N%p2:Nat):Int)] h K:=by
 obtain⟨m0,m1,m2,i01,i2,hi,lo,hr,hM0,hM1,hM2,h01,h02,hhl,hlo⟩:=hC
 have hp0:=hM0.p0
 have hp1:=hM1.p0
 have hp2:=hM2.p0
 refine in_conv_crt_three (by simp) fun hw=> ?_
 unfold c_conv_crt_three
 simp only[go_sem]
 have hl1:=H.le_new hw (H.le_refl h) ⟨some 223,3,[.int .u64 0, .int .u64 0, .int .u64 0]⟩
 have hr1:=H.rows_new h ⟨some 223,3,[.int .u64 0, .int .u64 0, .int .u64 0]⟩
 have hw1:=H.wf_new hw ⟨some 223,3,[.int .u64 0, .int .u64 0, .int .u64 0]⟩
 simp only[List.length_cons,List.length_nil,Nat.zero_add,Nat.reduceAdd]
 generalize hh1:h.new ⟨some 223,3,[.int .u64 0, .int .u64 0, .int .u64 0]⟩=h1 at*
 have hlr:h1.rows c=_:=hl1.2 _ _ hr
 have hM0:=hM0.mono hl1
 have hM1:=hM1.mono hl1
 have hM2:=hM2.mono hl1
 have g0:h1.get c 0=some (.int .u64 (p0:Int)):=by rw[H.get_of hlr];rfl
 have g4:h1.get c 4=some (.ptr (some (m1,0))):=by rw[H.get_of hlr];rfl
 have g5:h1.get c 5=some (.ptr (some (m2,0))):=by rw[H.get_of hlr];rfl
 have g6:h1.get c 6=some (.int .u64 (i01:Int)):=by rw[H.get_of hlr];rfl
 have g7:h1.get c 7=some (.int .u64 (i2:Int)):=by rw[H.get_of hlr];rfl
 have g8:h1.get c 8=some (.int .u64 (hi:Int)):=by rw[H.get_of hlr];rfl
 have g9:h1.get c 9=some (.int .u64 (lo:Int)):=by rw[H.get_of hlr];rfl
 refine⟨by decide,by decide, ?_⟩
 simp only[go_sem,g4]
 refine⟨by decide,by decide, ?_⟩
 simp only[go_sem,g4,g6]
 refine mSub_calls hM1 ?_
 simp only[go_sem,g4,g6]
 refine⟨by simp, ?_⟩
 refine mMul_calls hM1 ?_
 have hkk:((N%p1%p1+p1-N%p0%p1)%p1*i01)%p1<p1:=Nat.mod_lt _ (by omega)
 generalize hk0:((N%p1%p1+p1-N%p0%p1)%p1*i01)%p1=k at*
 simp only[go_sem]
 refine⟨by decide,by decide, ?_⟩
 simp only[go_sem,g0]
 refine Mul64_calls (by omega) (by omega) ?_
 have d1:=div_parts (B:=18446744073709551616) (x:=p0*k)
 have m1':=Nat.mod_lt (p0*k) (show 0<18446744073709551616 by decide)
 have q1:p0*k/18446744073709551616<p0:=by
  rw[Nat.div_lt_iff_lt_mul (by decide)]
  exact Nat.mul_lt_mul_of_pos_left (by omega) (by omega)
 generalize p0*k/18446744073709551616=u1 at*
 generalize p0*k%18446744073709551616=u0 at*
 have hr0:N%p0<p0:=Nat.mod_lt _ (by omega)
 have hr2:N%p2<p2:=Nat.mod_lt _ (by omega)
 simp only[go_sem]
 refine Add64_calls (c:=0) m1' (by omega) (by omega) ?_
 have d2:=div_parts (B:=18446744073709551616) (x:=u0+N%p0+0)
 have m2':=Nat.mod_lt (u0+N%p0+0) (show 0<18446744073709551616 by decide)
 have q2:(u0+N%p0+0)/18446744073709551616≤1:=by omega
 generalize (u0+N%p0+0)/18446744073709551616=cr at*
 generalize (u0+N%p0+0)%18446744073709551616=l at*
 have e1:=addU (a:=u1) (b:=cr) (by omega)
 have hx:18446744073709551616*(u1+cr)+l=N%p0+p0*k:=by rw[Nat.mul_add];omega
 generalize u1+cr=hh at*
 simp only[go_sem,e1]
 refine⟨by decide,by decide, ?_⟩
 simp only[go_sem,g5]
 refine⟨by decide,by decide,by decide,by decide, ?_⟩
 refine mMul_calls (b:=9223372036854775808) hM2 ?_
 simp only[go_sem,g5]
 refine⟨by simp, ?_⟩
 refine mMul_calls (b:=2) hM2 ?_
 simp only[go_sem,g5]
 refine⟨by simp, ?_⟩
 refine mAdd_calls hM2 ?_
 have hxx:(hh*9223372036854775808%p2*2%p2+l)%p2%p2=(18446744073709551616*hh+l)%p2:=by
  rw[Nat.mod_mod,Nat.mod_add_mod,Nat.add_mod,Nat.mod_mul_mod,←Nat.add_mod]
  congr 1
  omega
 rw[hx] at hxx
 generalize (hh*9223372036854775808%p2*2%p2+l)%p2=x at*
 simp only[go_sem]
 refine⟨by decide,by decide, ?_⟩
 simp only[go_sem,g5,g7]
 refine⟨by decide,by decide, ?_⟩
 refine mSub_calls hM2 ?_
 simp only[go_sem,g5,g7]
 refine⟨by simp, ?_⟩
 refine mMul_calls hM2 ?_
 have hjj:((N%p2%p2+p2-x%p2)%p2*i2)%p2<p2:=Nat.mod_lt _ (by omega)
 generalize hj0:((N%p2%p2+p2-x%p2)%p2*i2)%p2=j at*
 have hfin:=three_math hp0 hp1 hp2 hN h01 h02 hhl hk0.symm hx hxx hj0.symm
 have hhi:hi<4611686018427387904:=by
  have:p0*p1≤4611686018427387904*4611686018427387904:=Nat.mul_le_mul (by omega) (by omega)
  omega
 simp only[go_sem,g9]
 refine Mul64_calls hlo (by omega) ?_
 simp only[go_sem,g8]
 refine Mul64_calls (by omega) (by omega) ?_
 have d3:=div_parts (B:=18446744073709551616) (x:=lo*j)
 have d4:=div_parts (B:=18446744073709551616) (x:=hi*j)
 have m3:=Nat.mod_lt (lo*j) (show 0<18446744073709551616 by decide)
 have m4:=Nat.mod_lt (hi*j) (show 0<18446744073709551616 by decide)
 have q3:lo*j/18446744073709551616<j+1:=by
  rw[Nat.div_lt_iff_lt_mul (by decide)]
  have:=Nat.mul_le_mul_right j (Nat.le_of_lt hlo)
  omega
 have q4:hi*j/18446744073709551616<hi+1:=by
  rw[Nat.div_lt_iff_lt_mul (by decide)]
  have:=Nat.mul_le_mul_left hi (show j≤18446744073709551616 by omega)
  omega
 generalize lo*j/18446744073709551616=a1 at*
 generalize lo*j%18446744073709551616=a0 at*
 generalize hi*j/18446744073709551616=b1 at*
 generalize hi*j%18446744073709551616=b0 at*
 have hlb:l<18446744073709551616:=m2'
 have hhb:hh<18446744073709551616:=by
  have:hh≤4611686018427387904:=by omega
  omega
 simp only[go_sem]
 simp only[List.length_cons,List.length_nil,Nat.zero_add,Nat.reduceAdd]
 have k2:=H.le_new hw1 (H.le_refl h1) ⟨some 223,3,[.int .u64 0, .int .u64 0, .int .u64 0]⟩
 have hr2:=H.rows_new h1 ⟨some 223,3,[.int .u64 0, .int .u64 0, .int .u64 0]⟩
 have hw2:=H.wf_new hw1 ⟨some 223,3,[.int .u64 0, .int .u64 0, .int .u64 0]⟩
 generalize h1.new ⟨some 223,3,[.int .u64 0, .int .u64 0, .int .u64 0]⟩=h2 at*
 refine Add64_calls (c:=0) m3 hlb (by omega) ?_
 have d5:=div_parts (B:=18446744073709551616) (x:=a0+l+0)
 have m5:=Nat.mod_lt (a0+l+0) (show 0<18446744073709551616 by decide)
 have q5:(a0+l+0)/18446744073709551616≤1:=by omega
 generalize (a0+l+0)/18446744073709551616=c1 at*
 generalize (a0+l+0)%18446744073709551616=o0 at*
 have pe0:∀x y t w:AV,putAt [x,y,t] 0 [w]=[w,y,t]:=fun _ _ _ _=>rfl
 have pe1:∀x y t w:AV,putAt [x,y,t] 1 [w]=[x,w,t]:=fun _ _ _ _=>rfl
 have pe2:∀x y t w:AV,putAt [x,y,t] 2 [w]=[x,y,w]:=fun _ _ _ _=>rfl
 have pe3:∀x y t:AV,∀a b c:AV,putAt [x,y,t] 0 [a,b,c]=[a,b,c]:=fun _ _ _ _ _ _=>rfl
 simp only[go_sem,hr2]
 refine⟨by decide,by decide,by simp,by simp, ?_⟩
 simp only[pe0]
 have hw3:=H.wf_set hw2 (H.row_lt hw2 hr2) ⟨some 223,3,[.int .u64 (o0:Int), .int .u64 0, .int .u64 0]⟩
 have k3:=H.le_set hw1 k2 (Nat.le_refl _) ⟨some 223,3,[.int .u64 (o0:Int), .int .u64 0, .int .u64 0]⟩
 have hr3:=H.rows_set h2 h1.next ⟨some 223,3,[.int .u64 (o0:Int), .int .u64 0, .int .u64 0]⟩
 generalize h2.set h1.next ⟨some 223,3,[.int .u64 (o0:Int), .int .u64 0, .int .u64 0]⟩=h3 at*
 refine Add64_calls (c:=0) (by omega) m4 (by omega) ?_
 have d6:=div_parts (B:=18446744073709551616) (x:=a1+b0+0)
 have m6:=Nat.mod_lt (a1+b0+0) (show 0<18446744073709551616 by decide)
 have q6:(a1+b0+0)/18446744073709551616≤1:=by omega
 generalize (a1+b0+0)/18446744073709551616=e at*
 generalize (a1+b0+0)%18446744073709551616=mid at*
 simp only[go_sem]
 refine Add64_calls (c:=c1) m6 hhb q5 ?_
 have d7:=div_parts (B:=18446744073709551616) (x:=mid+hh+c1)
 have m7:=Nat.mod_lt (mid+hh+c1) (show 0<18446744073709551616 by decide)
 have q7:(mid+hh+c1)/18446744073709551616≤1:=by omega
 generalize (mid+hh+c1)/18446744073709551616=c2 at*
 generalize (mid+hh+c1)%18446744073709551616=o1 at*
 have f1:=addU (a:=b1) (b:=e) (by omega)
 have f2:=addU (a:=b1+e) (b:=c2) (by omega)
 have hsum:=three_all hfin d3 d4 d5 d6 d7
 have hob:b1+e+c2<18446744073709551616:=by omega
 obtain⟨o2,ho2⟩:∃o2,o2=b1+e+c2:=⟨_,rfl⟩
 rw[←ho2] at hsum f2 hob
 simp only[go_sem,hr3]
 refine⟨by decide,by decide,by simp,by simp, ?_⟩
 simp only[pe1]
 have hw4:=H.wf_set hw3 (H.row_lt hw3 hr3) ⟨some 223,3,[.int .u64 (o0:Int), .int .u64 (o1:Int), .int .u64 0]⟩
 have k4:=H.le_set hw1 k3 (Nat.le_refl _) ⟨some 223,3,[.int .u64 (o0:Int), .int .u64 (o1:Int), .int .u64 0]⟩
 have hr4:=H.rows_set h3 h1.next ⟨some 223,3,[.int .u64 (o0:Int), .int .u64 (o1:Int), .int .u64 0]⟩
 generalize h3.set h1.next ⟨some 223,3,[.int .u64 (o0:Int), .int .u64 (o1:Int), .int .u64 0]⟩=h4 at*
 simp only[go_sem,hr4]
 refine⟨by decide,by decide,by simp,by simp, ?_⟩
 rw[f1,f2]
 simp only[pe2]
 have hw5:=H.wf_set hw4 (H.row_lt hw4 hr4) ⟨some 223,3,[.int .u64 (o0:Int), .int .u64 (o1:Int), .int .u64 (o2:Int)]⟩
 have k5:=H.le_set hw1 k4 (Nat.le_refl _) ⟨some 223,3,[.int .u64 (o0:Int), .int .u64 (o1:Int), .int .u64 (o2:Int)]⟩
 have hr5:=H.rows_set h4 h1.next ⟨some 223,3,[.int .u64 (o0:Int), .int .u64 (o1:Int), .int .u64 (o2:Int)]⟩
 generalize h4.set h1.next ⟨some 223,3,[.int .u64 (o0:Int), .int .u64 (o1:Int), .int .u64 (o2:Int)]⟩=h5 at*
 have gs:h5.gets h1.next 0 3=some [.int .u64 (o0:Int), .int .u64 (o1:Int), .int .u64 (o2:Int)]:=H.gets_of hr5 (by simp)
 have hr8:=k5.2 _ _ hr1
 simp only[go_sem,gs,hr8]
 refine⟨rfl,rfl,by simp,by simp, ?_⟩
 simp only[pe3]
 have gs2:=H.gets_of (off:=0) (n:=3) (H.rows_set h5 h.next ⟨some 223,3,[.int .u64 (o0:Int), .int .u64 (o1:Int), .int .u64 (o2:Int)]⟩) (by simp)
 simp only[go_sem,gs2]
 exact fun hw'=>hk o0 o1 o2 m5 m7 hob hsum _ hw' (H.le_set hw (H.le_trans hl1 k5) (Nat.le_refl _) _)
end
end
section
section
variable {n m:Nat} {h:H} {K:AV→H→Prop}
def lgOK (n L:Nat):Prop:=n≤2^L∧(0<L→2^(L-1)<n)∧L≤20
theorem lg_one {n L M:Nat} (h1:lgOK n L) (h2:lgOK n M):L=M:=by
 obtain⟨a1,a2,_⟩:=h1
 obtain⟨b1,b2,_⟩:=h2
 rcases Nat.lt_trichotomy L M with h|h|h
 ·have:=b2 (by omega)
  have:=Nat.pow_le_pow_right (show 0<2 by decide) (show L≤M-1 by omega)
  omega
 ·exact h
 ·have:=a2 (by omega)
  have:=Nat.pow_le_pow_right (show 0<2 by decide) (show M≤L-1 by omega)
  omega
theorem clog_calls (hn:1≤n) (hn2:n≤1048576) (hk:∀L,lgOK n L→K (.int .i64 (L:Int)) h):ACalls Tryz.prog 157 [.int .i64 (n:Int)] h K:=by
 refine in_conv_log (by simp) fun hw=> ?_
 unfold c_conv_log
 have e1:IntKind.u64.wrap (IntKind.i64.wrap ((n:Int)-1))=((n-1:Nat):Int):=by rw[wI (by omega) (by omega),wU]<;>omega
 simp only[go_sem,e1]
 refine Len64_calls (x:=n-1) (by omega) fun L hL hb=> ?_
 simp only[go_sem]
 refine fun _=>hk L ⟨by have:=hb.1;omega,fun h0=> ?_, ?_⟩
 ·rcases hb.2 with h|h<;>omega
 ·rcases Nat.lt_or_ge L 21 with h|h
  ·omega
  ·have h2:2^20≤2^(L-1):=Nat.pow_le_pow_right (by decide) (by omega)
   rcases hb.2 with h3|h3<;>omega
theorem cmay_calls (hk:K (.bool (decide (0<n∧0<m∧n+m≤1048576))) h) (hn:n≤1099511627776) (hm:m≤1099511627776):ACalls Tryz.prog 149 [.int .i64 (n:Int), .int .i64 (m:Int)] h K:=by
 refine in_conv_may (by simp) fun hw=> ?_
 unfold c_conv_may
 rcases Nat.eq_zero_or_pos n with rfl|h1
 ·simp only[go_sem,show decide ((0:Int)<((0:Nat):Int))=false from rfl]
  simp at hk
  exact fun _=>hk
 rcases Nat.eq_zero_or_pos m with rfl|h2
 ·simp only[go_sem,show decide ((0:Int)<(n:Int))=true from decide_eq_true (by omega),show decide ((0:Int)<((0:Nat):Int))=false from rfl]
  simp at hk
  exact fun _=>hk
 rcases Nat.lt_or_ge 1048576 n with h3|h3
 ·rw[decide_eq_false (by omega)] at hk
  simp only[go_sem,show decide ((0:Int)<(n:Int))=true from decide_eq_true (by omega),show decide ((0:Int)<(m:Int))=true from decide_eq_true (by omega),show decide ((n:Int)≤1048576)=false from decide_eq_false (by omega)]
  exact fun _=>hk
 have e1:IntKind.i64.wrap (1048576-(n:Int))=((1048576-n:Nat):Int):=by rw[wI]<;>omega
 simp only[go_sem,show decide ((0:Int)<(n:Int))=true from decide_eq_true (by omega),show decide ((0:Int)<(m:Int))=true from decide_eq_true (by omega),show decide ((n:Int)≤1048576)=true from decide_eq_true (by omega),e1]
 have e2:decide ((m:Int)≤((1048576-n:Nat):Int))=decide (0<n∧0<m∧n+m≤1048576):=by
  rw[Bool.eq_iff_iff];simp;omega
 rw[e2]
 exact fun _=>hk
end
end
end Ab
end Go.Proofs.YtkbglkjpdndkiaaGreatDoor
