/- Joined texts: N1 C7 Q1 Q2 Q3 R1. No condition. -/
import Derived.Test.YtkbglkjpdndkiaaGreatDoorZ9
import Derived.Test.YtkbglkjpdndkiaaGreatDoorProg
import Derived.KernelRfl
namespace Go.Proofs.YtkbglkjpdndkiaaGreatDoor
namespace Ab
open Go Go.RowKit
set_option linter.unusedSimpArgs false
set_option linter.unusedVariables false
attribute [local go_sem ↓] x_mv x_pick x_bin x_beq x_peq x_seq x_cat x_aeq x_idxS x_idxV x_un x_cvI x_bts x_idx x_idxA x_fld x_ld x_st x_nn x_prt x_slc x_mk x_bsl x_bld x_box x_alloc x_len x_capo x_mnx x_app x_cpy x_mkf x_ext x_call x_callV x_bad s_none s_some s_nil s_cons s_chks w_skip w_reg tP_fin tP_no tP_alt w_seq w_cond w_block w_exit w_ret t_normal t_exit t_ret b_normal b_ret b_exit n_normal n_exit n_ret p_normal p_ret f_nil f_t f_c k_ops k_chk k_fin
attribute [local go_sem] e_t e_c e_f u_some u_none u_at env_at k_v k_pick k_add k_sub k_mul k_quo k_rem k_and k_or k_xor k_shl k_shr k_eql k_neq k_lss k_leq k_gtr k_geq k_beq k_peqn k_peqs k_neg k_not k_com k_cvI k_idxS k_idxV1 k_idxVn k_idx k_idxA k_idxG k_ldG k_gld k_seq k_cat k_aeq k_eqs k_fld k_ld1 k_ldn k_get k_gets k_sti k_stb k_stp k_sts k_stf k_sta k_put k_nn k_prt1 k_prtn k_slc_a k_slc_b k_slc_c k_mk k_agg k_bsl k_box k_len k_lenS k_cap k_max k_min k_ext k_callV k_true k_false k_gtt k_gtf k_gft k_gsk k_gff k_lit1i k_lit2i k_lit3i k_c0 k_c1 k_ck List.getElem?_cons_zero List.getElem?_cons_succ List.getElem?_nil Option.getD_some Option.getD_none tupOf List.map_cons List.map_nil Option.map_some Option.map_none List.nil_append List.cons_append List.append_nil Nat.mul_one Int.toNat_natCast Nat.zero_add
attribute [local go_sem] e_t e_c e_f u_some u_none u_at env_at k_v k_pick k_add k_sub k_mul k_quo k_rem k_and k_or k_xor k_shl k_shr k_eql k_neq k_lss k_leq k_gtr k_geq k_beq k_peqn k_peqs k_neg k_not k_com k_cvI k_idxS k_idxV1 k_idxVn k_idx k_idxA k_idxG k_ldG k_gld k_seq k_cat k_aeq k_eqs k_fld k_ld1 k_ldn k_get k_gets k_sti k_stb k_stp k_sts k_stf k_sta k_put k_nn k_prt1 k_prtn k_slc_a k_slc_b k_slc_c k_mk k_agg k_bsl k_box k_len k_lenS k_cap k_max k_min k_ext k_callV k_true k_false k_gtt k_gtf k_gft k_gsk k_gff k_lit1i k_lit2i k_lit3i k_c0 k_c1 k_ck List.getElem?_cons_zero List.getElem?_cons_succ List.getElem?_nil Option.getD_some Option.getD_none tupOf List.map_cons List.map_nil Option.map_some Option.map_none List.nil_append List.cons_append List.append_nil Nat.mul_one Int.toNat_natCast Nat.zero_add
--what a store into a cell of two leaves
attribute [local go_sem_proc] Nat.reduceEqDiff Nat.reduceAdd Int.reduceToNat
attribute [local go_sem_proc ↓] reduceIte
attribute [local go_sem] Bool.false_eq_true
section
section
variable {p:Nat} [NeZero p]
abbrev zp (p:Nat) [NeZero p] (x:Nat):_root_.Fin p:=_root_.Fin.ofNat p x
theorem zp_add (x y:Nat):zp p (x+y)=zp p x+zp p y:=by
 apply _root_.Fin.ext;simp[zp,_root_.Fin.ofNat,_root_.Fin.add_def]
theorem zp_mul (x y:Nat):zp p (x*y)=zp p x*zp p y:=by
 apply _root_.Fin.ext;simp[zp,_root_.Fin.ofNat,_root_.Fin.mul_def,Nat.mul_mod]
theorem zp_mod (x:Nat):zp p (x%p)=zp p x:=by
 apply _root_.Fin.ext;simp[zp,_root_.Fin.ofNat]
theorem zp_one:zp p 1=1:=rfl
theorem zp_pow (x n:Nat):zp p (x^n)=zp p x^n:=by
 induction n with
 |zero=>rw[Nat.pow_zero,zp_one];grind
 |succ n ih=>rw[Nat.pow_succ,zp_mul,ih];grind
theorem zp_iff {x y:Nat}:zp p x=zp p y↔x%p=y%p:=by
 rw[_root_.Fin.ext_iff];rfl
theorem zp_self:zp p p=0:=by
 apply _root_.Fin.ext;simp[zp,_root_.Fin.ofNat]
theorem zp_sub {x y:Nat} (h:y≤x):zp p (x-y)=zp p x-zp p y:=by
 have e:zp p x=zp p (x-y)+zp p y:=by rw[←zp_add];congr 1;omega
 rw[e];grind
def fsum (n:Nat) (f:Nat→_root_.Fin p):_root_.Fin p:=match n with
 |0=>0
 |n+1=>fsum n f+f n
theorem fsum_congr {n:Nat} {f g:Nat→_root_.Fin p} (h:∀i,i<n→f i=g i):fsum n f=fsum n g:=by
 induction n with
 |zero=>rfl
 |succ n ih=>rw[fsum,fsum,ih (fun i hi=>h i (by omega)),h n (by omega)]
theorem fsum_add (n:Nat) (f g:Nat→_root_.Fin p):fsum n (fun i=>f i+g i)=fsum n f+fsum n g:=by
 induction n with
 |zero=>rw[fsum,fsum,fsum];grind
 |succ n ih=>rw[fsum,fsum,fsum,ih];grind
theorem fsum_mul (n:Nat) (c:_root_.Fin p) (f:Nat→_root_.Fin p):fsum n (fun i=>c*f i)=c*fsum n f:=by
 induction n with
 |zero=>rw[fsum,fsum];grind
 |succ n ih=>rw[fsum,fsum,ih];grind
theorem fsum_zero (n:Nat):fsum n (fun _=>(0:_root_.Fin p))=0:=by
 induction n with
 |zero=>rfl
 |succ n ih=>rw[fsum,ih];grind
theorem fsum_comm (n m:Nat) (f:Nat→Nat→_root_.Fin p):fsum n (fun i=>fsum m (f i))=fsum m (fun j=>fsum n (fun i=>f i j)):=by
 induction n with
 |zero=>rw[fsum];exact(fsum_zero m).symm
 |succ n ih=>simp only[fsum];rw[ih,←fsum_add]
theorem fsum_two (n:Nat) (f:Nat→_root_.Fin p):fsum (2*n) f=fsum n (fun i=>f (2*i))+fsum n (fun i=>f (2*i+1)):=by
 induction n with
 |zero=>simp only[fsum];grind
 |succ n ih=>rw[show 2*(n+1)=2*n+1+1 by omega];simp only[fsum];rw[ih];grind
theorem fsum_one {n k:Nat} (hk:k<n) (f:Nat→_root_.Fin p) (h:∀i,i<n→i≠k→f i=0):fsum n f=f k:=by
 induction n with
 |zero=>omega
 |succ n ih=>
  rw[fsum]
  by_cases e:k=n
  ·subst e
   rw[fsum_congr (g:=fun _=>0) (fun i hi=>h i (by omega) (by omega)),fsum_zero];grind
  ·rw[ih (by omega) (fun i hi=>h i (by omega)),h n (by omega) (Ne.symm e)];grind
theorem fpow_mul (x:_root_.Fin p) (a b:Nat):x^(a*b)=(x^a)^b:=by
 induction b with
 |zero=>rw[Nat.mul_zero];grind
 |succ b ih=>rw[Nat.mul_succ];grind
theorem fpow_add (x:_root_.Fin p) (a b:Nat):x^(a+b)=x^a*x^b:=by grind
theorem fmul_pow (x y:_root_.Fin p) (n:Nat):(x*y)^n=x^n*y^n:=by
 induction n with
 |zero=>grind
 |succ n ih=>grind
theorem fone_pow (n:Nat):(1:_root_.Fin p)^n=1:=by
 induction n with
 |zero=>grind
 |succ n ih=>grind
theorem geo_zero:∀(L:Nat) (z:_root_.Fin p) (d:Nat),z^(2^L)= -1→0<d→d<2^(L+1)→fsum (2^(L+1)) (fun j=>(z^d)^j)=0
 |0,z,d,hz,h0,h1=>by
  have:d=1:=by simp at h1;omega
  subst this
  rw[show 2^(0+1)=2 from rfl]
  simp only[fsum]
  rw[Nat.pow_zero] at hz
  grind
 |L+1,z,d,hz,h0,h1=>by
  have e2:(2:Nat)^(L+1+1)=2*2^(L+1):=by rw[Nat.pow_succ];omega
  rw[e2] at h1⊢
  rw[fsum_two]
  have s1:fsum (2^(L+1)) (fun i=>(z^d)^(2*i))=fsum (2^(L+1)) (fun i=>((z^2)^d)^i):=
   fsum_congr fun i _=>by rw[←fpow_mul z d (2*i),←fpow_mul z 2 d,←fpow_mul z (2*d) i];congr 1;ac_rfl
  have s2:fsum (2^(L+1)) (fun i=>(z^d)^(2*i+1))=z^d*fsum (2^(L+1)) (fun i=>((z^2)^d)^i):=by
   rw[←fsum_mul]
   refine fsum_congr fun i _=> ?_
   rw[fpow_add,fpow_mul,←fpow_mul z d 2,←fpow_mul z 2 d,Nat.mul_comm d 2]
   grind
  rw[s1,s2]
  have hz2:(z^2)^(2^L)= -1:=by rw[←fpow_mul,show 2*2^L=2^(L+1) by rw[Nat.pow_succ];omega];exact hz
  rcases Nat.lt_trichotomy d (2^(L+1)) with h|h|h
  ·rw[geo_zero L (z^2) d hz2 h0 h];grind
  ·rw[h,hz];grind
  ·obtain⟨d',rfl⟩:∃d',d=2^(L+1)+d':=⟨d-2^(L+1),by omega⟩
   have e:(z^2)^(2^(L+1)+d')=(z^2)^d':=by
    rw[fpow_add,Nat.pow_succ,fpow_mul,hz2];grind
   rw[e,geo_zero L (z^2) d' hz2 (by omega) (by omega)];grind
theorem inv_half {z v:_root_.Fin p} {n:Nat} (hz:z^n= -1) (hv:v*z=1):v^n= -1:=by
 have h1:v^n*z^n=1:=by rw[←fmul_pow,hv,fone_pow]
 rw[hz] at h1
 grind
theorem geo_two {L:Nat} {z v:_root_.Fin p} (hz:z^(2^L)= -1) (hv:v*z=1) {m k:Nat} (hm:m<2^(L+1)) (hk:k<2^(L+1)) (hne:m≠k):fsum (2^(L+1)) (fun j=>(z^m*v^k)^j)=0:=by
 rcases Nat.lt_or_gt_of_ne hne with h|h
 ·have e:z^m*v^k=v^(k-m):=by
   obtain⟨d,rfl⟩:∃d,k=m+d:=⟨k-m,by omega⟩
   rw[Nat.add_sub_cancel_left,fpow_add]
   have:z^m*v^m=1:=by rw[←fmul_pow,show z*v=1 by grind,fone_pow]
   grind
  rw[e]
  exact geo_zero L v (k-m) (inv_half hz hv) (by omega) (by omega)
 ·have e:z^m*v^k=z^(m-k):=by
   obtain⟨d,rfl⟩:∃d,m=k+d:=⟨m-k,by omega⟩
   rw[Nat.add_sub_cancel_left,fpow_add]
   have:z^k*v^k=1:=by rw[←fmul_pow,show z*v=1 by grind,fone_pow]
   grind
  rw[e]
  exact geo_zero L z (m-k) hz (by omega) (by omega)
theorem fsum_const (n:Nat):fsum n (fun _=>(1:_root_.Fin p))=zp p n:=by
 induction n with
 |zero=>rfl
 |succ n ih=>rw[fsum,ih,zp_add,zp_one]
theorem there_back {L:Nat} {z v:_root_.Fin p} (hz:z^(2^L)= -1) (hv:v*z=1) (c:Nat→_root_.Fin p) {k:Nat} (hk:k<2^(L+1)):
  fsum (2^(L+1)) (fun j=>fsum (2^(L+1)) (fun m=>c m*(z^j)^m)*(v^k)^j)=zp p (2^(L+1))*c k:=by
 have e1:fsum (2^(L+1)) (fun j=>fsum (2^(L+1)) (fun m=>c m*(z^j)^m)*(v^k)^j)=
   fsum (2^(L+1)) (fun j=>fsum (2^(L+1)) (fun m=>c m*(z^m*v^k)^j)):=by
  refine fsum_congr fun j _=> ?_
  rw[show∀x y:_root_.Fin p,x*y=y*x by intros;grind,←fsum_mul]
  refine fsum_congr fun m _=> ?_
  rw[fmul_pow,←fpow_mul z j m,←fpow_mul z m j,Nat.mul_comm j m]
  grind
 rw[e1,fsum_comm]
 rw[fsum_congr (g:=fun m=>c m*fsum (2^(L+1)) (fun j=>(z^m*v^k)^j)) (fun m _=>fsum_mul _ _ _)]
 rw[fsum_one hk]
 ·have:z^k*v^k=1:=by rw[←fmul_pow,show z*v=1 by grind,fone_pow]
  rw[this,fsum_congr (g:=fun _=>1) (fun i _=>fone_pow i),fsum_const]
  grind
 ·intro m hm hne
  rw[geo_two hz hv hm hk hne];grind
def blk (g:Nat→_root_.Fin p):Nat→Nat→_root_.Fin p→_root_.Fin p
 |0,q,_=>g q
 |s+1,q,z=>blk g s (2*q) (z*z)+z*blk g s (2*q+1) (z*z)
def revb:Nat→Nat→Nat
 |0,_=>0
 |m+1,q=>revb m (q/2)+(q%2)*2^m
theorem blk_sum (a g:Nat→_root_.Fin p) (L:Nat) (hg:∀q,q<2^L→g q=a (revb L q)):∀(s m q:Nat) (z:_root_.Fin p),s+m=L→q<2^m→
  blk g s q z=fsum (2^s) (fun k=>a (revb m q+k*2^m)*z^k)
 |0,m,q,z,hm,hq=>by
  have:m=L:=by omega
  subst this
  rw[Nat.pow_zero]
  simp only[blk,fsum]
  rw[hg q hq,Nat.zero_mul,Nat.add_zero]
  grind
 |s+1,m,q,z,hm,hq=>by
  have hp:(2:Nat)^(m+1)=2*2^m:=by rw[Nat.pow_succ];omega
  have i1:=blk_sum a g L hg s (m+1) (2*q) (z*z) (by omega) (by omega)
  have i2:=blk_sum a g L hg s (m+1) (2*q+1) (z*z) (by omega) (by omega)
  rw[blk,i1,i2,show(2:Nat)^(s+1)=2*2^s by rw[Nat.pow_succ];omega,fsum_two]
  have r1:revb (m+1) (2*q)=revb m q:=by
   rw[revb,Nat.mul_div_cancel_left _ (by omega),Nat.mul_mod_right,Nat.zero_mul,Nat.add_zero]
  have r2:revb (m+1) (2*q+1)=revb m q+2^m:=by
   rw[revb,show(2*q+1)/2=q by omega,show(2*q+1)%2=1 by omega,Nat.one_mul]
  rw[r1,r2,←fsum_mul]
  congr 1
  ·refine fsum_congr fun k _=> ?_
   rw[hp,show k*(2*2^m)=2*k*2^m by ac_rfl,fpow_mul]
   grind
  ·refine fsum_congr fun k _=> ?_
   rw[hp,show revb m q+2^m+k*(2*2^m)=revb m q+(2*k+1)*2^m by rw[Nat.add_mul,Nat.one_mul,show k*(2*2^m)=2*k*2^m by ac_rfl];omega,fpow_add,fpow_mul]
   grind
theorem revb_lt (m q:Nat):revb m q<2^m:=by
 induction m generalizing q with
 |zero=>simp[revb]
 |succ m ih=>
  have:=ih (q/2)
  rw[revb,Nat.pow_succ]
  have:q%2<2:=Nat.mod_lt _ (by omega)
  have:(q%2)*2^m≤1*2^m:=Nat.mul_le_mul_right _ (by omega)
  omega
end
section
variable {p:Nat} [NeZero p]
theorem fsum_head (n:Nat) (f:Nat→_root_.Fin p):fsum (n+1) f=f 0+fsum n (fun i=>f (i+1)):=by
 induction n with
 |zero=>simp only[fsum];grind
 |succ n ih=>rw[fsum,ih,fsum];grind
theorem fsum_val (w:Nat):∀(c:List Nat) (n:Nat),c.length≤n→fsum n (fun m=>zp p (c.getD m 0)*zp p w^m)=zp p (val w c)
 |[],n,_=>by
  rw[fsum_congr (g:=fun _=>0) (fun i _=>by
   rw[List.getD_eq_getElem?_getD,List.getElem?_nil]
   show zp p 0*_=0
   rw[show zp p 0=0 from rfl];grind),fsum_zero]
  rfl
 |x::c,n,h=>by
  obtain⟨n',rfl⟩:∃n',n=n'+1:=⟨n-1,by simp at h;omega⟩
  rw[fsum_head,fsum_congr (g:=fun m=>zp p w*(zp p (c.getD m 0)*zp p w^m)) (fun i _=>by
   rw[List.getD_cons_succ];grind),fsum_mul,fsum_val w c n' (by simpa using h),val,zp_add,zp_mul,List.getD_cons_zero]
  grind
end
def adL:List Nat→List Nat→List Nat
 |[],ys=>ys
 |xs,[]=>xs
 |x::xs,y::ys=>(x+y)::adL xs ys
theorem adL_val (B:Nat):∀xs ys,val B (adL xs ys)=val B xs+val B ys
 |[],ys=>by simp[adL,val]
 |x::xs,[]=>by simp[adL,val]
 |x::xs,y::ys=>by
  simp only[adL,val]
  rw[adL_val B xs ys,Nat.mul_add];omega
theorem adL_len:∀xs ys:List Nat,(adL xs ys).length=max xs.length ys.length
 |[],ys=>by simp[adL]
 |x::xs,[]=>by simp[adL]
 |x::xs,y::ys=>by
  simp only[adL,List.length_cons,adL_len xs ys];omega
theorem adL_le {M N:Nat}:∀{xs ys:List Nat},(∀x∈xs,x≤M)→(∀y∈ys,y≤N)→∀z∈adL xs ys,z≤M+N
 |[],ys,_,h2,z,hz=>by simp only[adL] at hz;have:=h2 z hz;omega
 |x::xs,[],h1,_,z,hz=>by simp only[adL] at hz;have:=h1 z hz;omega
 |x::xs,y::ys,h1,h2,z,hz=>by
  simp only[adL] at hz
  rcases List.mem_cons.1 hz with rfl|hz
  ·have:=h1 x (by simp);have:=h2 y (by simp);omega
  ·exact adL_le (fun a ha=>h1 a (by simp[ha])) (fun a ha=>h2 a (by simp[ha])) z hz
def cvL:List Nat→List Nat→List Nat
 |[],_=>[]
 |x::xs,ys=>adL (ys.map (x* ·)) (0::cvL xs ys)
theorem map_val (B x:Nat):∀ys:List Nat,val B (ys.map (x* ·))=x*val B ys
 |[]=>rfl
 |y::ys=>by
  simp only[List.map_cons,val]
  rw[map_val B x ys,Nat.mul_add];ac_rfl
theorem cvL_val (B:Nat) (ys:List Nat):∀xs,val B (cvL xs ys)=val B xs*val B ys
 |[]=>by simp[cvL,val]
 |x::xs=>by
  rw[cvL,adL_val,map_val,val,val,cvL_val B ys xs,Nat.add_mul,Nat.zero_add,Nat.mul_assoc]
theorem cvL_len {ys:List Nat} (hy:0<ys.length):∀{xs:List Nat},0<xs.length→(cvL xs ys).length=xs.length+ys.length-1
 |[],h=>by simp at h
 |[x],_=>by simp[cvL,adL_len];omega
 |x::x'::xs,_=>by
  rw[cvL,adL_len,List.length_map,List.length_cons,cvL_len hy (by simp)]
  simp only[List.length_cons];omega
theorem cvL_le {M:Nat} {ys:List Nat}:∀{xs:List Nat},(∀x∈xs,∀y∈ys,x*y≤M)→∀z∈cvL xs ys,z≤xs.length*M
 |[],_,z,hz=>by simp[cvL] at hz
 |x::xs,h,z,hz=>by
  rw[cvL] at hz
  have:=adL_le (M:=M) (N:=xs.length*M) (fun a ha=>by
   obtain⟨y,hy,rfl⟩:=List.mem_map.1 ha
   exact h x (by simp) y hy) (fun a ha=>by
   rcases List.mem_cons.1 ha with rfl|ha
   ·exact Nat.zero_le _
   ·exact cvL_le (fun b hb=>h b (by simp[hb])) a ha) z hz
  rw[List.length_cons,Nat.succ_mul]
  omega
theorem crt_two {p q i K r k:Nat} [NeZero q] (hi:(p*i)%q=1%q) (hK:(r+p*K)%q=k%q) (d:Nat) (hd:(d+r)%q=k%q):(d*i)%q=K%q:=by
 have h1:zp q p*zp q i=1:=by rw[←zp_mul,←zp_one];exact zp_iff.2 hi
 have h2:zp q r+zp q p*zp q K=zp q k:=by rw[←zp_mul,←zp_add];exact zp_iff.2 hK
 have h3:zp q d+zp q r=zp q k:=by rw[←zp_add];exact zp_iff.2 hd
 refine zp_iff.1 ?_
 rw[zp_mul]
 grind
theorem crt_three {p0 p1 p2 i01 i2 N k x j:Nat} [NeZero p1] [NeZero p2] (h0:0<p0) (hN:N<p0*p1*p2) (hi:(p0*i01)%p1=1%p1) (hj:(p0*p1*i2)%p2=1%p2)
  (d e:Nat) (hd:(d+N%p0)%p1=N%p1) (hk:k=(d*i01)%p1) (hx:x=N%p0+p0*k) (he:(e+x)%p2=N%p2) (hj2:j=(e*i2)%p2):N=x+p0*p1*j:=by
 have e0:N=N%p0+p0*(N/p0):=(Nat.mod_add_div N p0).symm
 have hp1:0<p1:=Nat.pos_of_ne_zero (NeZero.ne p1)
 have e1:k=(N/p0)%p1:=by
  rw[hk]
  exact crt_two (r:=N%p0) (k:=N) hi (by rw[←e0]) d hd
 have e2:N/p0=k+p1*(N/p0/p1):=by rw[e1];exact(Nat.mod_add_div _ _).symm
 have e3:N=x+p0*p1*(N/p0/p1):=by
  rw[hx,Nat.add_assoc,Nat.mul_assoc p0 p1,←Nat.mul_add,←e2];exact e0
 have e4:j=(N/p0/p1)%p2:=by
  rw[hj2]
  exact crt_two (r:=x) (k:=N) hj (by rw[←e3]) e he
 have e5:N/p0/p1<p2:=by
  rw[Nat.div_div_eq_div_mul,Nat.div_lt_iff_lt_mul (Nat.mul_pos h0 hp1),Nat.mul_comm]
  exact hN
 rw[e4,Nat.mod_eq_of_lt e5]
 exact e3
theorem revb_bit:∀(m q j:Nat),j<m→(revb m q).testBit j=q.testBit (m-1-j)
 |0,q,j,h=>by omega
 |m+1,q,j,h=>by
  have hl:=revb_lt m (q/2)
  rw[revb,Nat.add_comm,Nat.mul_comm,Nat.testBit_two_pow_mul_add _ hl]
  rcases Nat.lt_or_ge j m with hj|hj
  ·rw[if_pos hj,revb_bit m (q/2) j hj,Nat.testBit_div_two]
   congr 1
   omega
  ·have:j=m:=by omega
   subst this
   rw[if_neg (by omega),Nat.sub_self,show j+1-1-j=0 by omega,Nat.testBit_zero,Nat.testBit_zero]
   congr 1
   simp
def swp (k M x:Nat):Nat:=(x>>>k&&&M)|||((x&&&M)<<<k)
theorem swp_bit {k M x j:Nat} (hM:∀i,i<64→M.testBit i=decide (i/k%2=0)) (hk:0<k) (hj:j<64):
  (swp k M x).testBit j=x.testBit (if j/k%2=0 then j+k else j-k):=by
 unfold swp
 rw[Nat.testBit_or,Nat.testBit_and,Nat.testBit_shiftRight,Nat.testBit_shiftLeft,Nat.testBit_and,hM j hj,hM (j-k) (by omega),Nat.add_comm k j]
 have e:k≤j→(j-k)/k=j/k-1∧1≤j/k:=by
  intro h2
  obtain⟨d,rfl⟩:∃d,j=k+d:=⟨j-k,by omega⟩
  rw[Nat.add_sub_cancel_left,Nat.add_div_left _ hk]
  exact⟨rfl,Nat.succ_le_succ (Nat.zero_le _)⟩
 have e3:j<k→j/k=0:=fun h=>Nat.div_eq_of_lt h
 generalize (j-k)/k=s at*
 generalize j/k=t at*
 by_cases h2:j≥k
 ·obtain⟨rfl,e2⟩:=e h2
  rw[decide_eq_true h2]
  by_cases h:t%2=0
  ·rw[if_pos h,decide_eq_true h,decide_eq_false (show¬(t-1)%2=0 by omega)];simp
  ·rw[if_neg h,decide_eq_false h,decide_eq_true (show(t-1)%2=0 by omega)];simp
 ·rw[e3 (by omega),decide_eq_false h2];simp
def rev64 (x:Nat):Nat:=
 let a:=swp 1 0x5555555555555555 x
 let b:=swp 2 0x3333333333333333 a
 let c:=swp 4 0x0f0f0f0f0f0f0f0f b
 let d:=swp 8 0x00ff00ff00ff00ff c
 let e:=swp 16 0x0000ffff0000ffff d
 e>>>32|||(e<<<32)%2^64
theorem rev64_bit {x j:Nat} (hj:j<64):(rev64 x).testBit j=x.testBit (63-j):=by
 have b1:∀y i,i<64→(swp 1 0x5555555555555555 y).testBit i=y.testBit (if i/1%2=0 then i+1 else i-1):=fun y i h=>
  swp_bit (by decide) (by omega) h
 have b2:∀y i,i<64→(swp 2 0x3333333333333333 y).testBit i=y.testBit (if i/2%2=0 then i+2 else i-2):=fun y i h=>
  swp_bit (by decide) (by omega) h
 have b3:∀y i,i<64→(swp 4 0x0f0f0f0f0f0f0f0f y).testBit i=y.testBit (if i/4%2=0 then i+4 else i-4):=fun y i h=>
  swp_bit (by decide) (by omega) h
 have b4:∀y i,i<64→(swp 8 0x00ff00ff00ff00ff y).testBit i=y.testBit (if i/8%2=0 then i+8 else i-8):=fun y i h=>
  swp_bit (by decide) (by omega) h
 have b5:∀y i,i<64→(swp 16 0x0000ffff0000ffff y).testBit i=y.testBit (if i/16%2=0 then i+16 else i-16):=fun y i h=>
  swp_bit (by decide) (by omega) h
 have e1:∀i,i<64→(if i/16%2=0 then i+16 else i-16)<64:=by decide
 have e2:∀i,i<64→(if i/8%2=0 then i+8 else i-8)<64:=by decide
 have e3:∀i,i<64→(if i/4%2=0 then i+4 else i-4)<64:=by decide
 have e4:∀i,i<64→(if i/2%2=0 then i+2 else i-2)<64:=by decide
 have key:∀y i,i<64→(swp 16 0x0000ffff0000ffff (swp 8 0x00ff00ff00ff00ff (swp 4 0x0f0f0f0f0f0f0f0f (swp 2 0x3333333333333333 (swp 1 0x5555555555555555 y))))).testBit i=y.testBit (if i<32 then 31-i else 95-i):=by
  intro y i h
  rw[b5 _ _ h,b4 _ _ (e1 i h),b3 _ _ (e2 _ (e1 i h)),b2 _ _ (e3 _ (e2 _ (e1 i h))),b1 _ _ (e4 _ (e3 _ (e2 _ (e1 i h))))]
  congr 1
  revert i
  decide
 have hi:∀y i,64≤i→(swp 16 0x0000ffff0000ffff y).testBit i=false:=by
  intro y i h
  unfold swp
  have hm:∀i,48≤i→(0x0000ffff0000ffff:Nat).testBit i=false:=fun i h=>Nat.testBit_lt_two_pow (Nat.lt_of_lt_of_le (by decide:0x0000ffff0000ffff<2^48) (Nat.pow_le_pow_right (by omega) h))
  rw[Nat.testBit_or,Nat.testBit_and,Nat.testBit_shiftRight,Nat.testBit_shiftLeft,Nat.testBit_and,hm i (by omega),hm (i-16) (by omega)]
  simp
 unfold rev64
 simp only
 rw[Nat.testBit_or,Nat.testBit_shiftRight,Nat.testBit_mod_two_pow,Nat.testBit_shiftLeft]
 rcases Nat.lt_or_ge j 32 with h|h
 ·rw[key _ _ (by omega),if_neg (by omega),decide_eq_false (by omega:¬j≥32)]
  simp only[Bool.false_and,Bool.and_false,Bool.or_false]
  congr 1
  omega
 ·rw[hi _ _ (by omega),key _ _ (by omega),if_pos (by omega),decide_eq_true hj,decide_eq_true h]
  simp only[Bool.true_and,Bool.false_or]
  congr 1
  omega
theorem rev64_lt {x:Nat}:rev64 x<2^64:=by
 unfold rev64
 simp only
 refine Nat.or_lt_two_pow ?_ (Nat.mod_lt _ (by omega))
 rw[Nat.shiftRight_eq_div_pow]
 have:swp 16 0x0000ffff0000ffff (swp 8 0x00ff00ff00ff00ff (swp 4 0x0f0f0f0f0f0f0f0f (swp 2 0x3333333333333333 (swp 1 0x5555555555555555 x))))<2^64:=by
  generalize swp 8 0x00ff00ff00ff00ff (swp 4 0x0f0f0f0f0f0f0f0f (swp 2 0x3333333333333333 (swp 1 0x5555555555555555 x)))=y
  unfold swp
  have h1:=Nat.and_le_right (n:=y>>>16) (m:=0x0000ffff0000ffff)
  have h2:=Nat.and_le_right (n:=y) (m:=0x0000ffff0000ffff)
  refine Nat.or_lt_two_pow (by omega) ?_
  rw[Nat.shiftLeft_eq]
  omega
 omega
theorem rev64_revb {L i:Nat} (h0:0<L) (hL:L≤64):rev64 i>>>(64-L)=revb L i:=by
 apply Nat.eq_of_testBit_eq
 intro j
 rw[Nat.testBit_shiftRight]
 rcases Nat.lt_or_ge j L with h|h
 ·rw[rev64_bit (by omega),revb_bit L i j h]
  congr 1
  omega
 ·rw[Nat.testBit_lt_two_pow (Nat.lt_of_lt_of_le rev64_lt (Nat.pow_le_pow_right (by omega) (by omega))),Nat.testBit_lt_two_pow (Nat.lt_of_lt_of_le (revb_lt L i) (Nat.pow_le_pow_right (by omega) h))]
end
section
open Go
def c_conv_Mul:AC:= .seq (.reg [o 6 (.mv (.c (.sl none 0 0 none))),o 7 (.mv (.c (.bool false)))]) (.seq (.reg [mv 11 0,mv 12 1,mv 13 2,o 14 (.call 132 [.t 11, .t 12, .t 13]),mv 10 14,o 15 (.ext (.t 10) 0),o 16 (.ext (.t 10) 1),mv 8 15,mv 9 16]) (.seq (.seq (.reg [mv 17 9,o 18 (.un .not (.t 17))]) (.cond (.t 18) (.seq (.reg [o 6 (.mv (.c (.sl none 0 0 none))),o 7 (.mv (.c (.bool false)))]) .ret) .skip)) (.seq (.reg [mv 19 8,o 20 (.call 133 [.t 19]),mv 6 20,o 7 (.mv (.c (.bool true)))]) .ret)))
theorem in_conv_Mul:Ent 116 21 c_conv_Mul [.t 6, .t 7]:=ent Tryz.func116 rfl rfl rfl (show compile _ 21 _=_ by kernel_rfl) (show compRes _ 21 _=_ by kernel_rfl)
def c_conv_Words:AC:= .seq (.reg [o 4 (.box 36 (.t 1)),o 5 (.box 36 (.t 2)),o 6 (.mv (.c (.sl none 0 0 none))),o 7 (.mv (.c (.bool false)))]) (.seq (.seq (.reg [o 8 (.ld none (.t 4)),o 9 (.len false (.t 8)),o 10 (.ld none (.t 5)),o 11 (.len false (.t 10)),o 12 (.call 149 [.t 9, .t 11]),o 13 (.un .not (.t 12))]) (.cond (.t 13) (.seq (.reg [o 6 (.mv (.c (.sl none 0 0 none))),o 7 (.mv (.c (.bool false)))]) .ret) .skip)) (.seq (.reg [mv 14 0,o 15 (.ld none (.t 4)),o 16 (.len false (.t 15)),o 17 (.ld none (.t 5)),o 18 (.len false (.t 17)),bn 19 .add 16 18,o 20 (.bin .sub (.t 19) (i64 1)),o 21 (.ld none (.t 4)),o 22 (.len false (.t 21)),o 23 (.ld none (.t 5)),o 24 (.len false (.t 23)),bn 25 .add 22 24,o 26 (.mkf 151 [] [.t 4, .t 5]),o 27 (.call 150 [.t 14, .t 20, .t 25, .t 26]),o 28 (.ext (.t 27) 0),o 29 (.ext (.t 27) 1),mv 6 28,mv 7 29]) .ret))
theorem in_conv_Words:Ent 132 30 c_conv_Words [.t 6, .t 7]:=ent Tryz.func132 rfl rfl rfl (show compile _ 30 _=_ by kernel_rfl) (show compRes _ 30 _=_ by kernel_rfl)
def c_conv_Carry:AC:= .seq (.reg [o 2 (.mv (.c (.sl none 0 0 none)))]) (.seq (.reg [mv 9 0,o 10 (.len false (.t 9)),o 11 (.bin .add (.t 10) (i64 4)),o 12 (.mk 73 1 8 [.int .u64 0] (.t 11) (.t 11)),mv 3 12]) (.seq (.seq (.reg [mv 13 0,o 14 (.len false (.t 13)),o 15 (.mv (i64 0))]) (.block 0 (.loop (.seq (.reg [bn 16 .lss 15 14]) (.seq (.cond (.t 16) .skip (.exit 0)) (.seq (.block 1 (.seq (.reg [mv 17 15,o 18 (.idx 3 (.t 13) (.t 15)),o 19 (.ld (some 3) (.t 18)),o 5 (.alloc 223 [.int .u64 0, .int .u64 0, .int .u64 0]),mv 4 17,od (.st 3 (.t 5) (.t 19))]) (.seq (.reg [o 6 (.mv (u64 0))]) (.seq (.reg [o 7 (.mv (i64 0))]) (.block 2 (.loop (.seq (.seq (.reg [mv 20 7,o 21 (.bin .lss (.t 20) (i64 3)),mv 22 21,og 23 22 false (.mv (.t 6)),og 24 22 false (.bin .gtr (.t 23) (u64 0)),o 25 (.pick (.t 22) (.c (.bool true)) (.t 24))]) (.cond (.t 25) .skip (.exit 2))) (.seq (.block 3 (.seq (.reg [o 8 (.mv (u64 0))]) (.seq (.seq (.reg [mv 28 7,o 29 (.bin .lss (.t 28) (i64 3))]) (.cond (.t 29) (.reg [mv 30 7,o 31 (.idxA 3 1 (.t 5) (.t 30)),o 32 (.ld none (.t 31)),mv 8 32]) .skip)) (.reg [mv 34 3,mv 35 4,mv 36 7,bn 37 .add 35 36,mv 38 3,mv 39 4,mv 40 7,bn 41 .add 39 40,o 42 (.idx 1 (.t 38) (.t 41)),o 43 (.ld none (.t 42)),mv 44 8,mv 45 6,o 46 (.call 91 [.t 43, .t 44, .t 45]),mv 33 46,o 47 (.ext (.t 33) 0),o 48 (.ext (.t 33) 1),o 49 (.idx 1 (.t 34) (.t 37)),od (.st 1 (.t 49) (.t 47)),mv 6 48])))) (.reg [mv 26 7,o 27 (.bin .add (.t 26) (i64 1)),mv 7 27]))))))))) (.reg [o 50 (.bin .add (.t 15) (i64 1)),mv 15 50]))))))) (.seq (.reg [mv 51 3,o 52 (.call 63 [.t 51]),mv 2 52]) .ret)))
theorem in_conv_Carry:Ent 133 53 c_conv_Carry [.t 2]:=ent Tryz.func133 rfl rfl rfl (show compile _ 53 _=_ by kernel_rfl) (show compRes _ 53 _=_ by kernel_rfl)
def c_conv_may:AC:= .seq (.reg [o 4 (.mv (.c (.bool false)))]) (.seq (.reg [mv 5 0,o 6 (.bin .gtr (.t 5) (i64 0)),mv 7 6,og 8 7 true (.mv (.t 1)),og 9 7 true (.bin .gtr (.t 8) (i64 0)),o 10 (.pick (.t 7) (.t 9) (.c (.bool false))),mv 11 10,og 12 11 true (.mv (.t 0)),og 13 11 true (.bin .leq (.t 12) (i64 1048576)),o 14 (.pick (.t 11) (.t 13) (.c (.bool false))),mv 15 14,og 16 15 true (.mv (.t 1)),og 17 15 true (.mv (.t 0)),og 18 15 true (.bin .sub (i64 1048576) (.t 17)),og 19 15 true (.bin .leq (.t 16) (.t 18)),o 20 (.pick (.t 15) (.t 19) (.c (.bool false))),mv 4 20]) .ret)
theorem in_conv_may:Ent 149 21 c_conv_may [.t 4]:=ent Tryz.func149 rfl rfl rfl (show compile _ 21 _=_ by kernel_rfl) (show compRes _ 21 _=_ by kernel_rfl)
def c_conv_joined:AC:= .seq (.reg [o 8 (.mv (.c (.sl none 0 0 none))),o 9 (.mv (.c (.bool false)))]) (.seq (.reg [o 19 (.call 155 []),mv 10 19]) (.seq (.reg [o 11 (.alloc 228 [.sl none 0 0 none, .sl none 0 0 none, .sl none 0 0 none])]) (.seq (.seq (.reg [o 20 (.mv (i64 0))]) (.block 0 (.loop (.seq (.reg [o 21 (.bin .lss (.t 20) (i64 3))]) (.seq (.cond (.t 21) .skip (.exit 0)) (.seq (.block 1 (.seq (.reg [mv 22 20,mv 12 22]) (.seq (.reg [mv 24 0,mv 25 10,mv 26 12,o 27 (.nn (.t 25)),o 28 (.fld 0 (.t 27)),o 29 (.idxA 3 1 (.t 28) (.t 26)),o 30 (.ld none (.t 29)),mv 31 2,⟨some 32,none, .call 157 [.t 31],[(some 30,none, .ld none (.t 29))]⟩,o 33 (.call 156 [.t 24, .t 30, .t 32]),mv 23 33,o 34 (.ext (.t 23) 0),o 35 (.ext (.t 23) 1),mv 13 34,mv 14 35]) (.seq (.seq (.reg [mv 36 14,o 37 (.bin .neq (.t 36) (i64 0))]) (.cond (.t 37) (.seq (.reg [o 8 (.mv (.c (.sl none 0 0 none))),o 9 (.mv (.c (.bool false)))]) .ret) .skip)) (.seq (.reg [mv 39 3,mv 40 13,o 41 (.callV (.t 39) [.t 40]),mv 38 41,o 42 (.ext (.t 38) 0),o 43 (.ext (.t 38) 1),mv 15 42,mv 16 43]) (.seq (.seq (.reg [mv 44 16,o 45 (.un .not (.t 44))]) (.cond (.t 45) (.seq (.reg [o 8 (.mv (.c (.sl none 0 0 none))),o 9 (.mv (.c (.bool false)))]) .ret) .skip)) (.reg [mv 46 12,mv 47 15,o 48 (.idxA 3 1 (.t 11) (.t 46)),od (.st 1 (.t 48) (.t 47))]))))))) (.reg [o 49 (.bin .add (.t 20) (i64 1)),mv 20 49]))))))) (.seq (.reg [mv 50 0,mv 51 2,o 52 (.call 157 [.t 51]),o 53 (.cvI .u64 (.t 52)),o 54 (.bin .shl (i64 6) (.t 53)),o 55 (.call 101 [.t 50, .t 54])]) (.seq (.reg [mv 56 1,o 57 (.mk 223 3 24 [.int .u64 0, .int .u64 0, .int .u64 0] (.t 56) (.t 56)),mv 17 57]) (.seq (.seq (.reg [mv 58 17,o 59 (.len false (.t 58)),o 60 (.mv (i64 0))]) (.block 2 (.loop (.seq (.reg [bn 61 .lss 60 59]) (.seq (.cond (.t 61) .skip (.exit 2)) (.seq (.block 3 (.seq (.reg [mv 62 60,mv 18 62]) (.reg [mv 63 17,mv 64 18,mv 65 10,o 66 (.idxA 3 1 (.t 11) (i64 0)),o 67 (.ld none (.t 66)),mv 68 18,o 69 (.idx 1 (.t 67) (.t 68)),o 70 (.ld none (.t 69)),o 71 (.idxA 3 1 (.t 11) (i64 1)),o 72 (.ld none (.t 71)),mv 73 18,o 74 (.idx 1 (.t 72) (.t 73)),o 75 (.ld none (.t 74)),o 76 (.idxA 3 1 (.t 11) (i64 2)),o 77 (.ld none (.t 76)),mv 78 18,o 79 (.idx 1 (.t 77) (.t 78)),o 80 (.ld none (.t 79)),o 81 (.call 158 [.t 65, .t 70, .t 75, .t 80]),o 82 (.idx 3 (.t 63) (.t 64)),od (.st 3 (.t 82) (.t 81))]))) (.reg [o 83 (.bin .add (.t 60) (i64 1)),mv 60 83]))))))) (.seq (.reg [mv 84 17,mv 8 84,o 9 (.mv (.c (.bool true)))]) .ret)))))))
theorem in_conv_joined:Ent 150 85 c_conv_joined [.t 8, .t 9]:=ent Tryz.func150 rfl rfl rfl (show compile _ 85 _=_ by kernel_rfl) (show compRes _ 85 _=_ by kernel_rfl)
def c_conv_Words_1:AC:= .seq (.reg [o 4 (.mv (.c (.sl none 0 0 none))),o 5 (.mv (.c (.bool false)))]) (.seq (.reg [mv 6 0,o 7 (.ld none (.t 1)),o 8 (.ld none (.t 2)),o 9 (.call 152 [.t 6, .t 7, .t 8]),o 10 (.ext (.t 9) 0),o 11 (.ext (.t 9) 1),mv 4 10,mv 5 11]) .ret)
theorem in_conv_Words_1:Ent 151 12 c_conv_Words_1 [.t 4, .t 5]:=ent Tryz.func151 rfl rfl rfl (show compile _ 12 _=_ by kernel_rfl) (show compRes _ 12 _=_ by kernel_rfl)
def c_conv_begun:AC:= .seq (.reg [o 0 (.mv (.c (.ptr none)))]) (.seq (.reg [o 4 (.bld [.int .u64 0, .int .u64 0, .int .u64 0, .ptr none, .ptr none, .ptr none, .int .u64 0, .int .u64 0, .int .u64 0, .int .u64 0] []),o 5 (.box 234 (.t 4)),mv 1 5]) (.seq (.seq (.reg [o 6 (.call 162 []),o 7 (.mv (i64 0))]) (.block 0 (.loop (.seq (.reg [o 8 (.bin .lss (.t 7) (i64 3))]) (.seq (.cond (.t 8) .skip (.exit 0)) (.seq (.block 1 (.seq (.reg [mv 9 7,o 10 (.idxV (some 3) 3 3 (.t 6) (.t 7)),o 3 (.alloc 239 [.int .u64 0, .int .i64 0, .int .u64 0]),mv 2 9,od (.st 3 (.t 3) (.t 10))]) (.seq (.reg [mv 11 1,mv 12 2,o 13 (.fld 0 (.t 3)),o 14 (.ld none (.t 13)),o 15 (.nn (.t 11)),o 16 (.fld 0 (.t 15)),o 17 (.idxA 3 1 (.t 16) (.t 12)),od (.st 1 (.t 17) (.t 14))]) (.reg [mv 19 1,mv 20 2,o 21 (.fld 0 (.t 3)),o 22 (.ld none (.t 21)),o 26 (.nn (.t 19)),o 27 (.fld 3 (.t 26)),o 23 (.call 163 [.t 22]),mv 18 23,o 24 (.ext (.t 18) 0),o 25 (.ext (.t 18) 1),o 28 (.idxA 3 1 (.t 27) (.t 20)),od (.st 1 (.t 28) (.t 24))])))) (.reg [o 29 (.bin .add (.t 7) (i64 1)),mv 7 29]))))))) (.seq (.reg [mv 31 1,mv 32 1,o 33 (.nn (.t 32)),o 34 (.fld 3 (.t 33)),o 35 (.idxA 3 1 (.t 34) (i64 1)),o 36 (.ld none (.t 35)),mv 37 1,o 38 (.nn (.t 37)),o 39 (.fld 0 (.t 38)),o 40 (.idxA 3 1 (.t 39) (i64 0)),o 41 (.ld none (.t 40)),o 42 (.call 164 [.t 36, .t 41]),mv 30 42,o 43 (.ext (.t 30) 0),o 44 (.ext (.t 30) 1),o 45 (.nn (.t 31)),o 46 (.fld 6 (.t 45)),od (.st 1 (.t 46) (.t 43))]) (.seq (.reg [mv 48 1,mv 49 1,o 50 (.nn (.t 49)),o 51 (.fld 3 (.t 50)),o 52 (.idxA 3 1 (.t 51) (i64 2)),o 53 (.ld none (.t 52)),mv 54 1,o 55 (.nn (.t 54)),o 56 (.fld 3 (.t 55)),o 57 (.idxA 3 1 (.t 56) (i64 2)),o 58 (.ld none (.t 57)),mv 59 1,o 60 (.nn (.t 59)),o 61 (.fld 0 (.t 60)),o 62 (.idxA 3 1 (.t 61) (i64 0)),o 63 (.ld none (.t 62)),mv 64 1,o 65 (.nn (.t 64)),o 66 (.fld 0 (.t 65)),o 67 (.idxA 3 1 (.t 66) (i64 1)),o 68 (.ld none (.t 67)),⟨some 69,none, .call 165 [.t 58, .t 63, .t 68],[(some 53,none, .ld none (.t 52))]⟩,o 70 (.call 164 [.t 53, .t 69]),mv 47 70,o 71 (.ext (.t 47) 0),o 72 (.ext (.t 47) 1),o 73 (.nn (.t 48)),o 74 (.fld 7 (.t 73)),od (.st 1 (.t 74) (.t 71))]) (.seq (.reg [mv 76 1,mv 77 1,mv 78 1,o 79 (.nn (.t 78)),o 80 (.fld 0 (.t 79)),o 81 (.idxA 3 1 (.t 80) (i64 0)),o 82 (.ld none (.t 81)),mv 83 1,o 84 (.nn (.t 83)),o 85 (.fld 0 (.t 84)),o 86 (.idxA 3 1 (.t 85) (i64 1)),o 87 (.ld none (.t 86)),o 88 (.call 90 [.t 82, .t 87]),mv 75 88,o 89 (.ext (.t 75) 0),o 90 (.ext (.t 75) 1),o 91 (.nn (.t 76)),o 92 (.fld 8 (.t 91)),od (.st 1 (.t 92) (.t 89)),o 93 (.nn (.t 77)),o 94 (.fld 9 (.t 93)),od (.st 1 (.t 94) (.t 90))]) (.seq (.reg [mv 95 1,mv 0 95]) .ret))))))
theorem in_conv_begun:Ent 155 96 c_conv_begun [.t 0]:=ent Tryz.func155 rfl rfl rfl (show compile _ 96 _=_ by kernel_rfl) (show compRes _ 96 _=_ by kernel_rfl)
def c_conv_log:AC:= .seq (.reg [o 2 (.mv (i64 0))]) (.seq (.reg [mv 3 0,o 4 (.bin .sub (.t 3) (i64 1)),o 5 (.cvI .u64 (.t 4)),o 6 (.call 84 [.t 5]),mv 2 6]) .ret)
theorem in_conv_log:Ent 157 7 c_conv_log [.t 2]:=ent Tryz.func157 rfl rfl rfl (show compile _ 7 _=_ by kernel_rfl) (show compRes _ 7 _=_ by kernel_rfl)
def c_conv_crt_three:AC:= .seq (.reg [o 8 (.alloc 223 [.int .u64 0, .int .u64 0, .int .u64 0])]) (.seq (.reg [mv 22 0,o 23 (.nn (.t 22)),o 24 (.fld 3 (.t 23)),o 25 (.idxA 3 1 (.t 24) (i64 1)),o 26 (.ld none (.t 25)),mv 27 0,o 28 (.nn (.t 27)),o 29 (.fld 3 (.t 28)),o 30 (.idxA 3 1 (.t 29) (i64 1)),o 31 (.ld none (.t 30)),mv 32 2,mv 33 1,mv 35 0,o 36 (.nn (.t 35)),o 37 (.fld 6 (.t 36)),o 38 (.ld none (.t 37)),⟨some 34,none, .call 168 [.t 31, .t 32, .t 33],[(some 26,none, .ld none (.t 25)),(some 38,none, .ld none (.t 37))]⟩,o 39 (.call 165 [.t 26, .t 34, .t 38]),mv 9 39]) (.seq (.reg [mv 41 0,o 42 (.nn (.t 41)),o 43 (.fld 0 (.t 42)),o 44 (.idxA 3 1 (.t 43) (i64 0)),o 45 (.ld none (.t 44)),mv 46 9,o 47 (.call 90 [.t 45, .t 46]),mv 40 47,o 48 (.ext (.t 40) 0),o 49 (.ext (.t 40) 1),mv 10 48,mv 11 49]) (.seq (.reg [mv 51 11,mv 52 1,o 53 (.call 91 [.t 51, .t 52,u64 0]),mv 50 53,o 54 (.ext (.t 50) 0),o 55 (.ext (.t 50) 1),mv 11 54,mv 12 55]) (.seq (.reg [mv 56 10,mv 57 12,bn 58 .add 56 57,mv 10 58]) (.seq (.reg [mv 59 0,o 60 (.nn (.t 59)),o 61 (.fld 3 (.t 60)),o 62 (.idxA 3 1 (.t 61) (i64 2)),o 63 (.ld none (.t 62)),mv 64 0,o 65 (.nn (.t 64)),o 66 (.fld 3 (.t 65)),o 67 (.idxA 3 1 (.t 66) (i64 2)),o 68 (.ld none (.t 67)),mv 69 0,o 70 (.nn (.t 69)),o 71 (.fld 3 (.t 70)),o 72 (.idxA 3 1 (.t 71) (i64 2)),o 73 (.ld none (.t 72)),mv 74 10,mv 77 11,⟨some 75,none, .call 165 [.t 73, .t 74,u64 9223372036854775808],[(some 63,none, .ld none (.t 62)),(some 68,none, .ld none (.t 67))]⟩,⟨some 76,none, .call 165 [.t 68, .t 75,u64 2],[(some 63,none, .ld none (.t 62))]⟩,o 78 (.call 169 [.t 63, .t 76, .t 77]),mv 13 78]) (.seq (.reg [mv 79 0,o 80 (.nn (.t 79)),o 81 (.fld 3 (.t 80)),o 82 (.idxA 3 1 (.t 81) (i64 2)),o 83 (.ld none (.t 82)),mv 84 0,o 85 (.nn (.t 84)),o 86 (.fld 3 (.t 85)),o 87 (.idxA 3 1 (.t 86) (i64 2)),o 88 (.ld none (.t 87)),mv 89 3,mv 90 13,mv 92 0,o 93 (.nn (.t 92)),o 94 (.fld 7 (.t 93)),o 95 (.ld none (.t 94)),⟨some 91,none, .call 168 [.t 88, .t 89, .t 90],[(some 83,none, .ld none (.t 82)),(some 95,none, .ld none (.t 94))]⟩,o 96 (.call 165 [.t 83, .t 91, .t 95]),mv 14 96]) (.seq (.reg [mv 98 0,o 99 (.nn (.t 98)),o 100 (.fld 9 (.t 99)),o 101 (.ld none (.t 100)),mv 102 14,o 103 (.call 90 [.t 101, .t 102]),mv 97 103,o 104 (.ext (.t 97) 0),o 105 (.ext (.t 97) 1),mv 15 104,mv 16 105]) (.seq (.reg [mv 107 0,o 108 (.nn (.t 107)),o 109 (.fld 8 (.t 108)),o 110 (.ld none (.t 109)),mv 111 14,o 112 (.call 90 [.t 110, .t 111]),mv 106 112,o 113 (.ext (.t 106) 0),o 114 (.ext (.t 106) 1),mv 17 113,mv 18 114]) (.seq (.reg [o 19 (.alloc 223 [.int .u64 0, .int .u64 0, .int .u64 0])]) (.seq (.reg [mv 116 16,mv 117 11,o 118 (.call 91 [.t 116, .t 117,u64 0]),mv 115 118,o 119 (.ext (.t 115) 0),o 120 (.ext (.t 115) 1),o 121 (.idxA 3 1 (.t 19) (i64 0)),od (.st 1 (.t 121) (.t 119)),mv 12 120]) (.seq (.reg [mv 123 15,mv 124 18,o 125 (.call 91 [.t 123, .t 124,u64 0]),mv 122 125,o 126 (.ext (.t 122) 0),o 127 (.ext (.t 122) 1),mv 20 126,mv 21 127]) (.seq (.reg [mv 129 20,mv 130 10,mv 131 12,o 132 (.call 91 [.t 129, .t 130, .t 131]),mv 128 132,o 133 (.ext (.t 128) 0),o 134 (.ext (.t 128) 1),o 135 (.idxA 3 1 (.t 19) (i64 1)),od (.st 1 (.t 135) (.t 133)),mv 12 134]) (.seq (.reg [mv 136 17,mv 137 21,bn 138 .add 136 137,mv 139 12,bn 140 .add 138 139,o 141 (.idxA 3 1 (.t 19) (i64 2)),od (.st 1 (.t 141) (.t 140))]) (.seq (.reg [o 142 (.ld (some 3) (.t 19)),od (.st 3 (.t 8) (.t 142))]) .ret))))))))))))))
theorem in_conv_crt_three:Ent 158 143 c_conv_crt_three [.c 8 (some 3)]:=ent Tryz.func158 rfl rfl rfl (show compile _ 143 _=_ by kernel_rfl) (show compRes _ 143 _=_ by kernel_rfl)
def c_ntt_Plan_Conv:AC:= .seq (.reg [o 6 (.mv (.c (.sl none 0 0 none))),o 7 (.mv (.c (.bool false)))]) (.seq (.seq (.reg [mv 8 1,o 9 (.len false (.t 8)),o 10 (.bin .eql (.t 9) (i64 0)),mv 11 10,og 12 11 false (.mv (.t 2)),og 13 11 false (.len false (.t 12)),og 14 11 false (.bin .eql (.t 13) (i64 0)),o 15 (.pick (.t 11) (.c (.bool true)) (.t 14)),mv 16 15,og 17 16 false (.mv (.t 1)),og 18 16 false (.len false (.t 17)),og 19 16 false (.mv (.t 0)),og 20 16 false (.call 159 [.t 19]),og 21 16 false (.bin .gtr (.t 18) (.t 20)),o 22 (.pick (.t 16) (.c (.bool true)) (.t 21)),mv 23 22,og 24 23 false (.mv (.t 2)),og 25 23 false (.len false (.t 24)),og 26 23 false (.mv (.t 0)),og 27 23 false (.call 159 [.t 26]),og 28 23 false (.bin .add (.t 27) (i64 1)),og 29 23 false (.mv (.t 1)),og 30 23 false (.len false (.t 29)),og 31 23 false (.bin .sub (.t 28) (.t 30)),og 32 23 false (.bin .gtr (.t 25) (.t 31)),o 33 (.pick (.t 23) (.c (.bool true)) (.t 32))]) (.cond (.t 33) (.seq (.reg [o 6 (.mv (.c (.sl none 0 0 none))),o 7 (.mv (.c (.bool false)))]) .ret) .skip)) (.seq (.reg [mv 34 0,mv 35 1,mv 36 2,o 37 (.call 160 [.t 34, .t 35, .t 36]),mv 38 1,o 39 (.len false (.t 38)),mv 40 2,o 41 (.len false (.t 40)),bn 42 .add 39 41,o 43 (.bin .sub (.t 42) (i64 1)),o 44 (.slc 1 (.t 37) none (some (.t 43))),mv 6 44,o 7 (.mv (.c (.bool true)))]) .ret))
theorem in_ntt_Plan_Conv:Ent 152 45 c_ntt_Plan_Conv [.t 6, .t 7]:=ent Tryz.func152 rfl rfl rfl (show compile _ 45 _=_ by kernel_rfl) (show compRes _ 45 _=_ by kernel_rfl)
def c_ntt_New:AC:= .seq (.reg [o 6 (.mv (.c (.ptr none))),o 7 (.mv (i64 0))]) (.seq (.reg [mv 16 1,mv 17 2,o 18 (.call 166 [.t 16, .t 17]),mv 15 18,o 19 (.ext (.t 15) 0),o 20 (.ext (.t 15) 1),mv 8 19,mv 9 20]) (.seq (.seq (.reg [mv 21 9,o 22 (.bin .neq (.t 21) (i64 0))]) (.cond (.t 22) (.seq (.reg [mv 23 9,o 6 (.mv (.c (.ptr none))),mv 7 23]) .ret) .skip)) (.seq (.reg [mv 25 1,o 26 (.call 163 [.t 25]),mv 24 26,o 27 (.ext (.t 24) 0),o 28 (.ext (.t 24) 1),mv 10 27,mv 9 28]) (.seq (.seq (.reg [mv 29 9,o 30 (.bin .neq (.t 29) (i64 0))]) (.cond (.t 30) (.seq (.reg [mv 31 9,o 6 (.mv (.c (.ptr none))),mv 7 31]) .ret) .skip)) (.seq (.reg [mv 32 10,mv 33 0,mv 34 2,o 35 (.bld [.ptr none, .ptr none, .int .i64 0, .sl none 0 0 none, .sl none 0 0 none, .sl none 0 0 none, .sl none 0 0 none, .int .u64 0] [(0,1, .t 32),(1,1, .t 33),(2,1, .t 34)]),o 36 (.box 248 (.t 35)),mv 11 36]) (.seq (.reg [mv 37 2,o 38 (.cvI .u64 (.t 37)),o 39 (.bin .shl (u64 1) (.t 38)),mv 12 39]) (.seq (.reg [mv 41 11,mv 42 10,mv 43 12,o 44 (.call 164 [.t 42, .t 43]),mv 40 44,o 45 (.ext (.t 40) 0),o 46 (.ext (.t 40) 1),o 47 (.nn (.t 41)),o 48 (.fld 7 (.t 47)),od (.st 1 (.t 48) (.t 45))]) (.seq (.reg [mv 50 10,mv 51 8,o 52 (.call 164 [.t 50, .t 51]),mv 49 52,o 53 (.ext (.t 49) 0),o 54 (.ext (.t 49) 1),mv 13 53,mv 14 54]) (.seq (.reg [mv 56 11,mv 57 11,mv 58 10,mv 59 8,mv 60 12,o 61 (.bin .quo (.t 60) (u64 2)),o 62 (.cvI .i64 (.t 61)),o 63 (.call 167 [.t 58, .t 59, .t 62]),mv 55 63,o 64 (.ext (.t 55) 0),o 65 (.ext (.t 55) 1),o 66 (.nn (.t 56)),o 67 (.fld 3 (.t 66)),od (.st 1 (.t 67) (.t 64)),o 68 (.nn (.t 57)),o 69 (.fld 5 (.t 68)),od (.st 1 (.t 69) (.t 65))]) (.seq (.reg [mv 71 11,mv 72 11,mv 73 10,mv 74 13,mv 75 12,o 76 (.bin .quo (.t 75) (u64 2)),o 77 (.cvI .i64 (.t 76)),o 78 (.call 167 [.t 73, .t 74, .t 77]),mv 70 78,o 79 (.ext (.t 70) 0),o 80 (.ext (.t 70) 1),o 81 (.nn (.t 71)),o 82 (.fld 4 (.t 81)),od (.st 1 (.t 82) (.t 79)),o 83 (.nn (.t 72)),o 84 (.fld 6 (.t 83)),od (.st 1 (.t 84) (.t 80))]) (.seq (.reg [mv 85 11,mv 6 85,o 7 (.mv (i64 0))]) .ret)))))))))))
theorem in_ntt_New:Ent 156 86 c_ntt_New [.t 6, .t 7]:=ent Tryz.func156 rfl rfl rfl (show compile _ 86 _=_ by kernel_rfl) (show compRes _ 86 _=_ by kernel_rfl)
def c_ntt_Plan_Size:AC:= .seq (.reg [o 2 (.mv (i64 0))]) (.seq (.reg [mv 3 0,o 4 (.nn (.t 3)),o 5 (.fld 2 (.t 4)),o 6 (.ld none (.t 5)),o 7 (.cvI .u64 (.t 6)),o 8 (.bin .shl (i64 1) (.t 7)),mv 2 8]) .ret)
theorem in_ntt_Plan_Size:Ent 159 9 c_ntt_Plan_Size [.t 2]:=ent Tryz.func159 rfl rfl rfl (show compile _ 9 _=_ by kernel_rfl) (show compRes _ 9 _=_ by kernel_rfl)
def c_ntt_Plan_cyclic:AC:= .seq (.reg [o 6 (.mv (.c (.sl none 0 0 none)))]) (.seq (.reg [mv 10 0,mv 11 1,o 12 (.call 170 [.t 10, .t 11]),mv 13 0,mv 14 2,o 15 (.call 170 [.t 13, .t 14]),mv 7 12,mv 8 15]) (.seq (.seq (.reg [mv 16 7,o 17 (.len false (.t 16)),o 18 (.mv (i64 0))]) (.block 0 (.loop (.seq (.reg [bn 19 .lss 18 17]) (.seq (.cond (.t 19) .skip (.exit 0)) (.seq (.block 1 (.seq (.reg [mv 20 18,mv 9 20]) (.reg [mv 21 7,mv 22 9,mv 23 0,o 24 (.nn (.t 23)),o 25 (.fld 0 (.t 24)),o 26 (.ld none (.t 25)),mv 27 7,mv 28 9,o 29 (.idx 1 (.t 27) (.t 28)),o 30 (.ld none (.t 29)),mv 31 8,mv 32 9,o 33 (.idx 1 (.t 31) (.t 32)),o 34 (.ld none (.t 33)),o 35 (.call 165 [.t 26, .t 30, .t 34]),o 36 (.idx 1 (.t 21) (.t 22)),od (.st 1 (.t 36) (.t 35))]))) (.reg [o 37 (.bin .add (.t 18) (i64 1)),mv 18 37]))))))) (.seq (.reg [mv 38 0,o 39 (.nn (.t 38)),o 40 (.fld 1 (.t 39)),o 41 (.ld none (.t 40)),mv 42 7,o 43 (.len false (.t 42)),o 44 (.call 101 [.t 41, .t 43])]) (.seq (.reg [mv 45 0,mv 46 7,o 47 (.call 171 [.t 45, .t 46]),mv 6 47]) .ret))))
theorem in_ntt_Plan_cyclic:Ent 160 48 c_ntt_Plan_cyclic [.t 6]:=ent Tryz.func160 rfl rfl rfl (show compile _ 48 _=_ by kernel_rfl) (show compRes _ 48 _=_ by kernel_rfl)
def c_ntt_powers:AC:= .seq (.reg [o 6 (.mv (.c (.sl none 0 0 none))),o 7 (.mv (.c (.sl none 0 0 none)))]) (.seq (.regt [mv 12 2,mv 14 2] (.alt (o 13 (.mk 73 1 8 [.int .u64 0] (.t 12) (.t 12))) [mv 8 13] (.alt (o 15 (.mk 73 1 8 [.int .u64 0] (.t 14) (.t 14))) [mv 9 15] .fin .no) (.alt (o 15 (.mk 73 1 8 [.int .u64 0] (.t 14) (.t 14))) [] (.alt (o 13 (.mk 73 1 8 [.int .u64 0] (.t 12) (.t 12))) [mv 8 13,mv 9 15] .fin .no) .no))) (.seq (.reg [o 10 (.mv (u64 1))]) (.seq (.seq (.reg [mv 16 8,o 17 (.len false (.t 16)),o 18 (.mv (i64 0))]) (.block 0 (.loop (.seq (.reg [bn 19 .lss 18 17]) (.seq (.cond (.t 19) .skip (.exit 0)) (.seq (.block 1 (.seq (.reg [mv 20 18,mv 11 20]) (.seq (.reg [mv 21 8,mv 22 11,mv 23 10,o 24 (.idx 1 (.t 21) (.t 22)),od (.st 1 (.t 24) (.t 23))]) (.seq (.reg [mv 25 9,mv 26 11,mv 27 0,mv 28 10,o 29 (.call 176 [.t 27, .t 28]),o 30 (.idx 1 (.t 25) (.t 26)),od (.st 1 (.t 30) (.t 29))]) (.reg [mv 31 0,mv 32 10,mv 33 1,o 34 (.call 165 [.t 31, .t 32, .t 33]),mv 10 34]))))) (.reg [o 35 (.bin .add (.t 18) (i64 1)),mv 18 35]))))))) (.seq (.reg [mv 36 8,mv 37 9,mv 6 36,mv 7 37]) .ret))))
theorem in_ntt_powers:Ent 167 38 c_ntt_powers [.t 6, .t 7]:=ent Tryz.func167 rfl rfl rfl (show compile _ 38 _=_ by kernel_rfl) (show compRes _ 38 _=_ by kernel_rfl)
def c_ntt_Plan_forward:AC:= .seq (.reg [o 4 (.mv (.c (.sl none 0 0 none)))]) (.seq (.reg [mv 6 0,mv 7 1,o 8 (.call 178 [.t 6, .t 7]),mv 5 8]) (.seq (.reg [mv 9 0,mv 10 5,mv 11 0,o 12 (.nn (.t 11)),o 13 (.fld 3 (.t 12)),o 14 (.ld none (.t 13)),mv 15 0,o 16 (.nn (.t 15)),o 17 (.fld 5 (.t 16)),o 18 (.ld none (.t 17)),o 19 (.call 179 [.t 9, .t 10, .t 14, .t 18])]) (.seq (.reg [mv 20 5,mv 4 20]) .ret)))
theorem in_ntt_Plan_forward:Ent 170 21 c_ntt_Plan_forward [.t 4]:=ent Tryz.func170 rfl rfl rfl (show compile _ 21 _=_ by kernel_rfl) (show compRes _ 21 _=_ by kernel_rfl)
def c_ntt_Plan_inverse:AC:= .seq (.reg [o 4 (.mv (.c (.sl none 0 0 none)))]) (.seq (.reg [mv 8 0,mv 9 1,o 10 (.call 178 [.t 8, .t 9]),mv 5 10]) (.seq (.reg [mv 11 0,mv 12 5,mv 13 0,o 14 (.nn (.t 13)),o 15 (.fld 4 (.t 14)),o 16 (.ld none (.t 15)),mv 17 0,o 18 (.nn (.t 17)),o 19 (.fld 6 (.t 18)),o 20 (.ld none (.t 19)),o 21 (.call 179 [.t 11, .t 12, .t 16, .t 20])]) (.seq (.seq (.reg [mv 22 5,o 23 (.len false (.t 22)),o 24 (.mv (i64 0))]) (.block 0 (.loop (.seq (.reg [bn 25 .lss 24 23]) (.seq (.cond (.t 25) .skip (.exit 0)) (.seq (.block 1 (.seq (.reg [mv 26 24,o 27 (.idx 1 (.t 22) (.t 24)),o 28 (.ld none (.t 27)),mv 6 26,mv 7 28]) (.reg [mv 29 5,mv 30 6,mv 31 0,o 32 (.nn (.t 31)),o 33 (.fld 0 (.t 32)),o 34 (.ld none (.t 33)),mv 35 7,mv 36 0,o 37 (.nn (.t 36)),o 38 (.fld 7 (.t 37)),o 39 (.ld none (.t 38)),o 40 (.call 165 [.t 34, .t 35, .t 39]),o 41 (.idx 1 (.t 29) (.t 30)),od (.st 1 (.t 41) (.t 40))]))) (.reg [o 42 (.bin .add (.t 24) (i64 1)),mv 24 42]))))))) (.seq (.reg [mv 43 0,o 44 (.nn (.t 43)),o 45 (.fld 1 (.t 44)),o 46 (.ld none (.t 45)),mv 47 5,o 48 (.len false (.t 47)),o 49 (.call 101 [.t 46, .t 48])]) (.seq (.reg [mv 50 5,mv 4 50]) .ret)))))
theorem in_ntt_Plan_inverse:Ent 171 51 c_ntt_Plan_inverse [.t 4]:=ent Tryz.func171 rfl rfl rfl (show compile _ 51 _=_ by kernel_rfl) (show compRes _ 51 _=_ by kernel_rfl)
def c_ntt_Plan_turned:AC:= .seq (.reg [o 4 (.mv (.c (.sl none 0 0 none)))]) (.seq (.reg [mv 8 0,o 9 (.call 159 [.t 8]),o 10 (.mk 73 1 8 [.int .u64 0] (.t 9) (.t 9)),mv 5 10]) (.seq (.seq (.reg [mv 11 1,o 12 (.len false (.t 11)),o 13 (.mv (i64 0))]) (.block 0 (.loop (.seq (.reg [bn 14 .lss 13 12]) (.seq (.cond (.t 14) .skip (.exit 0)) (.seq (.block 1 (.seq (.reg [mv 15 13,o 16 (.idx 1 (.t 11) (.t 13)),o 17 (.ld none (.t 16)),mv 6 15,mv 7 17]) (.reg [mv 18 5,mv 19 6,o 20 (.cvI .u64 (.t 19)),mv 22 0,o 23 (.nn (.t 22)),o 24 (.fld 2 (.t 23)),o 25 (.ld none (.t 24)),o 26 (.bin .sub (i64 64) (.t 25)),o 27 (.cvI .u64 (.t 26)),mv 29 0,o 30 (.nn (.t 29)),o 31 (.fld 0 (.t 30)),o 32 (.ld none (.t 31)),mv 33 7,⟨some 21,none, .call 184 [.t 20],[(some 25,none, .ld none (.t 24)),(some 32,none, .ld none (.t 31))]⟩,bn 28 .shr 21 27,⟨some 34,none, .call 183 [.t 32, .t 33],[(some 25,none, .ld none (.t 24))]⟩,o 35 (.idx 1 (.t 18) (.t 28)),od (.st 1 (.t 35) (.t 34))]))) (.reg [o 36 (.bin .add (.t 13) (i64 1)),mv 13 36]))))))) (.seq (.reg [mv 37 5,mv 4 37]) .ret)))
theorem in_ntt_Plan_turned:Ent 178 38 c_ntt_Plan_turned [.t 4]:=ent Tryz.func178 rfl rfl rfl (show compile _ 38 _=_ by kernel_rfl) (show compRes _ 38 _=_ by kernel_rfl)
def c_ntt_Plan_transform:AC:= .seq (.reg [mv 16 0,o 17 (.nn (.t 16)),o 18 (.fld 0 (.t 17)),o 19 (.ld none (.t 18)),o 20 (.call 185 [.t 19]),mv 8 20]) (.seq (.seq (.reg [o 9 (.mv (i64 1))]) (.block 0 (.loop (.seq (.seq (.reg [mv 21 9,mv 22 1,o 23 (.len false (.t 22)),bn 24 .lss 21 23]) (.cond (.t 24) .skip (.exit 0))) (.seq (.block 1 (.seq (.reg [mv 27 1,o 28 (.len false (.t 27)),mv 29 9,o 30 (.bin .mul (i64 2) (.t 29)),bn 31 .quo 28 30,mv 10 31]) (.seq (.reg [o 11 (.mv (i64 0))]) (.block 2 (.loop (.seq (.seq (.reg [mv 32 11,mv 33 1,o 34 (.len false (.t 33)),bn 35 .lss 32 34]) (.cond (.t 35) .skip (.exit 2))) (.seq (.block 3 (.seq (.reg [o 12 (.mv (i64 0))]) (.block 4 (.loop (.seq (.seq (.reg [mv 40 12,mv 41 9,bn 42 .lss 40 41]) (.cond (.t 42) .skip (.exit 4))) (.seq (.block 5 (.seq (.reg [mv 45 1,mv 46 11,mv 47 12,bn 48 .add 46 47,o 49 (.idx 1 (.t 45) (.t 48)),o 50 (.ld none (.t 49)),mv 13 50]) (.seq (.reg [mv 51 0,o 52 (.nn (.t 51)),o 53 (.fld 0 (.t 52)),o 54 (.ld none (.t 53)),mv 55 1,mv 56 11,mv 57 9,bn 58 .add 56 57,mv 59 12,bn 60 .add 58 59,o 61 (.idx 1 (.t 55) (.t 60)),o 62 (.ld none (.t 61)),mv 63 2,mv 64 12,mv 65 10,bn 66 .mul 64 65,o 67 (.idx 1 (.t 63) (.t 66)),o 68 (.ld none (.t 67)),mv 69 3,mv 70 12,mv 71 10,bn 72 .mul 70 71,o 73 (.idx 1 (.t 69) (.t 72)),o 74 (.ld none (.t 73)),o 75 (.call 186 [.t 54, .t 62, .t 68, .t 74]),mv 14 75]) (.seq (.reg [mv 76 13,mv 77 14,bn 78 .add 76 77,mv 15 78]) (.seq (.seq (.reg [mv 79 15,mv 80 8,bn 81 .geq 79 80]) (.cond (.t 81) (.reg [mv 82 15,mv 83 8,bn 84 .sub 82 83,mv 15 84]) .skip)) (.seq (.reg [mv 85 1,mv 86 11,mv 87 12,bn 88 .add 86 87,mv 89 15,o 90 (.idx 1 (.t 85) (.t 88)),od (.st 1 (.t 90) (.t 89))]) (.seq (.seq (.reg [mv 91 13,mv 92 14,bn 93 .lss 91 92]) (.cond (.t 93) (.reg [mv 94 13,mv 95 8,bn 96 .add 94 95,mv 13 96]) .skip)) (.reg [mv 97 1,mv 98 11,mv 99 9,bn 100 .add 98 99,mv 101 12,bn 102 .add 100 101,mv 103 13,mv 104 14,bn 105 .sub 103 104,o 106 (.idx 1 (.t 97) (.t 102)),od (.st 1 (.t 106) (.t 105))])))))))) (.reg [mv 43 12,o 44 (.bin .add (.t 43) (i64 1)),mv 12 44]))))))) (.reg [mv 36 11,mv 37 9,o 38 (.bin .mul (i64 2) (.t 37)),bn 39 .add 36 38,mv 11 39])))))))) (.reg [mv 25 9,o 26 (.bin .mul (i64 2) (.t 25)),mv 9 26])))))) (.reg [mv 107 0,o 108 (.nn (.t 107)),o 109 (.fld 1 (.t 108)),o 110 (.ld none (.t 109)),mv 111 1,o 112 (.len false (.t 111)),o 113 (.bin .quo (.t 112) (i64 2)),mv 114 0,o 115 (.nn (.t 114)),o 116 (.fld 2 (.t 115)),o 117 (.ld none (.t 116)),bn 118 .mul 113 117,o 119 (.call 101 [.t 110, .t 118])]))
theorem in_ntt_Plan_transform:Ent 179 120 c_ntt_Plan_transform []:=ent Tryz.func179 rfl rfl rfl (show compile _ 120 _=_ by kernel_rfl) (show compRes _ 120 _=_ by kernel_rfl)
def c_modw_New:AC:= .seq (.reg [o 2 (.mv (.c (.ptr none))),o 3 (.mv (i64 0))]) (.seq (.seq (.reg [mv 6 0,o 7 (.bin .lss (.t 6) (u64 3)),mv 8 7,og 9 8 false (.mv (.t 0)),og 10 8 false (.bin .rem (.t 9) (u64 2)),og 11 8 false (.bin .eql (.t 10) (u64 0)),o 12 (.pick (.t 8) (.c (.bool true)) (.t 11)),mv 13 12,og 14 13 false (.mv (.t 0)),og 15 13 false (.bin .geq (.t 14) (u64 4611686018427387904)),o 16 (.pick (.t 13) (.c (.bool true)) (.t 15))]) (.cond (.t 16) (.seq (.reg [o 2 (.mv (.c (.ptr none))),o 3 (.mv (i64 3))]) .ret) .skip)) (.seq (.reg [mv 17 0,mv 4 17]) (.seq (.seq (.reg [o 18 (.mv (i64 0))]) (.block 0 (.loop (.seq (.reg [o 19 (.bin .lss (.t 18) (i64 6))]) (.seq (.cond (.t 19) .skip (.exit 0)) (.seq (.block 1 (.reg [mv 20 4,mv 21 0,mv 22 4,bn 23 .mul 21 22,o 24 (.bin .sub (u64 2) (.t 23)),bn 25 .mul 20 24,mv 4 25])) (.reg [o 26 (.bin .add (.t 18) (i64 1)),mv 18 26]))))))) (.seq (.reg [mv 27 0,mv 28 4,o 29 (.un .neg (.t 28)),o 30 (.bld [.int .u64 0, .int .u64 0, .int .u64 0, .int .u64 0] [(0,1, .t 27),(1,1, .t 29)]),o 31 (.box 253 (.t 30)),mv 5 31]) (.seq (.reg [mv 33 5,mv 34 0,o 35 (.call 89 [u64 1,u64 0, .t 34]),mv 32 35,o 36 (.ext (.t 32) 0),o 37 (.ext (.t 32) 1),o 38 (.nn (.t 33)),o 39 (.fld 2 (.t 38)),od (.st 1 (.t 39) (.t 37))]) (.seq (.reg [mv 40 5,mv 41 5,mv 42 5,o 43 (.nn (.t 42)),o 44 (.fld 2 (.t 43)),o 45 (.ld none (.t 44)),mv 46 5,o 47 (.nn (.t 46)),o 48 (.fld 2 (.t 47)),o 49 (.ld none (.t 48)),o 50 (.call 172 [.t 41, .t 45, .t 49]),o 51 (.nn (.t 40)),o 52 (.fld 3 (.t 51)),od (.st 1 (.t 52) (.t 50))]) (.seq (.reg [mv 53 5,mv 2 53,o 3 (.mv (i64 0))]) .ret)))))))
theorem in_modw_New:Ent 163 54 c_modw_New [.t 2, .t 3]:=ent Tryz.func163 rfl rfl rfl (show compile _ 54 _=_ by kernel_rfl) (show compRes _ 54 _=_ by kernel_rfl)
def c_modw_Mod_Inv:AC:= .seq (.reg [o 4 (.mv (u64 0)),o 5 (.mv (.c (.bool false)))]) (.seq (.reg [mv 11 0,o 12 (.nn (.t 11)),o 13 (.fld 0 (.t 12)),o 14 (.ld none (.t 13)),mv 15 1,mv 16 0,o 17 (.nn (.t 16)),o 18 (.fld 0 (.t 17)),o 19 (.ld none (.t 18)),bn 20 .rem 15 19,mv 6 14,mv 7 20]) (.seq (.reg [o 8 (.mv (u64 0)),o 9 (.mv (u64 1))]) (.seq (.block 0 (.loop (.seq (.seq (.reg [mv 21 7,o 22 (.bin .gtr (.t 21) (u64 0))]) (.cond (.t 22) .skip (.exit 0))) (.block 1 (.seq (.reg [mv 23 6,mv 24 7,bn 25 .quo 23 24,mv 10 25]) (.seq (.reg [mv 26 7,mv 27 6,mv 28 10,mv 29 7,bn 30 .mul 28 29,bn 31 .sub 27 30,mv 6 26,mv 7 31]) (.reg [mv 32 9,mv 33 0,mv 34 8,mv 35 0,mv 36 10,mv 37 0,o 38 (.nn (.t 37)),o 39 (.fld 0 (.t 38)),o 40 (.ld none (.t 39)),bn 41 .rem 36 40,mv 42 9,o 43 (.call 172 [.t 35, .t 41, .t 42]),o 44 (.call 173 [.t 33, .t 34, .t 43]),mv 8 32,mv 9 44]))))))) (.seq (.seq (.reg [mv 45 6,o 46 (.bin .neq (.t 45) (u64 1))]) (.cond (.t 46) (.seq (.reg [o 4 (.mv (u64 0)),o 5 (.mv (.c (.bool false)))]) .ret) .skip)) (.seq (.reg [mv 47 8,mv 4 47,o 5 (.mv (.c (.bool true)))]) .ret)))))
theorem in_modw_Mod_Inv:Ent 164 48 c_modw_Mod_Inv [.t 4, .t 5]:=ent Tryz.func164 rfl rfl rfl (show compile _ 48 _=_ by kernel_rfl) (show compRes _ 48 _=_ by kernel_rfl)
def c_modw_Mod_Mul:AC:= .seq (.reg [o 6 (.mv (u64 0))]) (.seq (.reg [mv 7 0,mv 8 1,mv 9 0,o 10 (.nn (.t 9)),o 11 (.fld 0 (.t 10)),o 12 (.ld none (.t 11)),bn 13 .rem 8 12,mv 14 2,mv 15 0,o 16 (.nn (.t 15)),o 17 (.fld 0 (.t 16)),o 18 (.ld none (.t 17)),bn 19 .rem 14 18,o 20 (.call 172 [.t 7, .t 13, .t 19]),mv 6 20]) .ret)
theorem in_modw_Mod_Mul:Ent 165 21 c_modw_Mod_Mul [.t 6]:=ent Tryz.func165 rfl rfl rfl (show compile _ 21 _=_ by kernel_rfl) (show compRes _ 21 _=_ by kernel_rfl)
def c_modw_Mod_Sub:AC:= .seq (.reg [o 6 (.mv (u64 0))]) (.seq (.reg [mv 7 0,mv 8 1,mv 9 0,o 10 (.nn (.t 9)),o 11 (.fld 0 (.t 10)),o 12 (.ld none (.t 11)),bn 13 .rem 8 12,mv 14 2,mv 15 0,o 16 (.nn (.t 15)),o 17 (.fld 0 (.t 16)),o 18 (.ld none (.t 17)),bn 19 .rem 14 18,o 20 (.call 173 [.t 7, .t 13, .t 19]),mv 6 20]) .ret)
theorem in_modw_Mod_Sub:Ent 168 21 c_modw_Mod_Sub [.t 6]:=ent Tryz.func168 rfl rfl rfl (show compile _ 21 _=_ by kernel_rfl) (show compRes _ 21 _=_ by kernel_rfl)
def c_modw_Mod_Add:AC:= .seq (.reg [o 6 (.mv (u64 0))]) (.seq (.reg [mv 7 0,mv 8 1,mv 9 0,o 10 (.nn (.t 9)),o 11 (.fld 0 (.t 10)),o 12 (.ld none (.t 11)),bn 13 .rem 8 12,mv 14 2,mv 15 0,o 16 (.nn (.t 15)),o 17 (.fld 0 (.t 16)),o 18 (.ld none (.t 17)),bn 19 .rem 14 18,o 20 (.call 177 [.t 7, .t 13, .t 19]),mv 6 20]) .ret)
theorem in_modw_Mod_Add:Ent 169 21 c_modw_Mod_Add [.t 6]:=ent Tryz.func169 rfl rfl rfl (show compile _ 21 _=_ by kernel_rfl) (show compRes _ 21 _=_ by kernel_rfl)
def c_modw_Mod_mul:AC:= .seq (.reg [o 6 (.mv (u64 0))]) (.seq (.reg [mv 12 1,mv 13 2,o 14 (.call 90 [.t 12, .t 13]),mv 11 14,o 15 (.ext (.t 11) 0),o 16 (.ext (.t 11) 1),mv 7 15,mv 8 16]) (.seq (.reg [mv 18 7,mv 19 8,mv 20 0,o 21 (.nn (.t 20)),o 22 (.fld 0 (.t 21)),o 23 (.ld none (.t 22)),o 24 (.call 89 [.t 18, .t 19, .t 23]),mv 17 24,o 25 (.ext (.t 17) 0),o 26 (.ext (.t 17) 1),mv 9 25,mv 10 26]) (.seq (.reg [mv 27 10,mv 6 27]) .ret)))
theorem in_modw_Mod_mul:Ent 172 28 c_modw_Mod_mul [.t 6]:=ent Tryz.func172 rfl rfl rfl (show compile _ 28 _=_ by kernel_rfl) (show compRes _ 28 _=_ by kernel_rfl)
def c_modw_Mod_sub:AC:= .seq (.reg [o 6 (.mv (u64 0))]) (.seq (.seq (.reg [mv 7 1,mv 8 2,bn 9 .geq 7 8]) (.cond (.t 9) (.seq (.reg [mv 10 1,mv 11 2,bn 12 .sub 10 11,mv 6 12]) .ret) .skip)) (.seq (.reg [mv 13 1,mv 14 0,o 15 (.nn (.t 14)),o 16 (.fld 0 (.t 15)),o 17 (.ld none (.t 16)),bn 18 .add 13 17,mv 19 2,bn 20 .sub 18 19,mv 6 20]) .ret))
theorem in_modw_Mod_sub:Ent 173 21 c_modw_Mod_sub [.t 6]:=ent Tryz.func173 rfl rfl rfl (show compile _ 21 _=_ by kernel_rfl) (show compRes _ 21 _=_ by kernel_rfl)
def c_modw_Mod_Pow:AC:= .seq (.reg [o 6 (.mv (u64 0))]) (.seq (.reg [mv 9 0,mv 10 1,mv 11 0,o 12 (.nn (.t 11)),o 13 (.fld 0 (.t 12)),o 14 (.ld none (.t 13)),bn 15 .rem 10 14,mv 17 0,o 18 (.nn (.t 17)),o 19 (.fld 2 (.t 18)),o 20 (.ld none (.t 19)),⟨some 16,none, .call 181 [.t 9, .t 15],[(some 20,none, .ld none (.t 19))]⟩,mv 7 16,mv 8 20]) (.seq (.block 0 (.loop (.seq (.seq (.reg [mv 21 2,o 22 (.bin .gtr (.t 21) (u64 0))]) (.cond (.t 22) .skip (.exit 0))) (.block 1 (.seq (.seq (.reg [mv 23 2,o 24 (.bin .rem (.t 23) (u64 2)),o 25 (.bin .eql (.t 24) (u64 1))]) (.cond (.t 25) (.reg [mv 26 0,mv 27 8,mv 28 7,o 29 (.call 90 [.t 27, .t 28]),o 30 (.ext (.t 29) 0),o 31 (.ext (.t 29) 1),o 32 (.call 182 [.t 26, .t 30, .t 31]),mv 8 32]) .skip)) (.seq (.reg [mv 33 0,mv 34 7,mv 35 7,o 36 (.call 90 [.t 34, .t 35]),o 37 (.ext (.t 36) 0),o 38 (.ext (.t 36) 1),o 39 (.call 182 [.t 33, .t 37, .t 38]),mv 7 39]) (.reg [mv 40 2,o 41 (.bin .quo (.t 40) (u64 2)),mv 2 41]))))))) (.seq (.reg [mv 42 0,mv 43 8,o 44 (.call 182 [.t 42,u64 0, .t 43]),mv 6 44]) .ret)))
theorem in_modw_Mod_Pow:Ent 175 45 c_modw_Mod_Pow [.t 6]:=ent Tryz.func175 rfl rfl rfl (show compile _ 45 _=_ by kernel_rfl) (show compRes _ 45 _=_ by kernel_rfl)
def c_modw_Mod_Shoup:AC:= .seq (.reg [o 4 (.mv (u64 0))]) (.seq (.reg [mv 8 1,mv 9 0,o 10 (.nn (.t 9)),o 11 (.fld 0 (.t 10)),o 12 (.ld none (.t 11)),bn 13 .rem 8 12,mv 14 0,o 15 (.nn (.t 14)),o 16 (.fld 0 (.t 15)),o 17 (.ld none (.t 16)),o 18 (.call 89 [.t 13,u64 0, .t 17]),mv 7 18,o 19 (.ext (.t 7) 0),o 20 (.ext (.t 7) 1),mv 5 19,mv 6 20]) (.seq (.reg [mv 21 5,mv 4 21]) .ret))
theorem in_modw_Mod_Shoup:Ent 176 22 c_modw_Mod_Shoup [.t 4]:=ent Tryz.func176 rfl rfl rfl (show compile _ 22 _=_ by kernel_rfl) (show compRes _ 22 _=_ by kernel_rfl)
def c_modw_Mod_add:AC:= .seq (.reg [o 6 (.mv (u64 0))]) (.seq (.reg [mv 8 1,mv 9 2,bn 10 .add 8 9,mv 7 10]) (.seq (.seq (.reg [mv 11 7,mv 12 0,o 13 (.nn (.t 12)),o 14 (.fld 0 (.t 13)),o 15 (.ld none (.t 14)),bn 16 .geq 11 15]) (.cond (.t 16) (.reg [mv 17 7,mv 18 0,o 19 (.nn (.t 18)),o 20 (.fld 0 (.t 19)),o 21 (.ld none (.t 20)),bn 22 .sub 17 21,mv 7 22]) .skip)) (.seq (.reg [mv 23 7,mv 6 23]) .ret)))
theorem in_modw_Mod_add:Ent 177 24 c_modw_Mod_add [.t 6]:=ent Tryz.func177 rfl rfl rfl (show compile _ 24 _=_ by kernel_rfl) (show compRes _ 24 _=_ by kernel_rfl)
def c_modw_Mod_mont:AC:= .seq (.reg [o 4 (.mv (u64 0))]) (.seq (.reg [mv 5 0,mv 6 1,mv 7 0,o 8 (.nn (.t 7)),o 9 (.fld 3 (.t 8)),o 10 (.ld none (.t 9)),o 11 (.call 90 [.t 6, .t 10]),o 12 (.ext (.t 11) 0),o 13 (.ext (.t 11) 1),o 14 (.call 182 [.t 5, .t 12, .t 13]),mv 4 14]) .ret)
theorem in_modw_Mod_mont:Ent 181 15 c_modw_Mod_mont [.t 4]:=ent Tryz.func181 rfl rfl rfl (show compile _ 15 _=_ by kernel_rfl) (show compRes _ 15 _=_ by kernel_rfl)
def c_modw_Mod_redc:AC:= .seq (.reg [o 6 (.mv (u64 0))]) (.seq (.reg [mv 14 2,mv 15 0,o 16 (.nn (.t 15)),o 17 (.fld 1 (.t 16)),o 18 (.ld none (.t 17)),bn 19 .mul 14 18,mv 7 19]) (.seq (.reg [mv 21 7,mv 22 0,o 23 (.nn (.t 22)),o 24 (.fld 0 (.t 23)),o 25 (.ld none (.t 24)),o 26 (.call 90 [.t 21, .t 25]),mv 20 26,o 27 (.ext (.t 20) 0),o 28 (.ext (.t 20) 1),mv 8 27,mv 9 28]) (.seq (.reg [mv 30 2,mv 31 9,o 32 (.call 91 [.t 30, .t 31,u64 0]),mv 29 32,o 33 (.ext (.t 29) 0),o 34 (.ext (.t 29) 1),mv 10 33,mv 11 34]) (.seq (.reg [mv 36 1,mv 37 8,mv 38 11,o 39 (.call 91 [.t 36, .t 37, .t 38]),mv 35 39,o 40 (.ext (.t 35) 0),o 41 (.ext (.t 35) 1),mv 12 40,mv 13 41]) (.seq (.seq (.reg [mv 42 12,mv 43 0,o 44 (.nn (.t 43)),o 45 (.fld 0 (.t 44)),o 46 (.ld none (.t 45)),bn 47 .geq 42 46]) (.cond (.t 47) (.reg [mv 48 12,mv 49 0,o 50 (.nn (.t 49)),o 51 (.fld 0 (.t 50)),o 52 (.ld none (.t 51)),bn 53 .sub 48 52,mv 12 53]) .skip)) (.seq (.reg [mv 54 12,mv 6 54]) .ret))))))
theorem in_modw_Mod_redc:Ent 182 55 c_modw_Mod_redc [.t 6]:=ent Tryz.func182 rfl rfl rfl (show compile _ 55 _=_ by kernel_rfl) (show compRes _ 55 _=_ by kernel_rfl)
def c_modw_Mod_Red:AC:= .seq (.reg [o 4 (.mv (u64 0))]) (.seq (.reg [mv 5 1,mv 6 0,o 7 (.nn (.t 6)),o 8 (.fld 0 (.t 7)),o 9 (.ld none (.t 8)),bn 10 .rem 5 9,mv 4 10]) .ret)
theorem in_modw_Mod_Red:Ent 183 11 c_modw_Mod_Red [.t 4]:=ent Tryz.func183 rfl rfl rfl (show compile _ 11 _=_ by kernel_rfl) (show compRes _ 11 _=_ by kernel_rfl)
def c_modw_Mod_P:AC:= .seq (.reg [o 2 (.mv (u64 0))]) (.seq (.reg [mv 3 0,o 4 (.nn (.t 3)),o 5 (.fld 0 (.t 4)),o 6 (.ld none (.t 5)),mv 2 6]) .ret)
theorem in_modw_Mod_P:Ent 185 7 c_modw_Mod_P [.t 2]:=ent Tryz.func185 rfl rfl rfl (show compile _ 7 _=_ by kernel_rfl) (show compRes _ 7 _=_ by kernel_rfl)
def c_modw_Mod_ShoupMul:AC:= .seq (.reg [o 8 (.mv (u64 0))]) (.seq (.reg [mv 12 1,mv 13 0,o 14 (.nn (.t 13)),o 15 (.fld 0 (.t 14)),o 16 (.ld none (.t 15)),bn 17 .rem 12 16,mv 18 2,mv 19 0,o 20 (.nn (.t 19)),o 21 (.fld 0 (.t 20)),o 22 (.ld none (.t 21)),bn 23 .rem 18 22,mv 1 17,mv 2 23]) (.seq (.reg [mv 25 1,mv 26 3,o 27 (.call 90 [.t 25, .t 26]),mv 24 27,o 28 (.ext (.t 24) 0),o 29 (.ext (.t 24) 1),mv 9 28,mv 10 29]) (.seq (.reg [mv 30 1,mv 31 2,bn 32 .mul 30 31,mv 33 9,mv 34 0,o 35 (.nn (.t 34)),o 36 (.fld 0 (.t 35)),o 37 (.ld none (.t 36)),bn 38 .mul 33 37,bn 39 .sub 32 38,mv 11 39]) (.seq (.seq (.reg [mv 40 11,mv 41 0,o 42 (.nn (.t 41)),o 43 (.fld 0 (.t 42)),o 44 (.ld none (.t 43)),bn 45 .geq 40 44]) (.cond (.t 45) (.reg [mv 46 11,mv 47 0,o 48 (.nn (.t 47)),o 49 (.fld 0 (.t 48)),o 50 (.ld none (.t 49)),bn 51 .sub 46 50,mv 11 51]) .skip)) (.seq (.reg [mv 52 11,mv 53 0,o 54 (.nn (.t 53)),o 55 (.fld 0 (.t 54)),o 56 (.ld none (.t 55)),bn 57 .rem 52 56,mv 8 57]) .ret)))))
theorem in_modw_Mod_ShoupMul:Ent 186 58 c_modw_Mod_ShoupMul [.t 8]:=ent Tryz.func186 rfl rfl rfl (show compile _ 58 _=_ by kernel_rfl) (show compRes _ 58 _=_ by kernel_rfl)
def c_prime_Three:AC:= .seq (.reg [o 0 (.alloc 240 [.int .u64 0, .int .i64 0, .int .u64 0, .int .u64 0, .int .i64 0, .int .u64 0, .int .u64 0, .int .i64 0, .int .u64 0])]) (.seq (.reg [o 1 (.bld [.int .u64 0, .int .i64 0, .int .u64 0] [(0,1,u64 180143985094819841),(1,1,i64 55),(2,1,u64 6)]),o 2 (.bld [.int .u64 0, .int .i64 0, .int .u64 0] [(0,1,u64 1945555039024054273),(1,1,i64 56),(2,1,u64 5)]),o 3 (.bld [.int .u64 0, .int .i64 0, .int .u64 0] [(0,1,u64 4179340454199820289),(1,1,i64 57),(2,1,u64 3)]),o 4 (.bld [.int .u64 0, .int .i64 0, .int .u64 0, .int .u64 0, .int .i64 0, .int .u64 0, .int .u64 0, .int .i64 0, .int .u64 0] [(0,3, .t 1),(3,3, .t 2),(6,3, .t 3)]),od (.st 9 (.t 0) (.t 4))]) .ret)
theorem in_prime_Three:Ent 162 5 c_prime_Three [.c 0 (some 9)]:=ent Tryz.func162 rfl rfl rfl (show compile _ 5 _=_ by kernel_rfl) (show compRes _ 5 _=_ by kernel_rfl)
def c_prime_Root:AC:= .seq (.reg [o 4 (.mv (u64 0)),o 5 (.mv (i64 0))]) (.seq (.reg [mv 10 0,o 11 (.call 174 [.t 10]),mv 9 11,o 12 (.ext (.t 9) 0),o 13 (.ext (.t 9) 1),mv 6 12,mv 7 13]) (.seq (.seq (.reg [mv 14 7,o 15 (.bin .neq (.t 14) (i64 0))]) (.cond (.t 15) (.seq (.reg [mv 16 7,o 4 (.mv (u64 0)),mv 5 16]) .ret) .skip)) (.seq (.seq (.reg [mv 17 1,o 18 (.bin .lss (.t 17) (i64 0)),mv 19 18,og 20 19 false (.mv (.t 1)),og 21 19 false (.bin .gtr (.t 20) (i64 20)),o 22 (.pick (.t 19) (.c (.bool true)) (.t 21)),mv 23 22,og 24 23 false (.mv (.t 0)),og 25 23 false (.bin .sub (.t 24) (u64 1)),og 26 23 false (.mv (.t 1)),og 27 23 false (.cvI .u64 (.t 26)),og 28 23 false (.bin .shl (u64 1) (.t 27)),og 29 23 false (.bin .rem (.t 25) (.t 28)),og 30 23 false (.bin .neq (.t 29) (u64 0)),o 31 (.pick (.t 23) (.c (.bool true)) (.t 30))]) (.cond (.t 31) (.seq (.reg [o 4 (.mv (u64 0)),o 5 (.mv (i64 1))]) .ret) .skip)) (.seq (.seq (.reg [mv 32 1,o 33 (.bin .eql (.t 32) (i64 0))]) (.cond (.t 33) (.seq (.reg [o 4 (.mv (u64 1)),o 5 (.mv (i64 0))]) .ret) .skip)) (.seq (.reg [o 8 (.mv (u64 2))]) (.seq (.block 0 (.loop (.seq (.seq (.reg [mv 34 6,mv 35 8,mv 36 0,o 37 (.bin .sub (.t 36) (u64 1)),o 38 (.bin .quo (.t 37) (u64 2)),o 39 (.call 175 [.t 34, .t 35, .t 38]),mv 40 0,o 41 (.bin .sub (.t 40) (u64 1)),bn 42 .neq 39 41]) (.cond (.t 42) .skip (.exit 0))) (.block 1 (.reg [mv 43 8,o 44 (.bin .add (.t 43) (u64 1)),mv 8 44]))))) (.seq (.reg [mv 45 6,mv 46 8,mv 47 0,o 48 (.bin .sub (.t 47) (u64 1)),mv 49 1,o 50 (.cvI .u64 (.t 49)),bn 51 .shr 48 50,o 52 (.call 175 [.t 45, .t 46, .t 51]),mv 4 52,o 5 (.mv (i64 0))]) .ret)))))))
theorem in_prime_Root:Ent 166 53 c_prime_Root [.t 4, .t 5]:=ent Tryz.func166 rfl rfl rfl (show compile _ 53 _=_ by kernel_rfl) (show compRes _ 53 _=_ by kernel_rfl)
def c_prime_Mod:AC:= .seq (.reg [o 2 (.mv (.c (.ptr none))),o 3 (.mv (i64 0))]) (.seq (.seq (.reg [mv 4 0,o 5 (.bin .rem (.t 4) (u64 2)),o 6 (.bin .eql (.t 5) (u64 0)),mv 7 6,og 8 7 false (.mv (.t 0)),og 9 7 false (.bin .geq (.t 8) (u64 4611686018427387904)),o 10 (.pick (.t 7) (.c (.bool true)) (.t 9)),mv 11 10,og 12 11 false (.mv (.t 0)),og 13 11 false (.call 180 [.t 12]),og 14 11 false (.un .not (.t 13)),o 15 (.pick (.t 11) (.c (.bool true)) (.t 14))]) (.cond (.t 15) (.seq (.reg [o 2 (.mv (.c (.ptr none))),o 3 (.mv (i64 3))]) .ret) .skip)) (.seq (.reg [mv 16 0,o 17 (.call 163 [.t 16]),o 18 (.ext (.t 17) 0),o 19 (.ext (.t 17) 1),mv 2 18,mv 3 19]) .ret))
theorem in_prime_Mod:Ent 174 20 c_prime_Mod [.t 2, .t 3]:=ent Tryz.func174 rfl rfl rfl (show compile _ 20 _=_ by kernel_rfl) (show compRes _ 20 _=_ by kernel_rfl)
def c_prime_Is:AC:= .seq (.reg [o 2 (.mv (.c (.bool false)))]) (.seq (.seq (.reg [mv 10 0,o 11 (.bin .lss (.t 10) (u64 2))]) (.cond (.t 11) (.seq (.reg [o 2 (.mv (.c (.bool false)))]) .ret) .skip)) (.seq (.reg [o 12 (.bld [.int .u64 0, .int .u64 0, .int .u64 0, .int .u64 0, .int .u64 0, .int .u64 0, .int .u64 0, .int .u64 0, .int .u64 0, .int .u64 0, .int .u64 0, .int .u64 0] [(0,1,u64 2),(1,1,u64 3),(2,1,u64 5),(3,1,u64 7),(4,1,u64 11),(5,1,u64 13),(6,1,u64 17),(7,1,u64 19),(8,1,u64 23),(9,1,u64 29),(10,1,u64 31),(11,1,u64 37)]),o 3 (.alloc 259 [.int .u64 0, .int .u64 0, .int .u64 0, .int .u64 0, .int .u64 0, .int .u64 0, .int .u64 0, .int .u64 0, .int .u64 0, .int .u64 0, .int .u64 0, .int .u64 0]),od (.st 12 (.t 3) (.t 12))]) (.seq (.seq (.reg [o 13 (.ld (some 12) (.t 3)),o 14 (.mv (i64 0))]) (.block 0 (.loop (.seq (.reg [o 15 (.bin .lss (.t 14) (i64 12))]) (.seq (.cond (.t 15) .skip (.exit 0)) (.seq (.block 1 (.seq (.reg [o 16 (.idxV none 12 1 (.t 13) (.t 14)),mv 5 16]) (.seq (.reg [mv 17 0,mv 18 5,bn 19 .rem 17 18,o 20 (.bin .eql (.t 19) (u64 0))]) (.cond (.t 20) (.seq (.reg [mv 21 0,mv 22 5,bn 23 .eql 21 22,mv 2 23]) .ret) .skip)))) (.reg [o 24 (.bin .add (.t 14) (i64 1)),mv 14 24]))))))) (.seq (.reg [mv 25 0,o 26 (.bin .sub (.t 25) (u64 1)),o 27 (.call 187 [.t 26]),mv 6 27]) (.seq (.reg [mv 28 0,o 29 (.bin .sub (.t 28) (u64 1)),mv 30 6,o 31 (.cvI .u64 (.t 30)),bn 32 .shr 29 31,mv 7 32]) (.seq (.seq (.reg [o 33 (.ld (some 12) (.t 3)),o 34 (.mv (i64 0))]) (.block 2 (.loop (.seq (.reg [o 35 (.bin .lss (.t 34) (i64 12))]) (.seq (.cond (.t 35) .skip (.exit 2)) (.seq (.block 3 (.seq (.reg [o 36 (.idxV none 12 1 (.t 33) (.t 34)),mv 9 36]) (.seq (.reg [mv 37 9,mv 38 0,mv 39 7,mv 40 6,o 41 (.call 188 [.t 37, .t 38, .t 39, .t 40])]) (.cond (.t 41) (.seq (.reg [o 2 (.mv (.c (.bool false)))]) .ret) .skip)))) (.reg [o 42 (.bin .add (.t 34) (i64 1)),mv 34 42]))))))) (.seq (.reg [o 2 (.mv (.c (.bool true)))]) .ret)))))))
theorem in_prime_Is:Ent 180 43 c_prime_Is [.t 2]:=ent Tryz.func180 rfl rfl rfl (show compile _ 43 _=_ by kernel_rfl) (show compRes _ 43 _=_ by kernel_rfl)
def c_prime_witness:AC:= .seq (.reg [o 8 (.mv (.c (.bool false)))]) (.seq (.reg [mv 10 0,mv 11 1,bn 12 .rem 10 11,mv 13 2,mv 14 1,o 15 (.call 190 [.t 12, .t 13, .t 14]),mv 9 15]) (.seq (.seq (.reg [mv 16 9,o 17 (.bin .eql (.t 16) (u64 0)),mv 18 17,og 19 18 false (.mv (.t 9)),og 20 18 false (.bin .eql (.t 19) (u64 1)),o 21 (.pick (.t 18) (.c (.bool true)) (.t 20)),mv 22 21,og 23 22 false (.mv (.t 9)),og 24 22 false (.mv (.t 1)),og 25 22 false (.bin .sub (.t 24) (u64 1)),og 26 22 false (.bin .eql (.t 23) (.t 25)),o 27 (.pick (.t 22) (.c (.bool true)) (.t 26))]) (.cond (.t 27) (.seq (.reg [o 8 (.mv (.c (.bool false)))]) .ret) .skip)) (.seq (.seq (.reg [mv 28 3,o 29 (.bin .sub (.t 28) (i64 1)),o 30 (.mv (i64 0))]) (.block 0 (.loop (.seq (.reg [bn 31 .lss 30 29]) (.seq (.cond (.t 31) .skip (.exit 0)) (.seq (.block 1 (.seq (.reg [mv 32 9,mv 33 9,mv 34 1,o 35 (.call 191 [.t 32, .t 33, .t 34]),mv 9 35]) (.seq (.reg [mv 36 9,mv 37 1,o 38 (.bin .sub (.t 37) (u64 1)),bn 39 .eql 36 38]) (.cond (.t 39) (.seq (.reg [o 8 (.mv (.c (.bool false)))]) .ret) .skip)))) (.reg [o 40 (.bin .add (.t 30) (i64 1)),mv 30 40]))))))) (.seq (.reg [o 8 (.mv (.c (.bool true)))]) .ret))))
theorem in_prime_witness:Ent 188 41 c_prime_witness [.t 8]:=ent Tryz.func188 rfl rfl rfl (show compile _ 41 _=_ by kernel_rfl) (show compRes _ 41 _=_ by kernel_rfl)
def c_prime_pow:AC:= .seq (.reg [o 6 (.mv (u64 0))]) (.seq (.reg [mv 8 2,o 9 (.bin .rem (u64 1) (.t 8)),mv 7 9]) (.seq (.block 0 (.loop (.seq (.seq (.reg [mv 10 1,o 11 (.bin .gtr (.t 10) (u64 0))]) (.cond (.t 11) .skip (.exit 0))) (.block 1 (.seq (.seq (.reg [mv 12 1,o 13 (.bin .rem (.t 12) (u64 2)),o 14 (.bin .eql (.t 13) (u64 1))]) (.cond (.t 14) (.reg [mv 15 7,mv 16 0,mv 17 2,o 18 (.call 191 [.t 15, .t 16, .t 17]),mv 7 18]) .skip)) (.seq (.reg [mv 19 0,mv 20 0,mv 21 2,o 22 (.call 191 [.t 19, .t 20, .t 21]),mv 0 22]) (.reg [mv 23 1,o 24 (.bin .quo (.t 23) (u64 2)),mv 1 24]))))))) (.seq (.reg [mv 25 7,mv 6 25]) .ret)))
theorem in_prime_pow:Ent 190 26 c_prime_pow [.t 6]:=ent Tryz.func190 rfl rfl rfl (show compile _ 26 _=_ by kernel_rfl) (show compRes _ 26 _=_ by kernel_rfl)
def c_prime_mul:AC:= .seq (.reg [o 6 (.mv (u64 0))]) (.seq (.reg [mv 12 0,mv 13 1,o 14 (.call 90 [.t 12, .t 13]),mv 11 14,o 15 (.ext (.t 11) 0),o 16 (.ext (.t 11) 1),mv 7 15,mv 8 16]) (.seq (.reg [mv 18 7,mv 19 8,mv 20 2,o 21 (.call 89 [.t 18, .t 19, .t 20]),mv 17 21,o 22 (.ext (.t 17) 0),o 23 (.ext (.t 17) 1),mv 9 22,mv 10 23]) (.seq (.reg [mv 24 10,mv 6 24]) .ret)))
theorem in_prime_mul:Ent 191 25 c_prime_mul [.t 6]:=ent Tryz.func191 rfl rfl rfl (show compile _ 25 _=_ by kernel_rfl) (show compRes _ 25 _=_ by kernel_rfl)
end
section
def MW (h:H) (i p:Nat):Prop:=∃ng,h.rows i=some ⟨some 253,4,[.int .u64 (p:Int), .int .u64 (ng:Nat), .int .u64 (18446744073709551616%p:Nat), .int .u64 (18446744073709551616*18446744073709551616%p:Nat)]⟩∧ng<18446744073709551616∧(ng*p+1)%18446744073709551616=0∧3≤p∧p<4611686018427387904
theorem MW.mono {h h':H} {i p:Nat} (hm:MW h i p) (hl:h.le h'):MW h' i p:=by
 obtain⟨ng,h1,h2⟩:=hm
 exact⟨ng,hl.2 _ _ h1,h2⟩
theorem MW.monoE {u:Nat} {h h':H} {i p:Nat} (hm:MW h i p) (hne:i≠u) (hl:H.lee u h h'):MW h' i p:=by
 obtain⟨ng,h1,h2⟩:=hm
 exact⟨ng,hl.2 _ _ hne h1,h2⟩
theorem MW.p0 {h:H} {i p:Nat} (hm:MW h i p):3≤p∧p<4611686018427387904:=by
 obtain⟨ng,h1,h2,h3,h4⟩:=hm
 exact h4
theorem MW.pos {h:H} {i p:Nat} (hm:MW h i p):0<p:=by have:=hm.p0;omega
theorem MW.ltB {h:H} {i p:Nat} (hm:MW h i p):p<18446744073709551616:=by have:=hm.p0;omega
theorem MW.get {h:H} {i p:Nat} (hm:MW h i p):h.get i 0=some (.int .u64 (p:Int))∧h.get i 2=some (.int .u64 (18446744073709551616%p:Nat))∧h.get i 3=some (.int .u64 (18446744073709551616*18446744073709551616%p:Nat)):=by
 obtain⟨ng,h1,_⟩:=hm
 rw[H.get_of h1,H.get_of h1,H.get_of h1]
 exact⟨rfl,rfl,rfl⟩
section
variable {p i a b:Nat} {h:H} {K:AV→H→Prop}
theorem mP_calls (hm:MW h i p) (hk:K (.int .u64 (p:Int)) h):ACalls Tryz.prog 185 [.ptr (some (i,0))] h K:=by
 refine in_modw_Mod_P (by simp) fun hw=> ?_
 unfold c_modw_Mod_P
 simp only[go_sem,hm.get.1]
 exact fun _=>hk
theorem mRed_calls (hm:MW h i p) (hk:K (.int .u64 (a%p:Nat)) h):ACalls Tryz.prog 183 [.ptr (some (i,0)), .int .u64 (a:Int)] h K:=by
 refine in_modw_Mod_Red (by simp) fun hw=> ?_
 unfold c_modw_Mod_Red
 have:=hm.p0
 simp only[go_sem,hm.get.1,tmodN]
 exact⟨by omega,fun _=>hk⟩
theorem madd_calls (hm:MW h i p) (ha:a<p) (hb:b<p) (hk:K (.int .u64 ((a+b)%p:Nat)) h):ACalls Tryz.prog 177 [.ptr (some (i,0)), .int .u64 (a:Int), .int .u64 (b:Int)] h K:=by
 refine in_modw_Mod_add (by simp) fun hw=> ?_
 unfold c_modw_Mod_add
 have:=hm.p0
 have e:=addU (a:=a) (b:=b) (by omega)
 rcases Nat.lt_or_ge (a+b) p with h1|h1
 ·rw[Nat.mod_eq_of_lt h1] at hk
  simp only[go_sem,hm.get.1,e,leF h1]
  exact fun _=>hk
 ·have e2:(a+b)%p=a+b-p:=by rw[Nat.mod_eq_sub_mod h1,Nat.mod_eq_of_lt (by omega)]
  rw[e2] at hk
  simp only[go_sem,hm.get.1,e,leT h1,subN h1 (by omega)]
  exact fun _=>hk
theorem msub_calls (hm:MW h i p) (ha:a<p) (hb:b<p) (hk:K (.int .u64 ((a+p-b)%p:Nat)) h):ACalls Tryz.prog 173 [.ptr (some (i,0)), .int .u64 (a:Int), .int .u64 (b:Int)] h K:=by
 refine in_modw_Mod_sub (by simp) fun hw=> ?_
 unfold c_modw_Mod_sub
 have:=hm.p0
 rcases Nat.lt_or_ge a b with h1|h1
 ·rw[Nat.mod_eq_of_lt (by omega)] at hk
  simp only[go_sem,hm.get.1,leF h1,addU (a:=a) (b:=p) (by omega),subN (a:=a+p) (b:=b) (by omega) (by omega)]
  exact fun _=>hk
 ·have e2:(a+p-b)%p=a-b:=by rw[show a+p-b=(a-b)+p by omega,Nat.add_mod_right,Nat.mod_eq_of_lt (by omega)]
  rw[e2] at hk
  simp only[go_sem,leT h1,subN h1 (by omega)]
  exact fun _=>hk
theorem mmul0_calls (hg:h.get i 0=some (.int .u64 (p:Int))) (hp:0<p∧p<18446744073709551616) (ha:a<p) (hb:b<18446744073709551616) (hk:K (.int .u64 (a*b%p:Nat)) h):ACalls Tryz.prog 172 [.ptr (some (i,0)), .int .u64 (a:Int), .int .u64 (b:Int)] h K:=by
 refine in_modw_Mod_mul (by simp) fun hw=> ?_
 unfold c_modw_Mod_mul
 simp only[go_sem]
 refine Mul64_calls (by omega) hb ?_
 simp only[go_sem,hg]
 have hlt:a*b/18446744073709551616<p:=by
  rw[Nat.div_lt_iff_lt_mul (by omega)]
  exact Nat.mul_lt_mul_of_lt_of_le ha (Nat.le_of_lt hb) (by omega)
 have e:a*b/18446744073709551616*18446744073709551616+a*b%18446744073709551616=a*b:=by omega
 refine Div64_calls hlt (Nat.mod_lt _ (by omega)) (by omega) ?_
 rw[e]
 simp only[go_sem]
 exact fun _=>hk
theorem mmul_calls (hm:MW h i p) (ha:a<p) (hb:b<18446744073709551616) (hk:K (.int .u64 (a*b%p:Nat)) h):ACalls Tryz.prog 172 [.ptr (some (i,0)), .int .u64 (a:Int), .int .u64 (b:Int)] h K:=
 mmul0_calls hm.get.1 ⟨hm.pos,hm.ltB⟩ ha hb hk
theorem mAdd_calls (hm:MW h i p) (hk:K (.int .u64 ((a+b)%p:Nat)) h):ACalls Tryz.prog 169 [.ptr (some (i,0)), .int .u64 (a:Int), .int .u64 (b:Int)] h K:=by
 refine in_modw_Mod_Add (by simp) fun hw=> ?_
 unfold c_modw_Mod_Add
 have:=hm.p0
 simp only[go_sem,hm.get.1,tmodN]
 refine⟨by omega,by omega, ?_⟩
 refine madd_calls hm (Nat.mod_lt _ (by omega)) (Nat.mod_lt _ (by omega)) ?_
 rw[←Nat.add_mod]
 simp only[go_sem]
 exact fun _=>hk
theorem mSub_calls (hm:MW h i p) (hk:K (.int .u64 ((a%p+p-b%p)%p:Nat)) h):ACalls Tryz.prog 168 [.ptr (some (i,0)), .int .u64 (a:Int), .int .u64 (b:Int)] h K:=by
 refine in_modw_Mod_Sub (by simp) fun hw=> ?_
 unfold c_modw_Mod_Sub
 have:=hm.p0
 simp only[go_sem,hm.get.1,tmodN]
 refine⟨by omega,by omega, ?_⟩
 refine msub_calls hm (Nat.mod_lt _ (by omega)) (Nat.mod_lt _ (by omega)) ?_
 simp only[go_sem]
 exact fun _=>hk
theorem mMul_calls (hm:MW h i p) (hk:K (.int .u64 (a*b%p:Nat)) h):ACalls Tryz.prog 165 [.ptr (some (i,0)), .int .u64 (a:Int), .int .u64 (b:Int)] h K:=by
 refine in_modw_Mod_Mul (by simp) fun hw=> ?_
 unfold c_modw_Mod_Mul
 have:=hm.p0
 simp only[go_sem,hm.get.1,tmodN]
 refine⟨by omega,by omega, ?_⟩
 have hb:=Nat.mod_lt b (show 0<p by omega)
 refine mmul_calls hm (Nat.mod_lt _ (by omega)) (by omega) ?_
 rw[←Nat.mul_mod]
 simp only[go_sem]
 exact fun _=>hk
theorem redc_math {p ng hi lo:Nat} (hn:(ng*p+1)%18446744073709551616=0):(lo+lo*ng%18446744073709551616*p%18446744073709551616)%18446744073709551616=0:=by
 have e:(lo+lo*ng%18446744073709551616*p%18446744073709551616)%18446744073709551616=(lo*(ng*p+1))%18446744073709551616:=by
  rw[Nat.add_mod,Nat.mod_mod,Nat.mod_mul_mod,←Nat.add_mod,Nat.mul_add,Nat.mul_one,Nat.add_comm,Nat.mul_assoc]
 rw[e,Nat.mul_mod,hn,Nat.mul_zero,Nat.zero_mod]
theorem redc_calls {hi lo:Nat} (hm:MW h i p) (hhi:hi<p) (hlo:lo<18446744073709551616) (hk:∀r,r<p→(r*18446744073709551616)%p=(hi*18446744073709551616+lo)%p→K (.int .u64 (r:Nat)) h):ACalls Tryz.prog 182 [.ptr (some (i,0)), .int .u64 (hi:Int), .int .u64 (lo:Int)] h K:=by
 refine in_modw_Mod_redc (by simp) fun hw=> ?_
 unfold c_modw_Mod_redc
 have hp:=hm.p0
 have g0:=hm.get.1
 obtain⟨ng,hr,hng,hz,_⟩:=hm
 have g1:h.get i 1=some (.int .u64 (ng:Nat)):=by rw[H.get_of hr];rfl
 have e1:IntKind.u64.wrap ((lo:Int)*(ng:Int))=((lo*ng%18446744073709551616:Nat):Int):=by rw[wUm,←Int.natCast_mul];omega
 simp only[go_sem,g0,g1,e1]
 have hq:lo*ng%18446744073709551616<18446744073709551616:=Nat.mod_lt _ (by omega)
 have hz2:=redc_math (hi:=hi) (lo:=lo) hz
 generalize lo*ng%18446744073709551616=q at*
 refine Mul64_calls hq (by omega) ?_
 simp only[go_sem]
 refine Add64_calls (c:=0) hlo (Nat.mod_lt _ (by omega)) (by omega) ?_
 have hqp:q*p/18446744073709551616<p:=by
  rw[Nat.div_lt_iff_lt_mul (by omega),Nat.mul_comm]
  exact Nat.mul_lt_mul_of_pos_left hq (by omega)
 have hqe:q*p=18446744073709551616*(q*p/18446744073709551616)+q*p%18446744073709551616:=(Nat.div_add_mod _ _).symm
 generalize q*p/18446744073709551616=hh at*
 have hll:q*p%18446744073709551616<18446744073709551616:=Nat.mod_lt _ (by omega)
 generalize q*p%18446744073709551616=ll at*
 obtain⟨c,hc,hc1⟩:∃c,lo+ll=c*18446744073709551616∧c≤1:=⟨(lo+ll)/18446744073709551616,by omega,by omega⟩
 have ec:(lo+ll+0)/18446744073709551616=c:=by omega
 rw[ec]
 simp only[go_sem]
 refine Add64_calls (c:=c) (by omega) (by omega) hc1 ?_
 have es:(hi+hh+c)%18446744073709551616=hi+hh+c:=Nat.mod_eq_of_lt (by omega)
 have key:(hi+hh+c)*18446744073709551616=hi*18446744073709551616+lo+p*q:=by rw[Nat.mul_comm p q,hqe];omega
 rw[es]
 rcases Nat.lt_or_ge (hi+hh+c) p with h1|h1
 ·simp only[go_sem,g0,leF h1]
  refine fun _=>hk _ h1 ?_
  rw[key,Nat.add_mul_mod_self_left]
 ·simp only[go_sem,g0,leT h1,subN h1 (by omega)]
  refine fun _=>hk _ (by omega) ?_
  have e2:hi*18446744073709551616+lo+p*q=(hi+hh+c-p)*18446744073709551616+p*18446744073709551616:=by rw[←key,←Nat.add_mul];congr 1;omega
  rw[←Nat.add_mul_mod_self_left (hi*18446744073709551616+lo) p q,e2,Nat.add_mul_mod_self_left]
end
end
section
theorem MW.binv {h:H} {i p:Nat} (hm:MW h i p):∃j,(18446744073709551616*j)%p=1%p:=by
 obtain⟨ng,hr,hng,hz,h3,_⟩:=hm
 obtain⟨j,hj⟩:=Nat.dvd_of_mod_eq_zero hz
 exact⟨j,by rw[←hj,Nat.add_comm,Nat.add_mul_mod_self_right]⟩
theorem cancelB {p j x y:Nat} (hj:(18446744073709551616*j)%p=1%p) (h:(x*18446744073709551616)%p=(y*18446744073709551616)%p):x%p=y%p:=by
 have e:∀z,(z*18446744073709551616*j)%p=z%p:=fun z=>by
  rw[Nat.mul_assoc,Nat.mul_mod,hj,←Nat.mul_mod,Nat.mul_one]
 rw[←e x,←e y,Nat.mul_mod,h,←Nat.mul_mod]
section
variable {p i a b:Nat} {h:H} {K:AV→H→Prop}
theorem mont_calls (hm:MW h i p) (ha:a<p) (hk:K (.int .u64 (a*18446744073709551616%p:Nat)) h):ACalls Tryz.prog 181 [.ptr (some (i,0)), .int .u64 (a:Int)] h K:=by
 refine in_modw_Mod_mont (by simp) fun hw=> ?_
 unfold c_modw_Mod_mont
 obtain⟨j,hj⟩:=hm.binv
 have hb:18446744073709551616*18446744073709551616%p<p:=Nat.mod_lt _ hm.pos
 simp only[go_sem,hm.get.2.2]
 refine Mul64_calls (Nat.lt_trans ha hm.ltB) (Nat.lt_trans hb hm.ltB) ?_
 simp only[go_sem]
 have hlt:a*(18446744073709551616*18446744073709551616%p)/18446744073709551616<p:=by
  rw[Nat.div_lt_iff_lt_mul (by decide)]
  exact Nat.mul_lt_mul_of_lt_of_le ha (Nat.le_of_lt (Nat.lt_trans hb hm.ltB)) (by decide)
 refine redc_calls hm hlt (Nat.mod_lt _ (by decide)) fun r hr he=> ?_
 rw[Nat.div_add_mod',Nat.mul_mod_mod] at he
 have e2:r=a*18446744073709551616%p:=by
  have:=cancelB hj (x:=r) (y:=a*18446744073709551616) (by rw[he,Nat.mul_assoc])
  rw[Nat.mod_eq_of_lt hr] at this
  exact this
 rw[←e2] at hk
 simp only[go_sem]
 exact fun _=>hk
theorem mont_mul {p j r x y X Y:Nat} (hj:(18446744073709551616*j)%p=1%p) (hr:r<p) (hx:x=X*18446744073709551616%p) (hy:y=Y*18446744073709551616%p) (he:(r*18446744073709551616)%p=(x*y)%p):r=X*Y*18446744073709551616%p:=by
 have:=cancelB hj (x:=r) (y:=X*Y*18446744073709551616) (by
  rw[he,hx,hy,←Nat.mul_mod,show X*18446744073709551616*(Y*18446744073709551616)=X*Y*18446744073709551616*18446744073709551616 by ac_rfl])
 rw[Nat.mod_eq_of_lt hr] at this
 exact this
theorem mPow_calls {n:Nat} (hm:MW h i p) (hn:n<18446744073709551616) (hk:K (.int .u64 (a^n%p:Nat)) h):ACalls Tryz.prog 175 [.ptr (some (i,0)), .int .u64 (a:Int), .int .u64 (n:Int)] h K:=by
 refine in_modw_Mod_Pow (by simp) fun hw=> ?_
 unfold c_modw_Mod_Pow
 have hp:=hm.p0
 obtain⟨j,hj⟩:=hm.binv
 simp only[go_sem,hm.get.1,hm.get.2.1,tmodN]
 refine⟨by omega, ?_⟩
 refine mont_calls hm (Nat.mod_lt _ (by omega)) ?_
 simp only[go_sem,hm.get.2.1,true_and]
 refine⟨fun k ρ h'=>h'=h∧ρ 0= .ptr (some (i,0))∧ρ 2= .int .u64 (k:Int)∧k<18446744073709551616∧∃X O:Nat,ρ 7= .int .u64 (X*18446744073709551616%p:Nat)∧ρ 8= .int .u64 (O*18446744073709551616%p:Nat)∧(O*X^k)%p=a^n%p,n,⟨rfl,rfl,rfl,hn,a%p,1,rfl,by rw[Nat.one_mul];rfl,by rw[Nat.one_mul,←Nat.pow_mod]⟩, ?_⟩
 rintro k ρ h' ⟨rfl,q0,q2,hkB,X,O,q7,q8,hv⟩
 have hxp:X*18446744073709551616%p<p:=Nat.mod_lt _ hm.pos
 have hop:O*18446744073709551616%p<p:=Nat.mod_lt _ hm.pos
 rcases Nat.eq_zero_or_pos k with rfl|hpos
 ·simp only[go_sem,q0,q2,q7,q8,show decide ((0:Int)<((0:Nat):Int))=false from rfl]
  refine redc_calls (hi:=0) hm hm.pos (Nat.lt_trans hop hm.ltB) fun r hr he=> ?_
  have e:r=a^n%p:=by
   have:=cancelB hj (x:=r) (y:=O) (by rw[he,Nat.zero_mul,Nat.zero_add,Nat.mod_mod])
   rw[Nat.mod_eq_of_lt hr,←Nat.mul_one O,←Nat.pow_zero X,hv] at this
   exact this
  rw[e]
  simp only[go_sem]
  exact fun _=>hk
 ·have hc:decide ((0:Int)<(k:Int))=true:=decide_eq_true (by omega)
  have hprod:∀{y z:Nat},y<p→z<p→y*z/18446744073709551616<p:=fun hy hz=>by
   rw[Nat.div_lt_iff_lt_mul (by decide)]
   exact Nat.mul_lt_mul_of_lt_of_le hy (Nat.le_of_lt (Nat.lt_trans hz hm.ltB)) (by decide)
  have hsp:∀y:Nat,y/18446744073709551616*18446744073709551616+y%18446744073709551616=y:=fun y=>Nat.div_add_mod' _ _
  have e2:((k:Int)).tmod 2=((k%2:Nat):Int):=tmodN (b:=2)
  have e3:IntKind.u64.wrap ((k:Int).tdiv 2)=((k/2:Nat):Int):=by
   have e:((k:Int)).tdiv 2=((k/2:Nat):Int):=tdivN (b:=2)
   rw[e,wU]<;>omega
  have hpow:∀Y:Nat,Y^k=Y^(k%2)*(Y*Y)^(k/2):=fun Y=>by
   rw[←Nat.pow_two,←Nat.pow_mul,←Nat.pow_add];congr 1;omega
  simp only[go_sem,q0,q2,q7,q8,hc,e2]
  refine⟨by omega, ?_⟩
  refine cond_cut (fun ρ h2=>h2=h'∧ρ 0= .ptr (some (i,0))∧ρ 2= .int .u64 (k:Int)∧ρ 7= .int .u64 (X*18446744073709551616%p:Nat)∧∃O',ρ 8= .int .u64 (O'*18446744073709551616%p:Nat)∧O'=O*X^(k%2)) ?_ ?_
  ·rcases Nat.mod_two_eq_zero_or_one k with h0|h1
   ·simp only[go_sem,eqF (show((k%2:Nat):Int)≠1 by omega),q0,q2,q7,q8]
    exact⟨trivial,trivial,trivial,trivial,O,rfl,by rw[h0];simp⟩
   ·simp only[go_sem,eqT (show((k%2:Nat):Int)=1 by omega),q0,q2,q7,q8]
    refine Mul64_calls (Nat.lt_trans hop hm.ltB) (Nat.lt_trans hxp hm.ltB) ?_
    simp only[go_sem,q0]
    refine redc_calls hm (hprod hop hxp) (Nat.mod_lt _ (by decide)) fun r hr he=> ?_
    rw[hsp] at he
    have e:=mont_mul hj hr rfl rfl he
    rw[e]
    simp only[go_sem,q0,q2,q7,q8]
    exact⟨trivial,trivial,trivial,trivial,O*X,rfl,by rw[h1,Nat.pow_one]⟩
  ·rintro ρ h2 ⟨rfl,q0,q2,q7,O',q8,hO⟩
   simp only[go_sem,q0,q2,q7,q8]
   refine Mul64_calls (Nat.lt_trans hxp hm.ltB) (Nat.lt_trans hxp hm.ltB) ?_
   simp only[go_sem,q0]
   refine redc_calls hm (hprod hxp hxp) (Nat.mod_lt _ (by decide)) fun r hr he=> ?_
   rw[hsp] at he
   have e:=mont_mul hj hr rfl rfl he
   rw[e]
   simp only[go_sem,q0,q2,q7,q8,e3]
   refine⟨by omega,k/2,by omega,by first|rfl|trivial|assumption,by first|rfl|trivial|assumption,by first|rfl|trivial|assumption,by omega,X*X,O',rfl,rfl, ?_⟩
   rw[hO,←hv,hpow X,Nat.mul_assoc]
theorem Shoup_calls {w:Nat} (hm:MW h i p) (hk:K (.int .u64 (w%p*18446744073709551616/p:Nat)) h):ACalls Tryz.prog 176 [.ptr (some (i,0)), .int .u64 (w:Int)] h K:=by
 refine in_modw_Mod_Shoup (by simp) fun hw=> ?_
 unfold c_modw_Mod_Shoup
 have hp:=hm.p0
 simp only[go_sem,hm.get.1,tmodN]
 refine⟨by omega, ?_⟩
 refine Div64_calls (lo:=0) (Nat.mod_lt _ (by omega)) (by omega) (by omega) ?_
 rw[Nat.add_zero]
 simp only[go_sem]
 exact fun _=>hk
theorem shoup_math {p a w s:Nat} (hp:0<p) (hpB:p<18446744073709551616) (ha:a<p) (hs:s=w*18446744073709551616/p):a*s/18446744073709551616*p≤a*w∧a*w-a*s/18446744073709551616*p<2*p:=by
 have h1:w*18446744073709551616=p*s+w*18446744073709551616%p:=by rw[hs];exact(Nat.div_add_mod _ _).symm
 have ht:=Nat.mod_lt (w*18446744073709551616) hp
 generalize w*18446744073709551616%p=t at*
 have h2:a*s=18446744073709551616*(a*s/18446744073709551616)+a*s%18446744073709551616:=(Nat.div_add_mod _ _).symm
 have ht2:=Nat.mod_lt (a*s) (show 0<18446744073709551616 by omega)
 generalize a*s/18446744073709551616=q at*
 generalize a*s%18446744073709551616=t2 at*
 have key:a*w*18446744073709551616=q*p*18446744073709551616+(t2*p+a*t):=by
  have e:a*w*18446744073709551616=a*(w*18446744073709551616):=Nat.mul_assoc ..
  rw[e,h1,Nat.mul_add,show a*(p*s)=a*s*p by ac_rfl,h2,Nat.add_mul,show 18446744073709551616*q*p=q*p*18446744073709551616 by ac_rfl,Nat.add_assoc]
 have h3:t2*p≤18446744073709551616*p:=Nat.mul_le_mul_right _ (Nat.le_of_lt ht2)
 have h4:a*t<18446744073709551616*p:=by
  calc a*t≤a*p:=Nat.mul_le_mul_left _ (Nat.le_of_lt ht)
   _<18446744073709551616*p:=Nat.mul_lt_mul_of_pos_right (by omega) hp
 have h6:q*p≤a*w:=Nat.le_of_mul_le_mul_right (c:=18446744073709551616) (by omega) (by omega)
 refine⟨h6,Nat.lt_of_mul_lt_mul_right (a:=18446744073709551616) ?_⟩
 rw[Nat.sub_mul,Nat.mul_right_comm 2 p]
 omega
theorem ShoupMul_calls {w s:Nat} (hm:MW h i p) (hw:w<18446744073709551616) (ha:a<18446744073709551616) (hs:s=w%p*18446744073709551616/p) (hk:K (.int .u64 (a*w%p:Nat)) h):ACalls Tryz.prog 186 [.ptr (some (i,0)), .int .u64 (a:Int), .int .u64 (w:Int), .int .u64 (s:Int)] h K:=by
 refine in_modw_Mod_ShoupMul (by simp) fun hw=> ?_
 unfold c_modw_Mod_ShoupMul
 have hp:=hm.p0
 have hap:=Nat.mod_lt a (show 0<p by omega)
 have hwp:=Nat.mod_lt w (show 0<p by omega)
 have hsB:s<18446744073709551616:=by
  rw[hs,Nat.div_lt_iff_lt_mul (by omega),Nat.mul_comm]
  exact Nat.mul_lt_mul_of_pos_left hwp (by omega)
 obtain⟨m1,m2⟩:=shoup_math (by omega) (by omega) hap hs
 rw[Nat.mul_mod] at hk
 simp only[go_sem,hm.get.1,tmodN]
 refine⟨by omega,by omega, ?_⟩
 generalize a%p=α at*
 generalize w%p=ω at*
 refine Mul64_calls (by omega) hsB ?_
 generalize α*s/18446744073709551616=q at*
 have hq:q*p<18446744073709551616*18446744073709551616:=by
  have:α*ω≤p*p:=Nat.mul_le_mul (by omega) (by omega)
  have:p*p≤4611686018427387904*4611686018427387904:=Nat.mul_le_mul (by omega) (by omega)
  omega
 have e1:IntKind.u64.wrap (IntKind.u64.wrap ((α:Int)*(ω:Int))-IntKind.u64.wrap ((q:Int)*(p:Int)))=((α*ω-q*p:Nat):Int):=by
  rw[←Int.natCast_mul,←Int.natCast_mul]
  generalize α*ω=x at*
  generalize q*p=y at*
  rw[wUm,wUm,wUm]
  omega
 simp only[go_sem,hm.get.1,e1]
 generalize hr:α*ω-q*p=r at*
 have hrm:α*ω%p=r%p:=by
  have:α*ω=r+p*q:=by rw[Nat.mul_comm p q];omega
  rw[this,Nat.add_mul_mod_self_left]
 rw[hrm] at hk
 rcases Nat.lt_or_ge r p with h1|h1
 ·simp only[go_sem,hm.get.1,leF h1,tmodN]
  exact⟨by omega,fun _=>hk⟩
 ·rw[Nat.mod_eq_sub_mod h1] at hk
  simp only[go_sem,hm.get.1,leT h1,subN h1 (by omega),tmodN]
  exact⟨by omega,fun _=>hk⟩
theorem mInv_calls (hm:MW h i p) (hk:∀x,x<p→(Nat.gcd p (a%p)=1→(a*x)%p=1)→K (.tup [.int .u64 (if Nat.gcd p (a%p)=1 then x else 0:Nat), .bool (decide (Nat.gcd p (a%p)=1))]) h):ACalls Tryz.prog 164 [.ptr (some (i,0)), .int .u64 (a:Int)] h K:=by
 refine in_modw_Mod_Inv (by simp) fun hw=> ?_
 unfold c_modw_Mod_Inv
 have hp:=hm.p0
 have hap:=Nat.mod_lt a (show 0<p by omega)
 simp only[go_sem,hm.get.1,tmodN]
 refine⟨by omega, ?_⟩
 refine⟨fun s ρ h'=>h'=h∧ρ 0= .ptr (some (i,0))∧ρ 7= .int .u64 (s:Int)∧s<p∧∃r x y:Nat,ρ 6= .int .u64 (r:Int)∧ρ 8= .int .u64 (x:Int)∧ρ 9= .int .u64 (y:Int)∧r≤p∧x<p∧y<p∧Nat.gcd r s=Nat.gcd p (a%p)∧(a*x)%p=r%p∧(a*y)%p=s%p,a%p,
  ⟨rfl,rfl,rfl,hap,p,0,1,rfl,rfl,rfl,by omega,by omega,by omega,rfl,by simp,by simp⟩, ?_⟩
 rintro s ρ h' ⟨rfl,q0,q7,hsp,r,x,y,q6,q8,q9,hr,hx,hy,hg,hax,hay⟩
 rcases Nat.eq_zero_or_pos s with rfl|hpos
 ·rw[Nat.gcd_zero_right] at hg
  have hk:=hk x hx
  subst hg
  obtain⟨G,hG⟩:∃G,G=Nat.gcd p (a%p):=⟨_,rfl⟩
  by_cases h1:Nat.gcd p (a%p)=1
  ·simp only[go_sem,q0,q7,q6,q8,q9,show decide ((0:Int)<((0:Nat):Int))=false from rfl,neF (show((Nat.gcd p (a%p):Nat):Int)=1 by rw[h1];rfl)]
   have hk:=hk (fun _=>by rw[hax,h1,Nat.mod_eq_of_lt (by omega)])
   rw[if_pos h1,decide_eq_true h1] at hk
   exact fun _=>hk
  ·simp only[go_sem,q0,q7,q6,q8,q9,show decide ((0:Int)<((0:Nat):Int))=false from rfl,neT (show((Nat.gcd p (a%p):Nat):Int)≠1 from fun e=>h1 (by exact_mod_cast e))]
   have hk:=hk (fun h=>absurd h h1)
   rw[if_neg h1,decide_eq_false h1] at hk
   exact fun _=>hk
 ·have hc:decide ((0:Int)<(s:Int))=true:=decide_eq_true (by omega)
  have hdm:=Nat.div_add_mod r s
  have hms:=Nat.mod_lt r hpos
  have hqr:r/s≤r:=Nat.div_le_self _ _
  have hgg:Nat.gcd s (r%s)=Nat.gcd p (a%p):=by rw[←hg,Nat.gcd_comm r s,Nat.gcd_rec s r,Nat.gcd_comm]
  have etd:(r:Int).tdiv (s:Int)=((r/s:Nat):Int):=tdivN
  generalize r/s=q at*
  generalize r%s=r' at*
  have e1:IntKind.u64.wrap ((q:Int))=(q:Int):=by rw[wU]<;>omega
  have hqs:q*s=r-r':=by rw[Nat.mul_comm];omega
  have e2:IntKind.u64.wrap ((q:Int)*(s:Int))=((r-r':Nat):Int):=by rw[←Int.natCast_mul,hqs,wU]<;>omega
  have e3:=subN (a:=r) (b:=r-r') (by omega) (by omega)
  rw[show r-(r-r')=r' by omega] at e3
  simp only[go_sem,q0,q7,q6,q8,q9,hc,etd,e1,e2,e3]
  refine⟨by omega, ?_⟩
  simp only[go_sem,q0,q7,q6,q8,q9,hm.get.1,tmodN]
  refine⟨by omega, ?_⟩
  refine mmul_calls hm (Nat.mod_lt _ (by omega)) (by omega) ?_
  simp only[go_sem,q0,q8]
  refine msub_calls hm hx (Nat.mod_lt _ (by omega)) ?_
  simp only[go_sem,q0,q7,q6,q8,q9]
  refine⟨r',hms,by first|rfl|trivial|assumption,by first|rfl|trivial|assumption,by first|rfl|trivial|assumption,by omega,s,y,_,rfl,rfl,rfl,by omega,hy,Nat.mod_lt _ (by omega),hgg,hay, ?_⟩
  --the new factor
  have hne:NeZero p:=⟨by omega⟩
  have z1:zp p a*zp p x=zp p r:=by rw[←zp_mul];exact zp_iff.2 hax
  have z2:zp p a*zp p y=zp p s:=by rw[←zp_mul];exact zp_iff.2 hay
  have z3:zp p r=zp p s*zp p q+zp p r':=by rw[←zp_mul,←zp_add,hdm]
  refine zp_iff.1 ?_
  have hm2:q%p*y%p≤x+p:=by have:=Nat.mod_lt (q%p*y) (show 0<p by omega);omega
  rw[zp_mul,zp_mod,zp_sub hm2,zp_add,zp_self,zp_mod,zp_mul,zp_mod]
  grind
end
end
theorem newton_step {p inv:Nat} {e:Int} (h:∃t v:Int,1-(p:Int)*inv=e*t+18446744073709551616*v):
  ∃inv':Nat,inv'<18446744073709551616∧IntKind.u64.wrap ((inv:Int)*IntKind.u64.wrap (2-IntKind.u64.wrap ((p:Int)*(inv:Int))))=(inv':Int)∧∃t v:Int,1-(p:Int)*inv'=e*e*t+18446744073709551616*v:=by
 obtain⟨t,v,h⟩:=h
 have e0:IntKind.u64.wrap ((inv:Int)*IntKind.u64.wrap (2-IntKind.u64.wrap ((p:Int)*(inv:Int))))=((inv:Int)*(2-(p:Int)*inv))%18446744073709551616:=by
  rw[wUm,wUm,wUm,Int.mul_emod,Int.emod_emod_of_dvd _ (Int.dvd_refl _),←Int.mul_emod,Int.mul_emod,Int.sub_emod,Int.emod_emod_of_dvd _ (Int.dvd_refl _),←Int.sub_emod,←Int.mul_emod]
 have hd:=Int.emod_add_mul_ediv ((inv:Int)*(2-(p:Int)*inv)) 18446744073709551616
 have h1:=Int.emod_nonneg ((inv:Int)*(2-(p:Int)*inv)) (show(18446744073709551616:Int)≠0 by decide)
 have h2:=Int.emod_lt_of_pos ((inv:Int)*(2-(p:Int)*inv)) (show(0:Int)<18446744073709551616 by decide)
 rw[e0]
 generalize ((inv:Int)*(2-(p:Int)*inv))/18446744073709551616=w at*
 generalize hx:((inv:Int)*(2-(p:Int)*inv))%18446744073709551616=x at*
 refine⟨x.toNat,by omega,by omega,t*t,2*e*t*v+18446744073709551616*v*v+p*w, ?_⟩
 rw[Int.toNat_of_nonneg h1]
 have hx2:x=(inv:Int)*(2-(p:Int)*inv)-18446744073709551616*w:=by omega
 rw[hx2]
 have hp:(p:Int)*inv=1-(e*t+18446744073709551616*v):=by omega
 generalize (18446744073709551616:Int)=B at*
 grind
theorem newton_start {p:Nat} (ho:p%2=1):∃t v:Int,1-(p:Int)*p=8*t+18446744073709551616*v:=by
 have h8:((p:Int)*p)%8=1:=by
  rw[Int.mul_emod]
  have:(p:Int)%8=1∨(p:Int)%8=3∨(p:Int)%8=5∨(p:Int)%8=7:=by omega
  rcases this with h|h|h|h<;>rw[h]<;>rfl
 generalize (p:Int)*p=y at*
 exact⟨(1-y)/8,0,by omega⟩
theorem newton_end {p inv:Nat} (hi:inv<18446744073709551616) (h:∃t v:Int,1-(p:Int)*inv=8^64*t+18446744073709551616*v):∃ng:Nat,ng<18446744073709551616∧IntKind.u64.wrap (0-(inv:Int))=(ng:Int)∧(ng*p+1)%18446744073709551616=0:=by
 obtain⟨t,v,h⟩:=h
 have h8:(8:Int)^64=18446744073709551616*340282366920938463463374607431768211456:=by decide
 rw[h8,Int.mul_assoc,←Int.mul_add] at h
 generalize 340282366920938463463374607431768211456*t+v=s at h
 rcases Nat.eq_zero_or_pos inv with rfl|h0
 ·exfalso
  omega
 refine⟨18446744073709551616-inv,by omega,by rw[wUm];omega, ?_⟩
 have e:(((18446744073709551616-inv)*p+1:Nat):Int)=18446744073709551616*(p+s):=by
  rw[Int.natCast_add,Int.natCast_mul,Int.natCast_sub (Nat.le_of_lt hi),Int.sub_mul,Int.mul_add,←h,Int.mul_comm (inv:Int)]
  omega
 omega
theorem bld4 {a b:AV} (ha:a.cells=[a]) (hb:b.cells=[b]) (h1:a.held=true) (h2:b.held=true):abuild [.int .u64 0, .int .u64 0, .int .u64 0, .int .u64 0] [(0,1,a),(1,1,b)]=some [a,b, .int .u64 0, .int .u64 0]:=by simp[abuild,putAt,ha,hb,h1,h2]
theorem mwNew_calls {p:Nat} {h:H} {K:AV→H→Prop} (hp:3≤p∧p<4611686018427387904) (ho:p%2=1) (hk:∀i h',h'.wf→h.le h'→h.next≤i→MW h' i p→K (.tup [.ptr (some (i,0)), .int .i64 0]) h'):ACalls Tryz.prog 163 [.int .u64 (p:Int)] h K:=by
 refine in_modw_New (by simp) fun hw=> ?_
 unfold c_modw_New
 have e2:((p:Int)).tmod 2=((p%2:Nat):Int):=tmodN (b:=2)
 have c1:decide ((p:Int)<3)=false:=decide_eq_false (by omega)
 have c2:decide (4611686018427387904≤(p:Int))=false:=decide_eq_false (by omega)
 simp only[go_sem,c1,c2,e2,eqF (show((p%2:Nat):Int)≠0 by omega)]
 refine⟨by decide, ?_⟩
 refine⟨fun s ρ h'=>h'=h∧ρ 0= .int .u64 (p:Int)∧s≤6∧ρ 18= .int .i64 ((6-s:Nat):Int)∧∃inv:Nat,ρ 4= .int .u64 (inv:Int)∧inv<18446744073709551616∧∃t v:Int,1-(p:Int)*inv=8^(2^(6-s))*t+18446744073709551616*v,6,
  ⟨rfl,rfl,by omega,rfl,p,rfl,by omega,newton_start ho⟩, ?_⟩
 rintro s ρ h' ⟨rfl,q0,hs,q18,inv,q4,hi,hv⟩
 rcases Nat.eq_zero_or_pos s with rfl|hpos
 ·have c3:decide (((6-0:Nat):Int)<6)=false:=decide_eq_false (by omega)
  obtain⟨ng,hng,hwn,hz⟩:=newton_end hi hv
  simp only[go_sem,q0,q18,q4,c3,hwn]
  rw[bld4 rfl rfl rfl rfl]
  simp only[go_sem]
  simp only[AV.held,AV.cells,List.all_cons,List.all_nil,AV.one,Bool.and_true,List.length_cons,List.length_nil,Nat.zero_add,Nat.reduceAdd,true_and,q0]
  have hl1:=H.le_new hw (H.le_refl h') ⟨some 253,4,[.int .u64 (p:Int), .int .u64 (ng:Nat), .int .u64 0, .int .u64 0]⟩
  have hr1:=H.rows_new h' ⟨some 253,4,[.int .u64 (p:Int), .int .u64 (ng:Nat), .int .u64 0, .int .u64 0]⟩
  generalize hh1:h'.new ⟨some 253,4,[.int .u64 (p:Int), .int .u64 (ng:Nat), .int .u64 0, .int .u64 0]⟩=h1 at*
  refine Div64_calls (hi:=1) (lo:=0) (y:=p) (by omega) (by omega) (by omega) ?_
  rw[Nat.one_mul,Nat.add_zero]
  simp only[go_sem,hr1]
  refine⟨by simp,by simp, ?_⟩
  have pe:∀x y z t:AV,putAt [x,y,z,t] 2 [.int .u64 (18446744073709551616%p:Nat)]=[x,y, .int .u64 (18446744073709551616%p:Nat),t]:=fun _ _ _ _=>rfl
  have pe3:∀x y z t w:AV,putAt [x,y,z,t] 3 [w]=[x,y,z,w]:=fun _ _ _ _ _=>rfl
  simp only[pe]
  have hw1:h1.wf:=by rw[←hh1];exact H.wf_new hw _
  have hl2:=H.le_set (a:=h') hw hl1 (Nat.le_refl _) ⟨some 253,4,[.int .u64 (p:Int), .int .u64 (ng:Nat), .int .u64 (18446744073709551616%p:Nat), .int .u64 0]⟩
  have hr2:=H.rows_set h1 h'.next ⟨some 253,4,[.int .u64 (p:Int), .int .u64 (ng:Nat), .int .u64 (18446744073709551616%p:Nat), .int .u64 0]⟩
  generalize hh2:h1.set h'.next ⟨some 253,4,[.int .u64 (p:Int), .int .u64 (ng:Nat), .int .u64 (18446744073709551616%p:Nat), .int .u64 0]⟩=h2 at*
  have g2:h2.get h'.next 2=some (.int .u64 (18446744073709551616%p:Nat)):=by rw[H.get_of hr2];rfl
  have g0:h2.get h'.next 0=some (.int .u64 (p:Int)):=by rw[H.get_of hr2];rfl
  have hb:18446744073709551616%p<p:=Nat.mod_lt _ (by omega)
  simp only[go_sem,g2]
  refine mmul0_calls g0 (by omega) hb (by omega) ?_
  rw[←Nat.mul_mod]
  simp only[go_sem,hr2]
  simp only[pe3]
  refine⟨by simp,by simp,fun hw3=>hk _ _ hw3 ?_ (Nat.le_refl _) ⟨ng,H.rows_set _ _ _,hng,hz,hp⟩⟩
  exact H.le_set (a:=h') hw hl2 (Nat.le_refl _) _
 ·obtain⟨inv',hi',he,hv'⟩:=newton_step hv
  have c3:decide (((6-s:Nat):Int)<6)=true:=decide_eq_true (by omega)
  have e6:IntKind.i64.wrap (((6-s:Nat):Int)+1)=((6-(s-1):Nat):Int):=by rw[wI]<;>omega
  simp only[go_sem,q0,q18,q4,c3,he,e6]
  refine⟨s-1,by omega,by first|rfl|trivial|assumption,by first|rfl|trivial|assumption,by omega,by first|rfl|trivial|assumption,inv',rfl,hi', ?_⟩
  rw[←Int.pow_add,←Nat.two_mul,←Nat.pow_succ',show(6-s).succ=6-(s-1) by omega] at hv'
  exact hv'
section
theorem band0 {a b:Nat} (ha:a<18446744073709551616) (hb:b<18446744073709551616):bAnd .u64 (a:Int) (b:Int)=((a&&&b:Nat):Int):=bandN ha hb
theorem bor0 {a b:Nat} (ha:a<18446744073709551616) (hb:b<18446744073709551616):bOr .u64 (a:Int) (b:Int)=((a|||b:Nat):Int):=borN ha hb
theorem swpU {k M x:Nat} {M':Int} (hk:k≤64) (hx:x<18446744073709551616) (hM:M*2^k<18446744073709551616) (hM':M'=(M:Int)):
  bOr .u64 (bAnd .u64 (bShr .u64 (x:Int) k) M') (bShl .u64 (bAnd .u64 (x:Int) M') k)=((swp k M x:Nat):Int)∧swp k M x<18446744073709551616:=by
 have h1:1≤2^k:=Nat.pow_pos (by decide)
 have hM1:M<18446744073709551616:=Nat.lt_of_le_of_lt (Nat.le_mul_of_pos_right M h1) hM
 have h2:x/2^k≤x:=Nat.div_le_self _ _
 have h3:=Nat.and_le_right (n:=x) (m:=M)
 have h4:=Nat.and_le_right (n:=x/2^k) (m:=M)
 have h5:(x&&&M)*2^k<18446744073709551616:=Nat.lt_of_le_of_lt (Nat.mul_le_mul_right _ h3) hM
 unfold swp
 subst hM'
 rw[shrU hk,band0 (by omega) hM1,band0 hx hM1,shlU hk,Nat.mod_eq_of_lt h5,bor0 (by omega) h5,Nat.shiftRight_eq_div_pow,Nat.shiftLeft_eq]
 exact⟨rfl,Nat.or_lt_two_pow (n:=64) (by omega) (by omega)⟩
section
variable {x:Nat} {h:H} {K:AV→H→Prop}
theorem RevB_calls (hx:x<18446744073709551616) (hk:K (.int .u64 ((swp 16 0x0000ffff0000ffff (swp 8 0x00ff00ff00ff00ff x)>>>32|||(swp 16 0x0000ffff0000ffff (swp 8 0x00ff00ff00ff00ff x)<<<32)%2^64:Nat):Nat)) h):ACalls Tryz.prog 189 [.int .u64 (x:Int)] h K:=by
 refine in_bits_ReverseBytes64 (by simp) fun hw=> ?_
 unfold c_bits_ReverseBytes64
 obtain⟨e1,l1⟩:=swpU (k:=8) (M:=71777214294589695) (M':=71777214294589695) (x:=x) (by omega) hx (by decide) rfl
 obtain⟨e2,l2⟩:=swpU (k:=16) (M:=281470681808895) (M':=281470681808895) (by omega) l1 (by decide) rfl
 generalize hy:swp 16 281470681808895 (swp 8 71777214294589695 x)=y at*
 have e3:bOr .u64 (bShr .u64 (y:Int) 32) (bShl .u64 (y:Int) 32)=((y>>>32|||y<<<32%2^64:Nat):Int):=by
  rw[shrU (by omega),shlU (by omega),bor0 (by omega) (Nat.mod_lt _ (by decide)),Nat.shiftRight_eq_div_pow,Nat.shiftLeft_eq]
 simp only[go_sem]
 simp only[e1,e2,e3]
 exact⟨by decide,by decide,by decide,by decide,by decide,by decide,fun _=>hk⟩
theorem Reverse64_calls (hx:x<18446744073709551616) (hk:K (.int .u64 (rev64 x:Nat)) h):ACalls Tryz.prog 184 [.int .u64 (x:Int)] h K:=by
 refine in_bits_Reverse64 (by simp) fun hw=> ?_
 unfold c_bits_Reverse64
 obtain⟨e1,l1⟩:=swpU (k:=1) (M:=6148914691236517205) (M':=6148914691236517205) (x:=x) (by omega) hx (by decide) rfl
 obtain⟨e2,l2⟩:=swpU (k:=2) (M:=3689348814741910323) (M':=3689348814741910323) (by omega) l1 (by decide) rfl
 obtain⟨e3,l3⟩:=swpU (k:=4) (M:=1085102592571150095) (M':=1085102592571150095) (by omega) l2 (by decide) rfl
 simp only[go_sem]
 simp only[e1,e2,e3]
 refine⟨by decide,by decide,by decide,by decide,by decide,by decide, ?_⟩
 refine RevB_calls l3 ?_
 simp only[go_sem]
 exact fun _=>hk
theorem low_and {s m:Nat} (ho:m%2=1) (hx:2^s*m<18446744073709551616):(2^s*m)&&&(18446744073709551616-2^s*m)=2^s:=by
 have h0:0<2^s*m:=Nat.mul_pos (Nat.pow_pos (by decide)) (by omega)
 have e:2^s*m-1=2^s*(m-1)+(2^s-1):=by
  have h1:1≤2^s:=Nat.pow_pos (by decide)
  obtain⟨d,rfl⟩:∃d,m=d+1:=⟨m-1,by omega⟩
  rw[Nat.mul_add,Nat.add_sub_cancel]
  omega
 apply Nat.eq_of_testBit_eq
 intro j
 have hb:18446744073709551616-2^s*m=2^64-(2^s*m-1+1):=by omega
 rw[Nat.testBit_and,hb,Nat.testBit_two_pow_sub_succ (by omega),e,Nat.testBit_two_pow_mul_add _ (Nat.sub_lt (Nat.pow_pos (by decide)) (by decide)),Nat.testBit_two_pow_mul,Nat.testBit_two_pow,Nat.testBit_two_pow_sub_one]
 rcases Nat.lt_trichotomy j s with h1|h1|h1
 ·simp[h1,show¬s≤j by omega,show¬s=j by omega]
 ·subst h1
  have hs:j<64:=by
   rcases Nat.lt_or_ge j 64 with h|h
   ·exact h
   ·have:2^64≤2^j:=Nat.pow_le_pow_right (by decide) h
    have:=Nat.le_mul_of_pos_right (2^j) (show 0<m by omega)
    omega
  simp[Nat.testBit_zero,ho,hs]
  omega
 ·have h2:(m-1).testBit (j-s)=m.testBit (j-s):=by
   obtain⟨d,hd⟩:∃d,j-s=d+1:=⟨j-s-1,by omega⟩
   rw[hd,Nat.testBit_succ,Nat.testBit_succ]
   congr 1
   omega
  simp[show¬j<s by omega,h2,show¬s=j by omega]
  exact fun _ h _=>h
theorem gtab_ok:∀s,s<64→gtab[2^s*285870213051353865%18446744073709551616/2^58]? =some s:=by decide
theorem tz_word {T:Nat}:IntKind.u64.wrap ((T:Int)*285870213051353865)=((T*285870213051353865%18446744073709551616:Nat):Int):=by rw[wUm];omega
theorem tz_lt {y:Nat} (h:y<18446744073709551616):y/2^58<64:=by omega
theorem pow_lt64 {s m:Nat} (ho:m%2=1) (hx:2^s*m<18446744073709551616):s<64:=by
 rcases Nat.lt_or_ge s 64 with h|h
 ·exact h
 ·have:2^64≤2^s:=Nat.pow_le_pow_right (by decide) h
  have:=Nat.le_mul_of_pos_right (2^s) (show 0<m by omega)
  omega
theorem TZ_calls {s m:Nat} (ho:m%2=1) (hx:2^s*m<18446744073709551616) (hk:K (.int .i64 (s:Nat)) h):ACalls Tryz.prog 187 [.int .u64 ((2^s*m:Nat):Int)] h K:=by
 refine in_bits_TrailingZeros64 (by simp) fun hw=> ?_
 unfold c_bits_TrailingZeros64
 have h0:0<2^s*m:=Nat.mul_pos (Nat.pow_pos (by decide)) (by omega)
 have hs:=pow_lt64 ho hx
 have e0:=low_and ho hx
 have hg:=gtab_ok s hs
 generalize 2^s*m=x at*
 generalize 2^s=T at*
 have e1:IntKind.u64.wrap (0-(x:Int))=((18446744073709551616-x:Nat):Int):=by rw[wUm];omega
 have e2:bAnd .u64 (x:Int) ((18446744073709551616-x:Nat):Int)=(T:Int):=by rw[band0 hx (by omega),e0]
 generalize 18446744073709551616-x=nx at*
 have e3:=tz_word (T:=T)
 have hy:T*285870213051353865%18446744073709551616<18446744073709551616:=Nat.mod_lt _ (by decide)
 generalize T*285870213051353865%18446744073709551616=y at*
 have e4:=shrU (x:=y) (n:=58) (by omega)
 have hlt:=tz_lt hy
 generalize y/2^58=t at*
 have hg2:gcell 2 t=some s:=hg
 simp only[go_sem,eqF (show(x:Int)≠0 by omega),e1,e2,e3]
 rw[e4]
 rw[Int.toNat_natCast,hg2]
 simp only[go_sem]
 refine⟨by decide,by omega,by omega,fun _=> ?_⟩
 rw[wI (by omega) (by omega)]
 exact hk
end
end
end Ab
end Go.Proofs.YtkbglkjpdndkiaaGreatDoor
