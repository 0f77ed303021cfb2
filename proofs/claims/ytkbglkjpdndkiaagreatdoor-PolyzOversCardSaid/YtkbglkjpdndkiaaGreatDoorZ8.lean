/- Joined texts: G1 G5 G7 G8 G9 M8 M9 M10 M11 M12 P1 V1. No condition. -/
import Derived.Test.YtkbglkjpdndkiaaGreatDoorZ7
namespace Go.Proofs.YtkbglkjpdndkiaaGreatDoor
namespace Ab
open Go Go.RowKit
set_option linter.unusedSimpArgs false
set_option linter.unusedVariables false
attribute [local go_sem ↓] x_mv x_pick x_bin x_beq x_peq x_seq x_cat x_aeq x_idxS x_idxV x_un x_cvI x_bts x_idx x_idxA x_fld x_ld x_st x_nn x_prt x_slc x_mk x_bsl x_bld x_box x_alloc x_len x_capo x_mnx x_app x_cpy x_mkf x_ext x_call x_callV x_bad s_none s_some s_nil s_cons s_chks w_skip w_reg tP_fin tP_no tP_alt w_seq w_cond w_block w_exit w_ret t_normal t_exit t_ret b_normal b_ret b_exit n_normal n_exit n_ret p_normal p_ret f_nil f_t f_c k_ops k_chk k_fin
attribute [local go_sem] e_t e_c e_f u_some u_none u_at env_at k_v k_pick k_add k_sub k_mul k_quo k_rem k_and k_or k_xor k_shl k_shr k_eql k_neq k_lss k_leq k_gtr k_geq k_beq k_peqn k_peqs k_neg k_not k_com k_cvI k_idxS k_idxV1 k_idxVn k_idx k_idxA k_idxG k_ldG k_gld k_seq k_cat k_aeq k_eqs k_fld k_ld1 k_ldn k_get k_gets k_sti k_stb k_stp k_sts k_stf k_sta k_put k_nn k_prt1 k_prtn k_slc_a k_slc_b k_slc_c k_mk k_agg k_bsl k_box k_len k_lenS k_cap k_max k_min k_ext k_callV k_true k_false k_gtt k_gtf k_gft k_gsk k_gff k_lit1i k_lit2i k_lit3i k_c0 k_c1 k_ck List.getElem?_cons_zero List.getElem?_cons_succ List.getElem?_nil Option.getD_some Option.getD_none tupOf List.map_cons List.map_nil Option.map_some Option.map_none List.nil_append List.cons_append List.append_nil Nat.mul_one Int.toNat_natCast Nat.zero_add
attribute [local go_sem] e_t e_c e_f u_some u_none u_at env_at k_v k_pick k_add k_sub k_mul k_quo k_rem k_and k_or k_xor k_shl k_shr k_eql k_neq k_lss k_leq k_gtr k_geq k_beq k_peqn k_peqs k_neg k_not k_com k_cvI k_idxS k_idxV1 k_idxVn k_idx k_idxA k_idxG k_ldG k_gld k_seq k_cat k_aeq k_eqs k_fld k_ld1 k_ldn k_get k_gets k_sti k_stb k_stp k_sts k_stf k_sta k_put k_nn k_prt1 k_prtn k_slc_a k_slc_b k_slc_c k_mk k_agg k_bsl k_box k_len k_lenS k_cap k_max k_min k_ext k_callV k_true k_false k_gtt k_gtf k_gft k_gsk k_gff k_lit1i k_lit2i k_lit3i k_c0 k_c1 k_ck List.getElem?_cons_zero List.getElem?_cons_succ List.getElem?_nil Option.getD_some Option.getD_none tupOf List.map_cons List.map_nil Option.map_some Option.map_none List.nil_append List.cons_append List.append_nil Nat.mul_one Int.toNat_natCast Nat.zero_add
--what a store into a cell of two leaves
attribute [local go_sem_proc] Nat.reduceEqDiff Nat.reduceAdd Int.reduceToNat
attribute [local go_sem_proc ↓] reduceIte
attribute [local go_sem] Bool.false_eq_true
theorem comU {x:Nat} (hx:x<18446744073709551616):bCom .u64 (x:Int)=((18446744073709551615-x:Nat):Int):=by
 have e1:(BitVec.ofInt 64 18446744073709551615^^^BitVec.ofInt 64 (x:Int)).toNat=18446744073709551615-x:=by
  rw[show BitVec.ofInt 64 18446744073709551615=BitVec.allOnes 64 from by decide,BitVec.allOnes_xor,BitVec.toNat_not,BitVec.toNat_ofInt]
  show 18446744073709551615-((x:Int)%18446744073709551616).toNat=_
  omega
 show IntKind.u64.wrap (((BitVec.ofInt 64 18446744073709551615^^^BitVec.ofInt 64 (x:Int)).toNat:Nat):Int)=_
 rw[e1]
 exact wUn (by omega)
theorem Inverse_calls {d:Nat} {h:H} {K:AV→H→Prop} (hd:d<18446744073709551616)
  (hk1:d<9223372036854775808→K (.tup [.int .u64 0, .bool false]) h)
  (hk2:9223372036854775808≤d→K (.tup [.int .u64 (((18446744073709551615-d)*18446744073709551616+18446744073709551615)/d:Nat), .bool true]) h):ACalls Tryz.prog 118 [.int .u64 (d:Int)] h K:=by
 refine in_word_Inverse (by simp) fun hw=> ?_
 unfold c_word_Inverse
 simp only[go_sem]
 refine cond_split (fun hc=> ?_) (fun hc=> ?_)
 ·simp only[go_sem]
  exact fun _=>hk1 (by simp at hc;omega)
 ·have hge:9223372036854775808≤d:=by simp at hc;omega
  simp only[go_sem,comU hd]
  refine Div64_calls (lo:=18446744073709551615) (by omega) (by omega) hd ?_
  simp only[go_sem]
  exact fun _=>hk2 hge
theorem addUm {a b:Nat}:IntKind.u64.wrap ((a:Int)+(b:Int))=(((a+b)%18446744073709551616:Nat):Int):=by rw[wUm];omega
def IsInv (d v:Nat):Prop:=v<18446744073709551616∧∃k:Nat,k≤d∧1≤k∧(18446744073709551616+v)*d+k=340282366920938463463374607431768211456
theorem inv_of {d:Nat} (hd:d<18446744073709551616) (h2:9223372036854775808≤d):IsInv d (((18446744073709551615-d)*18446744073709551616+18446744073709551615)/d):=by
 have h1:=Nat.div_add_mod ((18446744073709551615-d)*18446744073709551616+18446744073709551615) d
 have h3:=Nat.mod_lt ((18446744073709551615-d)*18446744073709551616+18446744073709551615) (show 0<d by omega)
 have hv:((18446744073709551615-d)*18446744073709551616+18446744073709551615)/d<18446744073709551616:=by
  rw[Nat.div_lt_iff_lt_mul (by omega)]
  omega
 generalize ((18446744073709551615-d)*18446744073709551616+18446744073709551615)/d=v at*
 generalize ((18446744073709551615-d)*18446744073709551616+18446744073709551615)%d=m at*
 refine⟨hv,m+1,by omega,by omega, ?_⟩
 rw[Nat.add_mul,Nat.mul_comm v d]
 generalize d*v=t at*
 omega
def IsInv2 (d1 d0 v:Nat):Prop:=v<18446744073709551616∧∃k:Nat,1≤k∧k≤d1*18446744073709551616+d0∧(18446744073709551616+v)*(d1*18446744073709551616+d0)+k=6277101735386680763835789423207666416102355444464034512896
theorem dec_mul {v d:Nat} (hv:1≤v):(18446744073709551616+(v-1))*d+d=(18446744073709551616+v)*d:=by
 rw[←Nat.succ_mul]
 congr 1
 omega
structure Inv1 (d1 d0 v p k:Nat):Prop where
 hv:v<18446744073709551616
 eq:(18446744073709551616+v)*d1+k=340282366920938463463374607431768211456
 lo:d0<k
 hi:k≤d1+d0
 hp:p+k=18446744073709551616+d0
theorem inv2_value {d1 d0 v p k:Nat} (i:Inv1 d1 d0 v p k):(6277101735386680763835789423207666416102355444464034512896:Int)-(18446744073709551616+v)*(d1*18446744073709551616+d0)=18446744073709551616*((k:Int)-d0)-v*d0:=by
 have h:=i.eq
 have h2:((18446744073709551616:Int)+v)*d1+k=340282366920938463463374607431768211456:=by
  have:=congrArg (fun n:Nat=>(n:Int)) h
  simpa using this
 have h3:((18446744073709551616:Int)+v)*(d1*18446744073709551616+d0)=18446744073709551616*(((18446744073709551616:Int)+v)*d1)+18446744073709551616*d0+v*d0:=by grind
 rw[h3]
 generalize ((18446744073709551616:Int)+v)*d1=t at*
 generalize (v:Int)*d0=s at*
 omega
theorem inv2_keep {d1 d0 v p k:Nat} (i:Inv1 d1 d0 v p k) (hc:v*d0/18446744073709551616+d0<k):IsInv2 d1 d0 v:=by
 have h:=inv2_value i
 have e:=Nat.div_add_mod (v*d0) 18446744073709551616
 have e2:v*d0%18446744073709551616<18446744073709551616:=Nat.mod_lt _ (by decide)
 have a:=i.lo
 have b:=i.hi
 refine⟨i.hv,18446744073709551616*(k-d0)-v*d0, ?_, ?_, ?_⟩
 ·generalize v*d0=t at*;omega
 ·generalize v*d0=t at*;omega
 ·have h2:(((18446744073709551616+v)*(d1*18446744073709551616+d0):Nat):Int)=((18446744073709551616:Int)+v)*(d1*18446744073709551616+d0):=by simp
  have h3:((v:Int)*d0)=((v*d0:Nat):Int):=by simp
  rw[←h2,h3] at h
  generalize (18446744073709551616+v)*(d1*18446744073709551616+d0)=s at*
  generalize v*d0=t at*
  omega
theorem inv2_one {d1 d0 v p k:Nat} (i:Inv1 d1 d0 v p k) (hd1:d1<18446744073709551616) (hd0:d0<18446744073709551616) (hc:k≤v*d0/18446744073709551616+d0) (h2:v*d0<18446744073709551616*(k-d0)+(d1*18446744073709551616+d0)):1≤v∧IsInv2 d1 d0 (v-1):=by
 have h:=inv2_value i
 have e:=Nat.div_add_mod (v*d0) 18446744073709551616
 have a:=i.lo
 have b:=i.hi
 have hv:1≤v:=by
  rcases Nat.eq_zero_or_pos v with h0|h0
  ·subst h0;simp at hc;omega
  ·exact h0
 have hvb:=i.hv
 refine⟨hv,by omega,18446744073709551616*(k-d0)+(d1*18446744073709551616+d0)-v*d0, ?_, ?_, ?_⟩
 ·omega
 ·generalize v*d0=t at*;omega
 ·have h4:=dec_mul (d:=d1*18446744073709551616+d0) hv
  have h2:(((18446744073709551616+v)*(d1*18446744073709551616+d0):Nat):Int)=((18446744073709551616:Int)+v)*(d1*18446744073709551616+d0):=by simp
  have h3:((v:Int)*d0)=((v*d0:Nat):Int):=by simp
  rw[←h2,h3,←h4] at h
  generalize (18446744073709551616+(v-1))*(d1*18446744073709551616+d0)=s at*
  generalize v*d0=t at*
  omega
theorem inv2_two {d1 d0 v p k:Nat} (i:Inv1 d1 d0 v p k) (hd1:d1<18446744073709551616) (h63:9223372036854775808≤d1) (hd0:d0<18446744073709551616) (h2:18446744073709551616*(k-d0)+(d1*18446744073709551616+d0)≤v*d0):2≤v∧IsInv2 d1 d0 (v-2):=by
 have h:=inv2_value i
 have a:=i.lo
 have b:=i.hi
 have hvb:=i.hv
 have hv:2≤v:=by
  rcases Nat.lt_or_ge v 2 with h0|h0
  ·have:v*d0≤1*d0:=Nat.mul_le_mul_right d0 (by omega)
   omega
  ·exact h0
 have hmax:v*d0≤18446744073709551615*18446744073709551615:=Nat.mul_le_mul (by omega) (by omega)
 refine⟨hv,by omega,18446744073709551616*(k-d0)+2*(d1*18446744073709551616+d0)-v*d0, ?_, ?_, ?_⟩
 ·generalize v*d0=t at*;omega
 ·generalize v*d0=t at*;omega
 ·have h4:=dec_mul (v:=v) (d:=d1*18446744073709551616+d0) (by omega)
  have h5:=dec_mul (v:=v-1) (d:=d1*18446744073709551616+d0) (by omega)
  rw[show v-1-1=v-2 from by omega] at h5
  have h2:(((18446744073709551616+v)*(d1*18446744073709551616+d0):Nat):Int)=((18446744073709551616:Int)+v)*(d1*18446744073709551616+d0):=by simp
  have h3:((v:Int)*d0)=((v*d0:Nat):Int):=by simp
  rw[←h2,h3,←h4,←h5] at h
  generalize (18446744073709551616+(v-2))*(d1*18446744073709551616+d0)=s at*
  generalize v*d0=t at*
  omega
theorem Inverse2_calls {d1 d0:Nat} {h:H} {K:AV→H→Prop} (hd1:d1<18446744073709551616) (hd0:d0<18446744073709551616)
  (hk1:d1<9223372036854775808→K (.tup [.int .u64 0, .bool false]) h)
  (hk2:9223372036854775808≤d1→∀v:Nat,IsInv2 d1 d0 v→K (.tup [.int .u64 (v:Int), .bool true]) h):ACalls Tryz.prog 103 [.int .u64 (d1:Int), .int .u64 (d0:Int)] h K:=by
 refine in_word_Inverse2 (by simp) fun hw=> ?_
 unfold c_word_Inverse2
 simp only[go_sem]
 refine Inverse_calls hd1 (fun hc=> ?_) (fun hc=> ?_)
 ·simp only[go_sem,Bool.not_false]
  exact fun _=>hk1 hc
 obtain⟨hv,k,hk0,hk1,hk4⟩:=inv_of hd1 hc
 obtain⟨v,hv0⟩:∃v,v=((18446744073709551615-d1)*18446744073709551616+18446744073709551615)/d1:=⟨_,rfl⟩
 rw[←hv0] at hv hk4
 rw[←hv0]
 clear hv0
 have ht:v*d1+18446744073709551616*d1+k=340282366920938463463374607431768211456:=by rw[←hk4,Nat.add_mul];omega
 have hv1:1≤v:=by
  rcases Nat.eq_zero_or_pos v with h0|h0
  ·subst h0;omega
  ·exact h0
 have hp:IntKind.u64.wrap (IntKind.u64.wrap ((d1:Int)*(v:Int))+(d0:Int))=((if k≤d0 then d0-k else 18446744073709551616+d0-k:Nat):Int):=by
  rw[←Int.natCast_mul,Nat.mul_comm d1 v,wUm,wUm]
  generalize v*d1=t at*
  split<;>omega
 simp only[go_sem,Bool.not_true,hp]
 refine cond_cut (fun ρ' h'=>h'=h∧ρ' 0= .int .u64 (d1:Int)∧ρ' 1= .int .u64 (d0:Int)∧∃v p k:Nat,ρ' 6= .int .u64 (v:Int)∧ρ' 8= .int .u64 (p:Int)∧Inv1 d1 d0 v p k) ?_ ?_
 ·refine cond_split (fun hc1=> ?_) (fun hc1=> ?_)
  ·have hkd:k≤d0:=by
    rcases Nat.lt_or_ge d0 k with h0|h0
    ·rw[if_neg (by omega)] at hc1;simp at hc1;omega
    ·exact h0
   rw[if_pos hkd]
   have s1:=subN1 (a:=v) hv1 (by omega)
   have m1:=dec_mul (v:=v) (d:=d1) hv1
   simp only[go_sem,s1]
   refine cond_cut (fun ρ' h'=>h'=h∧ρ' 0= .int .u64 (d1:Int)∧ρ' 1= .int .u64 (d0:Int)∧∃v p k:Nat,ρ' 6= .int .u64 (v:Int)∧ρ' 8= .int .u64 (p:Int)∧v<18446744073709551616∧(18446744073709551616+v)*d1+k=340282366920938463463374607431768211456∧d0<k∧k≤d1+d0∧p+k=d1+d0∧p<18446744073709551616) ?_ ?_
   ·refine cond_split (fun hc2=> ?_) (fun hc2=> ?_)
    ·have hc2:d1≤d0-k:=by simp at hc2;omega
     have hv2:2≤v:=by
      rcases Nat.lt_or_ge v 2 with h0|h0
      ·have:v=1:=by omega
       subst this
       omega
      ·exact h0
     have s2:=subN1 (a:=v-1) (by omega) (by omega)
     have m2:=dec_mul (v:=v-1) (d:=d1) (by omega)
     have s3:=subN (a:=d0-k) (b:=d1) hc2 (by omega)
     simp only[go_sem,s2,s3]
     exact⟨by first|rfl|trivial|assumption,by first|rfl|trivial|assumption,by first|rfl|trivial|assumption,v-1-1,d0-k-d1,k+d1+d1,rfl,rfl,by omega,by omega,by omega,by omega,by omega,by omega⟩
    ·have hc2:d0-k<d1:=by simp at hc2;omega
     simp only[go_sem]
     exact⟨by first|rfl|trivial|assumption,by first|rfl|trivial|assumption,by first|rfl|trivial|assumption,v-1,d0-k,k+d1,rfl,rfl,by omega,by omega,by omega,by omega,by omega,by omega⟩
   ·rintro ρ h' ⟨rfl,g0,g1,v',p',k',g6,g8,f1,f2,f3,f4,f5,f6⟩
    have s3:IntKind.u64.wrap ((p':Int)-(d1:Int))=((18446744073709551616+d0-k':Nat):Int):=by rw[wUm];omega
    simp only[go_sem,g0,g1,g6,g8,s3]
    exact⟨by first|rfl|trivial|assumption,by first|rfl|trivial|assumption,by first|rfl|trivial|assumption,v',18446744073709551616+d0-k',k',by first|rfl|trivial|assumption,rfl,⟨f1,f2,f3,f4,by omega⟩⟩
  ·have hkd:d0<k:=by
    rcases Nat.lt_or_ge d0 k with h0|h0
    ·exact h0
    ·rw[if_pos (by omega)] at hc1;simp at hc1;omega
   rw[if_neg (by omega)]
   simp only[go_sem]
   exact⟨by first|rfl|trivial|assumption,by first|rfl|trivial|assumption,by first|rfl|trivial|assumption,v,18446744073709551616+d0-k,k,rfl,rfl,⟨hv,hk4,hkd,by omega,by omega⟩⟩
 clear hk4 ht hp hv hk0 hk1 hv1
 rintro ρ h' ⟨rfl,g0,g1,v',p',k',g6,g8,i⟩
 simp only[go_sem,g0,g1,g6,g8]
 refine Mul64_calls i.hv hd0 ?_
 have iv:=i.hv
 have ilo:=i.lo
 have ihi:=i.hi
 have ip:=i.hp
 have e:=Nat.div_add_mod (v'*d0) 18446744073709551616
 have e2:v'*d0%18446744073709551616<18446744073709551616:=Nat.mod_lt _ (by decide)
 have hmax:v'*d0≤18446744073709551615*18446744073709551615:=Nat.mul_le_mul (by omega) (by omega)
 have w1:=addUm (a:=p') (b:=v'*d0/18446744073709551616)
 simp only[go_sem,g0,g1,g6,g8,w1]
 refine cond_split (fun hc1=> ?_) (fun hc1=> ?_)
 ·have hc1:k'≤v'*d0/18446744073709551616+d0:=by simp at hc1;omega
  have hpp:(p'+v'*d0/18446744073709551616)%18446744073709551616=v'*d0/18446744073709551616+d0-k':=by omega
  have hone:v'*d0<18446744073709551616*(k'-d0)+(d1*18446744073709551616+d0)→1≤v'∧IsInv2 d1 d0 (v'-1):=inv2_one i hd1 hd0 hc1
  have htwo:18446744073709551616*(k'-d0)+(d1*18446744073709551616+d0)≤v'*d0→2≤v'∧IsInv2 d1 d0 (v'-2):=inv2_two i hd1 hc hd0
  have hv1:1≤v':=by
   rcases Nat.lt_or_ge (v'*d0) (18446744073709551616*(k'-d0)+(d1*18446744073709551616+d0)) with h0|h0
   ·exact(hone h0).1
   ·have:=(htwo h0).1;omega
  have s1:=subN1 (a:=v') hv1 (by omega)
  rw[hpp]
  obtain⟨P,hP⟩:∃P,P=v'*d0/18446744073709551616+d0-k':=⟨_,rfl⟩
  rw[←hP]
  have less:(P<d1∨(P=d1∧v'*d0%18446744073709551616<d0))→∀Q:Prop,(IsInv2 d1 d0 (v'-1)→Q)→Q:=fun hh Q hQ=>hQ (hone (by omega)).2
  have more:(d1<P∨(P=d1∧d0≤v'*d0%18446744073709551616))→∀Q:Prop,(2≤v'→IsInv2 d1 d0 (v'-2)→Q)→Q:=fun hh Q hQ=>hQ (htwo (by omega)).1 (htwo (by omega)).2
  rcases Nat.lt_trichotomy P d1 with c1|c1|c1
  ·have t1:=ltF (a:=d1) (b:=P) (by omega)
   have t2:((P:Int)==(d1:Int))=false:=by simp;omega
   simp only[go_sem,g0,g1,g6,g8,s1,t1,t2]
   exact fun _=>less (.inl c1) _ fun hh=>hk2 hc _ hh
  ·have t1:=ltF (a:=d1) (b:=P) (by omega)
   have t2:((P:Int)==(d1:Int))=true:=by simp;omega
   simp only[go_sem,g0,g1,g6,g8,s1,t1,t2]
   refine cond_split (fun c2=> ?_) (fun c2=> ?_)
   ·refine more (.inr ⟨c1,by simp at c2;omega⟩) _ fun h2 hh=> ?_
    have s2:=subN1 (a:=v'-1) (by omega) (by omega)
    simp only[go_sem,s2]
    exact fun _=>hk2 hc _ hh
   ·refine less (.inr ⟨c1,by simp at c2;omega⟩) _ fun hh=> ?_
    simp only[go_sem]
    exact fun _=>hk2 hc _ hh
  ·have t1:=ltT (a:=d1) (b:=P) c1
   refine more (.inl c1) _ fun h2 hh=> ?_
   have s2:=subN1 (a:=v'-1) (by omega) (by omega)
   simp only[go_sem,g0,g1,g6,g8,s1,t1,s2]
   exact fun _=>hk2 hc _ hh
 ·have hc1:v'*d0/18446744073709551616+d0<k':=by simp at hc1;omega
  simp only[go_sem,g0,g1,g6,g8]
  exact fun _=>hk2 hc _ (inv2_keep i hc1)
theorem mg3_bounds {B v D k a2 a1 a0 q1 q0 r:Int} (h1:(B+v)*D+k=B*B*B) (h2:(B+v)*a2+a1=q1*B+q0) (h3:r=a2*B*B+a1*B+a0-(q1+1)*D) (hk0:0≤k) (hk:k≤D) (hD:D<B*B) (hDB:B≤D) (hB:0<B) (hv:0≤v)
  (ha2:0≤a2) (ha1:0≤a1) (ha1B:a1<B) (ha0:0≤a0) (ha0B:a0<B) (hx:a2*B+a1<D) (hq0:0≤q0) (hq0B:q0<B): -D≤r∧q0*B≤B*B+r∧(r<B*B-D∨r<q0*B):=by
 have key:B*r=a2*k+a1*(B*B-D)+a0*B+q0*D-B*D:=by grind
 have p1:0≤a2*k:=Int.mul_nonneg ha2 hk0
 have p2:0≤a1*(B*B-D):=Int.mul_nonneg ha1 (by omega)
 have p3:0≤a0*B:=Int.mul_nonneg ha0 (by omega)
 have p4:0≤q0*D:=Int.mul_nonneg hq0 (by omega)
 refine⟨?_, ?_, ?_⟩
 ·have e:B*(-D)≤B*r:=by rw[key];grind
  exact Int.le_of_mul_le_mul_left e hB
 ·have e0:(B-q0)*D≤(B-q0)*(B*B):=Int.mul_le_mul_of_nonneg_left (by omega) (by omega)
  have e:B*(q0*B-B*B)≤B*r:=by rw[key];grind
  have:=Int.le_of_mul_le_mul_left e hB
  omega
 ·rcases Int.lt_or_le r (B*B-D) with c1|c1
  ·exact .inl c1
  ·refine .inr ?_
   rcases Int.lt_or_le r (q0*B) with c2|c2
   ·exact c2
   ·exfalso
    have hvD:v*D=B*B*B-B*D-k:=by grind
    have key2:B*B*r=(a2*B+a1)*k+a1*(v*D)+a0*(B*B)+q0*B*D-B*B*D:=by
     have:B*B*r=B*(B*r):=by grind
     rw[this,key,hvD]
     grind
    have b1:(a2*B+a1)*k≤(D-1)*k:=Int.mul_le_mul_of_nonneg_right (by omega) hk0
    have b2:a1*(v*D)≤(B-1)*(v*D):=Int.mul_le_mul_of_nonneg_right (by omega) (Int.mul_nonneg hv (by omega))
    have b3:a0*(B*B)≤(B-1)*(B*B):=Int.mul_le_mul_of_nonneg_right (by omega) (by omega)
    have b4:(D-B)*k≤(D-B)*D:=Int.mul_le_mul_of_nonneg_left hk (by omega)
    have b5:(B*B-D)*(B*B-D)≤(B*B-D)*r:=Int.mul_le_mul_of_nonneg_left c1 (by omega)
    have b6:D*(q0*B)≤D*r:=Int.mul_le_mul_of_nonneg_left c2 (by omega)
    have b7:0<B*B:=Int.mul_pos hB hB
    rw[hvD] at b2 key2
    have e1:B*B*r=(B*B-D)*r+D*r:=by grind
    have e2:(D-1)*k+(B-1)*(B*B*B-B*D-k)+(B-1)*(B*B)=(D-B)*k+(B-1)*(B*B*B-B*D)+(B-1)*(B*B):=by grind
    have e3:(D-B)*D+(B-1)*(B*B*B-B*D)+(B-1)*(B*B)+q0*B*D-B*B*D+B*B=(B*B-D)*(B*B-D)+D*(q0*B):=by grind
    omega
theorem ite01 {p:Prop} [Decidable p]:(if p then 1 else 0:Nat)≤1:=by split<;>omega
theorem mod_congr {a b m r:Nat} (h:r=a%m) (e:b=a):b%m=r:=by rw[h,e]
theorem sub2 {x1 x0 y1 y0:Nat} (h1:x1<18446744073709551616) (h2:x0<18446744073709551616) (h3:y1<18446744073709551616) (h4:y0<18446744073709551616):
  ∃r:Nat,r<340282366920938463463374607431768211456∧r=(x1*18446744073709551616+x0+340282366920938463463374607431768211456-(y1*18446744073709551616+y0))%340282366920938463463374607431768211456∧(x1+18446744073709551616-y1-(if x0<y0+0 then 1 else 0))%18446744073709551616=r/18446744073709551616∧(x0+18446744073709551616-y0-0)%18446744073709551616=r%18446744073709551616:=by
 refine⟨_,Nat.mod_lt _ (by decide),rfl, ?_, ?_⟩
 ·split<;>omega
 ·omega
theorem add2 {x1 x0 y1 y0:Nat} (h1:x1<18446744073709551616) (h2:x0<18446744073709551616) (h3:y1<18446744073709551616) (h4:y0<18446744073709551616):
  ∃r:Nat,r<340282366920938463463374607431768211456∧r=(x1*18446744073709551616+x0+(y1*18446744073709551616+y0))%340282366920938463463374607431768211456∧(x1+y1+(x0+y0+0)/18446744073709551616)%18446744073709551616=r/18446744073709551616∧(x0+y0+0)%18446744073709551616=r%18446744073709551616:=by
 refine⟨_,Nat.mod_lt _ (by decide),rfl, ?_, ?_⟩<;>omega
theorem below_calls {a1 a0 b1 b0:Nat} {h:H} {K:AV→H→Prop} (h0:a0<18446744073709551616) (h1:b0<18446744073709551616)
  (hk:∀t,t=decide (a1*18446744073709551616+a0<b1*18446744073709551616+b0)→K (.bool t) h):ACalls Tryz.prog 137 [.int .u64 (a1:Int), .int .u64 (a0:Int), .int .u64 (b1:Int), .int .u64 (b0:Int)] h K:=by
 refine in_word_below (by simp) fun hw=> ?_
 unfold c_word_below
 rcases Nat.lt_trichotomy a1 b1 with c|c|c
 ·simp only[go_sem,ltT c]
  exact fun _=>hk true (by simp;omega)
 ·have e:((a1:Int)==(b1:Int))=true:=by simp;omega
  simp only[go_sem,ltF (Nat.le_of_eq c.symm),e]
  intro _
  refine hk _ ?_
  simp
  omega
 ·have e:((a1:Int)==(b1:Int))=false:=by simp;omega
  simp only[go_sem,ltF (Nat.le_of_lt c),e]
  exact fun _=>hk false (by simp;omega)
theorem div3_top {v a2 a1 D:Nat} (hI:(18446744073709551616+v)*D<6277101735386680763835789423207666416102355444464034512896) (hx:a2*18446744073709551616+a1<D):(18446744073709551616+v)*a2+a1<340282366920938463463374607431768211456:=by
 have h1:(18446744073709551616+v)*(a2*18446744073709551616+a1+1)≤(18446744073709551616+v)*D:=Nat.mul_le_mul_left _ hx
 have h2:(18446744073709551616+v)*(a2*18446744073709551616+a1+1)=(18446744073709551616+v)*a2*18446744073709551616+(18446744073709551616+v)*(a1+1):=by rw[Nat.add_assoc,Nat.mul_add,Nat.mul_assoc]
 have h3:18446744073709551616*(a1+1)≤(18446744073709551616+v)*(a1+1):=Nat.mul_le_mul_right _ (by omega)
 generalize (18446744073709551616+v)*a2=s at*
 generalize (18446744073709551616+v)*(a1+1)=t at*
 generalize (18446744073709551616+v)*D=u at*
 omega
theorem modN {a m r:Nat} (h:r=a%m):∃q:Int,(r:Int)=a-m*q:=⟨(a/m:Nat),by
 have:=Nat.div_add_mod a m
 rw[←h] at this
 have:=congrArg (fun n:Nat=>(n:Int)) this
 simp at this
 simp
 omega⟩
theorem div3_mod {a2 a1 a0 D t u w R1 R0:Nat} (hD:D<340282366920938463463374607431768211456) (hw:w=(a1+18446744073709551616-t%18446744073709551616)%18446744073709551616) (h1:R1=(w*18446744073709551616+a0+340282366920938463463374607431768211456-(u/18446744073709551616*18446744073709551616+u%18446744073709551616))%340282366920938463463374607431768211456) (hu:u<340282366920938463463374607431768211456)
  (h0:R0=(R1/18446744073709551616*18446744073709551616+R1%18446744073709551616+340282366920938463463374607431768211456-D)%340282366920938463463374607431768211456):
  ∃j:Int,(R0:Int)=((a2*18446744073709551616+a1)*18446744073709551616+a0:Nat)-(t*18446744073709551616+u:Nat)-D+340282366920938463463374607431768211456*j:=by
 rw[show R1/18446744073709551616*18446744073709551616+R1%18446744073709551616=R1 from by omega] at h0
 rw[show u/18446744073709551616*18446744073709551616+u%18446744073709551616=u from by omega] at h1
 obtain⟨x,hx⟩:=modN (a:=t) (m:=18446744073709551616) rfl
 obtain⟨y,hy⟩:=modN hw
 obtain⟨z,hz⟩:=modN h1
 obtain⟨v,hv⟩:=modN h0
 have hl:t%18446744073709551616<18446744073709551616:=Nat.mod_lt _ (by decide)
 rw[Int.ofNat_sub (by omega)] at hy hz hv
 generalize t%18446744073709551616=s at*
 clear hw h1 h0
 refine⟨x-y-z-v+3-a2, ?_⟩
 simp at hx hy hz hv⊢
 omega
theorem div3_plain {X D P q0 R0 Q1:Nat} (hP:P=Q1*D) (hD:D<340282366920938463463374607431768211456) (hD2:170141183460469231731687303715884105728≤D) (hX:X<D*18446744073709551616) (hq0:q0<18446744073709551616) (hQ:Q1<18446744073709551616)
  (hR:R0<340282366920938463463374607431768211456) (hj:∃j:Int,(R0:Int)=X-P-D+340282366920938463463374607431768211456*j)
  (b1: -(D:Int)≤(X:Int)-(P+D:Nat)) (b2:(q0:Int)*18446744073709551616≤340282366920938463463374607431768211456+((X:Int)-(P+D:Nat)))
  (b3:(X:Int)-(P+D:Nat)<340282366920938463463374607431768211456-D∨(X:Int)-(P+D:Nat)<q0*18446744073709551616):
  (R0/18446744073709551616<q0→(R0<D→X=(Q1+1)*D+R0)∧(D≤R0→X=(Q1+2)*D+(R0-D)∧R0-D<D))∧
  (q0≤R0/18446744073709551616→((R0+D)%340282366920938463463374607431768211456<D→X=Q1*D+(R0+D)%340282366920938463463374607431768211456)∧
   (D≤(R0+D)%340282366920938463463374607431768211456→X=(Q1+1)*D+((R0+D)%340282366920938463463374607431768211456-D)∧(R0+D)%340282366920938463463374607431768211456-D<D)):=by
 obtain⟨j,hj⟩:=hj
 have e1:(Q1+1)*D=P+D:=by rw[Nat.add_mul,hP];omega
 have e2:(Q1+2)*D=P+D+D:=by rw[Nat.add_mul,hP];omega
 rw[e1,e2,←hP]
 have hj2:j=0∨j=1:=by omega
 refine⟨fun h1=>⟨fun h2=> ?_,fun h2=> ?_⟩,fun h1=>⟨fun h2=> ?_,fun h2=> ?_⟩⟩<;>rcases hj2 with rfl|rfl<;>omega
theorem quot_lt {X D q r:Nat} (hX:X<D*18446744073709551616) (e:X=q*D+r):q<18446744073709551616:=by
 rcases Nat.lt_or_ge q 18446744073709551616 with h|h
 ·exact h
 ·have:=Nat.mul_le_mul_right D h
  rw[Nat.mul_comm D] at hX
  omega
theorem below_t {R D:Nat} (h:R<D):decide (R/18446744073709551616*18446744073709551616+R%18446744073709551616<D)=true:=decide_eq_true (by omega)
theorem below_f {R D:Nat} (h:D≤R):decide (R/18446744073709551616*18446744073709551616+R%18446744073709551616<D)=false:=decide_eq_false (by omega)
theorem div3_lt0 {y a0 D:Nat} (h0:a0<18446744073709551616) (c2:y<D):y*18446744073709551616+a0<D*18446744073709551616:=by omega
theorem div3_lt {a2 a1 a0 D:Nat} (h0:a0<18446744073709551616) (c2:a2*18446744073709551616+a1<D):(a2*18446744073709551616+a1)*18446744073709551616+a0<D*18446744073709551616:=div3_lt0 h0 c2
theorem div3_law {a2 a1 a0 d1 d0 v k Q1 q0 R1 R0 D X:Nat} (hDe:D=d1*18446744073709551616+d0) (hXe:X=(a2*18446744073709551616+a1)*18446744073709551616+a0) (h2:a2<18446744073709551616) (h1:a1<18446744073709551616) (h0:a0<18446744073709551616) (hd1:d1<18446744073709551616) (hd0:d0<18446744073709551616) (c1:9223372036854775808≤d1) (c2:a2*18446744073709551616+a1<D)
  (hk3:k≤D) (hk4:(18446744073709551616+v)*D+k=6277101735386680763835789423207666416102355444464034512896)
  (hQ1:Q1<18446744073709551616) (hQ0:q0<18446744073709551616) (hsum:(18446744073709551616+v)*a2+a1=Q1*18446744073709551616+q0) (hR0:R0<340282366920938463463374607431768211456)
  (eR1:R1=((a1+18446744073709551616-Q1*d1%18446744073709551616)%18446744073709551616*18446744073709551616+a0+340282366920938463463374607431768211456-(d0*Q1/18446744073709551616*18446744073709551616+d0*Q1%18446744073709551616))%340282366920938463463374607431768211456)
  (eR0:R0=(R1/18446744073709551616*18446744073709551616+R1%18446744073709551616+340282366920938463463374607431768211456-(d1*18446744073709551616+d0))%340282366920938463463374607431768211456):
  (R0/18446744073709551616<q0→(R0<D→X=(Q1+1)*D+R0)∧(D≤R0→X=(Q1+2)*D+(R0-D)∧R0-D<D))∧
  (q0≤R0/18446744073709551616→((R0+D)%340282366920938463463374607431768211456<D→X=Q1*D+(R0+D)%340282366920938463463374607431768211456)∧
   (D≤(R0+D)%340282366920938463463374607431768211456→X=(Q1+1)*D+((R0+D)%340282366920938463463374607431768211456-D)∧(R0+D)%340282366920938463463374607431768211456-D<D)):=by
 have hDt:D<340282366920938463463374607431768211456:=by omega
 have hD2:170141183460469231731687303715884105728≤D:=by omega
 have hX:X<D*18446744073709551616:=by
  rw[hXe]
  exact div3_lt h0 c2
 have hu:d0*Q1<340282366920938463463374607431768211456:=by
  have:=Nat.mul_lt_mul'' hd0 hQ1
  clear hsum hk4 eR1 eR0
  omega
 have em:Q1*D=Q1*d1*18446744073709551616+d0*Q1:=by rw[hDe,Nat.mul_add,Nat.mul_assoc,Nat.mul_comm Q1 d0]
 rw[←hDe] at eR0
 have hj:=div3_mod (a2:=a2) hDt rfl eR1 hu eR0
 rw[←em,←hXe] at hj
 have hXi:(X:Int)=a2*18446744073709551616*18446744073709551616+a1*18446744073709551616+a0:=by rw[hXe];simp;grind
 have hB2:(18446744073709551616:Int)*18446744073709551616=340282366920938463463374607431768211456:=by decide
 obtain⟨b1,b2,b3⟩:=mg3_bounds (B:=18446744073709551616) (v:=v) (D:=D) (k:=k) (a2:=a2) (a1:=a1) (a0:=a0) (q1:=Q1) (q0:=q0) (r:=X-(Q1+1)*(D:Int))
  (by have:=congrArg (fun n:Nat=>(n:Int)) hk4;simpa using this) (by have:=congrArg (fun n:Nat=>(n:Int)) hsum;simpa using this) (by rw[hXi]) (by omega) (by omega) (by rw[hB2];omega) (by omega) (by decide) (by omega) (by omega) (by omega) (by omega) (by omega) (by omega) (by omega) (by omega) (by omega)
 have eP:((Q1:Int)+1)*(D:Int)=((Q1*D+D:Nat):Int):=by simp;grind
 rw[eP] at b1 b2 b3
 rw[hB2] at b2 b3
 exact div3_plain rfl hDt hD2 hX hQ0 hQ1 hR0 hj b1 b2 b3
theorem Div3_calls {a2 a1 a0 d1 d0 v:Nat} {h:H} {K:AV→H→Prop} (h2:a2<18446744073709551616) (h1:a1<18446744073709551616) (h0:a0<18446744073709551616) (hd1:d1<18446744073709551616) (hd0:d0<18446744073709551616)
  (hk1:d1<9223372036854775808∨d1*18446744073709551616+d0≤a2*18446744073709551616+a1→K (.tup [.int .u64 0, .int .u64 0, .int .u64 0, .bool false]) h)
  (hI:9223372036854775808≤d1→a2*18446744073709551616+a1<d1*18446744073709551616+d0→IsInv2 d1 d0 v)
  (hk2:9223372036854775808≤d1→a2*18446744073709551616+a1<d1*18446744073709551616+d0→∀q r,q<18446744073709551616→r<d1*18446744073709551616+d0→(a2*18446744073709551616+a1)*18446744073709551616+a0=q*(d1*18446744073709551616+d0)+r→K (.tup [.int .u64 (q:Nat), .int .u64 (r/18446744073709551616:Nat), .int .u64 (r%18446744073709551616:Nat), .bool true]) h):
  ACalls Tryz.prog 119 [.int .u64 (a2:Int), .int .u64 (a1:Int), .int .u64 (a0:Int), .int .u64 (d1:Int), .int .u64 (d0:Int), .int .u64 (v:Int)] h K:=by
 refine in_word_Div3 (by simp) fun hw=> ?_
 unfold c_word_Div3
 rcases Nat.lt_or_ge d1 9223372036854775808 with c1|c1
 ·have t1:decide ((d1:Int)<9223372036854775808)=true:=by simp;omega
  simp only[go_sem,t1]
  exact fun _=>hk1 (.inl c1)
 have t1:decide ((d1:Int)<9223372036854775808)=false:=by simp;omega
 simp only[go_sem,t1]
 refine below_calls h1 hd0 fun t ht=> ?_
 rcases Nat.lt_or_ge (a2*18446744073709551616+a1) (d1*18446744073709551616+d0) with c2|c2
 case inr=>
  have:t=false:=by rw[ht];simp;omega
  subst this
  simp only[go_sem,Bool.not_false]
  exact fun _=>hk1 (.inr c2)
 have:t=true:=by rw[ht];simp;omega
 subst this
 clear ht hk1
 obtain⟨hv,k,hk0,hk3,hk4⟩:=hI c1 c2
 have hk2:=hk2 c1 c2
 simp only[go_sem,Bool.not_true]
 refine Mul64_calls hv h2 ?_
 simp only[go_sem]
 refine Add64_calls (c:=0) (by omega) h1 (by omega) ?_
 simp only[go_sem]
 have hva:v*a2/18446744073709551616<18446744073709551616:=by
  have:=Nat.mul_lt_mul'' hv h2
  omega
 refine Add64_calls hva h2 (by omega) ?_
 simp only[go_sem]
 --the first digit
 have e1:v*a2=18446744073709551616*(v*a2/18446744073709551616)+v*a2%18446744073709551616:=(Nat.div_add_mod _ _).symm
 have e2:v*a2%18446744073709551616<18446744073709551616:=Nat.mod_lt _ (by decide)
 have hsum:(18446744073709551616+v)*a2+a1=(v*a2/18446744073709551616+a2+(v*a2%18446744073709551616+a1+0)/18446744073709551616)*18446744073709551616+(v*a2%18446744073709551616+a1+0)%18446744073709551616:=by
  rw[Nat.add_mul]
  generalize v*a2=t at*
  omega
 have htop:=div3_top (v:=v) (a2:=a2) (a1:=a1) (D:=d1*18446744073709551616+d0) (by omega) c2
 have hQ1:v*a2/18446744073709551616+a2+(v*a2%18446744073709551616+a1+0)/18446744073709551616<18446744073709551616:=by omega
 rw[Nat.mod_eq_of_lt hQ1]
 have hQ0:(v*a2%18446744073709551616+a1+0)%18446744073709551616<18446744073709551616:=Nat.mod_lt _ (by decide)
 generalize v*a2/18446744073709551616+a2+(v*a2%18446744073709551616+a1+0)/18446744073709551616=Q1 at*
 generalize (v*a2%18446744073709551616+a1+0)%18446744073709551616=Q0 at*
 have w1:IntKind.u64.wrap ((a1:Int)-IntKind.u64.wrap ((Q1:Int)*(d1:Int)))=(((a1+18446744073709551616-Q1*d1%18446744073709551616)%18446744073709551616:Nat):Int):=by
  rw[←Int.natCast_mul,wUm,wUm]
  generalize Q1*d1=t
  omega
 rw[w1]
 refine Mul64_calls hd0 hQ1 ?_
 simp only[go_sem]
 have hw1:(a1+18446744073709551616-Q1*d1%18446744073709551616)%18446744073709551616<18446744073709551616:=Nat.mod_lt _ (by decide)
 have ht:d0*Q1/18446744073709551616<18446744073709551616:=by
  have:=Nat.mul_lt_mul'' hd0 hQ1
  omega
 obtain⟨R1,hR1,eR1,s1,s0⟩:=sub2 (x1:=(a1+18446744073709551616-Q1*d1%18446744073709551616)%18446744073709551616) (x0:=a0) (y1:=d0*Q1/18446744073709551616) (y0:=d0*Q1%18446744073709551616) hw1 h0 ht (Nat.mod_lt _ (by decide))
 refine Sub64_calls (c:=0) (by omega) ?_
 simp only[go_sem]
 refine Sub64_calls ite01 ?_
 simp only[go_sem,s1,s0]
 obtain⟨R0,hR0,eR0,s1,s0⟩:=sub2 (x1:=R1/18446744073709551616) (x0:=R1%18446744073709551616) (y1:=d1) (y0:=d0) (by omega) (by omega) hd1 hd0
 refine Sub64_calls (c:=0) (by omega) ?_
 simp only[go_sem]
 refine Sub64_calls ite01 ?_
 simp only[go_sem,s1,s0]
 have hX:=div3_lt h0 c2
 obtain⟨p1,p2⟩:=div3_law rfl rfl h2 h1 h0 hd1 hd0 c1 c2 hk3 hk4 hQ1 hQ0 hsum hR0 eR1 eR0
 clear eR0 eR1 s1 s0 hsum htop e1 e2 w1 hI hk4
 obtain⟨X,hXe⟩:∃X,X=(a2*18446744073709551616+a1)*18446744073709551616+a0:=⟨_,rfl⟩
 rw[←hXe] at hX p1 p2 hk2
 clear hXe
 have fin:∀q r:Nat,X=q*(d1*18446744073709551616+d0)+r→r<d1*18446744073709551616+d0→K (AV.tup [AV.int IntKind.u64 ((q%18446744073709551616:Nat):Int),AV.int IntKind.u64 ((r/18446744073709551616:Nat):Int),AV.int IntKind.u64 ((r%18446744073709551616:Nat):Int),AV.bool true]) h:=fun q r e hr=>by
  have hq:=quot_lt hX e
  rw[Nat.mod_eq_of_lt hq]
  exact hk2 q r hq hr e
 have wq1:IntKind.u64.wrap ((Q1:Int)+1)=(((Q1+1)%18446744073709551616:Nat):Int):=by rw[wUm];omega
 have wq0:IntKind.u64.wrap ((((Q1+1)%18446744073709551616:Nat):Int)-1)=((Q1%18446744073709551616:Nat):Int):=by rw[wUm];omega
 rw[wq1]
 refine cond_cut (fun ρ' h'=>h'=h∧ρ' 3= .int .u64 (d1:Int)∧ρ' 4= .int .u64 (d0:Int)∧∃q R:Nat,ρ' 16= .int .u64 ((q%18446744073709551616:Nat):Int)∧ρ' 13= .int .u64 (R/18446744073709551616:Nat)∧ρ' 14= .int .u64 (R%18446744073709551616:Nat)∧R<340282366920938463463374607431768211456∧(R<d1*18446744073709551616+d0→X=q*(d1*18446744073709551616+d0)+R)∧(d1*18446744073709551616+d0≤R→X=(q+1)*(d1*18446744073709551616+d0)+(R-(d1*18446744073709551616+d0))∧R-(d1*18446744073709551616+d0)<d1*18446744073709551616+d0)) ?_ ?_
 ·rcases Nat.lt_or_ge (R0/18446744073709551616) Q0 with c3|c3
  ·have t2:decide (((Q0:Nat):Int)≤((R0/18446744073709551616:Nat):Int))=false:=by simp;omega
   simp only[go_sem,t2]
   exact⟨trivial,trivial,trivial,Q1+1,R0,rfl,rfl,rfl,hR0,(p1 c3).1,(p1 c3).2⟩
  ·have t2:decide (((Q0:Nat):Int)≤((R0/18446744073709551616:Nat):Int))=true:=by simp;omega
   simp only[go_sem,t2,wq0]
   obtain⟨R2,hR2,eR2,s1,s0⟩:=add2 (x1:=R0/18446744073709551616) (x0:=R0%18446744073709551616) (y1:=d1) (y0:=d0) (by omega) (by omega) hd1 hd0
   refine Add64_calls (c:=0) (by omega) hd0 (by omega) ?_
   simp only[go_sem]
   refine Add64_calls (by omega) hd1 (by omega) ?_
   simp only[go_sem,s1,s0]
   have e3:(R0+(d1*18446744073709551616+d0))%340282366920938463463374607431768211456=R2:=mod_congr eR2 (by omega)
   rw[e3] at p2
   exact⟨trivial,trivial,trivial,Q1,R2,rfl,rfl,rfl,hR2,(p2 c3).1,(p2 c3).2⟩
 ·rintro ρ h' ⟨rfl,h3,h4,q,R,h16,h13,h14,hR,f1,f2⟩
  simp only[go_sem,h3,h4,h13,h14]
  refine below_calls (by omega) hd0 fun t ht=> ?_
  rcases Nat.lt_or_ge R (d1*18446744073709551616+d0) with c3|c3
  ·have:t=true:=by rw[ht];exact below_t c3
   subst this
   simp only[go_sem,Bool.not_true,h13,h14,h16]
   exact fun _=>fin q R (f1 c3) c3
  ·have:t=false:=by rw[ht];exact below_f c3
   subst this
   have wq:IntKind.u64.wrap (((q%18446744073709551616:Nat):Int)+1)=(((q+1)%18446744073709551616:Nat):Int):=by rw[wUm];omega
   simp only[go_sem,Bool.not_false,h3,h4,h13,h14,h16,wq]
   obtain⟨R2,hR2,eR2,s1,s0⟩:=sub2 (x1:=R/18446744073709551616) (x0:=R%18446744073709551616) (y1:=d1) (y0:=d0) (by omega) (by omega) hd1 hd0
   refine Sub64_calls (c:=0) (by omega) ?_
   simp only[go_sem,h3,h4,h13,h14,h16]
   refine Sub64_calls ite01 ?_
   simp only[go_sem,h3,h4,h13,h14,h16,s1,s0]
   intro _
   have e3:R2=R-(d1*18446744073709551616+d0):=by omega
   rw[e3]
   exact fin (q+1) _ (f2 c3).1 (f2 c3).2
theorem mulsub_step {q d c u:Nat} (hq:q<18446744073709551616) (hd:d<18446744073709551616) (hc:c<18446744073709551616) (hu:u<18446744073709551616):
  ((u+18446744073709551616-(q*d%18446744073709551616+c)%18446744073709551616-0)%18446744073709551616)+q*d+c=u+18446744073709551616*(q*d/18446744073709551616+(q*d%18446744073709551616+c)/18446744073709551616+(if u<(q*d%18446744073709551616+c)%18446744073709551616+0 then 1 else 0))∧
  q*d/18446744073709551616+(q*d%18446744073709551616+c)/18446744073709551616+(if u<(q*d%18446744073709551616+c)%18446744073709551616+0 then 1 else 0)<18446744073709551616:=by
 have h1:q*d≤18446744073709551615*18446744073709551615:=Nat.mul_le_mul (by omega) (by omega)
 generalize q*d=p at*
 have h2:(p+c)/18446744073709551616≤18446744073709551615:=by omega
 split
 ·omega
 ·omega
theorem guess {P t D2 q r lo Dlo T D:Nat} (e:t=q*D2+r) (hr:r<D2) (hlo:lo<P) (hT:T=lo+P*t) (hD:D=Dlo+P*D2):T<(q+1)*D:=by
 have h1:t+1≤(q+1)*D2:=by rw[Nat.add_mul,Nat.one_mul];omega
 have h2:P*(t+1)≤P*((q+1)*D2):=Nat.mul_le_mul_left _ h1
 have h3:P*((q+1)*D2)=(q+1)*(P*D2):=by ac_rfl
 have h4:(q+1)*(P*D2)≤(q+1)*D:=Nat.mul_le_mul_left _ (by omega)
 rw[Nat.mul_add,Nat.mul_one] at h2
 omega
theorem val_top3 {win:List Nat} {m:Nat} (hl:win.length=m+1) (hm:2≤m):val 18446744073709551616 win=val 18446744073709551616 (win.take (m-2))+18446744073709551616^(m-2)*((win[m]'(by omega)*18446744073709551616+win[m-1]'(by omega))*18446744073709551616+win[m-2]'(by omega)):=by
 have h1:=val_take_succ 18446744073709551616 win (m-2) (by omega)
 have h2:=val_take_succ 18446744073709551616 win (m-1) (by omega)
 have h3:=val_take_succ 18446744073709551616 win m (by omega)
 rw[←hl,List.take_length] at h3
 rw[show m-2+1=m-1 by omega] at h1
 rw[show m-1+1=m by omega] at h2
 rw[h3,h2,h1]
 obtain⟨k,rfl⟩:∃k,m=k+2:=⟨m-2,by omega⟩
 simp only[show k+2-1=k+1 by omega,show k+2-2=k by omega,Nat.pow_succ]
 grind
theorem val_top2 {ds:List Nat} {m:Nat} (hl:ds.length=m) (hm:2≤m):val 18446744073709551616 ds=val 18446744073709551616 (ds.take (m-2))+18446744073709551616^(m-2)*(ds[m-1]'(by omega)*18446744073709551616+ds[m-2]'(by omega)):=by
 have h1:=val_take_succ 18446744073709551616 ds (m-2) (by omega)
 have h2:=val_take_succ 18446744073709551616 ds (m-1) (by omega)
 rw[show m-1+1=m by omega,List.take_of_length_le (by omega)] at h2
 rw[show m-2+1=m-1 by omega] at h1
 rw[h2,h1]
 obtain⟨k,rfl⟩:∃k,m=k+2:=⟨m-2,by omega⟩
 simp only[show k+2-1=k+1 by omega,show k+2-2=k by omega,Nat.pow_succ]
 grind
theorem guess_calls {a2 a1 a0 d1 d0 v:Nat} {h:H} {K:AV→H→Prop} (G:Nat→Prop) (h2:a2<18446744073709551616) (h1:a1<18446744073709551616) (h0:a0<18446744073709551616) (hd1:d1<18446744073709551616) (hd0:d0<18446744073709551616) (htop:9223372036854775808≤d1) (hv:IsInv2 d1 d0 v)
  (g1:G 18446744073709551615) (g2:∀q r,q<18446744073709551616→r<d1*18446744073709551616+d0→(a2*18446744073709551616+a1)*18446744073709551616+a0=q*(d1*18446744073709551616+d0)+r→G q)
  (hk:∀(ok:Bool) (q x y:Nat),q<18446744073709551616→(ok=true→G q)→(ok=false→G 18446744073709551615)→K (.tup [.int .u64 (q:Nat), .int .u64 (x:Nat), .int .u64 (y:Nat), .bool ok]) h):
  ACalls Tryz.prog 119 [.int .u64 (a2:Int), .int .u64 (a1:Int), .int .u64 (a0:Int), .int .u64 (d1:Int), .int .u64 (d0:Int), .int .u64 (v:Int)] h K:=
 Div3_calls h2 h1 h0 hd1 hd0 (fun _=>hk false 0 0 0 (by omega) (fun h=>by cases h) (fun _=>g1)) (fun _ _=>hv) (fun _ _ q r hq hr e=>hk true q _ _ hq (fun _=>g2 q r hq hr e) (fun h=>by cases h))
def KeptBut (iu:Nat) (a h h':H):Prop:=h'.wf∧a.le h'∧h'.next=h.next∧∀i r,i≠iu→h.rows i=some r→h'.rows i=some r
theorem app_mid {A out X:List Nat} {d:Nat}:(A++(out++[d]))++X=(A++out)++d::X:=by simp
theorem KeptBut.set {iu:Nat} {a h h':H} (k:KeptBut iu a h h') (ha:a.wf) (hi:a.next≤iu) (hl:iu<h'.next) (r:Row):KeptBut iu a h (h'.set iu r):=
 ⟨H.wf_set k.1 hl _,H.le_set ha k.2.1 hi _,k.2.2.1,fun i q hne hq=>by rw[H.rows_set_ne hne];exact k.2.2.2 i q hne hq⟩
set_option maxHeartbeats 4000000 in
theorem digit_calls {a h:H} {iu N m v:Nat} {ck c0:Option Nat} {dv:AV} {A win C ds:List Nat} {K:AV→H→Prop} (ha:a.wf) (hal:a.le h) (hs:IsG a.next h (.sl (some iu) 0 N ck) (A++(win++C))) (hd:IsN a dv ds) (hm:2≤m) (hdl:ds.length=m) (hwl:win.length=m+1)
  (hwd:Dig win) (hdd:Dig ds) (hml:m≤1099511627776) (htop:9223372036854775808≤ds[m-1]'(by omega)) (hv:IsInv2 (ds[m-1]'(by omega)) (ds[m-2]'(by omega)) v) (hT:val 18446744073709551616 win<val 18446744073709551616 ds*18446744073709551616)
  (hk:∀h' ws,KeptBut iu a h h'→IsG a.next h' (.sl (some iu) 0 N ck) (A++(ws++C))→Dig ws→ws.length=m+1→val 18446744073709551616 ws=val 18446744073709551616 win%val 18446744073709551616 ds→K (.int .u64 (val 18446744073709551616 win/val 18446744073709551616 ds:Nat)) h'):
  ACalls Tryz.prog 104 [.sl (some iu) A.length (m+1) c0,dv, .int .u64 (v:Int)] h K:=by
 obtain⟨id,off,c,rfl⟩:=hd.form
 have hd':=hd
 rw[hdl] at hd
 refine in_divs_digit (by simp) fun hw=> ?_
 unfold c_divs_digit
 have e1:=decI (i:=m) (by omega) (by omega)
 have e2:IntKind.i64.wrap ((m:Int)-2)=((m-2:Nat):Int):=by rw[wI]<;>omega
 have hxs:∀i (hi:i<m+1),h.get iu (A.length+i)=some (.int .u64 (win[i]'(by omega):Nat)):=by
  intro i hi
  obtain⟨i',ee,_,hg⟩:=hs.isN.at (j:=A.length+i) (by simp;omega)
  injection ee with ee
  subst ee
  rw[Nat.zero_add] at hg
  rw[hg]
  congr 3
  rw[List.getElem_append_right (by omega),List.getElem_append_left (by omega)]
  simp
 have hds:∀(g:H),a.le g→∀i (hi:i<m),∃jd,id=some jd∧g.get jd (off+i)=some (.int .u64 (ds[i]'(by omega):Nat)):=by
  intro g hg i hi
  obtain⟨jd,ee,_,hgg⟩:=(hd'.mono hg).at (j:=i) (by omega)
  exact⟨jd,ee,hgg⟩
 obtain⟨jd,rfl,g1⟩:=hds h hal (m-1) (by omega)
 obtain⟨jd',ee,g2⟩:=hds h hal (m-2) (by omega)
 injection ee with ee
 subst ee
 simp only[go_sem,hdl]
 refine⟨by omega,by omega, ?_⟩
 simp only[go_sem,hxs m (by omega),e1,e2]
 refine⟨by omega,by omega, ?_⟩
 simp only[go_sem,hxs (m-1) (by omega),e1,e2]
 refine⟨by omega,by omega, ?_⟩
 simp only[go_sem,hxs (m-2) (by omega),e1,e2]
 refine⟨by omega,by omega, ?_⟩
 simp only[go_sem,g1,e1,e2]
 refine⟨by omega,by omega, ?_⟩
 simp only[go_sem,g2,e1,e2]
 have hD:=val_top2 hdl hm
 have hTT:=val_top3 hwl hm
 have hlo:=val_lt_take 18446744073709551616 (by omega) win hwd (m-2)
 refine guess_calls (fun q=>val 18446744073709551616 win<(q+1)*val 18446744073709551616 ds) (hwd _ (List.getElem_mem _)) (hwd _ (List.getElem_mem _)) (hwd _ (List.getElem_mem _)) (hdd _ (List.getElem_mem _)) (hdd _ (List.getElem_mem _)) htop hv (by rw[Nat.mul_comm];exact hT) (fun q r hq hr e=>guess e hr hlo hTT hD) fun ok q0 x0 y0 hq0 g1' g2'=> ?_
 clear hD hTT hlo
 simp only[go_sem]
 refine cond_cut (fun ρ' h2=>h2=h∧ρ' 0= .sl (some iu) A.length (m+1) c0∧ρ' 1= .sl (some jd) off m c∧ρ' 7= .int .i64 (m:Int)∧∃q:Nat,ρ' 8= .int .u64 (q:Int)∧q<18446744073709551616∧val 18446744073709551616 win<(q+1)*val 18446744073709551616 ds) ?_ ?_
 ·cases ok
  ·simp only[go_sem,Bool.not_false]
   exact⟨trivial,trivial,trivial,trivial,18446744073709551615,rfl,by omega,g2' rfl⟩
  ·simp only[go_sem,Bool.not_true]
   exact⟨trivial,trivial,trivial,trivial,q0,rfl,hq0,g1' rfl⟩
 clear g1' g2' hq0
 rintro ρ hh ⟨rfl,h0,h1,h7,q,h8,hq,hqT⟩
 have hwm:=hwd _ (List.getElem_mem (show m<win.length by omega))
 simp only[go_sem,h0,h1,h7,h8]
 refine loop_cut (fun ρ' h'=>KeptBut iu a hh h'∧ρ' 0= .sl (some iu) A.length (m+1) c0∧ρ' 1= .sl (some jd) off m c∧ρ' 7= .int .i64 (m:Int)∧ρ' 8= .int .u64 (q:Int)∧∃out cc,ρ' 12= .int .u64 (cc:Nat)∧cc<18446744073709551616∧out.length=m∧Dig out∧IsG a.next h' (.sl (some iu) 0 N ck) ((A++out)++win[m]'(by omega)::C)∧val 18446744073709551616 out+q*val 18446744073709551616 ds=val 18446744073709551616 (win.take m)+18446744073709551616^m*cc) ?_ ?_
 ·refine for_rule (fun i ρ' h'=>i≤m∧KeptBut iu a hh h'∧ρ' 0= .sl (some iu) A.length (m+1) c0∧ρ' 1= .sl (some jd) off m c∧ρ' 7= .int .i64 (m:Int)∧ρ' 8= .int .u64 (q:Int)∧ρ' 13= .int .i64 (i:Int)∧∃out cc,ρ' 12= .int .u64 (cc:Nat)∧cc<18446744073709551616∧out.length=i∧Dig out∧IsG a.next h' (.sl (some iu) 0 N ck) ((A++out)++(win.drop i++C))∧val 18446744073709551616 out+q*val 18446744073709551616 (ds.take i)=val 18446744073709551616 (win.take i)+18446744073709551616^i*cc) m ⟨by omega,⟨hw,hal,rfl,fun i r _ h=>h⟩,by first|rfl|trivial|assumption,by first|rfl|trivial|assumption,by first|rfl|trivial|assumption,by first|rfl|trivial|assumption,rfl,[],0,rfl,by omega,rfl,Dig.nil,by simpa using hs,rfl⟩ (fun i ρ h hI=>hI.1) ?_
  rintro i ρ h' ⟨hi,hkb,h0,h1,h7,h8,h13,out,cc,h12,hcc,hol,hod,hs,hov⟩
  rcases Nat.lt_or_ge i m with him|him
  ·have hdb:=hdd _ (List.getElem_mem (show i<ds.length by omega))
   have hub:=hwd _ (List.getElem_mem (show i<win.length by omega))
   have hvd:=val_take_succ 18446744073709551616 ds i (by omega)
   have hvw:=val_take_succ 18446744073709551616 win i (by omega)
   obtain⟨_,ee,gd⟩:=hds h' hkb.2.1 i him
   injection ee with ee
   subst ee
   rw[List.drop_eq_getElem_cons (show i<win.length by omega),List.cons_append] at hs
   obtain⟨i2,r2,ee,hb2,hl2,hr2,ho2,hf2,hg2,hn2,hp2⟩:=hs.mid hkb.1
   injection ee with ee
   subst ee
   have hal2:(A++out).length=A.length+i:=by simp;omega
   rw[hal2] at hf2 hg2 hp2
   obtain⟨s1,s2⟩:=mulsub_step hq hdb hcc hub
   have fin:∀d c2:Nat,d+q*ds[i]+cc=win[i]+18446744073709551616*c2→val 18446744073709551616 (out++[d])+q*val 18446744073709551616 (ds.take (i+1))=val 18446744073709551616 (win.take (i+1))+18446744073709551616^(i+1)*c2:=by
    intro d c2 e
    rw[val_snoc,hvd,hvw,hol,Nat.pow_succ,Nat.mul_assoc]
    have e2:=congrArg (fun z=>18446744073709551616^i*z) e
    simp only[Nat.mul_add] at e2⊢
    rw[Nat.mul_left_comm q (18446744073709551616^i) ds[i]]
    omega
   have f1:=fin _ _ s1
   have b1:q*ds[i]%18446744073709551616<18446744073709551616:=Nat.mod_lt _ (by omega)
   have a1:=addU (a:=q*ds[i]/18446744073709551616) (b:=(q*ds[i]%18446744073709551616+cc)/18446744073709551616) (by omega)
   have a2:=addU (a:=q*ds[i]/18446744073709551616+(q*ds[i]%18446744073709551616+cc)/18446744073709551616) (b:=if win[i]<(q*ds[i]%18446744073709551616+cc)%18446744073709551616+0 then 1 else 0) s2
   simp only[go_sem,h0,h1,h7,h8,h13,h12,ltT him]
   refine⟨by omega,by omega, ?_⟩
   simp only[go_sem,gd,h0,h1,h7,h8,h13,h12]
   refine Mul64_calls hq hdb ?_
   simp only[go_sem,h0,h1,h7,h8,h13,h12]
   refine Add64_calls (c:=0) b1 hcc (by omega) ?_
   simp only[go_sem,Nat.add_zero,a1,h0,h1,h7,h8,h13,h12]
   refine⟨by omega,by omega, ?_⟩
   simp only[go_sem,hg2]
   refine Sub64_calls (c:=0) (by omega) ?_
   simp only[go_sem,h0,h13]
   refine⟨by omega,by omega, ?_⟩
   simp only[go_sem,hr2]
   refine⟨ho2,by omega, ?_⟩
   simp only[go_sem,h0,h1,h7,h8,h13,a2,incI (i:=i) (by omega)]
   refine⟨by omega,hkb.set ha hb2 hl2 _,by first|rfl|trivial|assumption,by first|rfl|trivial|assumption,by first|rfl|trivial|assumption,by first|rfl|trivial|assumption,by first|rfl|trivial|assumption,out++[_],_,rfl,s2,by simp;omega,hod.append (Dig.one (Nat.mod_lt _ (by omega))), ?_,f1⟩
   rw[app_mid]
   exact hp2 _
  ·have:i=m:=by omega
   subst this
   simp only[go_sem,h0,h1,h7,h8,h13,h12,ltF (Nat.le_refl i)]
   refine⟨hkb,by first|rfl|trivial|assumption,by first|rfl|trivial|assumption,by first|rfl|trivial|assumption,by first|rfl|trivial|assumption,out,cc,by first|rfl|trivial|assumption,hcc,hol,hod, ?_, ?_⟩
   ·rw[List.drop_eq_getElem_cons (show i<win.length by omega),List.drop_of_length_le (show win.length≤i+1 by omega)] at hs
    exact hs
   ·rw[List.take_of_length_le (show ds.length≤i by omega)] at hov
    exact hov
 rintro ρ h' ⟨hkb,h0,h1,h7,h8,out,cc,h12,hcc,hol,hod,hs,hov⟩
 have hvw:=val_take_succ 18446744073709551616 win m (by omega)
 rw[←hwl,List.take_length] at hvw
 generalize win[m]'(by omega)=um at*
 obtain⟨i2,r2,ee,hb2,hl2,hr2,ho2,hf2,hg2,hn2,hp2⟩:=hs.mid hkb.1
 injection ee with ee
 subst ee
 have hal2:(A++out).length=A.length+m:=by simp;omega
 rw[hal2] at hf2 hg2 hp2
 simp only[go_sem,h0,h1,h7,h8,h12]
 refine⟨by omega,by omega, ?_⟩
 simp only[go_sem,hg2,h7,h0,h8,h12]
 refine Sub64_calls (c:=0) (by omega) ?_
 simp only[go_sem,h0,h7]
 refine⟨by omega,by omega, ?_⟩
 simp only[go_sem,hr2]
 refine⟨ho2,by omega, ?_⟩
 have hG:=hp2 ((um+18446744073709551616-cc-0)%18446744073709551616)
 have hkb2:=hkb.set ha hb2 hl2 {r2 with cells:=putAt r2.cells (A.length+m) [AV.int .u64 (((um+18446744073709551616-cc-0)%18446744073709551616:Nat):Int)]}
 generalize h'.set iu {r2 with cells:=putAt r2.cells (A.length+m) [AV.int .u64 (((um+18446744073709551616-cc-0)%18446744073709551616:Nat):Int)]}=h2 at*
 have hwd2:(um+18446744073709551616-cc-0)%18446744073709551616<18446744073709551616:=Nat.mod_lt _ (by omega)
 have hk1:(if um<cc+0 then 1 else 0)≤1:=by split<;>omega
 have hsub:(um+18446744073709551616-cc-0)%18446744073709551616+cc=um+18446744073709551616*(if um<cc+0 then 1 else 0):=by split<;>omega
 generalize (um+18446744073709551616-cc-0)%18446744073709551616=w at*
 generalize (if um<cc+0 then 1 else 0)=kk at*
 have hR:val 18446744073709551616 (out++[w])+q*val 18446744073709551616 ds=val 18446744073709551616 win+18446744073709551616^(m+1)*kk:=by
  have e2:=congrArg (fun z=>18446744073709551616^m*z) hsub
  simp only[Nat.mul_add] at e2
  rw[val_snoc,hol,hvw,Nat.pow_succ,Nat.mul_assoc]
  omega
 rw[←app_mid] at hG
 clear hov hsub hs hp2 hg2 hf2
 refine⟨fun q' ρ' h3=>KeptBut iu a hh h3∧ρ' 0= .sl (some iu) A.length (m+1) c0∧ρ' 1= .sl (some jd) off m c∧ρ' 7= .int .i64 (m:Int)∧ρ' 8= .int .u64 (q':Int)∧q'<18446744073709551616∧val 18446744073709551616 win<(q'+1)*val 18446744073709551616 ds∧∃ws kk,ρ' 18= .int .u64 (kk:Nat)∧kk≤1∧ws.length=m+1∧Dig ws∧IsG a.next h3 (.sl (some iu) 0 N ck) (A++(ws++C))∧val 18446744073709551616 ws+q'*val 18446744073709551616 ds=val 18446744073709551616 win+18446744073709551616^(m+1)*kk,q,
  ⟨hkb2,by first|rfl|trivial|assumption,by first|rfl|trivial|assumption,by first|rfl|trivial|assumption,by first|rfl|trivial|assumption,hq,hqT,out++[w],kk,rfl,hk1,by simp;omega,hod.append (Dig.one hwd2),by rw[←List.append_assoc];exact hG,hR⟩, ?_⟩
 clear hkb h0 h1 h7 h8 h12 hq hqT hR hG hkb2 hk1 hwd2 hcc hol hod hr2 ho2 hl2 hn2
 rintro q ρ h3 ⟨hkb,h0,h1,h7,h8,hq,hqT,ws,kk,h18,hk1,hwsl,hwsd,hG,hR⟩
 rcases Nat.eq_zero_or_pos kk with hz|hz
 ·subst hz
  rw[Nat.mul_zero,Nat.add_zero] at hR
  simp only[go_sem,h8,h18,neF (show((0:Nat):Int)=0 from rfl)]
  have hD0:0<val 18446744073709551616 ds:=by
   rcases Nat.eq_zero_or_pos (val 18446744073709551616 ds) with h|h
   ·rw[h] at hqT;omega
   ·exact h
  rw[Nat.add_mul,Nat.one_mul] at hqT
  have hlt:val 18446744073709551616 ws<val 18446744073709551616 ds:=by omega
  have e3:val 18446744073709551616 win/val 18446744073709551616 ds=q:=by
   rw[←hR,Nat.add_comm,Nat.mul_comm,Nat.mul_add_div hD0,Nat.div_eq_of_lt hlt,Nat.add_zero]
  have e4:val 18446744073709551616 win%val 18446744073709551616 ds=val 18446744073709551616 ws:=by
   rw[←hR,Nat.add_comm,Nat.mul_comm,Nat.mul_add_mod,Nat.mod_eq_of_lt hlt]
  rw[e3,e4] at hk
  exact fun _=>hk h3 ws hkb hG hwsd hwsl rfl
 ·have:kk=1:=by omega
  subst this
  rw[Nat.mul_one] at hR
  have hwlt:=val_lt 18446744073709551616 (by omega) ws hwsd
  rw[hwsl] at hwlt
  have hq1:1≤q:=by
   rcases Nat.eq_zero_or_pos q with h|h
   ·subst h;omega
   ·exact h
  have a0:IntKind.u64.wrap ((q:Int)-1)=((q-1:Nat):Int):=by rw[wU]<;>omega
  simp only[go_sem,h0,h1,h7,h8,h18,neT (show((1:Nat):Int)≠0 by omega),a0]
  refine loop_cut (fun ρ' h'=>KeptBut iu a hh h'∧ρ' 0= .sl (some iu) A.length (m+1) c0∧ρ' 1= .sl (some jd) off m c∧ρ' 7= .int .i64 (m:Int)∧ρ' 8= .int .u64 ((q-1:Nat):Int)∧ρ' 18= .int .u64 ((1:Nat):Int)∧∃out cc,ρ' 12= .int .u64 (cc:Nat)∧cc≤1∧out.length=m∧Dig out∧IsG a.next h' (.sl (some iu) 0 N ck) ((A++out)++ws[m]'(by omega)::C)∧val 18446744073709551616 out+18446744073709551616^m*cc=val 18446744073709551616 (ws.take m)+val 18446744073709551616 ds) ?_ ?_
  ·refine for_rule (fun i ρ' h'=>i≤m∧KeptBut iu a hh h'∧ρ' 0= .sl (some iu) A.length (m+1) c0∧ρ' 1= .sl (some jd) off m c∧ρ' 7= .int .i64 (m:Int)∧ρ' 8= .int .u64 ((q-1:Nat):Int)∧ρ' 18= .int .u64 ((1:Nat):Int)∧ρ' 19= .int .i64 (i:Int)∧∃out cc,ρ' 12= .int .u64 (cc:Nat)∧cc≤1∧out.length=i∧Dig out∧IsG a.next h' (.sl (some iu) 0 N ck) ((A++out)++(ws.drop i++C))∧val 18446744073709551616 out+18446744073709551616^i*cc=val 18446744073709551616 (ws.take i)+val 18446744073709551616 (ds.take i)) m ⟨by omega,hkb,by first|rfl|trivial|assumption,by first|rfl|trivial|assumption,by first|rfl|trivial|assumption,by first|rfl|trivial|assumption,by first|rfl|trivial|assumption,rfl,[],0,rfl,by omega,rfl,Dig.nil,by simpa using hG,rfl⟩ (fun i ρ h hI=>hI.1) ?_
   rintro i ρ h' ⟨hi,hkb,h0,h1,h7,h8,h18,h19,out,cc,h12,hcc,hol,hod,hs,hov⟩
   rcases Nat.lt_or_ge i m with him|him
   ·have hdb:=hdd _ (List.getElem_mem (show i<ds.length by omega))
    have hub:=hwsd _ (List.getElem_mem (show i<ws.length by omega))
    have hvd:=val_take_succ 18446744073709551616 ds i (by omega)
    have hvw:=val_take_succ 18446744073709551616 ws i (by omega)
    obtain⟨_,ee,gd⟩:=hds h' hkb.2.1 i him
    injection ee with ee
    subst ee
    rw[List.drop_eq_getElem_cons (show i<ws.length by omega),List.cons_append] at hs
    obtain⟨i2,r2,ee,hb2,hl2,hr2,ho2,hf2,hg2,hn2,hp2⟩:=hs.mid hkb.1
    injection ee with ee
    subst ee
    have hal2:(A++out).length=A.length+i:=by simp;omega
    rw[hal2] at hf2 hg2 hp2
    have fin:∀d c2:Nat,d+18446744073709551616*c2=ws[i]+ds[i]+cc→val 18446744073709551616 (out++[d])+18446744073709551616^(i+1)*c2=val 18446744073709551616 (ws.take (i+1))+val 18446744073709551616 (ds.take (i+1)):=by
     intro d c2 e
     rw[val_snoc,hvd,hvw,hol,Nat.pow_succ,Nat.mul_assoc]
     have e2:=congrArg (fun z=>18446744073709551616^i*z) e
     simp only[Nat.mul_add] at e2⊢
     omega
    have f1:=fin ((ws[i]+ds[i]+cc)%18446744073709551616) ((ws[i]+ds[i]+cc)/18446744073709551616) (by omega)
    have f2:(ws[i]+ds[i]+cc)/18446744073709551616≤1:=by omega
    simp only[go_sem,h0,h1,h7,h8,h18,h19,h12,ltT him]
    refine⟨by omega,by omega, ?_⟩
    simp only[go_sem,hg2,h1,h19,h12]
    refine⟨by omega,by omega, ?_⟩
    simp only[go_sem,gd,h12]
    refine Add64_calls hub hdb hcc ?_
    simp only[go_sem,h0,h19]
    refine⟨by omega,by omega, ?_⟩
    simp only[go_sem,hr2]
    refine⟨ho2,by omega, ?_⟩
    simp only[go_sem,h0,h1,h7,h8,h18,h19,incI (i:=i) (by omega)]
    refine⟨by omega,hkb.set ha hb2 hl2 _,by first|rfl|trivial|assumption,by first|rfl|trivial|assumption,by first|rfl|trivial|assumption,by first|rfl|trivial|assumption,by first|rfl|trivial|assumption,by first|rfl|trivial|assumption,out++[_],_,rfl,f2,by simp;omega,hod.append (Dig.one (Nat.mod_lt _ (by omega))), ?_,f1⟩
    rw[app_mid]
    exact hp2 _
   ·have:i=m:=by omega
    subst this
    simp only[go_sem,h0,h1,h7,h8,h18,h19,h12,ltF (Nat.le_refl i)]
    refine⟨hkb,by first|rfl|trivial|assumption,by first|rfl|trivial|assumption,by first|rfl|trivial|assumption,by first|rfl|trivial|assumption,by first|rfl|trivial|assumption,out,cc,by first|rfl|trivial|assumption,hcc,hol,hod, ?_, ?_⟩
    ·rw[List.drop_eq_getElem_cons (show i<ws.length by omega),List.drop_of_length_le (show ws.length≤i+1 by omega)] at hs
     exact hs
    ·rw[List.take_of_length_le (show ds.length≤i by omega)] at hov
     exact hov
  rintro ρ h' ⟨hkb,h0,h1,h7,h8,h18,out,cc,h12,hcc,hol,hod,hs,hov⟩
  have hvw:=val_take_succ 18446744073709551616 ws m (by omega)
  rw[←hwsl,List.take_length] at hvw
  have hub:=hwsd _ (List.getElem_mem (show m<ws.length by omega))
  generalize ws[m]'(by omega)=um at*
  obtain⟨i2,r2,ee,hb2,hl2,hr2,ho2,hf2,hg2,hn2,hp2⟩:=hs.mid hkb.1
  injection ee with ee
  subst ee
  have hal2:(A++out).length=A.length+m:=by simp;omega
  rw[hal2] at hf2 hg2 hp2
  simp only[go_sem,h0,h1,h7,h8,h12]
  refine⟨by omega,by omega, ?_⟩
  simp only[go_sem,hg2,h12]
  refine Add64_calls (y:=0) hub (by omega) hcc ?_
  simp only[go_sem,h0,h7]
  refine⟨by omega,by omega, ?_⟩
  simp only[go_sem,hr2]
  refine⟨ho2,by omega, ?_⟩
  have hG:=hp2 ((um+0+cc)%18446744073709551616)
  have hkb2:=hkb.set ha hb2 hl2 {r2 with cells:=putAt r2.cells (A.length+m) [AV.int .u64 (((um+0+cc)%18446744073709551616:Nat):Int)]}
  generalize h'.set iu {r2 with cells:=putAt r2.cells (A.length+m) [AV.int .u64 (((um+0+cc)%18446744073709551616:Nat):Int)]}=h2 at*
  have hwd2:(um+0+cc)%18446744073709551616<18446744073709551616:=Nat.mod_lt _ (by omega)
  have hk2:(um+0+cc)/18446744073709551616≤1:=by omega
  have hadd:(um+0+cc)%18446744073709551616+18446744073709551616*((um+0+cc)/18446744073709551616)=um+cc:=by omega
  generalize (um+0+cc)%18446744073709551616=w at*
  generalize (um+0+cc)/18446744073709551616=c2 at*
  have a5:IntKind.u64.wrap (((1:Nat):Int)-(c2:Int))=((1-c2:Nat):Int):=by rw[wU]<;>omega
  have e5:q*val 18446744073709551616 ds=(q-1)*val 18446744073709551616 ds+val 18446744073709551616 ds:=by
   obtain⟨k,rfl⟩:∃k,q=k+1:=⟨q-1,by omega⟩
   rw[Nat.add_mul,Nat.one_mul]
   rfl
  have hR2:val 18446744073709551616 (out++[w])+(q-1)*val 18446744073709551616 ds=val 18446744073709551616 win+18446744073709551616^(m+1)*(1-c2):=by
   have e2:=congrArg (fun z=>18446744073709551616^m*z) hadd
   simp only[Nat.mul_add] at e2
   rw[val_snoc,hol]
   rw[Nat.pow_succ,Nat.mul_assoc]
   rw[Nat.pow_succ] at hR
   have:c2=0∨c2=1:=by omega
   rcases this with rfl|rfl<;>omega
  simp only[go_sem,h0,h1,h7,h8,h18,a5]
  refine⟨q-1,by omega,hkb2,by first|rfl|trivial|assumption,by first|rfl|trivial|assumption,by first|rfl|trivial|assumption,by first|rfl|trivial|assumption,by omega, ?_,out++[w],1-c2,rfl,by omega,by simp;omega,hod.append (Dig.one hwd2),by rw[←List.append_assoc,app_mid];exact hG,hR2⟩
  rw[show q-1+1=q by omega]
  omega
theorem digit_at {a h:H} {iu N m v j:Nat} {ck c0:Option Nat} {dv:AV} {A win C ds:List Nat} {K:AV→H→Prop} (hj:A.length=j) (ha:a.wf) (hal:a.le h) (hs:IsG a.next h (.sl (some iu) 0 N ck) (A++(win++C))) (hd:IsN a dv ds) (hm:2≤m) (hdl:ds.length=m) (hwl:win.length=m+1)
  (hwd:Dig win) (hdd:Dig ds) (hml:m≤1099511627776) (htop:9223372036854775808≤ds[m-1]'(by omega)) (hv:IsInv2 (ds[m-1]'(by omega)) (ds[m-2]'(by omega)) v) (hT:val 18446744073709551616 win<val 18446744073709551616 ds*18446744073709551616)
  (hk:∀h' ws,KeptBut iu a h h'→IsG a.next h' (.sl (some iu) 0 N ck) (A++(ws++C))→Dig ws→ws.length=m+1→val 18446744073709551616 ws=val 18446744073709551616 win%val 18446744073709551616 ds→K (.int .u64 (val 18446744073709551616 win/val 18446744073709551616 ds:Nat)) h'):
  ACalls Tryz.prog 104 [.sl (some iu) j (m+1) c0,dv, .int .u64 (v:Int)] h K:=by
 subst hj
 exact digit_calls ha hal hs hd hm hdl hwl hwd hdd hml htop hv hT hk
theorem IsG.other {b:Nat} {h:H} {iu k n:Nat} {ck:Option Nat} {us:List Nat} {r:Row} (hs:IsG b h (.sl (some iu) 0 n ck) us) (hne:iu≠k):IsG b (h.set k r) (.sl (some iu) 0 n ck) us:=by
 obtain⟨id,c,e,h1⟩:=hs
 refine⟨id,c,e, ?_⟩
 injection e with e1
 subst e1
 rcases h1 with⟨e2,_⟩|⟨i,q,e2,hb,hq,h2⟩
 ·cases e2
 ·injection e2 with e2
  subst e2
  exact .inr ⟨iu,q,rfl,hb,by rw[H.rows_set_ne hne];exact hq,h2⟩
theorem normed {ys:List Nat} {m s:Nat} (hm:ys.length=m) (hm1:1≤m) (hd:Dig ys) (h1:9223372036854775808≤ys[m-1]'(by omega)*2^s) (h2:ys[m-1]'(by omega)*2^s<18446744073709551616) (hs:s≤63):
  18446744073709551616^(m-1)*9223372036854775808≤val 18446744073709551616 ys*2^s∧val 18446744073709551616 ys*2^s<18446744073709551616^m:=by
 have e:=val_take_succ 18446744073709551616 ys (m-1) (by omega)
 rw[show m-1+1=m by omega,List.take_of_length_le (by omega)] at e
 have hlo:=val_lt_take 18446744073709551616 (by omega) ys hd (m-1)
 generalize val 18446744073709551616 (ys.take (m-1))=lo at*
 generalize ys[m-1]'(by omega)=b at*
 have e64:18446744073709551616=2^(64-s)*2^s:=by rw[←Nat.pow_add,show 64-s+s=64 from by omega]
 have hb:b+1≤2^(64-s):=by
  rw[e64] at h2
  exact Nat.lt_of_mul_lt_mul_right h2
 obtain⟨k,rfl⟩:∃k,m=k+1:=⟨m-1,by omega⟩
 rw[show k+1-1=k by omega] at*
 have p1:(lo+18446744073709551616^k*b)*2^s=lo*2^s+18446744073709551616^k*(b*2^s):=by rw[Nat.add_mul,Nat.mul_assoc]
 have p2:18446744073709551616^k*9223372036854775808≤18446744073709551616^k*(b*2^s):=Nat.mul_le_mul_left _ h1
 have p3:(lo+1)*2^s≤18446744073709551616^k*2^s:=Nat.mul_le_mul_right _ hlo
 have p4:18446744073709551616^k*((b+1)*2^s)≤18446744073709551616^k*18446744073709551616:=Nat.mul_le_mul_left _ (by rw[e64];exact Nat.mul_le_mul_right _ hb)
 have p5:18446744073709551616^k*((b+1)*2^s)=18446744073709551616^k*(b*2^s)+18446744073709551616^k*2^s:=by rw[Nat.add_mul,Nat.one_mul,Nat.mul_add]
 have p6:0<2^s:=Nat.pow_pos (by omega)
 rw[e,p1,Nat.pow_succ]
 rw[Nat.add_mul,Nat.one_mul] at p3
 omega
theorem top_digit {ds:List Nat} {m:Nat} (hm:ds.length=m) (hm1:1≤m) (hd:Dig ds) (h:18446744073709551616^(m-1)*9223372036854775808≤val 18446744073709551616 ds):9223372036854775808≤ds[m-1]'(by omega):=by
 have e:=val_take_succ 18446744073709551616 ds (m-1) (by omega)
 rw[show m-1+1=m by omega,List.take_of_length_le (by omega)] at e
 have hlo:=val_lt_take 18446744073709551616 (by omega) ds hd (m-1)
 generalize val 18446744073709551616 (ds.take (m-1))=lo at*
 generalize ds[m-1]'(by omega)=b at*
 rcases Nat.lt_or_ge b 9223372036854775808 with h1|h1
 ·exfalso
  have:18446744073709551616^(m-1)*(b+1)≤18446744073709551616^(m-1)*9223372036854775808:=Nat.mul_le_mul_left _ h1
  rw[Nat.mul_add,Nat.mul_one] at this
  omega
 ·exact h1
theorem long_step {us A win C ws:List Nat} {j m D U:Nat} {qs:List Nat} (hus:us=A++(win++C)) (hA:A.length=j) (hAd:Dig A) (hC:∀x∈C,x=0) (hD:0<D) (hDm:D<18446744073709551616^m) (hws:ws.length=m+1) (hwd:Dig ws)
  (hwv:val 18446744073709551616 ws=val 18446744073709551616 win%D) (hU:U=val 18446744073709551616 us+D*18446744073709551616^(j+1)*val 18446744073709551616 qs) (hwl:win.length=m+1):
  U=val 18446744073709551616 (A++(ws++C))+D*18446744073709551616^j*val 18446744073709551616 (val 18446744073709551616 win/D::qs)∧val 18446744073709551616 (A++(ws++C))<D*18446744073709551616^j∧∀x∈(A++(ws++C)).drop (j+m),x=0:=by
 have hCv:val 18446744073709551616 C=0:=val_zero 18446744073709551616 C hC
 have e1:val 18446744073709551616 us=val 18446744073709551616 A+18446744073709551616^j*val 18446744073709551616 win:=by rw[hus,val_append,val_append,hA,hCv];simp
 have e2:val 18446744073709551616 (A++(ws++C))=val 18446744073709551616 A+18446744073709551616^j*(val 18446744073709551616 win%D):=by rw[val_append,val_append,hA,hCv,hwv];simp
 have h1:=Nat.div_add_mod (val 18446744073709551616 win) D
 have h2:=Nat.mod_lt (val 18446744073709551616 win) hD
 have hAl:=val_lt 18446744073709551616 (by omega) A hAd
 rw[hA] at hAl
 refine⟨?_, ?_, ?_⟩
 ·rw[hU,e1,e2]
  simp only[val,Nat.pow_succ]
  generalize val 18446744073709551616 win/D=q at*
  generalize val 18446744073709551616 win%D=r at*
  rw[←h1]
  grind
 ·rw[e2]
  have:18446744073709551616^j*(val 18446744073709551616 win%D+1)≤18446744073709551616^j*D:=Nat.mul_le_mul_left _ h2
  rw[Nat.mul_add,Nat.mul_one] at this
  rw[Nat.mul_comm D]
  omega
 ·intro x hx
  have hwm:ws.drop m=[0]:=by
   have h3:=val_take_succ 18446744073709551616 ws m (by omega)
   rw[←hws,List.take_length] at h3
   have h4:ws[m]'(by omega)=0:=by
    rcases Nat.eq_zero_or_pos (ws[m]'(by omega)) with h|h
    ·exact h
    ·have:18446744073709551616^m*1≤18446744073709551616^m*ws[m]'(by omega):=Nat.mul_le_mul_left _ h
     omega
   rw[List.drop_eq_getElem_cons (show m<ws.length by omega),h4,List.drop_of_length_le (by omega)]
  have:(A++(ws++C)).drop (j+m)=ws.drop m++C:=by
   rw[List.drop_append,hA,List.drop_of_length_le (by omega),show j+m-j=m by omega,List.nil_append,List.drop_append,hws,show m-(m+1)=0 by omega,List.drop_zero]
  rw[this,hwm] at hx
  rcases List.mem_append.1 hx with hx|hx
  ·simpa using hx
  ·exact hC x hx
def longCost (x y:Nat):Nat:=if wlen x<wlen y then 0 else(wlen x-wlen y+1)*(wlen y+1)
theorem Long_calls {e u m0 nw dp:Nat} {t:Tb} {va vb:AV} {x y:Nat} {h:H} {K:AV→H→Prop} (he:Eng 5 h e u) (ht:Tune h u m0 nw dp t) (nv:Nn h va x) (nu:Nn h vb y) (hx:Big x) (hy:Big y)
  (hk0:y=0→h.wf→K (.tup [.sl none 0 0 none, .sl none 0 0 none, .int .i64 2]) h)
  (hk:0<y→∀q r h',h'.wf→H.lee u h h'→Tune h' u (m0+longCost x y) nw dp t→Nf h.next h' q (x/y)→Nf h.next h' r (x%y)→K (.tup [q,r, .int .i64 0]) h'):
  ACalls Tryz.prog 86 [.ptr (some (e,0)),va,vb] h K:=by
 obtain⟨xs,hv,hxd,hxl,rfl⟩:=nv
 obtain⟨ys,hu,hyd,hyl,rfl⟩:=nu
 have hwx:=wlen_big hx
 have hwy:=wlen_big hy
 rw[wordL_eq] at hwx hwy
 refine in_divs_Engine_Long (by simp) fun hw=> ?_
 unfold c_divs_Engine_Long
 simp only[go_sem]
 refine Len_calls hv hxd (by omega) ?_
 simp only[go_sem]
 refine Len_calls hu hyd (by omega) ?_
 rcases Nat.eq_zero_or_pos (val 18446744073709551616 ys) with hy0|hy0
 ·simp only[go_sem,eqT (show((wlen (val 18446744073709551616 ys):Nat):Int)=0 by rw[hy0];rfl)]
  exact hk0 hy0
 have hm1:1≤wlen (val 18446744073709551616 ys):=by
  rcases Nat.eq_zero_or_pos (wlen (val 18446744073709551616 ys)) with h|h
  ·have:=wlen_eq_zero.1 h;omega
  ·exact h
 simp only[go_sem,eqF (show((wlen (val 18446744073709551616 ys):Nat):Int)≠0 by omega)]
 rcases Nat.lt_or_ge (wlen (val 18446744073709551616 xs)) (wlen (val 18446744073709551616 ys)) with hlt|hge
 ·simp only[go_sem,ltT hlt]
  refine Norm_calls ⟨xs,hv,hxd,hxl,rfl⟩ fun r h' hw' hl' hr=> ?_
  have hxy:val 18446744073709551616 xs<val 18446744073709551616 ys:=by
   rcases Nat.lt_or_ge (val 18446744073709551616 xs) (val 18446744073709551616 ys) with h|h
   ·exact h
   ·have:=wlen_mono h;omega
  simp only[go_sem]
  refine fun _=>hk hy0 _ _ h' hw' hl'.lee ?_ ?_ ?_
  ·unfold longCost
   rw[if_pos hlt]
   exact ht.mono hl'
  ·rw[Nat.div_eq_of_lt hxy]
   exact Nf.nil _ _ _
  ·rw[Nat.mod_eq_of_lt hxy]
   exact hr
 have hcost:longCost (val 18446744073709551616 xs) (val 18446744073709551616 ys)=(wlen (val 18446744073709551616 xs)-wlen (val 18446744073709551616 ys)+1)*(wlen (val 18446744073709551616 ys)+1):=by unfold longCost;rw[if_neg (by omega)]
 have hcb:(wlen (val 18446744073709551616 xs)-wlen (val 18446744073709551616 ys)+1)*(wlen (val 18446744073709551616 ys)+1)≤500001*500001:=Nat.mul_le_mul (by omega) (by omega)
 rw[hcost] at hk
 clear hcost
 simp only[Eng] at he
 obtain⟨r1,e1,hr1,hc1,r2,e2,hr2,hc2,r3,e3,hr3,hc3,r4,e4,hr4,hc4,r5,e5,hr5,hc5,rfl⟩:=he
 have g1:h.get e 0=some (.ptr (some (e1,0))):=by rw[H.get_of hr1,hc1];rfl
 have g2:h.get e1 0=some (.ptr (some (e2,0))):=by rw[H.get_of hr2,hc2];rfl
 have g3:h.get e2 0=some (.ptr (some (e3,0))):=by rw[H.get_of hr3,hc3];rfl
 have g4:h.get e3 0=some (.ptr (some (e4,0))):=by rw[H.get_of hr4,hc4];rfl
 have g5:h.get e4 0=some (.ptr (some (e5,0))):=by rw[H.get_of hr5,hc5];rfl
 obtain⟨n,hn0⟩:∃n,n=wlen (val 18446744073709551616 xs):=⟨_,rfl⟩
 obtain⟨m,hmm⟩:∃m,m=wlen (val 18446744073709551616 ys):=⟨_,rfl⟩
 rw[←hn0,←hmm] at hk hcb
 rw[←hn0] at hwx
 rw[←hmm] at hwy
 rw[←hn0,←hmm] at hge
 rw[←hmm] at hm1
 rw[←hn0,←hmm]
 have a1:=subI (a:=n) (b:=m) hge (by omega)
 have a2:=incI (i:=n-m) (by omega)
 have a3:=incI (i:=m) (by omega)
 have a4:=mulI (a:=n-m+1) (b:=m+1) (by omega)
 simp only[go_sem,ltF hge,g1,g2,g3,g4,g5,a1,a2,a3,a4]
 refine Spend_calls ht fun h1 hw1 hl1 hn1 ht1=> ?_
 have hv1:=hv.monoE ht hl1
 have hu1:=hu.monoE ht hl1
 have hul:=H.row_lt hw ht
 obtain⟨yt,hytd,hytt,hytv,hytl,hytle,hyte⟩:=cut_open hyd
 rw[←hmm] at hytl
 obtain⟨idb,offb,cb,rfl⟩:=hu1.form
 have hl10:H.lee e5 h h1:=hl1
 by_cases hmone:m=1
 ·subst hmone
  have hy1:0<ys.length:=by omega
  have hval:val 18446744073709551616 ys=ys[0]:=by
   rw[←hytv,hyte 0 (by omega) hy1]
   match yt,hytl with
   |[z],_=>simp[val]
  have hyb:=hyd _ (List.getElem_mem hy1)
  obtain⟨jb,rfl,_,hgb⟩:=hu1.at hy1
  rw[Nat.add_zero] at hgb
  simp only[go_sem,eqT (show((1:Nat):Int)=1 from rfl)]
  refine⟨by omega,by omega, ?_⟩
  simp only[go_sem,Nat.zero_mul,Nat.add_zero,hgb]
  rw[hval] at hy0 hk
  refine lDivWord_calls ⟨xs,hv1,hxd,hxl,rfl⟩ hyb hy0 fun q h2 hw2 hl2 hq=> ?_
  simp only[go_sem]
  refine One_calls (Nat.lt_trans (Nat.mod_lt _ hy0) hyb) fun r h3 hw3 hl3 hr=> ?_
  simp only[go_sem]
  exact fun _=>hk hy0 q r h3 hw3 (hl10.trans (H.le_trans hl2 hl3).lee) (ht1.mono (H.le_trans hl2 hl3)) ((hq.mono hl3).base (by omega)) (hr.base (by have:=hl2.1;omega))
 ·have hm2:2≤m:=by omega
  have a5:IntKind.i64.wrap ((m:Int)-1)=((m-1:Nat):Int):=decI (by omega) (by omega)
  have a6:IntKind.i64.wrap ((m:Int)-2)=((m-2:Nat):Int):=by rw[wI]<;>omega
  have hmy:m-1<ys.length:=by omega
  have hyb:=hyd _ (List.getElem_mem hmy)
  obtain⟨jb,rfl,_,hgb⟩:=hu1.at hmy
  have hyeq:=hyte (m-1) (by omega) hmy
  have hb0:0<ys[m-1]:=by
   rw[hyeq]
   have:=hytt (yt[m-1]'(by omega)) (by rw[List.getLast?_eq_getElem?,show yt.length-1=m-1 by omega,List.getElem?_eq_getElem (by omega)])
   omega
  simp only[go_sem,eqF (show(m:Int)≠1 by omega),a5]
  refine⟨by omega,by omega, ?_⟩
  simp only[go_sem,hgb]
  refine LeadingZeros64_calls hyb hb0 fun s hs63 hsb hsb2=> ?_
  rw[hyeq] at hsb hsb2
  obtain⟨hn1',hn2'⟩:=normed hytl.symm (by omega) hytd hsb hsb2 hs63
  rw[hytv] at hn1' hn2'
  simp only[go_sem]
  refine lShl_calls ⟨ys,hu1,hyd,hyl,rfl⟩ (by omega) fun d h2 hw2 hl2 hd=> ?_
  obtain⟨ds,hdG,hdd,hdt,hdv⟩:=hd
  have hdl:ds.length=m:=by
   have q1:=top_len hdd hdt
   rw[hdv] at q1
   have q2:wlen (val 18446744073709551616 ys*2^s)≤m:=wlen_le.2 hn2'
   have q3:m-1<wlen (val 18446744073709551616 ys*2^s):=lt_wlen.2 (Nat.le_trans (Nat.le_mul_of_pos_right _ (by omega)) hn1')
   omega
  have hdN:=hdG.isN
  have a7:=incI (i:=n) (by omega)
  simp only[go_sem,a7]
  refine⟨by omega,by omega,by omega, ?_⟩
  have hl3:=H.le_new hw2 (H.le_refl h2) ⟨some 73,1,zs [AV.int .u64 0] (n+1)⟩
  refine lShl_calls ⟨xs,(hv1.mono hl2).mono hl3,hxd,hxl,rfl⟩ (by omega) fun us0 h4 hw4 hl4 hus0=> ?_
  obtain⟨uz,huzG,huzd,huzt,huzv⟩:=hus0
  have huzl:uz.length≤n+1:=by
   rw[top_len huzd huzt,huzv]
   refine wlen_le.2 ?_
   have q1:=wlen_lt (val 18446744073709551616 xs)
   rw[←hn0] at q1
   have q2:2^s≤18446744073709551616:=(Nat.pow_le_pow_right (by omega) (by omega):2^s≤2^64)
   have q3:val 18446744073709551616 xs*2^s<18446744073709551616^n*18446744073709551616:=Nat.mul_lt_mul_of_lt_of_le q1 q2 (by omega)
   rw[Nat.pow_succ]
   exact q3
  simp only[go_sem]
  refine cpy_num (b:=h2.next) hw4 ((IsG.made (Nat.le_refl _) _).mono hl4) huzG.isN (by rw[List.length_replicate];omega) fun h5 hw5 hn5 hle5 hsu=> ?_
  have hl25:h2.le h5:=hle5 h2 hw2 (H.le_trans hl3 hl4) (Nat.le_refl _)
  rw[List.drop_replicate] at hsu
  obtain⟨idd,cd,rfl⟩:=hdG.form
  rw[hdl] at hdN hdG⊢
  have hdN5:=hdN.mono hl25
  obtain⟨jd,rfl,_,gd1⟩:=hdN5.at (j:=m-1) (by omega)
  obtain⟨jd',ee,_,gd2⟩:=hdN5.at (j:=m-2) (by omega)
  injection ee with ee
  subst ee
  have htop:=top_digit hdl (by omega) hdd (by rw[hdv];exact hn1')
  have hdb1:=hdd _ (List.getElem_mem (show m-1<ds.length by omega))
  have hdb2:=hdd _ (List.getElem_mem (show m-2<ds.length by omega))
  rw[Nat.zero_add] at gd1 gd2
  simp only[go_sem,a5,a6]
  refine⟨by omega,by omega, ?_⟩
  simp only[go_sem,gd1,a6]
  refine⟨by omega,by omega, ?_⟩
  simp only[go_sem,gd2]
  refine Inverse2_calls hdb1 hdb2 (fun hc=>absurd htop (by omega)) fun _ v hvi=> ?_
  simp only[go_sem,a1,a2]
  refine⟨by omega,by omega,by omega, ?_⟩
  obtain⟨L,hL⟩:∃L,L=n-m+1:=⟨_,rfl⟩
  rw[←hL]
  have hD0:0<val 18446744073709551616 ds:=by rw[hdv];exact Nat.mul_pos hy0 (Nat.pow_pos (by omega))
  have hDm:val 18446744073709551616 ds<18446744073709551616^m:=by rw[hdv];exact hn2'
  have husl:(uz++List.replicate (n+1-uz.length) 0).length=n+1:=by simp;omega
  have husv:val 18446744073709551616 (uz++List.replicate (n+1-uz.length) 0)=val 18446744073709551616 xs*2^s:=by rw[val_zeros,huzv]
  have hUlt:val 18446744073709551616 xs*2^s<val 18446744073709551616 ds*18446744073709551616^L:=by
   have q1:=wlen_lt (val 18446744073709551616 xs)
   rw[←hn0] at q1
   have q2:2^s≤9223372036854775808:=(Nat.pow_le_pow_right (by omega) hs63:2^s≤2^63)
   have q3:val 18446744073709551616 xs*2^s<18446744073709551616^n*9223372036854775808:=Nat.mul_lt_mul_of_lt_of_le q1 q2 (by omega)
   have q4:18446744073709551616^(m-1)*9223372036854775808*18446744073709551616^L≤val 18446744073709551616 ds*18446744073709551616^L:=Nat.mul_le_mul_right _ (by rw[hdv];exact hn1')
   have q5:18446744073709551616^(m-1)*9223372036854775808*18446744073709551616^L=18446744073709551616^n*9223372036854775808:=by
    rw[Nat.mul_right_comm,←Nat.pow_add]
    congr 2
    omega
   omega
  have hn52:h2.next<h5.next:=by
   have:=hl4.1
   rw[hn5]
   exact Nat.lt_of_lt_of_le (Nat.lt_succ_self _) this
  have hl56:=H.le_new hw5 (H.le_refl h5) ⟨some 73,1,zs [AV.int .u64 0] L⟩
  generalize hh6:h5.new ⟨some 73,1,zs [AV.int .u64 0] L⟩=h6 at*
  have hw6:h6.wf:=by rw[←hh6];exact H.wf_new hw5 _
  have hx6:IsG h5.next h6 (.sl (some h5.next) 0 L (some L)) (List.replicate L 0):=by rw[←hh6];exact IsG.made (Nat.le_refl _) _
  clear hh6
  refine⟨fun k ρ h'=>k≤L∧h'.wf∧h2.le h'∧h5.next<h'.next∧ρ 10= .int .i64 (m:Int)∧ρ 14= .int .i64 (s:Int)∧ρ 15= .sl (some jd) 0 m cd∧ρ 16= .sl (some h2.next) 0 (n+1) (some (n+1))∧ρ 17= .int .u64 (v:Int)∧ρ 19= .sl (some h5.next) 0 L (some L)∧ρ 20= .int .i64 ((k:Int)-1)∧∃us qs,us.length=n+1∧Dig us∧(∀x∈us.drop (k+m),x=0)∧val 18446744073709551616 us<val 18446744073709551616 ds*18446744073709551616^k∧
   IsG h2.next h' (.sl (some h2.next) 0 (n+1) (some (n+1))) us∧IsG h5.next h' (.sl (some h5.next) 0 L (some L)) (List.replicate k 0++qs)∧Dig qs∧qs.length=L-k∧val 18446744073709551616 xs*2^s=val 18446744073709551616 us+val 18446744073709551616 ds*18446744073709551616^k*val 18446744073709551616 qs,L,
   ⟨Nat.le_refl _,hw6,(H.le_trans hl25 hl56),H.row_lt hw6 (hx6.isN.row _ rfl).choose_spec.1,by first|rfl|trivial|assumption,by first|rfl|trivial|assumption,by first|rfl|trivial|assumption,by first|rfl|trivial|assumption,by first|rfl|trivial|assumption,by first|rfl|trivial|assumption,congrArg (AV.int .i64) (by omega),uz++List.replicate (n+1-uz.length) 0,[],husl,huzd.append (Dig.zeros _),fun z hz=>by rw[List.drop_of_length_le (by omega)] at hz;simp at hz,by rw[husv];exact hUlt,hsu.mono hl56,by simpa using hx6,Dig.nil,by simp,by rw[husv];simp[val]⟩, ?_⟩
  rintro k ρ h' ⟨hkL,hw',hle,hnx,h10,h14,h15,h16,h17,h19,h20,us,qs,hul',hud,huz0,huv,huG,hxG,hqd,hql,hU⟩
  rcases Nat.eq_zero_or_pos k with rfl|hp
  ·have hc:decide ((0:Int)≤((0:Nat):Int)-1)=false:=by decide
   rw[List.replicate_zero,List.nil_append] at hxG
   rw[Nat.pow_zero,Nat.mul_one] at huv hU
   simp only[go_sem,h10,h14,h15,h16,h17,h19,h20,hc]
   have hq1:val 18446744073709551616 xs/val 18446744073709551616 ys=val 18446744073709551616 qs∧val 18446744073709551616 us=val 18446744073709551616 xs%val 18446744073709551616 ys*2^s:=by
    rw[hdv] at hU huv
    have p0:0<2^s:=Nat.pow_pos (by omega)
    have z1:val 18446744073709551616 xs*2^s/(val 18446744073709551616 ys*2^s)=val 18446744073709551616 qs:=by
     rw[hU,Nat.add_comm,Nat.mul_add_div (Nat.mul_pos hy0 p0),Nat.div_eq_of_lt huv,Nat.add_zero]
    have z2:val 18446744073709551616 xs*2^s%(val 18446744073709551616 ys*2^s)=val 18446744073709551616 us:=by
     rw[hU,Nat.add_comm,Nat.mul_add_mod,Nat.mod_eq_of_lt huv]
    rw[Nat.mul_div_mul_right _ _ p0] at z1
    rw[Nat.mul_mod_mul_right] at z2
    exact⟨z1,z2.symm⟩
   have hbq:Big (val 18446744073709551616 qs):=by rw[←hq1.1];exact hx.le (Nat.div_le_self _ _)
   refine Norm_calls ⟨qs,hxG.isN,hqd,by omega,rfl⟩ fun q h7 hw7 hl7 hq=> ?_
   simp only[go_sem,h16,h14]
   refine lShr_calls ⟨us,huG.isN.mono hl7,hud,by omega,rfl⟩ (by omega) fun r h8 hw8 hl8 hr=> ?_
   rw[hq1.2,Nat.mul_div_cancel _ (Nat.pow_pos (by omega))] at hr
   rw[←hq1.1] at hq
   simp only[go_sem]
   have hb1:h.next≤h'.next:=by have:=hl2.1;have:=hle.1;omega
   exact fun _=>hk hy0 q r h8 hw8 (hl10.trans (H.le_trans hl2 (H.le_trans hle (H.le_trans hl7 hl8))).lee) (ht1.mono (H.le_trans hl2 (H.le_trans hle (H.le_trans hl7 hl8)))) ((hq.mono hl8).base hb1) (hr.base (Nat.le_trans hb1 hl7.1))
  ·have hc:decide ((0:Int)≤(k:Int)-1)=true:=by simp;omega
   have e5':(k:Int)-1=((k-1:Nat):Int):=by omega
   obtain⟨j,rfl⟩:∃j,k=j+1:=⟨k-1,by omega⟩
   rw[show j+1-1=j by omega] at e5'
   rw[e5'] at h20 hc
   have b1:IntKind.i64.wrap ((j:Int)+(m:Int))=((j+m:Nat):Int):=by rw[wI]<;>omega
   have b2:=incI (i:=j+m) (by omega)
   have b3:IntKind.i64.wrap ((j:Int)-1)=(j:Int)-1:=by rw[wI]<;>omega
   simp only[go_sem,h10,h14,h15,h16,h17,h19,h20,hc,b1,b2]
   refine⟨by omega,by omega,by omega, .inl (by omega),huG.isN.row, ?_⟩
   simp only[go_sem,h15,h17,Nat.zero_add,Nat.mul_one,Int.toNat_natCast,show j+m+1-j=m+1 by omega]
   have hsplit:us=us.take j++((us.drop j).take (m+1)++us.drop (j+(m+1))):=by
    rw[←List.drop_drop,List.take_append_drop,List.take_append_drop]
   have hAl:(us.take j).length=j:=by simp;omega
   have hwl:((us.drop j).take (m+1)).length=m+1:=by simp;omega
   have hAd:=hud.take j
   have hwd:Dig ((us.drop j).take (m+1)):=(hud.drop j).take _
   have hCz:∀x∈us.drop (j+(m+1)),x=0:=fun x hx=>huz0 x (by rw[show j+1+m=j+(m+1) by omega];exact hx)
   generalize us.take j=A at*
   generalize (us.drop j).take (m+1)=win at*
   generalize us.drop (j+(m+1))=C at*
   have hTlt:val 18446744073709551616 win<val 18446744073709551616 ds*18446744073709551616:=by
    have q1:18446744073709551616^j*val 18446744073709551616 win≤val 18446744073709551616 us:=by
     rw[hsplit,val_append,hAl,val_append,val_zero 18446744073709551616 C hCz,Nat.mul_zero,Nat.add_zero]
     exact Nat.le_add_left _ _
    rw[Nat.pow_succ] at huv
    have q2:18446744073709551616^j*val 18446744073709551616 win<18446744073709551616^j*(val 18446744073709551616 ds*18446744073709551616):=by
     have:val 18446744073709551616 ds*(18446744073709551616^j*18446744073709551616)=18446744073709551616^j*(val 18446744073709551616 ds*18446744073709551616):=by ac_rfl
     omega
    exact Nat.lt_of_mul_lt_mul_left q2
   rw[hsplit] at huG
   refine digit_at hAl hw2 hle huG hdN (by omega) hdl hwl hwd hdd (by omega) htop hvi hTlt fun h7 ws hkb hG7 hwsd hwsl hwsv=> ?_
   obtain⟨st1,st2,st3⟩:=long_step (D:=val 18446744073709551616 ds) (m:=m) hsplit hAl hAd hCz hD0 hDm hwsl hwsd hwsv hU hwl
   have hqlt:val 18446744073709551616 win/val 18446744073709551616 ds<18446744073709551616:=by
    rw[Nat.div_lt_iff_lt_mul hD0,Nat.mul_comm]
    exact hTlt
   have hx7:IsG h5.next h7 (.sl (some h5.next) 0 L (some L)) (List.replicate (j+1) 0++qs):=hxG.monoE hn52 ⟨Nat.le_of_eq hkb.2.2.1.symm,hkb.2.2.2⟩
   obtain⟨i8,r8,ee,hb8,hl8,hr8,ho8,hf8,hp8⟩:=hx7.put hkb.1 (j:=j) (by simp;omega)
   injection ee with ee
   subst ee
   have hq8:=hp8 (val 18446744073709551616 win/val 18446744073709551616 ds)
   rw[set_last] at hq8
   simp only[go_sem,h19,h20]
   refine⟨by omega,by omega, ?_⟩
   simp only[go_sem,Nat.zero_add,Nat.mul_one,hr8]
   refine⟨ho8,by omega, ?_⟩
   simp only[go_sem,h10,h14,h15,h16,h17,h19,h20,b3]
   refine⟨j,by omega,by omega,H.wf_set hkb.1 hl8 _,H.le_set hw2 hkb.2.1 (by omega) _,hl8,by first|rfl|trivial|assumption,by first|rfl|trivial|assumption,by first|rfl|trivial|assumption,by first|rfl|trivial|assumption,by first|rfl|trivial|assumption,by first|rfl|trivial|assumption,by first|rfl|trivial|assumption,A++(ws++C),(val 18446744073709551616 win/val 18446744073709551616 ds)::qs, ?_,hAd.append (hwsd.append (fun x hx=>by rw[hCz x hx];omega)),st3,st2,hG7.other (by omega),hq8, ?_,by simp;omega,st1⟩
   ·have:=congrArg List.length hsplit
    simp only[List.length_append] at this⊢
    omega
   ·intro x hx
    rcases List.mem_cons.1 hx with rfl|hx
    ·exact hqlt
    ·exact hqd x hx
theorem IsG.cut {b:Nat} {h:H} {id:Option Nat} {n:Nat} {c c':Option Nat} {xs:List Nat} (hv:IsG b h (.sl id 0 n c) xs) {m:Nat} (hm:m≤xs.length):IsG b h (.sl id 0 m c') (xs.take m):=by
 have:=IsF.cut (c':=c') hv (m:=m) (by simpa using hm)
 unfold IsG
 rw[List.map_take]
 exact this
theorem To_calls {v:AV} {x:Nat} {h:H} {K:AV→H→Prop} (nv:Num 4294967296 h v x) (hx:Big x)
  (hk:∀r h',h'.wf→h.le h'→Nf h.next h' r x→K r h'):ACalls Tryz.prog 51 [v] h K:=by
 obtain⟨xs,hv,hxd,hxt,rfl,hxl⟩:=nv.open hx
 obtain⟨id,off,c,rfl⟩:=hv.form
 refine in_ref02_To (by simp) fun hw=> ?_
 unfold c_ref02_To
 simp only[go_sem]
 refine for_rule (fun p ρ h'=>2*p≤xs.length+1∧h'.wf∧h.le h'∧ρ 0= .sl id off xs.length c∧ρ 4= .int .i64 ((2*p:Nat):Int)∧∃out,IsG h.next h' (ρ 3) out∧Dig out∧out.length=p∧val 18446744073709551616 out=val 4294967296 (xs.take (2*p))) (xs.length+1) ⟨by omega,hw,H.le_refl h,rfl,rfl,[],IsF.nil _ _ _ _ _,Dig.nil,rfl,by simp[val]⟩ (fun i ρ h hI=>by omega) ?_
 rintro p ρ h' ⟨hp,hw',hle,h0,h4,out,hs,hod,hol,hov⟩
 have e2:IntKind.i64.wrap (((2*p:Nat):Int)+2)=((2*(p+1):Nat):Int):=by rw[wI]<;>omega
 have e1:=incI (i:=2*p) (by omega)
 rcases Nat.lt_or_ge (2*p) xs.length with hlt|hge
 ·have hxb:=hxd _ (List.getElem_mem hlt)
  have hyb:=getD_lt (B:=4294967296) (by omega) hxd (2*p+1)
  have hv1:=val_take_succ 4294967296 xs (2*p) hlt
  have hv2:=val_take_get 4294967296 xs (2*p+1)
  obtain⟨j,rfl,_,hg⟩:=(hv.mono hle).at hlt
  simp only[go_sem,h0,h4,ltT hlt]
  refine⟨by omega,by omega, ?_⟩
  simp only[go_sem,h0,h4,hg,e1]
  refine cond_cut (fun ρ' h2=>h2=h'∧ρ' 0= .sl (some j) off xs.length c∧ρ' 4= .int .i64 ((2*p:Nat):Int)∧ρ' 3=ρ 3∧ρ' 5= .int .u64 ((xs[2*p]+xs.getD (2*p+1) 0*4294967296:Nat):Int)) ?_ ?_
  ·rcases Nat.lt_or_ge (2*p+1) xs.length with hy|hy
   ·obtain⟨j',ee,_,hg'⟩:=(hv.mono hle).at hy
    injection ee with ee
    subst ee
    rw[getD_at hy] at hyb⊢
    have m1:IntKind.u64.wrap ((xs[2*p+1]:Int)*4294967296)=((xs[2*p+1]*4294967296:Nat):Int):=by rw[wU]<;>omega
    simp only[go_sem,h0,h4,ltT hy,e1]
    refine⟨by omega,by omega, ?_⟩
    simp only[go_sem,hg',m1,addU (a:=xs[2*p]) (b:=xs[2*p+1]*4294967296) (by omega),h0,h4]
    exact⟨trivial,trivial,trivial,trivial,trivial⟩
   ·rw[getD_ge hy]
    simp only[go_sem,h0,h4,ltF hy]
    exact⟨trivial,trivial,trivial,trivial,by simp⟩
  rintro ρ' h2 ⟨rfl,h0,h4,h3,h5⟩
  rw[←h3] at hs
  have hwb:xs[2*p]+xs.getD (2*p+1) 0*4294967296<18446744073709551616:=by omega
  simp only[go_sem,h0,h4,h5]
  refine app_lit [xs[2*p]+xs.getD (2*p+1) 0*4294967296] hw hw' hle hs rfl rfl (by simp;omega) fun v' h3' hw3 hle3 hv3=> ?_
  simp only[go_sem,h0,h4,e2]
  refine⟨by omega,hw3,hle3,by first|rfl|trivial|assumption,by first|rfl|trivial|assumption,_,hv3,hod.append (Dig.one hwb),by simp;omega, ?_⟩
  rw[val_snoc,hol,hov,show 2*(p+1)=2*p+1+1 by omega,hv2,hv1,show 18446744073709551616^p=4294967296^(2*p) by rw[Nat.pow_mul],Nat.pow_succ,Nat.mul_add]
  rw[Nat.mul_assoc,Nat.mul_comm 4294967296,←Nat.add_assoc]
 ·simp only[go_sem,h0,h4,ltF hge]
  rw[List.take_of_length_le hge] at hov
  obtain⟨k0,ck,h3⟩:=hs.form
  rw[h3] at hs
  refine⟨fun k ρ h2=>h2=h'∧k≤out.length∧ρ 3= .sl k0 0 k ck∧(∀x∈out.drop k,x=0),out.length,⟨rfl,Nat.le_refl _,h3,by simp⟩, ?_⟩
  clear h3
  rintro k ρ h2 ⟨rfl,hk1,h3,hz⟩
  have hG:=hs.cut (c':=ck) hk1
  have fin:Top (out.take k)→K (.sl k0 0 k ck) h2:=fun ht=>hk _ h2 hw' hle ⟨out.take k,hG,hod.take k,ht,by rw[val_take 18446744073709551616 out k hz,hov]⟩
  rcases Nat.eq_zero_or_pos k with hz0|hpos
  ·subst hz0
   simp only[go_sem,h3,show decide ((0:Int)<((0:Nat):Int))=false from rfl]
   exact fun _=>fin (by simp[Top])
  ·have e3:IntKind.i64.wrap ((k:Int)-1)=((k-1:Nat):Int):=decI hpos (by omega)
   obtain⟨i,rfl,_,hg⟩:=hs.isN.at (j:=k-1) (by omega)
   rw[Nat.zero_add] at hg
   simp only[go_sem,h3,show decide ((0:Int)<(k:Int))=true from decide_eq_true (by omega),e3]
   refine⟨by omega,by omega, ?_⟩
   simp only[go_sem,hg,h3]
   by_cases hx0:out[k-1]=0
   ·simp only[go_sem,eqT (show((out[k-1]:Nat):Int)=0 by omega),h3,e3]
    refine⟨by omega,by omega,hG.isN.row, ?_⟩
    refine⟨k-1,by omega,by first|rfl|trivial|assumption,by omega,by first|rfl|trivial|assumption,fun x hm=> ?_⟩
    rw[List.drop_eq_getElem_cons (by omega)] at hm
    rcases List.mem_cons.1 hm with rfl|hm
    ·exact hx0
    ·exact hz x (by rwa[show k-1+1=k from by omega] at hm)
   ·simp only[go_sem,eqF (show((out[k-1]:Nat):Int)≠0 by omega),h3]
    refine fun _=>fin fun x hl=> ?_
    rw[List.getLast?_eq_getElem?,List.length_take,Nat.min_eq_left hk1,List.getElem?_take,if_pos (by omega),List.getElem?_eq_getElem (by omega)] at hl
    injection hl with hl
    omega
theorem rSame_calls {v u:AV} {x:Nat} {h:H} {K:AV→H→Prop} (nv:Num 4294967296 h v x) (hx:Big x) (nu:Nt h u x)
  (hk:∀h',h'.wf→h.le h'→K (.bool true) h'):ACalls Tryz.prog 39 [v,u] h K:=by
 refine in_ref02_Same (by simp) fun hw=> ?_
 unfold c_ref02_Same
 simp only[go_sem]
 refine To_calls nv hx fun r h1 hw1 hl1 hr=> ?_
 obtain⟨xs,hr1,hr2,hr3,hr4⟩:=hr
 obtain⟨ys,hu,hyd,hyt,hyv⟩:=nu
 have e:ys=xs:=top_inj hyd hr2 hyt hr3 (by rw[hyv,hr4])
 subst e
 have hyl:ys.length≤wordL:=by rw[top_len hyd hyt,hyv];exact wlen_big hx
 rw[wordL_eq] at hyl
 obtain⟨id,off,c,rfl⟩:=hu.form
 have hrn:=hr1.isN
 obtain⟨id',off',c',rfl⟩:=hrn.form
 have hu1:=hu.mono hl1
 simp only[go_sem,neF (show(ys.length:Int)=ys.length from rfl)]
 refine for_rule (fun i ρ h'=>i≤ys.length∧h'=h1∧ρ 1= .sl id off ys.length c∧ρ 5= .sl id' off' ys.length c'∧ρ 6= .int .i64 (i:Int)) ys.length ⟨by omega,rfl,rfl,rfl,rfl⟩ (fun i ρ h hI=>hI.1) ?_
 rintro i ρ h' ⟨hi,rfl,q1,q5,q6⟩
 rcases Nat.lt_or_ge i ys.length with hlt|hge
 ·obtain⟨j,rfl,_,hg⟩:=hrn.at hlt
  obtain⟨j2,rfl,_,hg2⟩:=hu1.at hlt
  simp only[go_sem,q1,q5,q6,ltT hlt]
  refine⟨by omega,by omega, ?_⟩
  simp only[go_sem,hg,q1,q6]
  refine⟨by omega,by omega, ?_⟩
  simp only[go_sem,hg2,neF (show((ys[i]:Nat):Int)=(ys[i]:Nat) from rfl),q6,incI (i:=i) (by omega)]
  exact⟨by omega,by first|rfl|trivial|assumption,by first|rfl|trivial|assumption,by first|rfl|trivial|assumption,by first|rfl|trivial|assumption⟩
 ·have:i=ys.length:=by omega
  subst this
  simp only[go_sem,q1,q5,q6,ltF (Nat.le_refl ys.length)]
  exact fun hw'=>hk h' hw' hl1
theorem kSame_calls {v u:AV} {xs:List Nat} {h:H} {K:AV→H→Prop} (hv:IsN h v xs) (hu:IsN h u xs) (hl:xs.length<4611686018427387904) (hk:K (.bool true) h):ACalls Tryz.prog 50 [v,u] h K:=by
 obtain⟨id,off,c,rfl⟩:=hv.form
 obtain⟨id',off',c',rfl⟩:=hu.form
 refine in_keep_Same (by simp) fun hw=> ?_
 unfold c_keep_Same
 simp only[go_sem,neF (show(xs.length:Int)=xs.length from rfl)]
 refine for_rule (fun i ρ h'=>i≤xs.length∧h'=h∧ρ 0= .sl id off xs.length c∧ρ 1= .sl id' off' xs.length c'∧ρ 5= .int .i64 (i:Int)) xs.length ⟨by omega,rfl,rfl,rfl,rfl⟩ (fun i ρ h hI=>hI.1) ?_
 rintro i ρ h' ⟨hi,rfl,q0,q1,q5⟩
 rcases Nat.lt_or_ge i xs.length with hlt|hge
 ·obtain⟨j,rfl,_,hg⟩:=hv.at hlt
  obtain⟨j2,rfl,_,hg2⟩:=hu.at hlt
  simp only[go_sem,q0,q1,q5,ltT hlt]
  refine⟨by omega,by omega, ?_⟩
  simp only[go_sem,hg,q1,q5]
  refine⟨by omega,by omega, ?_⟩
  simp only[go_sem,hg2,neF (show((xs[i]:Nat):Int)=(xs[i]:Nat) from rfl),q5,incI (i:=i) (by omega)]
  exact⟨by omega,by first|rfl|trivial|assumption,by first|rfl|trivial|assumption,by first|rfl|trivial|assumption,by first|rfl|trivial|assumption⟩
 ·simp only[go_sem,q0,q1,q5,ltF hge]
  exact fun _=>hk
structure Sp (m dp m' dp' nw B D:Nat):Prop where
 m1:m≤m'
 m2:m'≤m+B
 d1:dp≤dp'
 d2:dp'≤max dp (nw+D)
theorem Sp.refl (m dp nw B D:Nat):Sp m dp m dp nw B D:=⟨by omega,by omega,by omega,by omega⟩
theorem Sp.trans {m dp m1 d1 m2 d2 nw B1 D1 B2 D2:Nat} (h:Sp m dp m1 d1 nw B1 D1) (k:Sp m1 d1 m2 d2 nw B2 D2):Sp m dp m2 d2 nw (B1+B2) (max D1 D2):=by
 have:=h.1;have:=h.2;have:=h.3;have:=h.4;have:=k.1;have:=k.2;have:=k.3;have:=k.4
 exact⟨by omega,by omega,by omega,by omega⟩
theorem Sp.le {m dp m' dp' nw B D B' D':Nat} (h:Sp m dp m' dp' nw B D) (hB:B≤B') (hD:D≤D'):Sp m dp m' dp' nw B' D':=by
 have:=h.1;have:=h.2;have:=h.3;have:=h.4
 exact⟨by omega,by omega,by omega,by omega⟩
theorem Sp.deep {m dp m' dp' nw B D:Nat} (h:Sp m (max dp (nw+1)) m' dp' (nw+1) B D):Sp m dp m' dp' nw B (D+1):=by
 have:=h.1;have:=h.2;have:=h.3;have:=h.4
 exact⟨by omega,by omega,by omega,by omega⟩
theorem tune_row {m nw dp:Nat} {t:Tb} {h:H} {u:Nat} (ht:Tune h u m nw dp t):h.get u 1=some (.int .i64 (nw:Int))∧h.get u 2=some (.int .i64 (dp:Int)):=by
 rw[H.get_of ht,H.get_of ht]
 exact⟨rfl,rfl⟩
theorem Enter_calls {u m nw dp:Nat} {t:Tb} {h:H} {K:AV→H→Prop} (ht:Tune h u m nw dp t) (hn:nw≤4611686018427387904)
  (hk:∀v h',h'.wf→H.lee u h h'→h'.next=h.next→Tune h' u m (nw+1) (max dp (nw+1)) t→K v h'):ACalls Tryz.prog 121 [.ptr (some (u,0))] h K:=by
 refine in_meter_Meter_Enter (by simp) fun hw=> ?_
 unfold c_meter_Meter_Enter
 have hul:=H.row_lt hw ht
 have hr:h.rows u=some (tuneRow m nw dp t):=ht
 have e1:=incI (i:=nw) (by omega)
 have p1:({tuneRow m nw dp t with cells:=putAt (tuneRow m nw dp t).cells 1 [AV.int .i64 ((nw+1:Nat):Int)]}:Row)=tuneRow m (nw+1) dp t:=by
  simp[tuneRow,putAt]
 have p2:({tuneRow m (nw+1) dp t with cells:=putAt (tuneRow m (nw+1) dp t).cells 2 [AV.int .i64 ((max dp (nw+1):Nat):Int)]}:Row)=tuneRow m (nw+1) (max dp (nw+1)) t:=by
  simp[tuneRow,putAt]
 simp only[go_sem,(tune_row ht).1,e1,hr]
 refine⟨by simp[tuneRow],by simp[tuneRow], ?_⟩
 rw[p1]
 have ht2:Tune (h.set u (tuneRow m (nw+1) dp t)) u m (nw+1) dp t:=H.rows_set _ _ _
 have hr2:(h.set u (tuneRow m (nw+1) dp t)).rows u=some (tuneRow m (nw+1) dp t):=ht2
 simp only[go_sem,(tune_row ht2).1,(tune_row ht2).2,maxN (a:=dp) (b:=nw+1),hr2]
 refine⟨by simp[tuneRow],by simp[tuneRow], ?_⟩
 rw[p2]
 have ht3:Tune ((h.set u (tuneRow m (nw+1) dp t)).set u (tuneRow m (nw+1) (max dp (nw+1)) t)) u m (nw+1) (max dp (nw+1)) t:=H.rows_set _ _ _
 simp only[go_sem,(tune_row ht3).1]
 exact fun hw'=>hk _ _ hw' ((H.lee_set _).trans (H.lee_set _)) rfl ht3
theorem Leave_calls {u m nw dp:Nat} {t:Tb} {h:H} {K:AV→H→Prop} (ht:Tune h u m (nw+1) dp t) (hn:nw≤4611686018427387904)
  (hk:∀v h',h'.wf→H.lee u h h'→h'.next=h.next→Tune h' u m nw dp t→K v h'):ACalls Tryz.prog 124 [.ptr (some (u,0))] h K:=by
 refine in_meter_Meter_Leave (by simp) fun hw=> ?_
 unfold c_meter_Meter_Leave
 have hr:h.rows u=some (tuneRow m (nw+1) dp t):=ht
 have e1:IntKind.i64.wrap (((nw+1:Nat):Int)-1)=(nw:Int):=(wI (by omega) (by omega)).trans (by omega)
 have d1:decide ((0:Int)<((nw+1:Nat):Int))=true:=decide_eq_true (by omega)
 have p1:({tuneRow m (nw+1) dp t with cells:=putAt (tuneRow m (nw+1) dp t).cells 1 [AV.int .i64 (nw:Int)]}:Row)=tuneRow m nw dp t:=by
  simp[tuneRow,putAt]
 simp only[go_sem,(tune_row ht).1,e1,d1,hr]
 refine⟨by simp[tuneRow],by simp[tuneRow], ?_⟩
 rw[p1]
 have ht2:Tune (h.set u (tuneRow m nw dp t)) u m nw dp t:=H.rows_set _ _ _
 simp only[go_sem,(tune_row ht2).1]
 exact fun hw'=>hk _ _ hw' (H.lee_set _) rfl ht2
theorem adU {a b:Nat} (h:a+b<18446744073709551616):IntKind.u64.wrap ((a:Int)+(b:Int))=((a+b:Nat):Int):=by rw[wU]<;>omega
theorem valset {B:Nat} {d:Nat}:∀{xs:List Nat} {k:Nat} (hk:k<xs.length),val B (xs.set k d)+B^k*xs[k]=val B xs+B^k*d
 |x::xs,0,_=>by simp[val];omega
 |x::xs,k+1,hk=>by
  have ih:=valset (B:=B) (d:=d) (xs:=xs) (k:=k) (by simpa using hk)
  simp only[List.set_cons_succ,val,List.getElem_cons_succ,Nat.pow_succ]
  have e:∀z,B^k*B*z=B*(B^k*z):=fun z=>by ac_rfl
  rw[e,e,Nat.add_assoc,←Nat.mul_add,ih,Nat.mul_add,←Nat.add_assoc]
theorem schoolstep {V w vt o v c d c2 B k i j os os2:Nat} (h1:os+B^k*c=V+B^i*(w*vt)) (h2:os2+B^k*o=os+B^k*d) (h3:d+B*c2=o+v*w+c) (hk:k=i+j):os2+B^(k+1)*c2=V+B^i*(w*(vt+B^j*v)):=by
 subst hk
 have e:=congrArg (fun z=>B^(i+j)*z) h3
 simp only[Nat.mul_add] at e
 have e1:B^(i+j)*(B*c2)=B^(i+j+1)*c2:=by rw[Nat.pow_succ];ac_rfl
 have e2:B^i*(w*(B^j*v))=B^(i+j)*(v*w):=by rw[Nat.pow_add];ac_rfl
 rw[Nat.mul_add,Nat.mul_add,e2]
 omega
theorem dropset {α:Type} {l:List α} {i k:Nat} {x:α} (h:i<k):(l.set i x).drop k=l.drop k:=by
 apply List.ext_getElem?
 intro j
 rw[List.getElem?_drop,List.getElem?_drop,List.getElem?_set,if_neg (by omega)]
theorem sMul_calls {e u m0 nw dp:Nat} {t:Tb} {va vb:AV} {xs ys:List Nat} {h:H} {K:AV→H→Prop} (he:Eng 1 h e u) (ht:Tune h u m0 nw dp t) (hv:IsN h va xs) (hxd:Dig xs) (hxl:xs.length≤1073741824) (hu:IsN h vb ys) (hyd:Dig ys) (hyl:ys.length≤1073741824)
  (hk:∀r h',h'.wf→H.lee u h h'→Tune h' u (m0+xs.length*ys.length) nw dp t→Nf h.next h' r (val 18446744073709551616 xs*val 18446744073709551616 ys)→K r h'):
  ACalls Tryz.prog 100 [.ptr (some (e,0)),va,vb] h K:=by
 obtain⟨id,off,c,rfl⟩:=hv.form
 obtain⟨id',off',c',rfl⟩:=hu.form
 refine in_school_Engine_Mul (by simp) fun hw=> ?_
 unfold c_school_Engine_Mul
 simp only[Eng] at he
 obtain⟨r1,e1,hr1,hc1,rfl⟩:=he
 have g1:h.get e 0=some (.ptr (some (e1,0))):=by rw[H.get_of hr1,hc1];rfl
 have hmul:xs.length*ys.length≤1073741824*1073741824:=Nat.mul_le_mul hxl hyl
 have a1:=mulI (a:=xs.length) (b:=ys.length) (by omega)
 have a2:=addI (a:=xs.length) (b:=ys.length) (by omega)
 simp only[go_sem,g1,a1]
 refine Spend_calls ht fun h1 hw1 hl1 hn1 ht1=> ?_
 have hv1:=hv.monoE ht hl1
 have hu1:=hu.monoE ht hl1
 simp only[go_sem,a2]
 refine⟨by omega,by omega,by omega, ?_⟩
 obtain⟨N,hN⟩:∃N,N=xs.length+ys.length:=⟨_,rfl⟩
 rw[←hN]
 have hl2:=H.le_new hw1 (H.le_refl h1) ⟨some 73,1,zs [AV.int .u64 0] N⟩
 refine loop_cut (fun ρ h'=>h'.wf∧h1.le h'∧ρ 7= .sl (some h1.next) 0 N (some N)∧∃os,IsG h1.next h' (.sl (some h1.next) 0 N (some N)) os∧Dig os∧os.length=N∧val 18446744073709551616 os=val 18446744073709551616 xs*val 18446744073709551616 ys) ?_ ?_
 ·refine for_rule (fun i ρ h'=>i≤xs.length∧h'.wf∧h1.le h'∧ρ 2= .sl id' off' ys.length c'∧ρ 7= .sl (some h1.next) 0 N (some N)∧ρ 35= .sl id off xs.length c∧ρ 36= .int .i64 (xs.length:Int)∧ρ 37= .int .i64 (i:Int)∧∃os,IsG h1.next h' (.sl (some h1.next) 0 N (some N)) os∧Dig os∧os.length=N∧(∀x∈os.drop (i+ys.length),x=0)∧val 18446744073709551616 os=val 18446744073709551616 (xs.take i)*val 18446744073709551616 ys) xs.length
   ⟨by omega,H.wf_new hw1 _,hl2,by first|rfl|trivial|assumption,by first|rfl|trivial|assumption,by first|rfl|trivial|assumption,by first|rfl|trivial|assumption,by first|rfl|trivial|assumption,_,IsG.made (Nat.le_refl _) _,Dig.zeros _,by simp,fun x hx=>by rw[List.drop_replicate] at hx;exact List.eq_of_mem_replicate hx,by rw[val_zero _ _ (fun x hx=>List.eq_of_mem_replicate hx)];simp[val]⟩ (fun i ρ h hI=>hI.1) ?_
  rintro i ρ h' ⟨hi,hw',hle,q2,q7,q35,q36,q37,os,hs,hod,hol,hz,hov⟩
  rcases Nat.lt_or_ge i xs.length with hxi|hxi
  ·obtain⟨ja,rfl,_,hga⟩:=(hv1.mono hle).at hxi
   have hxb:=hxd _ (List.getElem_mem hxi)
   have hvx:=val_take_succ 18446744073709551616 xs i hxi
   simp only[go_sem,q2,q7,q35,q36,q37,ltT hxi]
   refine⟨by omega,by omega, ?_⟩
   simp only[go_sem,hga,q2,q7,q35,q36,q37]
   generalize xs[i]=w at*
   refine loop_cut (fun ρ h'=>h'.wf∧h1.le h'∧ρ 2= .sl id' off' ys.length c'∧ρ 7= .sl (some h1.next) 0 N (some N)∧ρ 35= .sl (some ja) off xs.length c∧ρ 36= .int .i64 (xs.length:Int)∧ρ 37= .int .i64 (i:Int)∧ρ 8= .int .i64 (i:Int)∧∃os cc,ρ 10= .int .u64 (cc:Nat)∧cc<18446744073709551616∧IsG h1.next h' (.sl (some h1.next) 0 N (some N)) os∧Dig os∧os.length=N∧(∀x∈os.drop (i+ys.length),x=0)∧val 18446744073709551616 os+18446744073709551616^(i+ys.length)*cc=val 18446744073709551616 (xs.take i)*val 18446744073709551616 ys+18446744073709551616^i*(w*val 18446744073709551616 ys)) ?_ ?_
   ·refine for_rule (fun j ρ h'=>j≤ys.length∧h'.wf∧h1.le h'∧ρ 2= .sl id' off' ys.length c'∧ρ 7= .sl (some h1.next) 0 N (some N)∧ρ 35= .sl (some ja) off xs.length c∧ρ 36= .int .i64 (xs.length:Int)∧ρ 37= .int .i64 (i:Int)∧ρ 8= .int .i64 (i:Int)∧ρ 9= .int .u64 (w:Int)∧ρ 42= .sl id' off' ys.length c'∧ρ 43= .int .i64 (ys.length:Int)∧ρ 44= .int .i64 (j:Int)∧∃os cc,ρ 10= .int .u64 (cc:Nat)∧cc<18446744073709551616∧IsG h1.next h' (.sl (some h1.next) 0 N (some N)) os∧Dig os∧os.length=N∧(∀x∈os.drop (i+ys.length),x=0)∧val 18446744073709551616 os+18446744073709551616^(i+j)*cc=val 18446744073709551616 (xs.take i)*val 18446744073709551616 ys+18446744073709551616^i*(w*val 18446744073709551616 (ys.take j))) ys.length
     ⟨by omega,hw',hle,q2,q7,by first|rfl|trivial|assumption,q36,q37,by first|rfl|trivial|assumption,by first|rfl|trivial|assumption,by first|rfl|trivial|assumption,by first|rfl|trivial|assumption,by first|rfl|trivial|assumption,os,0,rfl,by omega,hs,hod,hol,hz,by simp[val,hov]⟩ (fun i ρ h hI=>hI.1) ?_
    rintro j ρ h2 ⟨hj,hw2,hle2,q2,q7,q35,q36,q37,q8,q9,q42,q43,q44,os,cc,q10,hcc,hs,hod,hol,hz,hov⟩
    rcases Nat.lt_or_ge j ys.length with hyj|hyj
    ·obtain⟨jb,rfl,_,hgb⟩:=(hu1.mono hle2).at hyj
     have hyb:=hyd _ (List.getElem_mem hyj)
     have hvy:=val_take_succ 18446744073709551616 ys j hyj
     generalize ys[j]=v at*
     have hkN:i+j<os.length:=by omega
     have hob:=hod _ (List.getElem_mem hkN)
     have hset:=fun d=>valset (B:=18446744073709551616) (d:=d) hkN
     obtain⟨jo,eo,_,hgo⟩:=hs.isN.at hkN
     injection eo with eo
     subst eo
     obtain⟨i2,r2,e2,hb2,hlt2,hr2,ho2,hf2,hp2⟩:=hs.put hw2 hkN
     injection e2 with e2
     subst e2
     have ast:=addmul_step (b:=w) (w:=v) (c:=cc) (a:=os[i+j]) hxb hyb hcc hob
     generalize os[i+j]=o at*
     rw[Nat.zero_add] at hgo
     simp only[go_sem,q2,q7,q35,q36,q37,q8,q9,q42,q43,q44,q10,ltT hyj]
     refine⟨by omega,by omega, ?_⟩
     simp only[go_sem,hgb,q9]
     refine Mul64_calls hxb hyb ?_
     simp only[go_sem,q10]
     have b1:w*v/18446744073709551616<18446744073709551616:=by
      rw[Nat.div_lt_iff_lt_mul (by omega)]
      exact Nat.mul_lt_mul_of_lt_of_le hxb (Nat.le_of_lt hyb) (by omega)
     refine Add64_calls (c:=0) (Nat.mod_lt _ (by omega)) hcc (by omega) ?_
     have b3:w*v/18446744073709551616+(w*v%18446744073709551616+cc)/18446744073709551616<18446744073709551616:=Nat.lt_of_le_of_lt (Nat.le_add_right _ _) ast.2
     have a3:IntKind.u64.wrap (((w*v/18446744073709551616:Nat):Int)+(((w*v%18446744073709551616+cc+0)/18446744073709551616:Nat):Int))=((w*v/18446744073709551616+(w*v%18446744073709551616+cc)/18446744073709551616:Nat):Int):=by rw[Nat.add_zero];exact adU b3
     have a4:=addI (a:=i) (b:=j) (by omega)
     simp only[go_sem,a3,a4,q7,q8]
     refine⟨by omega,by omega, ?_⟩
     simp only[go_sem,hgo,Nat.add_zero]
     refine Add64_calls (c:=0) hob (Nat.mod_lt _ (by omega)) (by omega) ?_
     have a5:IntKind.u64.wrap (((w*v/18446744073709551616+(w*v%18446744073709551616+cc)/18446744073709551616:Nat):Int)+(((o+(w*v%18446744073709551616+cc)%18446744073709551616+0)/18446744073709551616:Nat):Int))=((w*v/18446744073709551616+(w*v%18446744073709551616+cc)/18446744073709551616+(o+(w*v%18446744073709551616+cc)%18446744073709551616)/18446744073709551616:Nat):Int):=by rw[Nat.add_zero];exact adU ast.2
     simp only[go_sem,a4,q7]
     refine⟨by omega,by omega, ?_⟩
     simp only[go_sem,hr2]
     refine⟨ho2,by omega, ?_⟩
     simp only[go_sem,a5,q2,q7,q35,q36,q37,q8,q9,q42,q43,q44,incI (i:=j) (by omega)]
     refine⟨by omega,H.wf_set hw2 hlt2 _,H.le_set hw1 hle2 hb2 _,by first|rfl|trivial|assumption,by first|rfl|trivial|assumption,by first|rfl|trivial|assumption,by first|rfl|trivial|assumption,by first|rfl|trivial|assumption,by first|rfl|trivial|assumption,by first|rfl|trivial|assumption,by first|rfl|trivial|assumption,by first|rfl|trivial|assumption,by first|rfl|trivial|assumption,_,_,by first|rfl|trivial|assumption,ast.2,hp2 ((o+(w*v%18446744073709551616+cc)%18446744073709551616+0)%18446744073709551616),hod.set _ (Nat.mod_lt _ (by omega)),by rw[List.length_set];exact hol,by rw[dropset (by omega)];exact hz, ?_⟩
     rw[hvy]
     refine schoolstep hov (hset _) ?_ rfl
     rw[Nat.add_zero,ast.1,Nat.mul_comm v w]
    ·have:j=ys.length:=by omega
     subst this
     rw[List.take_length] at hov
     simp only[go_sem,q2,q7,q35,q36,q37,q8,q42,q43,q44,ltF (Nat.le_refl ys.length)]
     exact⟨hw2,hle2,by first|rfl|trivial|assumption,by first|rfl|trivial|assumption,by first|rfl|trivial|assumption,by first|rfl|trivial|assumption,by first|rfl|trivial|assumption,by first|rfl|trivial|assumption,os,cc,by first|rfl|trivial|assumption,hcc,hs,hod,hol,hz,hov⟩
   ·rintro ρ h2 ⟨hw2,hle2,q2,q7,q35,q36,q37,q8,os,cc,q10,hcc,hs,hod,hol,hz,hov⟩
    have hkN:i+ys.length<os.length:=by omega
    have a4:=addI (a:=i) (b:=ys.length) (by omega)
    obtain⟨i2,r2,e2,hb2,hlt2,hr2,ho2,hf2,hp2⟩:=hs.put hw2 hkN
    injection e2 with e2
    subst e2
    have hset:=valset (B:=18446744073709551616) (d:=cc) hkN
    have h0:os[i+ys.length]=0:=hz _ (by have:=List.getElem_mem (l:=os.drop (i+ys.length)) (n:=0) (by simp;omega);simpa using this)
    rw[h0,Nat.mul_zero,Nat.add_zero] at hset
    simp only[go_sem,q2,q7,q8,q10,a4]
    refine⟨by omega,by omega, ?_⟩
    simp only[go_sem,hr2]
    refine⟨ho2,by omega, ?_⟩
    simp only[go_sem,q2,q7,q35,q36,q37,incI (i:=i) (by omega)]
    refine⟨by omega,H.wf_set hw2 hlt2 _,H.le_set hw1 hle2 hb2 _,by first|rfl|trivial|assumption,by first|rfl|trivial|assumption,by first|rfl|trivial|assumption,by first|rfl|trivial|assumption,by first|rfl|trivial|assumption,_,hp2 cc,hod.set _ hcc,by rw[List.length_set];exact hol,fun x hx=> ?_, ?_⟩
    ·rw[show i+1+ys.length=i+ys.length+1 by omega,dropset (by omega)] at hx
     exact hz x (by rw[List.drop_eq_getElem_cons hkN];exact List.mem_cons_of_mem _ hx)
    ·rw[hset,hov,hvx,Nat.add_mul,Nat.mul_assoc]
  ·have:i=xs.length:=by omega
   subst this
   rw[List.take_length] at hov
   simp only[go_sem,q2,q7,q35,q36,q37,ltF (Nat.le_refl xs.length)]
   exact⟨hw',hle,by first|rfl|trivial|assumption,os,hs,hod,hol,hov⟩
 ·rintro ρ h2 ⟨hw2,hle2,q7,os,hs,hod,hol,hov⟩
  simp only[go_sem,q7]
  refine Norm_calls ⟨os,hs.isN,hod,by omega,hov⟩ fun r h3 hw3 hl3 hr=> ?_
  simp only[go_sem]
  exact fun _=>hk r h3 hw3 (hl1.trans (H.le_trans hle2 hl3).lee) ((ht1.mono hle2).mono hl3) (hr.base (by have:=hle2.1;omega))
theorem putAt_len {l m:List AV} {k:Nat} (h:k+m.length≤l.length):(putAt l k m).length=l.length:=by simp[putAt];omega
theorem putAt_get {l m:List AV} {k i:Nat} (h:k+m.length≤l.length):(putAt l k m)[i]? =if k≤i∧i<k+m.length then m[i-k]? else l[i]? :=by
 unfold putAt
 have hm:min k l.length=k:=by omega
 rcases Nat.lt_or_ge i k with h1|h1
 ·rw[if_neg (by omega),List.append_assoc,List.getElem?_append_left (by simp;omega),List.getElem?_take,if_pos h1]
 ·rcases Nat.lt_or_ge i (k+m.length) with h2|h2
  ·rw[if_pos ⟨h1,h2⟩,List.append_assoc,List.getElem?_append_right (by simp;omega),List.getElem?_append_left (by simp;omega)]
   simp[hm]
  ·rw[if_neg (by omega),List.getElem?_append_right (by simp;omega),List.getElem?_drop]
   congr 1
   simp[hm]
   omega
def IsC (z:Nat) (h:H) (v:AV) (n:Nat) (cs:List AV):Prop:=
 cs.length=n*z∧∃id off c,v= .sl id off n c∧((id=none∧n=0∧off=0)∨∃i r,id=some i∧h.rows i=some r∧(r.own=none∨r.esz=z)∧off+n*z≤r.cells.length∧(r.cells.drop off).take (n*z)=cs)
def IsCF (t:TypeId) (z b:Nat) (h:H) (v:AV) (n:Nat) (cs:List AV):Prop:=
 cs.length=n*z∧∃id c,v= .sl id 0 n c∧((id=none∧n=0)∨∃i r,id=some i∧b≤i∧h.rows i=some r∧r.own=some t∧r.esz=z∧n*z≤r.cells.length∧r.cells.take (n*z)=cs)
theorem IsCF.isC {t:TypeId} {z b n:Nat} {h:H} {v:AV} {cs:List AV} (hv:IsCF t z b h v n cs):IsC z h v n cs:=by
 obtain⟨hl,id,c,rfl,h1⟩:=hv
 refine⟨hl,id,0,c,rfl, ?_⟩
 rcases h1 with⟨rfl,rfl⟩|⟨i,r,rfl,_,hr,_,he,hf,ht⟩
 ·exact .inl ⟨rfl,rfl,rfl⟩
 ·exact .inr ⟨i,r,rfl,hr, .inr he,by omega,by simpa using ht⟩
theorem IsC.mono {z n:Nat} {h h':H} {v:AV} {cs:List AV} (hv:IsC z h v n cs) (hl:h.le h'):IsC z h' v n cs:=by
 obtain⟨h0,id,off,c,rfl,h1⟩:=hv
 refine⟨h0,id,off,c,rfl, ?_⟩
 rcases h1 with h1|⟨i,r,rfl,hr,h2⟩
 ·exact .inl h1
 ·exact .inr ⟨i,r,rfl,hl.2 i r hr,h2⟩
theorem IsCF.mono {t:TypeId} {z b n:Nat} {h h':H} {v:AV} {cs:List AV} (hv:IsCF t z b h v n cs) (hl:h.le h'):IsCF t z b h' v n cs:=by
 obtain⟨h0,id,c,rfl,h1⟩:=hv
 refine⟨h0,id,c,rfl, ?_⟩
 rcases h1 with h1|⟨i,r,rfl,hb,hr,h2⟩
 ·exact .inl h1
 ·exact .inr ⟨i,r,rfl,hb,hl.2 i r hr,h2⟩
theorem IsCF.base {t:TypeId} {z b b' n:Nat} {h:H} {v:AV} {cs:List AV} (hv:IsCF t z b h v n cs) (hb:b'≤b):IsCF t z b' h v n cs:=by
 obtain⟨h0,id,c,rfl,h1⟩:=hv
 refine⟨h0,id,c,rfl, ?_⟩
 rcases h1 with h1|⟨i,r,rfl,hb',h2⟩
 ·exact .inl h1
 ·exact .inr ⟨i,r,rfl,by omega,h2⟩
theorem IsC.monoE {u m nw dp z n:Nat} {tb:Tb} {h h':H} {v:AV} {cs:List AV} (ht:Tune h u m nw dp tb) (hz:z≠14) (hv:IsC z h v n cs) (hl:H.lee u h h'):IsC z h' v n cs:=by
 obtain⟨h0,id,off,c,rfl,h1⟩:=hv
 refine⟨h0,id,off,c,rfl, ?_⟩
 rcases h1 with h1|⟨i,r,rfl,hr,hor,h2⟩
 ·exact .inl h1
 ·refine .inr ⟨i,r,rfl,hl.2 i r ?_ hr,hor,h2⟩
  rintro rfl
  rw[ht] at hr
  injection hr with hr
  subst hr
  rcases hor with h|h
  ·simp[tuneRow] at h
  ·exact hz h.symm
theorem IsCF.monoE {t:TypeId} {z b n u:Nat} {h h':H} {v:AV} {cs:List AV} (hub:u<b) (hv:IsCF t z b h v n cs) (hl:H.lee u h h'):IsCF t z b h' v n cs:=by
 obtain⟨h0,id,c,rfl,h1⟩:=hv
 refine⟨h0,id,c,rfl, ?_⟩
 rcases h1 with h1|⟨i,r,rfl,hb,hr,h2⟩
 ·exact .inl h1
 ·exact .inr ⟨i,r,rfl,hb,hl.2 i r (by omega) hr,h2⟩
theorem IsCF.nil (t:TypeId) (z b:Nat) (h:H) (c:Option Nat):IsCF t z b h (.sl none 0 0 c) 0 []:=⟨by simp,none,c,rfl, .inl ⟨rfl,rfl⟩⟩
theorem IsC.nil (z:Nat) (h:H) (c:Option Nat):IsC z h (.sl none 0 0 c) 0 []:=⟨by simp,none,0,c,rfl, .inl ⟨rfl,rfl,rfl⟩⟩
theorem IsC.form {z n:Nat} {h:H} {v:AV} {cs:List AV} (hv:IsC z h v n cs):∃id off c,v= .sl id off n c:=by
 obtain⟨_,id,off,c,e,_⟩:=hv
 exact⟨id,off,c,e⟩
theorem IsC.row {z n m:Nat} {h:H} {id:Option Nat} {off:Nat} {c:Option Nat} {cs:List AV} (hv:IsC z h (.sl id off m c) n cs):∀i,id=some i→∃r,h.rows i=some r∧(r.own=none∨r.esz=z):=by
 obtain⟨_,id',off',c',e,h1⟩:=hv
 injection e with e1 e2 e3 e4
 subst e1
 rintro i rfl
 rcases h1 with⟨h0,_,_⟩|⟨i',r,h0,hr,he,_⟩
 ·cases h0
 ·injection h0 with h0
  subst h0
  exact⟨r,hr,he⟩
theorem IsC.at {z n m:Nat} {h:H} {id:Option Nat} {off:Nat} {c:Option Nat} {cs:List AV} (hv:IsC z h (.sl id off m c) n cs) {j:Nat} (hj:j<n*z):∃i,id=some i∧m=n∧h.get i (off+j)=cs[j]? :=by
 obtain⟨hl,id',off',c',e,h1⟩:=hv
 injection e with e1 e2 e3 e4
 subst e1;subst e2;subst e3;subst e4
 rcases h1 with⟨_,rfl,_⟩|⟨i,r,rfl,hr,_,hf,ht⟩
 ·simp at hj
 ·refine⟨i,rfl,rfl, ?_⟩
  rw[←ht,List.getElem?_take,if_pos hj,List.getElem?_drop]
  simp[H.get,hr]
theorem IsC.ats {z n m:Nat} {h:H} {id:Option Nat} {off:Nat} {c:Option Nat} {cs:List AV} (hv:IsC z h (.sl id off m c) n cs) {j w:Nat} (hj:j+w≤n*z) (hw:0<w):∃i,id=some i∧m=n∧h.gets i (off+j) w=some ((cs.drop j).take w):=by
 obtain⟨hl,id',off',c',e,h1⟩:=hv
 injection e with e1 e2 e3 e4
 subst e1;subst e2;subst e3;subst e4
 rcases h1 with⟨_,rfl,_⟩|⟨i,r,rfl,hr,_,hf,ht⟩
 ·simp at hj;omega
 ·refine⟨i,rfl,rfl, ?_⟩
  simp only[H.gets,hr,Option.bind_some]
  rw[if_pos (by omega),←ht,List.drop_take,List.take_take,List.drop_drop,Nat.min_eq_left (by omega)]
theorem IsC.cut {z n m:Nat} {h:H} {id:Option Nat} {off:Nat} {c c':Option Nat} {cs:List AV} (hv:IsC z h (.sl id off m c) n cs) {a b:Nat} (hab:a≤b) (hb:b≤n):IsC z h (.sl id (off+a*z) (b-a) c') (b-a) ((cs.take (b*z)).drop (a*z)):=by
 obtain⟨hl,id',off',c2,e,h1⟩:=hv
 injection e with e1 e2 e3 e4
 subst e1;subst e2;subst e3
 have q1:a*z≤b*z:=Nat.mul_le_mul_right _ hab
 have q2:b*z≤m*z:=Nat.mul_le_mul_right _ hb
 have q3:(b-a)*z=b*z-a*z:=Nat.sub_mul _ _ _
 refine⟨by simp;omega,id,off+a*z,c',rfl, ?_⟩
 rcases h1 with⟨rfl,rfl,rfl⟩|⟨i,r,rfl,hr,he,hf,ht⟩
 ·have:b=0:=by omega
  subst this
  have:a=0:=by omega
  subst this
  exact .inl ⟨rfl,rfl,by simp⟩
 ·refine .inr ⟨i,r,rfl,hr,he,by omega, ?_⟩
  rw[q3,←ht,List.take_take,Nat.min_eq_left q2,List.drop_take,List.drop_drop]
theorem IsCF.cut {t:TypeId} {z b n m:Nat} {h:H} {id:Option Nat} {c c':Option Nat} {cs:List AV} (hv:IsCF t z b h (.sl id 0 m c) n cs) {k:Nat} (hk:k≤n):IsCF t z b h (.sl id 0 k c') k (cs.take (k*z)):=by
 obtain⟨hl,id',c2,e,h1⟩:=hv
 injection e with e1 e2 e3 e4
 subst e1;subst e3
 have q:k*z≤m*z:=Nat.mul_le_mul_right _ hk
 refine⟨by simp;omega,id,c',rfl, ?_⟩
 rcases h1 with⟨rfl,rfl⟩|⟨i,r,rfl,hbi,hr,ho,he,hf,ht⟩
 ·exact .inl ⟨rfl,by omega⟩
 ·exact .inr ⟨i,r,rfl,hbi,hr,ho,he,by omega,by rw[←ht,List.take_take,Nat.min_eq_left q]⟩
theorem IsCF.put {t:TypeId} {z b n m:Nat} {h:H} {id:Option Nat} {c:Option Nat} {cs:List AV} (hw:h.wf) (hv:IsCF t z b h (.sl id 0 m c) n cs) {k w:Nat} (hk:k+w≤n*z) (hw0:0<w):∃i r,id=some i∧b≤i∧i<h.next∧h.rows i=some r∧r.own≠none∧m=n∧k+w≤r.cells.length∧
  ∀l:List AV,l.length=w→IsCF t z b (h.set i {r with cells:=putAt r.cells k l}) (.sl id 0 m c) n (putAt cs k l):=by
 obtain⟨hl,id',c2,e,h1⟩:=hv
 injection e with e1 e2 e3 e4
 subst e1;subst e3;subst e4
 rcases h1 with⟨_,rfl⟩|⟨i,r,rfl,hbi,hr,ho,he,hf,ht⟩
 ·simp at hk;omega
 ·refine⟨i,r,rfl,hbi,H.row_lt hw hr,hr,by rw[ho];simp,rfl,by omega,fun l hll=> ?_⟩
  refine⟨by rw[putAt_len (by omega)];exact hl,some i,c,rfl, .inr ⟨i,_,rfl,hbi,H.rows_set _ _ _,ho,he, ?_, ?_⟩⟩
  ·show m*z≤(putAt r.cells k l).length
   rw[putAt_len (by omega)]
   exact hf
  ·show(putAt r.cells k l).take (m*z)=_
   apply List.ext_getElem?
   intro j
   rw[List.getElem?_take,putAt_get (by omega),putAt_get (by omega),←ht,List.getElem?_take]
   by_cases hj:j<m*z
   ·rw[if_pos hj,if_pos hj]
   ·rw[if_neg hj,if_neg hj,if_neg (by omega)]
theorem zs_len {z n:Nat} {zero:List AV} (h:zero.length=z):(zs zero n).length=n*z:=by
 subst h
 unfold zs
 split
 ·simp
 ·simp
theorem IsCF.made {t:TypeId} {z b:Nat} {h:H} {zero:List AV} (hb:b≤h.next) (hz:zero.length=z) (n:Nat):IsCF t z b (h.new ⟨some t,z,zs zero n⟩) (.sl (some h.next) 0 n (some n)) n (zs zero n):=
 ⟨zs_len hz,some h.next,some n,rfl, .inr ⟨h.next,_,rfl,hb,H.rows_new _ _,rfl,rfl,Nat.le_of_eq (zs_len hz).symm,List.take_of_length_le (Nat.le_of_eq (zs_len hz))⟩⟩
theorem IsCF.lit {t:TypeId} {z b:Nat} {h:H} (hb:b≤h.next) {l:List AV} {n:Nat} (hn:l.length=n*z):IsCF t z b (h.new ⟨some t,z,l⟩) (.sl (some h.next) 0 n (some n)) n l:=
 ⟨hn,some h.next,some n,rfl, .inr ⟨h.next,_,rfl,hb,H.rows_new _ _,rfl,rfl,Nat.le_of_eq hn.symm,List.take_of_length_le (Nat.le_of_eq hn)⟩⟩
def H.upto (h:H) (n:Nat):H:={rows:=fun i=>if i<n then h.rows i else none,next:=n}
theorem H.upto_next (h:H) (n:Nat):(h.upto n).next=n:=rfl
theorem H.upto_wf (h:H) (n:Nat):(h.upto n).wf:=fun i hi=>by
 show(if i<n then h.rows i else none)=none
 rw[if_neg]
 exact Nat.not_lt.2 hi
theorem H.upto_le {h:H} {n:Nat} (hn:n≤h.next):(h.upto n).le h:=⟨hn,fun i r hr=>by
 have hr':(if i<n then h.rows i else none)=some r:=hr
 split at hr'
 ·exact hr'
 ·cases hr'⟩
theorem upto_row {u:Nat} {h h':H} (hw:h.wf) (hl:H.lee u h h') {i:Nat} {r:Row} (hi:i≠u) (hr:h.rows i=some r):(h'.upto h.next).rows i=some r:=by
 show(if i<h.next then h'.rows i else none)=some r
 rw[if_pos (H.row_lt hw hr)]
 exact hl.2 i r hi hr
end Ab
end Go.Proofs.YtkbglkjpdndkiaaGreatDoor
