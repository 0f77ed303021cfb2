/- Joined texts: M2 M3 M4 H1 H2 H3 H4. No condition. -/
import Derived.Test.YtkbglkjpdndkiaaZ4
namespace Go.Proofs.Ytkbglkjpdndkiaa
namespace Ab
open Go Go.RowKit
set_option linter.unusedSimpArgs false
set_option linter.unusedVariables false
attribute [local go_sem ↓] x_mv x_pick x_bin x_beq x_peq x_seq x_cat x_aeq x_idxS x_idxV x_un x_cvI x_bts x_idx x_idxA x_fld x_ld x_st x_nn x_prt x_slc x_mk x_bsl x_bld x_box x_alloc x_len x_capo x_mnx x_app x_cpy x_mkf x_ext x_call x_callV x_bad s_none s_some s_nil s_cons s_chks w_skip w_reg tP_fin tP_no tP_alt w_seq w_cond w_block w_exit w_ret t_normal t_exit t_ret b_normal b_ret b_exit n_normal n_exit n_ret p_normal p_ret f_nil f_t f_c k_ops k_chk k_fin
attribute [local go_sem] e_t e_c e_f u_some u_none u_at env_at k_v k_pick k_add k_sub k_mul k_quo k_rem k_and k_or k_xor k_shl k_shr k_eql k_neq k_lss k_leq k_gtr k_geq k_beq k_peqn k_peqs k_neg k_not k_com k_cvI k_idxS k_idxV1 k_idxVn k_idx k_idxA k_idxG k_ldG k_gld k_seq k_cat k_aeq k_eqs k_fld k_ld1 k_ldn k_get k_gets k_sti k_stb k_stp k_sts k_stf k_sta k_put k_nn k_prt1 k_prtn k_slc_a k_slc_b k_slc_c k_mk k_agg k_bsl k_box k_len k_lenS k_cap k_max k_min k_ext k_callV k_true k_false k_gtt k_gtf k_gft k_gsk k_gff k_lit1i k_lit2i k_lit3i k_c0 k_c1 k_ck List.getElem?_cons_zero List.getElem?_cons_succ List.getElem?_nil Option.getD_some Option.getD_none tupOf List.map_cons List.map_nil Option.map_some Option.map_none List.nil_append List.cons_append List.append_nil Nat.mul_one Int.toNat_natCast Nat.zero_add
attribute [local go_sem] e_t e_c e_f u_some u_none u_at env_at k_v k_pick k_add k_sub k_mul k_quo k_rem k_and k_or k_xor k_shl k_shr k_eql k_neq k_lss k_leq k_gtr k_geq k_beq k_peqn k_peqs k_neg k_not k_com k_cvI k_idxS k_idxV1 k_idxVn k_idx k_idxA k_idxG k_ldG k_gld k_seq k_cat k_aeq k_eqs k_fld k_ld1 k_ldn k_get k_gets k_sti k_stb k_stp k_sts k_stf k_sta k_put k_nn k_prt1 k_prtn k_slc_a k_slc_b k_slc_c k_mk k_agg k_bsl k_box k_len k_lenS k_cap k_max k_min k_ext k_callV k_true k_false k_gtt k_gtf k_gft k_gsk k_gff k_lit1i k_lit2i k_lit3i k_c0 k_c1 k_ck List.getElem?_cons_zero List.getElem?_cons_succ List.getElem?_nil Option.getD_some Option.getD_none tupOf List.map_cons List.map_nil Option.map_some Option.map_none List.nil_append List.cons_append List.append_nil Nat.mul_one Int.toNat_natCast Nat.zero_add
--what a store into a cell of two leaves
attribute [local go_sem_proc] Nat.reduceEqDiff Nat.reduceAdd Int.reduceToNat
attribute [local go_sem_proc ↓] reduceIte
attribute [local go_sem] Bool.false_eq_true
theorem put_next {ys:List Nat} {n d:Nat}:(ys++List.replicate (n+1) 0).set ys.length d=(ys++[d])++List.replicate n 0:=by
 rw[List.set_append_right _ _ (Nat.le_refl _),Nat.sub_self,List.replicate_succ,List.set_cons_zero,List.append_assoc]
 rfl
theorem IsG.step {b:Nat} {h:H} {id:Option Nat} {n m:Nat} {ck:Option Nat} {out:List Nat} (hw:h.wf) (hs:IsG b h (.sl id 0 n ck) (out++List.replicate (m+1) 0)):∃i r,id=some i∧b≤i∧i<h.next∧h.rows i=some r∧r.own≠none∧out.length+1≤r.cells.length∧
  ∀d:Nat,IsG b (h.set i {r with cells:=putAt r.cells out.length [AV.int .u64 d]}) (.sl id 0 n ck) ((out++[d])++List.replicate m 0):=by
 obtain⟨i,r,h1,h2,h3,h4,h5,h6,h7⟩:=hs.put hw (j:=out.length) (by simp)
 exact⟨i,r,h1,h2,h3,h4,h5,h6,fun d=>by rw[←put_next];exact h7 d⟩
theorem val_zeros {B:Nat} {ys:List Nat} {n:Nat}:val B (ys++List.replicate n 0)=val B ys:=by
 rw[val_append,val_zero B (List.replicate n 0) (fun x hx=>List.eq_of_mem_replicate hx)]
 simp
theorem cut_open {xs0:List Nat} (hd:Dig xs0):∃xs:List Nat,Dig xs∧Top xs∧val 18446744073709551616 xs=val 18446744073709551616 xs0∧wlen (val 18446744073709551616 xs0)=xs.length∧xs.length≤xs0.length∧∀j (_:j<xs.length) (_:j<xs0.length),xs0[j]=xs[j]:=by
 have hl:=wlen_len hd
 exact⟨xs0.take (wlen (val 18446744073709551616 xs0)),hd.take _,(top_cut hd).1,(top_cut hd).2,by rw[List.length_take];omega,by rw[List.length_take];omega,fun j h1 h2=>by rw[List.getElem_take]⟩
theorem lCmp_calls {v u:AV} {x y:Nat} {h:H} {K:AV→H→Prop} (nv:Nn h v x) (nu:Nn h u y)
  (hk:K (.int .i64 (cmpI x y)) h):ACalls Try.prog 76 [v,u] h K:=by
 obtain⟨xs0,hv,hxd0,hxl0,rfl⟩:=nv
 obtain⟨ys0,hu,hyd0,hyl0,rfl⟩:=nu
 obtain⟨xs,hxd,hxt,hxv,hxn,hxl,hxs⟩:=cut_open hxd0
 obtain⟨ys,hyd,hyt,hyv,hyn,hyl,hys⟩:=cut_open hyd0
 obtain⟨id,off,c,rfl⟩:=hv.form
 obtain⟨id',off',c',rfl⟩:=hu.form
 refine in_limb_Cmp (by simp) fun hw=> ?_
 unfold c_limb_Cmp
 simp only[go_sem]
 refine Len_calls hv hxd0 (by omega) ?_
 simp only[go_sem]
 refine Len_calls hu hyd0 (by omega) ?_
 rw[hxn,hyn]
 rw[←hxv,←hyv] at hk
 obtain⟨n,hn0⟩:∃n,n=xs.length:=⟨_,rfl⟩
 obtain⟨m,hm0⟩:∃m,m=ys.length:=⟨_,rfl⟩
 rw[←hn0,←hm0]
 by_cases hnm:n=m
 ·subst hnm
  simp only[go_sem,neF (show(n:Int)=n from rfl)]
  refine⟨fun k ρ h'=>h'=h∧ρ 0= .sl id off xs0.length c∧ρ 1= .sl id' off' ys0.length c'∧ρ 7= .int .i64 ((k:Int)-1)∧k≤n∧xs.drop k=ys.drop k,n,
   ⟨rfl,rfl,rfl, ?_,Nat.le_refl _,by rw[List.drop_of_length_le (by omega),List.drop_of_length_le (by omega)]⟩, ?_⟩
  ·simp only[go_sem]
   rw[wI]<;>omega
  rintro k ρ h' ⟨rfl,h0,h1,h5,hn,hd⟩
  rcases Nat.eq_zero_or_pos k with rfl|hp
  ·have hc:decide ((0:Int)≤((0:Nat):Int)-1)=false:=by decide
   simp only[go_sem,h0,h1,h5,hc]
   intro _
   have:xs=ys:=by simpa using hd
   subst this
   simpa [cmpI] using hk
  ·have hc:decide ((0:Int)≤(k:Int)-1)=true:=by simp;omega
   have e5:(k:Int)-1=((k-1:Nat):Int):=by omega
   obtain⟨i,rfl,_,hg⟩:=hv.at (j:=k-1) (by omega)
   obtain⟨i',rfl,_,hg'⟩:=hu.at (j:=k-1) (by omega)
   rw[hxs (k-1) (by omega) (by omega)] at hg
   rw[hys (k-1) (by omega) (by omega)] at hg'
   rw[e5] at h5 hc
   have hd':xs.drop (k-1+1)=ys.drop (k-1+1):=by rw[show k-1+1=k from by omega];exact hd
   simp only[go_sem,h0,h1,h5,hc]
   refine⟨by omega,by omega, ?_⟩
   simp only[go_sem,h0,h1,h5,hg]
   refine⟨by omega,by omega, ?_⟩
   simp only[go_sem,h0,h1,h5,hg,hg']
   have p1:k-1<xs.length:=by omega
   have p2:k-1<ys.length:=by omega
   rcases Nat.lt_trichotomy (xs[k-1]'p1) (ys[k-1]'p2) with hlt|he|hlt
   ·have:=val_lt_at 18446744073709551616 (by omega) hxd (k-1) p1 p2 hd' hlt
    simp only[go_sem,neT (show((xs[k-1]'p1:Nat):Int)≠(ys[k-1]'p2:Nat) by omega),h0,h1,h5,hg,hg']
    refine⟨by omega,by omega,by omega,by omega, ?_⟩
    simp only[go_sem,hg,hg',ltT hlt]
    intro _
    simpa [cmpI,this] using hk
   ·have e6:IntKind.i64.wrap (((k-1:Nat):Int)-1)=((k-1:Nat):Int)-1:=by rw[wI]<;>omega
    simp only[go_sem,neF (show((xs[k-1]'p1:Nat):Int)=(ys[k-1]'p2:Nat) by omega),h0,h1,h5,e6]
    refine⟨k-1,by omega,by trivial,by trivial,by trivial,by first|rfl|trivial|assumption,by omega, ?_⟩
    rw[List.drop_eq_getElem_cons p1,List.drop_eq_getElem_cons p2,he,hd']
   ·have:=val_lt_at 18446744073709551616 (by omega) hyd (k-1) p2 p1 hd'.symm hlt
    have e:cmpI (val 18446744073709551616 xs) (val 18446744073709551616 ys)=1:=by unfold cmpI;rw[if_neg (by omega),if_neg (by omega)]
    simp only[go_sem,neT (show((xs[k-1]'p1:Nat):Int)≠(ys[k-1]'p2:Nat) by omega),h0,h1,h5,hg,hg']
    refine⟨by omega,by omega,by omega,by omega, ?_⟩
    simp only[go_sem,hg,hg',ltF (Nat.le_of_lt hlt)]
    intro _
    simpa [e] using hk
 ·simp only[go_sem,neT (show(n:Int)≠(m:Int) by omega)]
  rcases Nat.lt_or_ge n m with hlt|hge
  ·have:=digits_lt_iff 18446744073709551616 (by omega) hxd hyt (by omega)
   simp only[go_sem,ltT hlt]
   intro _
   simpa [cmpI,this] using hk
  ·have:=digits_lt_iff 18446744073709551616 (by omega) hyd hxt (by omega)
   have e:cmpI (val 18446744073709551616 xs) (val 18446744073709551616 ys)=1:=by unfold cmpI;rw[if_neg (by omega),if_neg (by omega)]
   simp only[go_sem,ltF hge]
   intro _
   simpa [e] using hk
theorem lAdd_calls {v u:AV} {x y:Nat} {h:H} {K:AV→H→Prop} (nv:Nn h v x) (nu:Nn h u y)
  (hk:∀r h',h'.wf→h.le h'→Nf h.next h' r (x+y)→K r h'):ACalls Try.prog 62 [v,u] h K:=by
 refine in_limb_Add (by simp) fun hw=> ?_
 unfold c_limb_Add
 simp only[go_sem]
 refine trimT_calls nv fun r1 xs h1 hxd _ hxv _ hxl=> ?_
 simp only[go_sem]
 refine trimT_calls nu fun r2 ys h2 hyd _ hyv _ hyl=> ?_
 obtain⟨id,off,c,rfl⟩:=h1.form
 obtain⟨id',off',c',rfl⟩:=h2.form
 simp only[go_sem]
 refine cond_cut (fun ρ' h3=>h3=h∧∃ps qs id off c id' off' c',ρ' 0= .sl id off ps.length c∧ρ' 1= .sl id' off' qs.length c'∧IsN h (.sl id off ps.length c) ps∧IsN h (.sl id' off' qs.length c') qs∧Dig ps∧Dig qs∧qs.length≤ps.length∧ps.length≤1099511627776∧val 18446744073709551616 ps+val 18446744073709551616 qs=x+y) ?_ ?_
 ·rcases Nat.lt_or_ge xs.length ys.length with hlt|hge
  ·simp only[go_sem,ltT hlt]
   exact⟨trivial,ys,xs,_,_,_,_,_,_,rfl,rfl,h2,h1,hyd,hxd,by omega,hyl,by omega⟩
  ·simp only[go_sem,ltF hge]
   exact⟨trivial,xs,ys,_,_,_,_,_,_,rfl,rfl,h1,h2,hxd,hyd,by omega,hxl,by omega⟩
 clear h1 h2 hxd hxv hxl hyd hyv hyl nv nu
 rintro ρ h3 ⟨rfl,xs,ys,id,off,c,id',off',c',q0,q1,hv,hu,hxd,hyd,hyx,hxl,hxy⟩
 simp only[go_sem,q0,q1,incI (i:=xs.length) (by omega)]
 refine⟨by omega,by omega,by omega, ?_⟩
 refine for_rule (fun i ρ h'=>i≤xs.length∧h'.wf∧h3.le h'∧ρ 0= .sl id off xs.length c∧ρ 1= .sl id' off' ys.length c'∧ρ 25= .int .i64 (xs.length:Int)∧ρ 26= .int .i64 (i:Int)∧∃out cc,ρ 6= .int .u64 (cc:Nat)∧cc≤1∧IsG h3.next h' (ρ 5) (out++List.replicate (xs.length+1-i) 0)∧Dig out∧out.length=i∧
  val 18446744073709551616 out+18446744073709551616^i*cc=val 18446744073709551616 (xs.take i)+val 18446744073709551616 (ys.take i)) xs.length ⟨by omega,H.wf_new hw _,H.le_new hw (H.le_refl h3) _,by first|rfl|trivial|assumption,by first|rfl|trivial|assumption,rfl,rfl,[],0,rfl,by omega,IsG.made (Nat.le_refl _) _,Dig.nil,rfl,rfl⟩ (fun i ρ h hI=>hI.1) ?_
 rintro i ρ h' ⟨hi,hw',hle,h0,h1,h25,h26,out,cc,h6,hcc,hs,hod,hol,hov⟩
 obtain⟨k,ck,h5⟩:=hs.form
 rcases Nat.lt_or_ge i xs.length with hxi|hxi
 ·simp only[go_sem,h0,h1,h25,h26,ltT hxi]
  refine cond_cut (fun ρ' h2=>h2=h'∧ρ' 0= .sl id off xs.length c∧ρ' 1= .sl id' off' ys.length c'∧ρ' 25= .int .i64 (xs.length:Int)∧ρ' 26= .int .i64 (i:Int)∧ρ' 7= .int .i64 (i:Int)∧ρ' 5=ρ 5∧ρ' 6= .int .u64 (cc:Nat)∧ρ' 8= .int .u64 ((ys.getD i 0:Nat):Int)) ?_ ?_
  ·rcases Nat.lt_or_ge i ys.length with hyi|hyi
   ·obtain⟨j',rfl,_,hg'⟩:=(hu.mono hle).at hyi
    rw[getD_at hyi]
    simp only[go_sem,h0,h1,h25,h26,h6,ltT hyi]
    refine⟨by omega,by omega, ?_⟩
    simp only[go_sem,hg',h0,h1,h25,h26,h6]
    exact⟨trivial,trivial,trivial,trivial,trivial,trivial,trivial,trivial,trivial⟩
   ·rw[getD_ge hyi]
    simp only[go_sem,h0,h1,h25,h26,h6,ltF hyi]
    exact⟨trivial,trivial,trivial,trivial,trivial,trivial,trivial,trivial,rfl⟩
  rintro ρ' h2 ⟨rfl,h0,h1,h25,h26,h7,h5',h6,h8⟩
  have hyb:=getD_lt (B:=18446744073709551616) (by omega) hyd i
  have hxb:=hxd _ (List.getElem_mem hxi)
  have hvx:=val_take_succ 18446744073709551616 xs i hxi
  have hvy:=val_take_get 18446744073709551616 ys i
  obtain⟨j,rfl,_,hg⟩:=(hv.mono hle).at hxi
  generalize ys.getD i 0=q at*
  generalize xs[i]=p at*
  rw[←h5'] at hs h5
  have fin:∀d c2:Nat,p+q+cc=d+18446744073709551616*c2→val 18446744073709551616 (out++[d])+18446744073709551616^(i+1)*c2=val 18446744073709551616 (xs.take (i+1))+val 18446744073709551616 (ys.take (i+1)):=by
   intro d c2 e
   rw[val_snoc,hvx,hvy,hol,Nat.pow_succ,Nat.mul_assoc]
   have e2:=congrArg (fun z=>18446744073709551616^i*z) e
   simp only[Nat.mul_add] at e2
   omega
  rw[h5] at hs
  simp only[go_sem,h0,h1,h7,h8,h6,h5]
  refine⟨by omega,by omega, ?_⟩
  simp only[go_sem,hg,h6,h8,h5,h7]
  refine Add64_calls hxb hyb hcc ?_
  have f1:=fin ((p+q+cc)%18446744073709551616) ((p+q+cc)/18446744073709551616) (by omega)
  have f2:(p+q+cc)/18446744073709551616≤1:=by omega
  have f3:(p+q+cc)%18446744073709551616<18446744073709551616:=by omega
  generalize (p+q+cc)%18446744073709551616=d at*
  generalize (p+q+cc)/18446744073709551616=c2 at*
  subst hol
  simp only[go_sem,h5,h7]
  rw[show xs.length+1-out.length=(xs.length-out.length)+1 by omega] at hs
  obtain⟨i2,r2,rfl,hb2,hl2,hr2,ho2,hf2,hp2⟩:=hs.step hw'
  simp only[go_sem]
  refine⟨by omega,by simp;omega, ?_⟩
  simp only[go_sem,hr2]
  refine⟨ho2,by omega, ?_⟩
  simp only[go_sem,h0,h1,h25,h26,h5,incI (i:=out.length) (by omega)]
  refine⟨by omega,H.wf_set hw' hl2 _,H.le_set hw hle hb2 _,by first|rfl|trivial|assumption,by first|rfl|trivial|assumption,by first|rfl|trivial|assumption,by first|rfl|trivial|assumption,out++[d],c2,rfl,f2, ?_,hod.append (Dig.one f3),by simp,f1⟩
  rw[show xs.length+1-(out.length+1)=xs.length-out.length by omega,show xs.length+1-out.length=xs.length-out.length+1 by omega]
  exact hp2 d
 ·have:i=xs.length:=by omega
  subst this
  rw[List.take_length,List.take_of_length_le (by omega),hxy] at hov
  rw[h5] at hs
  rw[show xs.length+1-xs.length=0+1 by omega] at hs h5
  obtain⟨i2,r2,rfl,hb2,hl2,hr2,ho2,hf2,hp2⟩:=hs.step hw'
  rw[hol] at hf2 hp2
  simp only[go_sem,h0,h5,h6,h25,h26,ltF (Nat.le_refl xs.length)]
  refine⟨by omega,by simp;omega, ?_⟩
  simp only[go_sem,hr2]
  refine⟨ho2,by omega, ?_⟩
  simp only[go_sem,h5]
  have hG:=hp2 cc
  rw[List.replicate_zero,List.append_nil] at hG
  have e:val 18446744073709551616 (out++[cc])=x+y:=by rw[val_snoc,hol];exact hov
  refine trimG_calls hG (hod.append (Dig.one (x:=cc) (by omega))) (by simp;omega) fun r hr=> ?_
  rw[e] at hr
  simp only[go_sem]
  exact fun _=>hk r _ (H.wf_set hw' hl2 _) (H.le_set hw hle hb2 _) hr
theorem lSub_calls {v u:AV} {x y:Nat} {h:H} {K:AV→H→Prop} (nv:Nn h v x) (nu:Nn h u y)
  (hlt:x<y→h.wf→K (.tup [.sl none 0 0 none, .bool false]) h) (hk:y≤x→∀r h',h'.wf→h.le h'→Nf h.next h' r (x-y)→K (.tup [r, .bool true]) h'):ACalls Try.prog 63 [v,u] h K:=by
 refine in_limb_Sub (by simp) fun hw=> ?_
 unfold c_limb_Sub
 simp only[go_sem]
 refine trimT_calls nv fun r1 xs hv hxd hxt hxv hxn hxl=> ?_
 simp only[go_sem]
 refine trimT_calls nu fun r2 ys hu hyd hyt hyv hyn hyl=> ?_
 simp only[go_sem]
 refine lCmp_calls ⟨xs,hv,hxd,hxl,hxv⟩ ⟨ys,hu,hyd,hyl,hyv⟩ ?_
 rcases Nat.lt_or_ge x y with hc|hc
 ·have e:decide (cmpI x y<0)=true:=by simp[cmpI,hc]
  simp only[go_sem,e]
  exact hlt hc
 have e:decide (cmpI x y<0)=false:=by
  unfold cmpI
  rw[if_neg (by omega)]
  split<;>decide
 obtain⟨id,off,c,rfl⟩:=hv.form
 obtain⟨id',off',c',rfl⟩:=hu.form
 have hyx:ys.length≤xs.length:=by rw[hxn,hyn];exact wlen_mono hc
 simp only[go_sem,e]
 refine⟨by omega,by omega,by omega, ?_⟩
 refine for_rule (fun i ρ h'=>i≤xs.length∧h'.wf∧h.le h'∧ρ 0= .sl id off xs.length c∧ρ 1= .sl id' off' ys.length c'∧ρ 22= .int .i64 (xs.length:Int)∧ρ 23= .int .i64 (i:Int)∧∃out cc,ρ 7= .int .u64 (cc:Nat)∧cc≤1∧IsG h.next h' (ρ 6) (out++List.replicate (xs.length-i) 0)∧Dig out∧out.length=i∧
  val 18446744073709551616 out+val 18446744073709551616 (ys.take i)=val 18446744073709551616 (xs.take i)+18446744073709551616^i*cc) xs.length ⟨by omega,H.wf_new hw _,H.le_new hw (H.le_refl h) _,by first|rfl|trivial|assumption,by first|rfl|trivial|assumption,rfl,rfl,[],0,rfl,by omega,IsG.made (Nat.le_refl _) _,Dig.nil,rfl,rfl⟩ (fun i ρ h hI=>hI.1) ?_
 rintro i ρ h' ⟨hi,hw',hle,h0,h1,h25,h26,out,cc,h6,hcc,hs,hod,hol,hov⟩
 obtain⟨k,ck,h5⟩:=hs.form
 rcases Nat.lt_or_ge i xs.length with hxi|hxi
 ·simp only[go_sem,h0,h1,h25,h26,ltT hxi]
  refine cond_cut (fun ρ' h2=>h2=h'∧ρ' 0= .sl id off xs.length c∧ρ' 1= .sl id' off' ys.length c'∧ρ' 22= .int .i64 (xs.length:Int)∧ρ' 23= .int .i64 (i:Int)∧ρ' 8= .int .i64 (i:Int)∧ρ' 6=ρ 6∧ρ' 7= .int .u64 (cc:Nat)∧ρ' 9= .int .u64 ((ys.getD i 0:Nat):Int)) ?_ ?_
  ·rcases Nat.lt_or_ge i ys.length with hyi|hyi
   ·obtain⟨j',rfl,_,hg'⟩:=(hu.mono hle).at hyi
    rw[getD_at hyi]
    simp only[go_sem,h0,h1,h25,h26,h6,ltT hyi]
    refine⟨by omega,by omega, ?_⟩
    simp only[go_sem,hg',h0,h1,h25,h26,h6]
    exact⟨trivial,trivial,trivial,trivial,trivial,trivial,trivial,trivial,trivial⟩
   ·rw[getD_ge hyi]
    simp only[go_sem,h0,h1,h25,h26,h6,ltF hyi]
    exact⟨trivial,trivial,trivial,trivial,trivial,trivial,trivial,trivial,rfl⟩
  rintro ρ' h2 ⟨rfl,h0,h1,h25,h26,h7,h5',h6,h8⟩
  have hyb:=getD_lt (B:=18446744073709551616) (by omega) hyd i
  have hxb:=hxd _ (List.getElem_mem hxi)
  have hvx:=val_take_succ 18446744073709551616 xs i hxi
  have hvy:=val_take_get 18446744073709551616 ys i
  obtain⟨j,rfl,_,hg⟩:=(hv.mono hle).at hxi
  generalize ys.getD i 0=q at*
  generalize xs[i]=p at*
  rw[←h5'] at hs h5
  have fin:∀d c2:Nat,p+18446744073709551616*c2=d+q+cc→val 18446744073709551616 (out++[d])+val 18446744073709551616 (ys.take (i+1))=val 18446744073709551616 (xs.take (i+1))+18446744073709551616^(i+1)*c2:=by
   intro d c2 e
   rw[val_snoc,hvx,hvy,hol,Nat.pow_succ,Nat.mul_assoc]
   have e2:=congrArg (fun z=>18446744073709551616^i*z) e
   simp only[Nat.mul_add] at e2
   omega
  rw[h5] at hs
  simp only[go_sem,h0,h1,h7,h8,h6,h5]
  refine⟨by omega,by omega, ?_⟩
  simp only[go_sem,hg,h6,h8,h5,h7]
  refine Sub64_calls hcc ?_
  have f3:(p+18446744073709551616-q-cc)%18446744073709551616<18446744073709551616:=by omega
  have f2:(if p<q+cc then 1 else 0)≤1:=by split<;>omega
  have f1:=fin ((p+18446744073709551616-q-cc)%18446744073709551616) (if p<q+cc then 1 else 0) (by split<;>omega)
  generalize (p+18446744073709551616-q-cc)%18446744073709551616=d at*
  generalize (if p<q+cc then 1 else 0)=c2 at*
  subst hol
  simp only[go_sem,h5,h7]
  rw[show xs.length-out.length=(xs.length-(out.length+1))+1 by omega] at hs
  obtain⟨i2,r2,rfl,hb2,hl2,hr2,ho2,hf2,hp2⟩:=hs.step hw'
  simp only[go_sem]
  refine⟨by omega,by simp;omega, ?_⟩
  simp only[go_sem,hr2]
  refine⟨ho2,by omega, ?_⟩
  simp only[go_sem,h0,h1,h25,h26,h5,incI (i:=out.length) (by omega)]
  refine⟨by omega,H.wf_set hw' hl2 _,H.le_set hw hle hb2 _,by first|rfl|trivial|assumption,by first|rfl|trivial|assumption,by first|rfl|trivial|assumption,by first|rfl|trivial|assumption,out++[d],c2,rfl,f2, ?_,hod.append (Dig.one f3),by simp,f1⟩
  rw[show xs.length-out.length=(xs.length-(out.length+1))+1 by omega]
  exact hp2 d
 ·have:i=xs.length:=by omega
  subst this
  rw[List.take_length] at hov
  rw[h5] at hs
  rw[show xs.length-xs.length=0 by omega,List.replicate_zero,List.append_nil] at hs h5
  simp only[go_sem,h0,h5,h6,h25,h26,ltF (Nat.le_refl xs.length)]
  refine trimG_calls hs hod (by omega) fun r hr=> ?_
  rw[sub_end (by omega) hod hol (by rw[hxv,hyv];exact hc) hov hyx,hxv,hyv] at hr
  simp only[go_sem]
  exact fun _=>hk hc r _ hw' hle hr
theorem addmul_step {b w c a:Nat} (hb:b<18446744073709551616) (hw:w<18446744073709551616) (hc:c<18446744073709551616) (ha:a<18446744073709551616):
  (a+(b*w%18446744073709551616+c)%18446744073709551616)%18446744073709551616+18446744073709551616*(b*w/18446744073709551616+(b*w%18446744073709551616+c)/18446744073709551616+(a+(b*w%18446744073709551616+c)%18446744073709551616)/18446744073709551616)=a+b*w+c∧
  b*w/18446744073709551616+(b*w%18446744073709551616+c)/18446744073709551616+(a+(b*w%18446744073709551616+c)%18446744073709551616)/18446744073709551616<18446744073709551616:=by
 have h1:b*w≤18446744073709551615*18446744073709551615:=Nat.mul_le_mul (by omega) (by omega)
 generalize b*w=p at*
 omega
theorem cpy_num {b:Nat} {h:H} {K:AV→H→Prop} {d s:AV} {zs xs:List Nat} (hw:h.wf) (hs:IsG b h d zs) (hx:IsN h s xs) (hl:xs.length≤zs.length)
  (hk:∀h',h'.wf→h'.next=h.next→(∀a:H,a.wf→a.le h→a.next≤b→a.le h')→IsG b h' d (xs++zs.drop xs.length)→K (.int .i64 (xs.length:Int)) h'):cpyK 1 d s h K:=by
 have hs0:=hs
 have hx0:=hx
 obtain⟨idd,cd,rfl⟩:=hs.form
 obtain⟨ids,offs,cs,rfl⟩:=hx.form
 have hmin:min xs.length zs.length=xs.length:=Nat.min_eq_left hl
 simp only[cpyK,hmin]
 refine⟨fun h0=> ?_,fun h0=> ?_⟩
 ·have:xs=[]:=List.eq_nil_of_length_eq_zero h0
  subst this
  exact hk h hw rfl (fun _ _ k _=>k) (by simpa using hs0)
 ·obtain⟨id',c',e1,h1⟩:=hs
  obtain⟨rfl,rfl⟩:idd=id'∧cd=c':=by injection e1 with a1 a2 a3 a4;exact⟨a1,a4⟩
  rcases h1 with⟨_,e⟩|⟨i,q,rfl,hb,hq,ho,hz,hlq,htq⟩
  ·have e':zs=[]:=by simpa using e
   rw[e'] at hl
   exact absurd (Nat.le_zero.1 hl) h0
  obtain⟨id2,off2,c2,e2,h2⟩:=hx
  obtain⟨rfl,rfl,rfl⟩:ids=id2∧offs=off2∧cs=c2:=by injection e2 with a1 a2 a3 a4;exact⟨a1,a2,a4⟩
  rcases h2 with⟨_,e,_⟩|⟨j,r,rfl,hr,hor,hlr,htr⟩
  ·have e':xs=[]:=by simpa using e
   exact absurd (by rw[e'];rfl) h0
  simp only[List.length_map] at hlq htq hlr htr
  have hi:=H.row_lt hw hq
  refine⟨i,q,j,r,rfl,hq,by rw[ho];simp,rfl,hr,by omega,by omega, ?_, ?_⟩
  ·rw[Nat.mul_one,htr];exact W_one _ _
  rw[Nat.mul_one,htr,show(min (xs.length:Int) (zs.length:Int))=(xs.length:Int) by omega]
  refine hk _ (H.wf_set hw hi _) rfl (fun a ha k hab=>H.le_set ha k (by omega) _) ?_
  have hlen:(xs++zs.drop xs.length).length=zs.length:=by simp;omega
  refine⟨some i,cd,by simp;omega, .inr ⟨i,_,rfl,hb,H.rows_set _ _ _,ho,hz, ?_, ?_⟩⟩
  ·have:(putAt q.cells 0 (W IntKind.u64 (xs.map fun n:Nat=>(n:Int)))).length=q.cells.length:=putAt_length (by rw[W_length];simp;omega)
   show((xs++zs.drop xs.length).map fun n:Nat=>(n:Int)).length≤(putAt q.cells 0 (W IntKind.u64 (xs.map fun n:Nat=>(n:Int)))).length
   rw[this,List.length_map,hlen]
   exact hlq
  ·show((putAt q.cells 0 (W IntKind.u64 (xs.map fun n:Nat=>(n:Int)))).take ((xs++zs.drop xs.length).map fun n:Nat=>(n:Int)).length)=_
   rw[putAt_zero,List.length_map,hlen,W_length,List.length_map]
   rw[List.take_append,W_length,List.length_map,List.take_of_length_le (by rw[W_length,List.length_map];exact hl)]
   rw[List.map_append,W_append]
   congr 1
   rw[List.take_drop,show xs.length+(zs.length-xs.length)=zs.length by omega,htq,W_drop,List.map_drop]
theorem put_mid {ys rest:List Nat} {a d:Nat}:(ys++a::rest).set ys.length d=(ys++[d])++rest:=by
 rw[List.set_append_right _ _ (Nat.le_refl _),Nat.sub_self,List.set_cons_zero,List.append_assoc]
 rfl
theorem IsG.over {b:Nat} {h:H} {id:Option Nat} {n:Nat} {ck:Option Nat} {out zs:List Nat} (hw:h.wf) (hl:out.length<zs.length) (hs:IsG b h (.sl id 0 n ck) (out++zs.drop out.length)):∃i r,id=some i∧b≤i∧i<h.next∧h.rows i=some r∧r.own≠none∧out.length+1≤r.cells.length∧
  h.get i out.length=some (.int .u64 (zs[out.length]:Nat))∧n=zs.length∧
  ∀d:Nat,IsG b (h.set i {r with cells:=putAt r.cells out.length [AV.int .u64 d]}) (.sl id 0 n ck) ((out++[d])++zs.drop (out.length+1)):=by
 have hln:(out++zs.drop out.length).length=zs.length:=by simp;omega
 obtain⟨i,r,h1,h2,h3,h4,h5,h6,h7⟩:=hs.put hw (j:=out.length) (by omega)
 obtain⟨i',e1,e2,e3⟩:=hs.isN.at (j:=out.length) (by omega)
 rw[h1] at e1
 injection e1 with e1
 subst e1
 have e4:(out++zs.drop out.length)[out.length]'(by omega)=zs[out.length]:=by
  rw[List.getElem_append_right (Nat.le_refl _)]
  simp
 rw[e4,Nat.zero_add] at e3
 refine⟨i,r,h1,h2,h3,h4,h5,h6,e3,by omega,fun d=> ?_⟩
 have:=h7 d
 rw[List.drop_eq_getElem_cons hl,put_mid] at this
 exact this
theorem addmul_end {x y w n m N:Nat} (hx:x<18446744073709551616^n) (hy:y<18446744073709551616^m) (hw:w<18446744073709551616) (hN:N=max n (m+1)+1):x+y*w<18446744073709551616^N:=by
 have h1:18446744073709551616^n≤18446744073709551616^(max n (m+1)):=Nat.pow_le_pow_right (by omega) (by omega)
 have h2:18446744073709551616^(m+1)≤18446744073709551616^(max n (m+1)):=Nat.pow_le_pow_right (by omega) (by omega)
 have h3:y*w≤18446744073709551616^m*18446744073709551616:=Nat.mul_le_mul (by omega) (by omega)
 rw[hN,Nat.pow_succ]
 rw[Nat.pow_succ] at h2
 omega
theorem no_carry {B N a c s:Nat} (h:a+B^N*c=s) (hs:s<B^N):c=0:=by
 rcases Nat.eq_zero_or_pos c with h0|h0
 ·exact h0
 ·have:B^N*1≤B^N*c:=Nat.mul_le_mul_left _ h0
  omega
theorem addmul_fin {xs ys out zs:List Nat} {i w:Nat} (hi:i≤zs.length) (ho:out.length=i) (hv:val 18446744073709551616 out=val 18446744073709551616 (zs.take i)+val 18446744073709551616 ys*w) (hz:val 18446744073709551616 zs=val 18446744073709551616 xs):val 18446744073709551616 (out++zs.drop i)=val 18446744073709551616 xs+val 18446744073709551616 ys*w:=by
 rw[val_append,ho,hv,←hz]
 have:=val_cut 18446744073709551616 zs i hi
 omega
theorem lAddMul_calls {v u:AV} {x y w:Nat} {h:H} {K:AV→H→Prop} (nv:Nn h v x) (nu:Nn h u y) (hw64:w<18446744073709551616)
  (hk:∀r h',h'.wf→h.le h'→Nf h.next h' r (x+y*w)→K r h'):ACalls Try.prog 88 [v,u, .int .u64 (w:Int)] h K:=by
 refine in_limb_AddMul (by simp) fun hw=> ?_
 unfold c_limb_AddMul
 simp only[go_sem]
 refine trimT_calls nv fun r1 xs hv hxd hxt hxv hxn hxl=> ?_
 simp only[go_sem]
 refine trimT_calls nu fun r2 ys hu hyd hyt hyv hyn hyl=> ?_
 obtain⟨id,off,c,rfl⟩:=hv.form
 obtain⟨id',off',c',rfl⟩:=hu.form
 have e1:=incI (i:=ys.length) (by omega)
 have e2:max (xs.length:Int) ((ys.length+1:Nat):Int)=((max xs.length (ys.length+1):Nat):Int):=by omega
 have e3:=incI (i:=max xs.length (ys.length+1)) (by omega)
 simp only[go_sem,e1,e2,e3]
 refine⟨by omega,by omega,by omega, ?_⟩
 obtain⟨N,hN⟩:∃N,N=max xs.length (ys.length+1)+1:=⟨_,rfl⟩
 rw[←hN]
 refine cpy_num (b:=h.next) (H.wf_new hw _) (IsG.made (Nat.le_refl _) _) (hv.mono (H.le_new hw (H.le_refl h) _)) (by rw[List.length_replicate];omega) fun h1 hw1 hn1 hle1 hs1=> ?_
 have hl1:=hle1 h hw (H.le_new hw (H.le_refl h) _) (Nat.le_refl _)
 rw[List.drop_replicate] at hs1
 obtain⟨zs,hzs⟩:∃zs,zs=xs++List.replicate (N-xs.length) 0:=⟨_,rfl⟩
 rw[←hzs] at hs1
 have hzl:zs.length=N:=by rw[hzs];simp;omega
 have hzd:Dig zs:=by rw[hzs];exact hxd.append (Dig.zeros _)
 have hzv:val 18446744073709551616 zs=val 18446744073709551616 xs:=by rw[hzs];exact val_zeros
 have hend:x+y*w<18446744073709551616^N:=addmul_end (n:=xs.length) (m:=ys.length) (by rw[hxn];exact wlen_lt x) (by rw[hyn];exact wlen_lt y) hw64 hN
 simp only[go_sem]
 refine for_rule (fun i ρ h'=>i≤N∧h'.wf∧h.le h'∧ρ 1= .sl id' off' ys.length c'∧ρ 2= .int .u64 (w:Int)∧ρ 7= .sl (some h.next) 0 N (some N)∧ρ 30= .int .i64 (N:Int)∧ρ 31= .int .i64 (i:Int)∧∃out cc,ρ 8= .int .u64 (cc:Nat)∧cc<18446744073709551616∧IsG h.next h' (.sl (some h.next) 0 N (some N)) (out++zs.drop i)∧Dig out∧out.length=i∧
  val 18446744073709551616 out+18446744073709551616^i*cc=val 18446744073709551616 (zs.take i)+val 18446744073709551616 (ys.take i)*w) N ⟨by omega,hw1,hl1,by first|rfl|trivial|assumption,by first|rfl|trivial|assumption,by first|rfl|trivial|assumption,rfl,rfl,[],0,rfl,by omega,by simpa using hs1,Dig.nil,rfl,by simp[val]⟩ (fun i ρ h hI=>hI.1) ?_
 rintro i ρ h' ⟨hi,hw',hle,h1,h2,h7,h30,h31,out,cc,h8,hcc,hs,hod,hol,hov⟩
 rcases Nat.lt_or_ge i N with hiN|hiN
 ·by_cases hbr:ys.length≤i∧cc=0
  ·obtain⟨hmi,rfl⟩:=hbr
   simp only[go_sem,h1,h2,h7,h8,h30,h31,ltT hiN,leT hmi,eqT (show((0:Nat):Int)=0 from rfl)]
   rw[List.take_of_length_le hmi] at hov
   have hv':=addmul_fin (xs:=xs) (ys:=ys) (w:=w) (by omega) hol (by omega) hzv
   rw[hxv,hyv] at hv'
   refine trimG_calls hs (hod.append (hzd.drop _)) (by simp;omega) fun r hr=> ?_
   rw[hv'] at hr
   simp only[go_sem]
   exact fun _=>hk r _ hw' hle hr
  ·have hyb:=getD_lt (B:=18446744073709551616) (by omega) hyd i
   have hvy:=val_take_get 18446744073709551616 ys i
   have hvz:=val_take_succ 18446744073709551616 zs i (by omega)
   have hzb:=hzd _ (List.getElem_mem (show i<zs.length by omega))
   have pre:(decide ((ys.length:Int)≤(i:Int))=true∧((cc:Int)==0)=false)∨decide ((ys.length:Int)≤(i:Int))=false:=by
    rcases Nat.lt_or_ge i ys.length with hl|hl
    ·exact .inr (leF hl)
    ·exact .inl ⟨leT hl,eqF (by omega)⟩
   rcases pre with⟨p1,p2⟩|p1
   ·simp only[go_sem,h1,h2,h7,h8,h30,h31,ltT hiN,p1,p2]
    refine cond_cut (fun ρ' h3=>h3=h'∧ρ' 1= .sl id' off' ys.length c'∧ρ' 2= .int .u64 (w:Int)∧ρ' 7= .sl (some h.next) 0 N (some N)∧ρ' 30= .int .i64 (N:Int)∧ρ' 31= .int .i64 (i:Int)∧ρ' 8= .int .u64 (cc:Nat)∧ρ' 9= .int .i64 (i:Int)∧ρ' 10= .int .u64 ((ys.getD i 0*w/18446744073709551616:Nat):Int)∧ρ' 11= .int .u64 ((ys.getD i 0*w%18446744073709551616:Nat):Int)) ?_ ?_
    ·rcases Nat.lt_or_ge i ys.length with hyi|hyi
     ·obtain⟨j',rfl,_,hg'⟩:=(hu.mono hle).at hyi
      rw[getD_at hyi] at hyb⊢
      simp only[go_sem,h1,h2,h7,h8,h30,h31,ltT hyi]
      refine⟨by omega,by omega, ?_⟩
      simp only[go_sem,hg',h2]
      refine Mul64_calls hyb hw64 ?_
      simp only[go_sem,h1,h2,h7,h8,h30,h31]
      exact⟨trivial,trivial,trivial,trivial,trivial,trivial,trivial,trivial,trivial,trivial⟩
     ·rw[getD_ge hyi,Nat.zero_mul]
      simp only[go_sem,h1,h2,h7,h8,h30,h31,ltF hyi]
      exact⟨trivial,trivial,trivial,trivial,trivial,trivial,trivial,trivial,rfl,rfl⟩
    rintro ρ' h3 ⟨rfl,h1,h2,h7,h30,h31,h8,h9,h10,h11⟩
    subst hol
    obtain⟨i2,r2,e2',hb2,hl2,hr2,ho2,hf2,hg2,_,hp2⟩:=hs.over hw' (by omega)
    injection e2' with e2'
    subst e2'
    obtain⟨s1,s2⟩:=addmul_step hyb hw64 hcc hzb
    have b1:ys.getD out.length 0*w%18446744073709551616<18446744073709551616:=Nat.mod_lt _ (by omega)
    have b2:(ys.getD out.length 0*w%18446744073709551616+cc)%18446744073709551616<18446744073709551616:=Nat.mod_lt _ (by omega)
    have b3:(zs[out.length]'(by omega)+(ys.getD out.length 0*w%18446744073709551616+cc)%18446744073709551616)%18446744073709551616<18446744073709551616:=Nat.mod_lt _ (by omega)
    have fin:∀d c2:Nat,d+18446744073709551616*c2=zs[out.length]'(by omega)+ys.getD out.length 0*w+cc→val 18446744073709551616 (out++[d])+18446744073709551616^(out.length+1)*c2=val 18446744073709551616 (zs.take (out.length+1))+val 18446744073709551616 (ys.take (out.length+1))*w:=by
     intro d c2 e
     rw[val_snoc,hvz,hvy,Nat.pow_succ,Nat.mul_assoc]
     have e2:=congrArg (fun z=>18446744073709551616^out.length*z) e
     simp only[Nat.mul_add,Nat.add_mul,Nat.mul_assoc] at e2 hov⊢
     omega
    simp only[go_sem,h7,h8,h9,h10,h11]
    refine Add64_calls (c:=0) b1 hcc (by omega) ?_
    have a1:IntKind.u64.wrap (((ys.getD out.length 0*w/18446744073709551616:Nat):Int)+(((ys.getD out.length 0*w%18446744073709551616+cc)/18446744073709551616:Nat):Int))=((ys.getD out.length 0*w/18446744073709551616+(ys.getD out.length 0*w%18446744073709551616+cc)/18446744073709551616:Nat):Int):=addU (by omega)
    simp only[go_sem,Nat.add_zero,h7,h8,h9,h10,h11,a1]
    refine⟨by omega,by omega, ?_⟩
    simp only[go_sem,hg2]
    refine Add64_calls (c:=0) hzb b2 (by omega) ?_
    have f1:=fin _ _ s1
    have a2:=addU (a:=ys.getD out.length 0*w/18446744073709551616+(ys.getD out.length 0*w%18446744073709551616+cc)/18446744073709551616) (b:=(zs[out.length]'(by omega)+(ys.getD out.length 0*w%18446744073709551616+cc)%18446744073709551616)/18446744073709551616) s2
    simp only[go_sem,Nat.add_zero,h7,h9]
    refine⟨by omega,by omega, ?_⟩
    simp only[go_sem,hr2]
    refine⟨ho2,by omega, ?_⟩
    simp only[go_sem,h1,h2,h7,h30,h31,a2,incI (i:=out.length) (by omega)]
    exact⟨by omega,H.wf_set hw' hl2 _,H.le_set hw hle hb2 _,by first|rfl|trivial|assumption,by first|rfl|trivial|assumption,by first|rfl|trivial|assumption,by first|rfl|trivial|assumption,by first|rfl|trivial|assumption,out++[_],_,rfl,s2,hp2 _,hod.append (Dig.one b3),by simp,f1⟩
   ·simp only[go_sem,h1,h2,h7,h8,h30,h31,ltT hiN,p1]
    refine cond_cut (fun ρ' h3=>h3=h'∧ρ' 1= .sl id' off' ys.length c'∧ρ' 2= .int .u64 (w:Int)∧ρ' 7= .sl (some h.next) 0 N (some N)∧ρ' 30= .int .i64 (N:Int)∧ρ' 31= .int .i64 (i:Int)∧ρ' 8= .int .u64 (cc:Nat)∧ρ' 9= .int .i64 (i:Int)∧ρ' 10= .int .u64 ((ys.getD i 0*w/18446744073709551616:Nat):Int)∧ρ' 11= .int .u64 ((ys.getD i 0*w%18446744073709551616:Nat):Int)) ?_ ?_
    ·rcases Nat.lt_or_ge i ys.length with hyi|hyi
     ·obtain⟨j',rfl,_,hg'⟩:=(hu.mono hle).at hyi
      rw[getD_at hyi] at hyb⊢
      simp only[go_sem,h1,h2,h7,h8,h30,h31,ltT hyi]
      refine⟨by omega,by omega, ?_⟩
      simp only[go_sem,hg',h2]
      refine Mul64_calls hyb hw64 ?_
      simp only[go_sem,h1,h2,h7,h8,h30,h31]
      exact⟨trivial,trivial,trivial,trivial,trivial,trivial,trivial,trivial,trivial,trivial⟩
     ·rw[getD_ge hyi,Nat.zero_mul]
      simp only[go_sem,h1,h2,h7,h8,h30,h31,ltF hyi]
      exact⟨trivial,trivial,trivial,trivial,trivial,trivial,trivial,trivial,rfl,rfl⟩
    rintro ρ' h3 ⟨rfl,h1,h2,h7,h30,h31,h8,h9,h10,h11⟩
    subst hol
    obtain⟨i2,r2,e2',hb2,hl2,hr2,ho2,hf2,hg2,_,hp2⟩:=hs.over hw' (by omega)
    injection e2' with e2'
    subst e2'
    obtain⟨s1,s2⟩:=addmul_step hyb hw64 hcc hzb
    have b1:ys.getD out.length 0*w%18446744073709551616<18446744073709551616:=Nat.mod_lt _ (by omega)
    have b2:(ys.getD out.length 0*w%18446744073709551616+cc)%18446744073709551616<18446744073709551616:=Nat.mod_lt _ (by omega)
    have b3:(zs[out.length]'(by omega)+(ys.getD out.length 0*w%18446744073709551616+cc)%18446744073709551616)%18446744073709551616<18446744073709551616:=Nat.mod_lt _ (by omega)
    have fin:∀d c2:Nat,d+18446744073709551616*c2=zs[out.length]'(by omega)+ys.getD out.length 0*w+cc→val 18446744073709551616 (out++[d])+18446744073709551616^(out.length+1)*c2=val 18446744073709551616 (zs.take (out.length+1))+val 18446744073709551616 (ys.take (out.length+1))*w:=by
     intro d c2 e
     rw[val_snoc,hvz,hvy,Nat.pow_succ,Nat.mul_assoc]
     have e2:=congrArg (fun z=>18446744073709551616^out.length*z) e
     simp only[Nat.mul_add,Nat.add_mul,Nat.mul_assoc] at e2 hov⊢
     omega
    simp only[go_sem,h7,h8,h9,h10,h11]
    refine Add64_calls (c:=0) b1 hcc (by omega) ?_
    have a1:IntKind.u64.wrap (((ys.getD out.length 0*w/18446744073709551616:Nat):Int)+(((ys.getD out.length 0*w%18446744073709551616+cc)/18446744073709551616:Nat):Int))=((ys.getD out.length 0*w/18446744073709551616+(ys.getD out.length 0*w%18446744073709551616+cc)/18446744073709551616:Nat):Int):=addU (by omega)
    simp only[go_sem,Nat.add_zero,h7,h8,h9,h10,h11,a1]
    refine⟨by omega,by omega, ?_⟩
    simp only[go_sem,hg2]
    refine Add64_calls (c:=0) hzb b2 (by omega) ?_
    have f1:=fin _ _ s1
    have a2:=addU (a:=ys.getD out.length 0*w/18446744073709551616+(ys.getD out.length 0*w%18446744073709551616+cc)/18446744073709551616) (b:=(zs[out.length]'(by omega)+(ys.getD out.length 0*w%18446744073709551616+cc)%18446744073709551616)/18446744073709551616) s2
    simp only[go_sem,Nat.add_zero,h7,h9]
    refine⟨by omega,by omega, ?_⟩
    simp only[go_sem,hr2]
    refine⟨ho2,by omega, ?_⟩
    simp only[go_sem,h1,h2,h7,h30,h31,a2,incI (i:=out.length) (by omega)]
    exact⟨by omega,H.wf_set hw' hl2 _,H.le_set hw hle hb2 _,by first|rfl|trivial|assumption,by first|rfl|trivial|assumption,by first|rfl|trivial|assumption,by first|rfl|trivial|assumption,by first|rfl|trivial|assumption,out++[_],_,rfl,s2,hp2 _,hod.append (Dig.one b3),by simp,f1⟩
 ·have:i=N:=by omega
  subst this
  rw[List.take_of_length_le (by omega),List.take_of_length_le (l:=ys) (by omega),hzv,hxv,hyv] at hov
  have hc0:=no_carry hov hend
  subst hc0
  rw[List.drop_of_length_le (by omega),List.append_nil] at hs
  simp only[go_sem,h1,h2,h7,h8,h30,h31,ltF (Nat.le_refl i)]
  refine trimG_calls hs hod (by omega) fun r hr=> ?_
  rw[show val 18446744073709551616 out=x+y*w by omega] at hr
  simp only[go_sem]
  exact fun _=>hk r _ hw' hle hr
theorem Nn.nil (h:H):Nn h (.sl none 0 0 none) 0:=⟨[],IsN.nil _ _,Dig.nil,by simp,rfl⟩
theorem lMulWord_calls {v:AV} {x w:Nat} {h:H} {K:AV→H→Prop} (nv:Nn h v x) (hw64:w<18446744073709551616)
  (hk:∀r h',h'.wf→h.le h'→Nf h.next h' r (x*w)→K r h'):ACalls Try.prog 74 [v, .int .u64 (w:Int)] h K:=by
 refine in_limb_MulWord (by simp) fun hw=> ?_
 unfold c_limb_MulWord
 simp only[go_sem]
 refine lAddMul_calls (Nn.nil h) nv hw64 fun r h' hw' hl' hr=> ?_
 rw[Nat.zero_add] at hr
 simp only[go_sem]
 exact fun _=>hk r h' hw' hl' hr
theorem div_step {B w r a R V:Nat} (hw:0<w) (hr:r<w) (e:V=R*w+r):B*V+a=(B*R+(r*B+a)/w)*w+(r*B+a)%w:=by
 have h1:=Nat.div_add_mod (r*B+a) w
 subst e
 generalize (r*B+a)/w=q at*
 generalize (r*B+a)%w=s at*
 grind
theorem set_last {n d:Nat} {rest:List Nat}:(List.replicate (n+1) 0++rest).set n d=List.replicate n 0++d::rest:=by
 rw[List.replicate_succ',List.append_assoc,List.set_append_right _ _ (by simp),List.length_replicate,Nat.sub_self]
 rfl
theorem div_dig {B w r a:Nat} (hw:0<w) (hr:r<w) (ha:a<B):(r*B+a)/w<B:=by
 rw[Nat.div_lt_iff_lt_mul hw]
 have:(r+1)*B≤w*B:=Nat.mul_le_mul_right B hr
 rw[Nat.add_mul,Nat.one_mul] at this
 rw[Nat.mul_comm B w]
 omega
theorem lDivWord_calls {v:AV} {x w:Nat} {h:H} {K:AV→H→Prop} (nv:Nn h v x) (hw64:w<18446744073709551616) (hw0:0<w)
  (hk:∀r h',h'.wf→h.le h'→Nf h.next h' r (x/w)→K (.tup [r, .int .u64 (x%w:Nat), .int .i64 0]) h'):ACalls Try.prog 54 [v, .int .u64 (w:Int)] h K:=by
 refine in_limb_DivWord (by simp) fun hw=> ?_
 unfold c_limb_DivWord
 simp only[go_sem,eqF (show(w:Int)≠0 by omega)]
 refine trimT_calls nv fun r1 xs hv hxd hxt hxv hxn hxl=> ?_
 obtain⟨id,off,c,rfl⟩:=hv.form
 simp only[go_sem]
 refine⟨by omega,by omega,by omega, ?_⟩
 refine⟨fun k ρ h'=>k≤xs.length∧h'.wf∧h.le h'∧ρ 0= .sl id off xs.length c∧ρ 1= .int .u64 (w:Int)∧ρ 7= .sl (some h.next) 0 xs.length (some xs.length)∧ρ 9= .int .i64 ((k:Int)-1)∧∃qs rr,ρ 8= .int .u64 (rr:Nat)∧rr<w∧IsG h.next h' (.sl (some h.next) 0 xs.length (some xs.length)) (List.replicate k 0++qs)∧Dig qs∧qs.length=xs.length-k∧
  val 18446744073709551616 (xs.drop k)=val 18446744073709551616 qs*w+rr,xs.length,⟨Nat.le_refl _,H.wf_new hw _,H.le_new hw (H.le_refl h) _,by first|rfl|trivial|assumption,by first|rfl|trivial|assumption,by first|rfl|trivial|assumption, ?_,[],0,rfl,hw0,by simpa using IsG.made (Nat.le_refl _) _,Dig.nil,by simp,by simp[val]⟩, ?_⟩
 ·simp only[go_sem]
  rw[wI]<;>omega
 rintro k ρ h' ⟨hk1,hw',hle,h0,h1,h7,h9,qs,rr,h8,hrr,hs,hqd,hql,hqv⟩
 rcases Nat.eq_zero_or_pos k with rfl|hp
 ·have hc:decide ((0:Int)≤((0:Nat):Int)-1)=false:=by decide
  simp only[go_sem,h0,h1,h7,h8,h9,hc]
  rw[List.replicate_zero,List.nil_append] at hs
  rw[List.drop_zero,hxv] at hqv
  have e1:x/w=val 18446744073709551616 qs:=by
   rw[hqv,Nat.mul_comm,Nat.mul_add_div hw0,Nat.div_eq_of_lt hrr,Nat.add_zero]
  have e2:x%w=rr:=by
   rw[hqv,Nat.mul_comm,Nat.mul_add_mod,Nat.mod_eq_of_lt hrr]
  refine trimG_calls hs hqd (by omega) fun r hr=> ?_
  rw[←e1] at hr
  rw[e2] at hk
  simp only[go_sem,h8]
  exact fun _=>hk r h' hw' hle hr
 ·have hc:decide ((0:Int)≤(k:Int)-1)=true:=by simp;omega
  have e5:(k:Int)-1=((k-1:Nat):Int):=by omega
  have hxb:=hxd _ (List.getElem_mem (show k-1<xs.length by omega))
  obtain⟨i,rfl,_,hg⟩:=(hv.mono hle).at (j:=k-1) (by omega)
  rw[e5] at h9 hc
  simp only[go_sem,h0,h1,h7,h8,h9,hc]
  refine⟨by omega,by omega, ?_⟩
  simp only[go_sem,hg,h1,h7,h8,h9]
  have hdr:xs.drop (k-1)=xs[k-1]::xs.drop k:=by
   rw[List.drop_eq_getElem_cons (by omega),show k-1+1=k by omega]
  generalize xs[k-1]=a at*
  refine Div64_calls hrr hxb hw64 ?_
  obtain⟨i2,r2,e2',hb2,hl2,hr2,ho2,hf2,hp2⟩:=hs.put hw' (j:=k-1) (by simp;omega)
  injection e2' with e2'
  subst e2'
  have e6:IntKind.i64.wrap (((k-1:Nat):Int)-1)=((k-1:Nat):Int)-1:=by rw[wI]<;>omega
  simp only[go_sem,h7,h9]
  refine⟨by omega,by omega, ?_⟩
  simp only[go_sem,hr2]
  refine⟨ho2,by omega, ?_⟩
  simp only[go_sem,h0,h1,h7,h9,e6]
  have st:=div_step (B:=18446744073709551616) (a:=a) hw0 hrr hqv
  refine⟨k-1,by omega,by omega,H.wf_set hw' hl2 _,H.le_set hw hle hb2 _,by first|rfl|trivial|assumption,by first|rfl|trivial|assumption,by first|rfl|trivial|assumption,by first|rfl|trivial|assumption,((rr*18446744073709551616+a)/w)::qs,(rr*18446744073709551616+a)%w,rfl,Nat.mod_lt _ hw0, ?_, ?_,by simp;omega, ?_⟩
  ·have:=hp2 ((rr*18446744073709551616+a)/w)
   rw[show List.replicate k 0=List.replicate (k-1+1) 0 by rw[show k-1+1=k by omega],set_last] at this
   exact this
  ·intro z hz
   rcases List.mem_cons.1 hz with rfl|hz
   ·exact div_dig hw0 hrr hxb
   ·exact hqd z hz
  ·rw[hdr]
   simp only[val]
   rw[Nat.add_comm a,st,Nat.add_comm (18446744073709551616*val 18446744073709551616 qs)]
def blen (x:Nat):Nat:=if x=0 then 0 else Nat.log2 x+1
theorem blen_spec (x:Nat):BL x (blen x):=by
 unfold blen BL
 split
 ·rename_i h;subst h;simp
 ·rename_i h
  exact⟨(Nat.log2_lt h).1 (Nat.lt_succ_self _), .inr (Nat.log2_self_le h)⟩
theorem BL.uniq {x L M:Nat} (h:BL x L) (k:BL x M):L=M:=by
 have key:∀{L M:Nat},BL x L→BL x M→L≤M:=by
  intro L M h k
  rcases h.2 with h0|h0
  ·omega
  ·rcases Nat.lt_or_ge M L with hl|hl
   ·have h1:2^M≤2^(L-1):=Nat.pow_le_pow_right (by omega) (by omega)
    have:=k.1
    omega
   ·exact hl
 exact Nat.le_antisymm (key h k) (key k h)
structure Tb where
 (base toom ntt div recip lehmer radix poly kron series tree:Int)
def Tb.cells (t:Tb):List AV:=[.int .i64 t.base, .int .i64 t.toom, .int .i64 t.ntt, .int .i64 t.div, .int .i64 t.recip, .int .i64 t.lehmer, .int .i64 t.radix, .int .i64 t.poly, .int .i64 t.kron, .int .i64 t.series, .int .i64 t.tree]
def Tb.av (t:Tb):AV:= .agg t.cells
def clampT (t:Tb):Tb:=⟨max 4 (min t.base 64),max 12 (min t.toom 8192),max 64 (min t.ntt 16384),max 4 (min t.div 1024),max 4 (min t.recip 4096),max 2 (min t.lehmer 1024),max 2 (min t.radix 1024),max 4 (min t.poly 256),max 4 (min t.kron 1024),max 2 (min t.series 1024),max 2 (min t.tree 256)⟩
theorem av_held {t:Tb}:t.av.held=true:=_root_.id rfl
theorem av_cells {t:Tb}:t.av.cells=t.cells:=_root_.id rfl
theorem cells_len {t:Tb}:t.cells.length=11:=_root_.id rfl
theorem H.get_of {h:H} {id off:Nat} {r:Row} (hr:h.rows id=some r):h.get id off=r.cells[off]? :=by simp[H.get,hr]
theorem H.gets_of {h:H} {id off n:Nat} {r:Row} (hr:h.rows id=some r) (hl:off+n≤r.cells.length):h.gets id off n=some ((r.cells.drop off).take n):=by simp[H.gets,hr,hl]
theorem g_new2 {h:H} {r q:Row} {off:Nat}:((h.new r).new q).get h.next off=r.cells[off]? :=H.get_of (by rw[H.rows_new_ne (by simp[H.new]),H.rows_new])
theorem gs_set {h:H} {id:Nat} {r:Row} (hl:r.cells.length=11):(h.set id r).gets id 0 11=some r.cells:=by
 rw[H.gets_of (H.rows_set _ _ _) (by omega)]
 simp only[List.drop_zero]
 rw[←hl,List.take_length]
theorem bld11 {a0 a1 a2 a3 a4 a5 a6 a7 a8 a9 a10:Int}:abuild [.int .i64 0, .int .i64 0, .int .i64 0, .int .i64 0, .int .i64 0, .int .i64 0, .int .i64 0, .int .i64 0, .int .i64 0, .int .i64 0, .int .i64 0] [(0,1, .int .i64 a0),(1,1, .int .i64 a1),(2,1, .int .i64 a2),(3,1, .int .i64 a3),(4,1, .int .i64 a4),(5,1, .int .i64 a5),(6,1, .int .i64 a6),(7,1, .int .i64 a7),(8,1, .int .i64 a8),(9,1, .int .i64 a9),(10,1, .int .i64 a10)]=some [.int .i64 a0, .int .i64 a1, .int .i64 a2, .int .i64 a3, .int .i64 a4, .int .i64 a5, .int .i64 a6, .int .i64 a7, .int .i64 a8, .int .i64 a9, .int .i64 a10]:=by simp[abuild,putAt,AV.held,AV.cells]
theorem put11 {a0 a1 a2 a3 a4 a5 a6 a7 a8 a9 a10:Int}:putAt [.int .i64 0, .int .i64 0, .int .i64 0, .int .i64 0, .int .i64 0, .int .i64 0, .int .i64 0, .int .i64 0, .int .i64 0, .int .i64 0, .int .i64 0] 0 [.int .i64 a0, .int .i64 a1, .int .i64 a2, .int .i64 a3, .int .i64 a4, .int .i64 a5, .int .i64 a6, .int .i64 a7, .int .i64 a8, .int .i64 a9, .int .i64 a10]=[.int .i64 a0, .int .i64 a1, .int .i64 a2, .int .i64 a3, .int .i64 a4, .int .i64 a5, .int .i64 a6, .int .i64 a7, .int .i64 a8, .int .i64 a9, .int .i64 a10]:=by simp[putAt]
theorem bld14 {t:Tb}:abuild [.int .i64 0, .int .i64 0, .int .i64 0, .int .i64 0, .int .i64 0, .int .i64 0, .int .i64 0, .int .i64 0, .int .i64 0, .int .i64 0, .int .i64 0, .int .i64 0, .int .i64 0, .int .i64 0] [(3,11,t.av)]=some ([.int .i64 0, .int .i64 0, .int .i64 0]++t.cells):=by simp[abuild,putAt,Tb.av,Tb.cells,AV.held,AV.cells]
theorem within_calls {n a b:Int} {h:H} {K:AV→H→Prop} (hk:K (.int .i64 (max a (min n b))) h):ACalls Try.prog 108 [.int .i64 n, .int .i64 a, .int .i64 b] h K:=by
 refine in_table_within (by simp) fun hw=> ?_
 unfold c_table_within
 simp only[go_sem]
 exact fun _=>hk
theorem Clamp_calls {t:Tb} {h:H} {K:AV→H→Prop} (hk:∀h',h'.wf→h.le h'→K (clampT t).av h'):ACalls Try.prog 107 [t.av] h K:=by
 refine in_table_Clamp (by simp) fun hw=> ?_
 unfold c_table_Clamp
 simp only[go_sem,av_held,av_cells,true_and,g_new2,Tb.cells]
 refine within_calls ?_
 simp only[go_sem,g_new2,and_true,true_and]
 refine within_calls ?_
 simp only[go_sem,g_new2,and_true,true_and]
 refine within_calls ?_
 simp only[go_sem,g_new2,and_true,true_and]
 refine within_calls ?_
 simp only[go_sem,g_new2,and_true,true_and]
 refine within_calls ?_
 simp only[go_sem,g_new2,and_true,true_and]
 refine within_calls ?_
 simp only[go_sem,g_new2,and_true,true_and]
 refine within_calls ?_
 simp only[go_sem,g_new2,and_true,true_and]
 refine within_calls ?_
 simp only[go_sem,g_new2,and_true,true_and]
 refine within_calls ?_
 simp only[go_sem,g_new2,and_true,true_and]
 refine within_calls ?_
 simp only[go_sem,g_new2,and_true,true_and]
 refine within_calls ?_
 simp only[go_sem,g_new2,and_true,true_and]
 simp only[bld11,go_sem]
 refine⟨rfl,rfl, ?_⟩
 rw[H.rows_new,k_put]
 refine⟨Option.some_ne_none _,by simp, ?_⟩
 simp only[go_sem,put11]
 rw[gs_set (by rfl)]
 simp only[go_sem]
 exact fun hw'=>hk _ hw' (H.le_set hw (H.le_new (H.wf_new hw _) (H.le_new hw (H.le_refl h) _) _) (Nat.le_succ _) _)
theorem addI {a b:Nat} (h:a+b<9223372036854775808):IntKind.i64.wrap ((a:Int)+(b:Int))=((a+b:Nat):Int):=by rw[wI]<;>omega
theorem mulI {a b:Nat} (h:a*b<9223372036854775808):IntKind.i64.wrap ((a:Int)*(b:Int))=((a*b:Nat):Int):=by
 rw[←Int.natCast_mul,wI]<;>omega
theorem gsT {h':H} {id:Nat} {t:Tb} (hr:h'.rows id=some ⟨some 55,11,t.cells⟩):h'.gets id 0 11=some t.cells:=H.gets_of hr (by simp[cells_len])
end Ab
end Go.Proofs.Ytkbglkjpdndkiaa
