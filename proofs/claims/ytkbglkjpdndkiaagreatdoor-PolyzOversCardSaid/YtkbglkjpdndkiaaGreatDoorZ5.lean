/- Joined texts: M2 M3 M4 M5 M6 H1 H2 H3 H4 H5. No condition. -/
import Derived.Test.YtkbglkjpdndkiaaGreatDoorZ4
namespace Go.Proofs.YtkbglkjpdndkiaaGreatDoor
namespace Ab
open Go Go.RowKit
set_option linter.unusedSimpArgs false
set_option linter.unusedVariables false
attribute [local go_sem ↓] x_mv x_pick x_bin x_beq x_peq x_seq x_cat x_aeq x_idxS x_idxV x_un x_cvI x_bts x_idx x_idxA x_fld x_ld x_st x_nn x_prt x_slc x_mk x_bsl x_bld x_box x_alloc x_len x_capo x_mnx x_app x_cpy x_mkf x_ext x_call x_callV x_bad s_none s_some s_nil s_cons s_chks w_skip w_reg tP_fin tP_no tP_alt w_seq w_cond w_block w_exit w_ret t_normal t_exit t_ret b_normal b_ret b_exit n_normal n_exit n_ret p_normal p_ret f_nil f_t f_c k_ops k_chk k_fin
attribute [local go_sem] e_t e_c e_f u_some u_none u_at env_at k_v k_pick k_add k_sub k_mul k_quo k_rem k_and k_or k_xor k_shl k_shr k_eql k_neq k_lss k_leq k_gtr k_geq k_beq k_peqn k_peqs k_neg k_not k_com k_cvI k_idxS k_idxV1 k_idxVn k_idx k_idxA k_idxG k_ldG k_gld k_seq k_cat k_aeq k_eqs k_fld k_ld1 k_ldn k_get k_gets k_sti k_stb k_stp k_sts k_stf k_sta k_put k_nn k_prt1 k_prtn k_slc_a k_slc_b k_slc_c k_mk k_agg k_bsl k_box k_len k_lenS k_cap k_max k_min k_ext k_callV k_true k_false k_gtt k_gtf k_gft k_gsk k_gff k_lit1i k_lit2i k_lit3i k_c0 k_c1 k_ck List.getElem?_cons_zero List.getElem?_cons_succ List.getElem?_nil Option.getD_some Option.getD_none tupOf List.map_cons List.map_nil Option.map_some Option.map_none List.nil_append List.cons_append List.append_nil Nat.mul_one Int.toNat_natCast Nat.zero_add
attribute [local go_sem] e_t e_c e_f u_some u_none u_at env_at k_v k_pick k_add k_sub k_mul k_quo k_rem k_and k_or k_xor k_shl k_shr k_eql k_neq k_lss k_leq k_gtr k_geq k_beq k_peqn k_peqs k_neg k_not k_com k_cvI k_idxS k_idxV1 k_idxVn k_idx k_idxA k_idxG k_ldG k_gld k_seq k_cat k_aeq k_eqs k_fld k_ld1 k_ldn k_get k_gets k_sti k_stb k_stp k_sts k_stf k_sta k_put k_nn k_prt1 k_prtn k_slc_a k_slc_b k_slc_c k_mk k_agg k_bsl k_box k_len k_lenS k_cap k_max k_min k_ext k_callV k_true k_false k_gtt k_gtf k_gft k_gsk k_gff k_lit1i k_lit2i k_lit3i k_c0 k_c1 k_ck List.getElem?_cons_zero List.getElem?_cons_succ List.getElem?_nil Option.getD_some Option.getD_none tupOf List.map_cons List.map_nil Option.map_some Option.map_none List.nil_append List.cons_append List.append_nil Nat.mul_one Int.toNat_natCast Nat.zero_add
--what a store into a cell of two leaves
attribute [local go_sem_proc] Nat.reduceEqDiff Nat.reduceAdd Int.reduceToNat
attribute [local go_sem_proc ↓] reduceIte
attribute [local go_sem] Bool.false_eq_true
theorem put_next {ys:List Nat} {n d:Nat}:(ys++List.replicate (n+1) 0).set ys.length d=(ys++[d])++List.replicate n 0:=by
 rw[List.set_append_right _ _ (Nat.le_refl _),Nat.sub_self,List.replicate_succ,List.set_cons_zero,List.append_assoc]
 rfl
theorem IsG.step {b:Nat} {h:H} {id:Option Nat} {n m:Nat} {ck:Option Nat} {out:List Nat} (hw:h.wf) (hs:IsG b h (.sl id 0 n ck) (out++List.replicate (m+1) 0)):∃i r,id=some i∧b≤i∧i<h.next∧h.rows i=some r∧r.own≠none∧out.length+1≤r.cells.length∧
  ∀d:Nat,IsG b (h.set i {r with cells:=putAt r.cells out.length [AV.int .u64 d]}) (.sl id 0 n ck) ((out++[d])++List.replicate m 0):=by
 obtain⟨i,r,h1,h2,h3,h4,h5,h6,h7⟩:=hs.put hw (j:=out.length) (by simp)
 exact⟨i,r,h1,h2,h3,h4,h5,h6,fun d=>by rw[←put_next];exact h7 d⟩
theorem val_zeros {B:Nat} {ys:List Nat} {n:Nat}:val B (ys++List.replicate n 0)=val B ys:=by
 rw[val_append,val_zero B (List.replicate n 0) (fun x hx=>List.eq_of_mem_replicate hx)]
 simp
theorem cut_open {xs0:List Nat} (hd:Dig xs0):∃xs:List Nat,Dig xs∧Top xs∧val 18446744073709551616 xs=val 18446744073709551616 xs0∧wlen (val 18446744073709551616 xs0)=xs.length∧xs.length≤xs0.length∧∀j (_:j<xs.length) (_:j<xs0.length),xs0[j]=xs[j]:=by
 have hl:=wlen_len hd
 exact⟨xs0.take (wlen (val 18446744073709551616 xs0)),hd.take _,(top_cut hd).1,(top_cut hd).2,by rw[List.length_take];omega,by rw[List.length_take];omega,fun j h1 h2=>by rw[List.getElem_take]⟩
theorem lCmp_calls {v u:AV} {x y:Nat} {h:H} {K:AV→H→Prop} (nv:Nn h v x) (nu:Nn h u y)
  (hk:K (.int .i64 (cmpI x y)) h):ACalls Tryz.prog 71 [v,u] h K:=by
 obtain⟨xs0,hv,hxd0,hxl0,rfl⟩:=nv
 obtain⟨ys0,hu,hyd0,hyl0,rfl⟩:=nu
 obtain⟨xs,hxd,hxt,hxv,hxn,hxl,hxs⟩:=cut_open hxd0
 obtain⟨ys,hyd,hyt,hyv,hyn,hyl,hys⟩:=cut_open hyd0
 obtain⟨id,off,c,rfl⟩:=hv.form
 obtain⟨id',off',c',rfl⟩:=hu.form
 refine in_limb_Cmp (by simp) fun hw=> ?_
 unfold c_limb_Cmp
 simp only[go_sem]
 refine Len_calls hv hxd0 (by omega) ?_
 simp only[go_sem]
 refine Len_calls hu hyd0 (by omega) ?_
 rw[hxn,hyn]
 rw[←hxv,←hyv] at hk
 obtain⟨n,hn0⟩:∃n,n=xs.length:=⟨_,rfl⟩
 obtain⟨m,hm0⟩:∃m,m=ys.length:=⟨_,rfl⟩
 rw[←hn0,←hm0]
 by_cases hnm:n=m
 ·subst hnm
  simp only[go_sem,neF (show(n:Int)=n from rfl)]
  refine⟨fun k ρ h'=>h'=h∧ρ 0= .sl id off xs0.length c∧ρ 1= .sl id' off' ys0.length c'∧ρ 7= .int .i64 ((k:Int)-1)∧k≤n∧xs.drop k=ys.drop k,n,
   ⟨rfl,rfl,rfl, ?_,Nat.le_refl _,by rw[List.drop_of_length_le (by omega),List.drop_of_length_le (by omega)]⟩, ?_⟩
  ·simp only[go_sem]
   rw[wI]<;>omega
  rintro k ρ h' ⟨rfl,h0,h1,h5,hn,hd⟩
  rcases Nat.eq_zero_or_pos k with rfl|hp
  ·have hc:decide ((0:Int)≤((0:Nat):Int)-1)=false:=by decide
   simp only[go_sem,h0,h1,h5,hc]
   intro _
   have:xs=ys:=by simpa using hd
   subst this
   simpa [cmpI] using hk
  ·have hc:decide ((0:Int)≤(k:Int)-1)=true:=by simp;omega
   have e5:(k:Int)-1=((k-1:Nat):Int):=by omega
   obtain⟨i,rfl,_,hg⟩:=hv.at (j:=k-1) (by omega)
   obtain⟨i',rfl,_,hg'⟩:=hu.at (j:=k-1) (by omega)
   rw[hxs (k-1) (by omega) (by omega)] at hg
   rw[hys (k-1) (by omega) (by omega)] at hg'
   rw[e5] at h5 hc
   have hd':xs.drop (k-1+1)=ys.drop (k-1+1):=by rw[show k-1+1=k from by omega];exact hd
   simp only[go_sem,h0,h1,h5,hc]
   refine⟨by omega,by omega, ?_⟩
   simp only[go_sem,h0,h1,h5,hg]
   refine⟨by omega,by omega, ?_⟩
   simp only[go_sem,h0,h1,h5,hg,hg']
   have p1:k-1<xs.length:=by omega
   have p2:k-1<ys.length:=by omega
   rcases Nat.lt_trichotomy (xs[k-1]'p1) (ys[k-1]'p2) with hlt|he|hlt
   ·have:=val_lt_at 18446744073709551616 (by omega) hxd (k-1) p1 p2 hd' hlt
    simp only[go_sem,neT (show((xs[k-1]'p1:Nat):Int)≠(ys[k-1]'p2:Nat) by omega),h0,h1,h5,hg,hg']
    refine⟨by omega,by omega,by omega,by omega, ?_⟩
    simp only[go_sem,hg,hg',ltT hlt]
    intro _
    simpa [cmpI,this] using hk
   ·have e6:IntKind.i64.wrap (((k-1:Nat):Int)-1)=((k-1:Nat):Int)-1:=by rw[wI]<;>omega
    simp only[go_sem,neF (show((xs[k-1]'p1:Nat):Int)=(ys[k-1]'p2:Nat) by omega),h0,h1,h5,e6]
    refine⟨k-1,by omega,by trivial,by trivial,by trivial,by first|rfl|trivial|assumption,by omega, ?_⟩
    rw[List.drop_eq_getElem_cons p1,List.drop_eq_getElem_cons p2,he,hd']
   ·have:=val_lt_at 18446744073709551616 (by omega) hyd (k-1) p2 p1 hd'.symm hlt
    have e:cmpI (val 18446744073709551616 xs) (val 18446744073709551616 ys)=1:=by unfold cmpI;rw[if_neg (by omega),if_neg (by omega)]
    simp only[go_sem,neT (show((xs[k-1]'p1:Nat):Int)≠(ys[k-1]'p2:Nat) by omega),h0,h1,h5,hg,hg']
    refine⟨by omega,by omega,by omega,by omega, ?_⟩
    simp only[go_sem,hg,hg',ltF (Nat.le_of_lt hlt)]
    intro _
    simpa [e] using hk
 ·simp only[go_sem,neT (show(n:Int)≠(m:Int) by omega)]
  rcases Nat.lt_or_ge n m with hlt|hge
  ·have:=digits_lt_iff 18446744073709551616 (by omega) hxd hyt (by omega)
   simp only[go_sem,ltT hlt]
   intro _
   simpa [cmpI,this] using hk
  ·have:=digits_lt_iff 18446744073709551616 (by omega) hyd hxt (by omega)
   have e:cmpI (val 18446744073709551616 xs) (val 18446744073709551616 ys)=1:=by unfold cmpI;rw[if_neg (by omega),if_neg (by omega)]
   simp only[go_sem,ltF hge]
   intro _
   simpa [e] using hk
theorem lAdd_calls {v u:AV} {x y:Nat} {h:H} {K:AV→H→Prop} (nv:Nn h v x) (nu:Nn h u y)
  (hk:∀r h',h'.wf→h.le h'→Nf h.next h' r (x+y)→K r h'):ACalls Tryz.prog 75 [v,u] h K:=by
 refine in_limb_Add (by simp) fun hw=> ?_
 unfold c_limb_Add
 simp only[go_sem]
 refine trimT_calls nv fun r1 xs h1 hxd _ hxv _ hxl=> ?_
 simp only[go_sem]
 refine trimT_calls nu fun r2 ys h2 hyd _ hyv _ hyl=> ?_
 obtain⟨id,off,c,rfl⟩:=h1.form
 obtain⟨id',off',c',rfl⟩:=h2.form
 simp only[go_sem]
 refine cond_cut (fun ρ' h3=>h3=h∧∃ps qs id off c id' off' c',ρ' 0= .sl id off ps.length c∧ρ' 1= .sl id' off' qs.length c'∧IsN h (.sl id off ps.length c) ps∧IsN h (.sl id' off' qs.length c') qs∧Dig ps∧Dig qs∧qs.length≤ps.length∧ps.length≤1099511627776∧val 18446744073709551616 ps+val 18446744073709551616 qs=x+y) ?_ ?_
 ·rcases Nat.lt_or_ge xs.length ys.length with hlt|hge
  ·simp only[go_sem,ltT hlt]
   exact⟨trivial,ys,xs,_,_,_,_,_,_,rfl,rfl,h2,h1,hyd,hxd,by omega,hyl,by omega⟩
  ·simp only[go_sem,ltF hge]
   exact⟨trivial,xs,ys,_,_,_,_,_,_,rfl,rfl,h1,h2,hxd,hyd,by omega,hxl,by omega⟩
 clear h1 h2 hxd hxv hxl hyd hyv hyl nv nu
 rintro ρ h3 ⟨rfl,xs,ys,id,off,c,id',off',c',q0,q1,hv,hu,hxd,hyd,hyx,hxl,hxy⟩
 simp only[go_sem,q0,q1,incI (i:=xs.length) (by omega)]
 refine⟨by omega,by omega,by omega, ?_⟩
 refine for_rule (fun i ρ h'=>i≤xs.length∧h'.wf∧h3.le h'∧ρ 0= .sl id off xs.length c∧ρ 1= .sl id' off' ys.length c'∧ρ 25= .int .i64 (xs.length:Int)∧ρ 26= .int .i64 (i:Int)∧∃out cc,ρ 6= .int .u64 (cc:Nat)∧cc≤1∧IsG h3.next h' (ρ 5) (out++List.replicate (xs.length+1-i) 0)∧Dig out∧out.length=i∧
  val 18446744073709551616 out+18446744073709551616^i*cc=val 18446744073709551616 (xs.take i)+val 18446744073709551616 (ys.take i)) xs.length ⟨by omega,H.wf_new hw _,H.le_new hw (H.le_refl h3) _,by first|rfl|trivial|assumption,by first|rfl|trivial|assumption,rfl,rfl,[],0,rfl,by omega,IsG.made (Nat.le_refl _) _,Dig.nil,rfl,rfl⟩ (fun i ρ h hI=>hI.1) ?_
 rintro i ρ h' ⟨hi,hw',hle,h0,h1,h25,h26,out,cc,h6,hcc,hs,hod,hol,hov⟩
 obtain⟨k,ck,h5⟩:=hs.form
 rcases Nat.lt_or_ge i xs.length with hxi|hxi
 ·simp only[go_sem,h0,h1,h25,h26,ltT hxi]
  refine cond_cut (fun ρ' h2=>h2=h'∧ρ' 0= .sl id off xs.length c∧ρ' 1= .sl id' off' ys.length c'∧ρ' 25= .int .i64 (xs.length:Int)∧ρ' 26= .int .i64 (i:Int)∧ρ' 7= .int .i64 (i:Int)∧ρ' 5=ρ 5∧ρ' 6= .int .u64 (cc:Nat)∧ρ' 8= .int .u64 ((ys.getD i 0:Nat):Int)) ?_ ?_
  ·rcases Nat.lt_or_ge i ys.length with hyi|hyi
   ·obtain⟨j',rfl,_,hg'⟩:=(hu.mono hle).at hyi
    rw[getD_at hyi]
    simp only[go_sem,h0,h1,h25,h26,h6,ltT hyi]
    refine⟨by omega,by omega, ?_⟩
    simp only[go_sem,hg',h0,h1,h25,h26,h6]
    exact⟨trivial,trivial,trivial,trivial,trivial,trivial,trivial,trivial,trivial⟩
   ·rw[getD_ge hyi]
    simp only[go_sem,h0,h1,h25,h26,h6,ltF hyi]
    exact⟨trivial,trivial,trivial,trivial,trivial,trivial,trivial,trivial,rfl⟩
  rintro ρ' h2 ⟨rfl,h0,h1,h25,h26,h7,h5',h6,h8⟩
  have hyb:=getD_lt (B:=18446744073709551616) (by omega) hyd i
  have hxb:=hxd _ (List.getElem_mem hxi)
  have hvx:=val_take_succ 18446744073709551616 xs i hxi
  have hvy:=val_take_get 18446744073709551616 ys i
  obtain⟨j,rfl,_,hg⟩:=(hv.mono hle).at hxi
  generalize ys.getD i 0=q at*
  generalize xs[i]=p at*
  rw[←h5'] at hs h5
  have fin:∀d c2:Nat,p+q+cc=d+18446744073709551616*c2→val 18446744073709551616 (out++[d])+18446744073709551616^(i+1)*c2=val 18446744073709551616 (xs.take (i+1))+val 18446744073709551616 (ys.take (i+1)):=by
   intro d c2 e
   rw[val_snoc,hvx,hvy,hol,Nat.pow_succ,Nat.mul_assoc]
   have e2:=congrArg (fun z=>18446744073709551616^i*z) e
   simp only[Nat.mul_add] at e2
   omega
  rw[h5] at hs
  simp only[go_sem,h0,h1,h7,h8,h6,h5]
  refine⟨by omega,by omega, ?_⟩
  simp only[go_sem,hg,h6,h8,h5,h7]
  refine Add64_calls hxb hyb hcc ?_
  have f1:=fin ((p+q+cc)%18446744073709551616) ((p+q+cc)/18446744073709551616) (by omega)
  have f2:(p+q+cc)/18446744073709551616≤1:=by omega
  have f3:(p+q+cc)%18446744073709551616<18446744073709551616:=by omega
  generalize (p+q+cc)%18446744073709551616=d at*
  generalize (p+q+cc)/18446744073709551616=c2 at*
  subst hol
  simp only[go_sem,h5,h7]
  rw[show xs.length+1-out.length=(xs.length-out.length)+1 by omega] at hs
  obtain⟨i2,r2,rfl,hb2,hl2,hr2,ho2,hf2,hp2⟩:=hs.step hw'
  simp only[go_sem]
  refine⟨by omega,by simp;omega, ?_⟩
  simp only[go_sem,hr2]
  refine⟨ho2,by omega, ?_⟩
  simp only[go_sem,h0,h1,h25,h26,h5,incI (i:=out.length) (by omega)]
  refine⟨by omega,H.wf_set hw' hl2 _,H.le_set hw hle hb2 _,by first|rfl|trivial|assumption,by first|rfl|trivial|assumption,by first|rfl|trivial|assumption,by first|rfl|trivial|assumption,out++[d],c2,rfl,f2, ?_,hod.append (Dig.one f3),by simp,f1⟩
  rw[show xs.length+1-(out.length+1)=xs.length-out.length by omega,show xs.length+1-out.length=xs.length-out.length+1 by omega]
  exact hp2 d
 ·have:i=xs.length:=by omega
  subst this
  rw[List.take_length,List.take_of_length_le (by omega),hxy] at hov
  rw[h5] at hs
  rw[show xs.length+1-xs.length=0+1 by omega] at hs h5
  obtain⟨i2,r2,rfl,hb2,hl2,hr2,ho2,hf2,hp2⟩:=hs.step hw'
  rw[hol] at hf2 hp2
  simp only[go_sem,h0,h5,h6,h25,h26,ltF (Nat.le_refl xs.length)]
  refine⟨by omega,by simp;omega, ?_⟩
  simp only[go_sem,hr2]
  refine⟨ho2,by omega, ?_⟩
  simp only[go_sem,h5]
  have hG:=hp2 cc
  rw[List.replicate_zero,List.append_nil] at hG
  have e:val 18446744073709551616 (out++[cc])=x+y:=by rw[val_snoc,hol];exact hov
  refine trimG_calls hG (hod.append (Dig.one (x:=cc) (by omega))) (by simp;omega) fun r hr=> ?_
  rw[e] at hr
  simp only[go_sem]
  exact fun _=>hk r _ (H.wf_set hw' hl2 _) (H.le_set hw hle hb2 _) hr
theorem lSub_calls {v u:AV} {x y:Nat} {h:H} {K:AV→H→Prop} (nv:Nn h v x) (nu:Nn h u y)
  (hlt:x<y→h.wf→K (.tup [.sl none 0 0 none, .bool false]) h) (hk:y≤x→∀r h',h'.wf→h.le h'→Nf h.next h' r (x-y)→K (.tup [r, .bool true]) h'):ACalls Tryz.prog 59 [v,u] h K:=by
 refine in_limb_Sub (by simp) fun hw=> ?_
 unfold c_limb_Sub
 simp only[go_sem]
 refine trimT_calls nv fun r1 xs hv hxd hxt hxv hxn hxl=> ?_
 simp only[go_sem]
 refine trimT_calls nu fun r2 ys hu hyd hyt hyv hyn hyl=> ?_
 simp only[go_sem]
 refine lCmp_calls ⟨xs,hv,hxd,hxl,hxv⟩ ⟨ys,hu,hyd,hyl,hyv⟩ ?_
 rcases Nat.lt_or_ge x y with hc|hc
 ·have e:decide (cmpI x y<0)=true:=by simp[cmpI,hc]
  simp only[go_sem,e]
  exact hlt hc
 have e:decide (cmpI x y<0)=false:=by
  unfold cmpI
  rw[if_neg (by omega)]
  split<;>decide
 obtain⟨id,off,c,rfl⟩:=hv.form
 obtain⟨id',off',c',rfl⟩:=hu.form
 have hyx:ys.length≤xs.length:=by rw[hxn,hyn];exact wlen_mono hc
 simp only[go_sem,e]
 refine⟨by omega,by omega,by omega, ?_⟩
 refine for_rule (fun i ρ h'=>i≤xs.length∧h'.wf∧h.le h'∧ρ 0= .sl id off xs.length c∧ρ 1= .sl id' off' ys.length c'∧ρ 22= .int .i64 (xs.length:Int)∧ρ 23= .int .i64 (i:Int)∧∃out cc,ρ 7= .int .u64 (cc:Nat)∧cc≤1∧IsG h.next h' (ρ 6) (out++List.replicate (xs.length-i) 0)∧Dig out∧out.length=i∧
  val 18446744073709551616 out+val 18446744073709551616 (ys.take i)=val 18446744073709551616 (xs.take i)+18446744073709551616^i*cc) xs.length ⟨by omega,H.wf_new hw _,H.le_new hw (H.le_refl h) _,by first|rfl|trivial|assumption,by first|rfl|trivial|assumption,rfl,rfl,[],0,rfl,by omega,IsG.made (Nat.le_refl _) _,Dig.nil,rfl,rfl⟩ (fun i ρ h hI=>hI.1) ?_
 rintro i ρ h' ⟨hi,hw',hle,h0,h1,h25,h26,out,cc,h6,hcc,hs,hod,hol,hov⟩
 obtain⟨k,ck,h5⟩:=hs.form
 rcases Nat.lt_or_ge i xs.length with hxi|hxi
 ·simp only[go_sem,h0,h1,h25,h26,ltT hxi]
  refine cond_cut (fun ρ' h2=>h2=h'∧ρ' 0= .sl id off xs.length c∧ρ' 1= .sl id' off' ys.length c'∧ρ' 22= .int .i64 (xs.length:Int)∧ρ' 23= .int .i64 (i:Int)∧ρ' 8= .int .i64 (i:Int)∧ρ' 6=ρ 6∧ρ' 7= .int .u64 (cc:Nat)∧ρ' 9= .int .u64 ((ys.getD i 0:Nat):Int)) ?_ ?_
  ·rcases Nat.lt_or_ge i ys.length with hyi|hyi
   ·obtain⟨j',rfl,_,hg'⟩:=(hu.mono hle).at hyi
    rw[getD_at hyi]
    simp only[go_sem,h0,h1,h25,h26,h6,ltT hyi]
    refine⟨by omega,by omega, ?_⟩
    simp only[go_sem,hg',h0,h1,h25,h26,h6]
    exact⟨trivial,trivial,trivial,trivial,trivial,trivial,trivial,trivial,trivial⟩
   ·rw[getD_ge hyi]
    simp only[go_sem,h0,h1,h25,h26,h6,ltF hyi]
    exact⟨trivial,trivial,trivial,trivial,trivial,trivial,trivial,trivial,rfl⟩
  rintro ρ' h2 ⟨rfl,h0,h1,h25,h26,h7,h5',h6,h8⟩
  have hyb:=getD_lt (B:=18446744073709551616) (by omega) hyd i
  have hxb:=hxd _ (List.getElem_mem hxi)
  have hvx:=val_take_succ 18446744073709551616 xs i hxi
  have hvy:=val_take_get 18446744073709551616 ys i
  obtain⟨j,rfl,_,hg⟩:=(hv.mono hle).at hxi
  generalize ys.getD i 0=q at*
  generalize xs[i]=p at*
  rw[←h5'] at hs h5
  have fin:∀d c2:Nat,p+18446744073709551616*c2=d+q+cc→val 18446744073709551616 (out++[d])+val 18446744073709551616 (ys.take (i+1))=val 18446744073709551616 (xs.take (i+1))+18446744073709551616^(i+1)*c2:=by
   intro d c2 e
   rw[val_snoc,hvx,hvy,hol,Nat.pow_succ,Nat.mul_assoc]
   have e2:=congrArg (fun z=>18446744073709551616^i*z) e
   simp only[Nat.mul_add] at e2
   omega
  rw[h5] at hs
  simp only[go_sem,h0,h1,h7,h8,h6,h5]
  refine⟨by omega,by omega, ?_⟩
  simp only[go_sem,hg,h6,h8,h5,h7]
  refine Sub64_calls hcc ?_
  have f3:(p+18446744073709551616-q-cc)%18446744073709551616<18446744073709551616:=by omega
  have f2:(if p<q+cc then 1 else 0)≤1:=by split<;>omega
  have f1:=fin ((p+18446744073709551616-q-cc)%18446744073709551616) (if p<q+cc then 1 else 0) (by split<;>omega)
  generalize (p+18446744073709551616-q-cc)%18446744073709551616=d at*
  generalize (if p<q+cc then 1 else 0)=c2 at*
  subst hol
  simp only[go_sem,h5,h7]
  rw[show xs.length-out.length=(xs.length-(out.length+1))+1 by omega] at hs
  obtain⟨i2,r2,rfl,hb2,hl2,hr2,ho2,hf2,hp2⟩:=hs.step hw'
  simp only[go_sem]
  refine⟨by omega,by simp;omega, ?_⟩
  simp only[go_sem,hr2]
  refine⟨ho2,by omega, ?_⟩
  simp only[go_sem,h0,h1,h25,h26,h5,incI (i:=out.length) (by omega)]
  refine⟨by omega,H.wf_set hw' hl2 _,H.le_set hw hle hb2 _,by first|rfl|trivial|assumption,by first|rfl|trivial|assumption,by first|rfl|trivial|assumption,by first|rfl|trivial|assumption,out++[d],c2,rfl,f2, ?_,hod.append (Dig.one f3),by simp,f1⟩
  rw[show xs.length-out.length=(xs.length-(out.length+1))+1 by omega]
  exact hp2 d
 ·have:i=xs.length:=by omega
  subst this
  rw[List.take_length] at hov
  rw[h5] at hs
  rw[show xs.length-xs.length=0 by omega,List.replicate_zero,List.append_nil] at hs h5
  simp only[go_sem,h0,h5,h6,h25,h26,ltF (Nat.le_refl xs.length)]
  refine trimG_calls hs hod (by omega) fun r hr=> ?_
  rw[sub_end (by omega) hod hol (by rw[hxv,hyv];exact hc) hov hyx,hxv,hyv] at hr
  simp only[go_sem]
  exact fun _=>hk hc r _ hw' hle hr
theorem addmul_step {b w c a:Nat} (hb:b<18446744073709551616) (hw:w<18446744073709551616) (hc:c<18446744073709551616) (ha:a<18446744073709551616):
  (a+(b*w%18446744073709551616+c)%18446744073709551616)%18446744073709551616+18446744073709551616*(b*w/18446744073709551616+(b*w%18446744073709551616+c)/18446744073709551616+(a+(b*w%18446744073709551616+c)%18446744073709551616)/18446744073709551616)=a+b*w+c∧
  b*w/18446744073709551616+(b*w%18446744073709551616+c)/18446744073709551616+(a+(b*w%18446744073709551616+c)%18446744073709551616)/18446744073709551616<18446744073709551616:=by
 have h1:b*w≤18446744073709551615*18446744073709551615:=Nat.mul_le_mul (by omega) (by omega)
 generalize b*w=p at*
 omega
theorem cpy_num {b:Nat} {h:H} {K:AV→H→Prop} {d s:AV} {zs xs:List Nat} (hw:h.wf) (hs:IsG b h d zs) (hx:IsN h s xs) (hl:xs.length≤zs.length)
  (hk:∀h',h'.wf→h'.next=h.next→(∀a:H,a.wf→a.le h→a.next≤b→a.le h')→IsG b h' d (xs++zs.drop xs.length)→K (.int .i64 (xs.length:Int)) h'):cpyK 1 d s h K:=by
 have hs0:=hs
 have hx0:=hx
 obtain⟨idd,cd,rfl⟩:=hs.form
 obtain⟨ids,offs,cs,rfl⟩:=hx.form
 have hmin:min xs.length zs.length=xs.length:=Nat.min_eq_left hl
 simp only[cpyK,hmin]
 refine⟨fun h0=> ?_,fun h0=> ?_⟩
 ·have:xs=[]:=List.eq_nil_of_length_eq_zero h0
  subst this
  exact hk h hw rfl (fun _ _ k _=>k) (by simpa using hs0)
 ·obtain⟨id',c',e1,h1⟩:=hs
  obtain⟨rfl,rfl⟩:idd=id'∧cd=c':=by injection e1 with a1 a2 a3 a4;exact⟨a1,a4⟩
  rcases h1 with⟨_,e⟩|⟨i,q,rfl,hb,hq,ho,hz,hlq,htq⟩
  ·have e':zs=[]:=by simpa using e
   rw[e'] at hl
   exact absurd (Nat.le_zero.1 hl) h0
  obtain⟨id2,off2,c2,e2,h2⟩:=hx
  obtain⟨rfl,rfl,rfl⟩:ids=id2∧offs=off2∧cs=c2:=by injection e2 with a1 a2 a3 a4;exact⟨a1,a2,a4⟩
  rcases h2 with⟨_,e,_⟩|⟨j,r,rfl,hr,hor,hlr,htr⟩
  ·have e':xs=[]:=by simpa using e
   exact absurd (by rw[e'];rfl) h0
  simp only[List.length_map] at hlq htq hlr htr
  have hi:=H.row_lt hw hq
  refine⟨i,q,j,r,rfl,hq,by rw[ho];simp,rfl,hr,by omega,by omega, ?_, ?_⟩
  ·rw[Nat.mul_one,htr];exact W_one _ _
  rw[Nat.mul_one,htr,show(min (xs.length:Int) (zs.length:Int))=(xs.length:Int) by omega]
  refine hk _ (H.wf_set hw hi _) rfl (fun a ha k hab=>H.le_set ha k (by omega) _) ?_
  have hlen:(xs++zs.drop xs.length).length=zs.length:=by simp;omega
  refine⟨some i,cd,by simp;omega, .inr ⟨i,_,rfl,hb,H.rows_set _ _ _,ho,hz, ?_, ?_⟩⟩
  ·have:(putAt q.cells 0 (W IntKind.u64 (xs.map fun n:Nat=>(n:Int)))).length=q.cells.length:=putAt_length (by rw[W_length];simp;omega)
   show((xs++zs.drop xs.length).map fun n:Nat=>(n:Int)).length≤(putAt q.cells 0 (W IntKind.u64 (xs.map fun n:Nat=>(n:Int)))).length
   rw[this,List.length_map,hlen]
   exact hlq
  ·show((putAt q.cells 0 (W IntKind.u64 (xs.map fun n:Nat=>(n:Int)))).take ((xs++zs.drop xs.length).map fun n:Nat=>(n:Int)).length)=_
   rw[putAt_zero,List.length_map,hlen,W_length,List.length_map]
   rw[List.take_append,W_length,List.length_map,List.take_of_length_le (by rw[W_length,List.length_map];exact hl)]
   rw[List.map_append,W_append]
   congr 1
   rw[List.take_drop,show xs.length+(zs.length-xs.length)=zs.length by omega,htq,W_drop,List.map_drop]
theorem put_mid {ys rest:List Nat} {a d:Nat}:(ys++a::rest).set ys.length d=(ys++[d])++rest:=by
 rw[List.set_append_right _ _ (Nat.le_refl _),Nat.sub_self,List.set_cons_zero,List.append_assoc]
 rfl
theorem IsG.over {b:Nat} {h:H} {id:Option Nat} {n:Nat} {ck:Option Nat} {out zs:List Nat} (hw:h.wf) (hl:out.length<zs.length) (hs:IsG b h (.sl id 0 n ck) (out++zs.drop out.length)):∃i r,id=some i∧b≤i∧i<h.next∧h.rows i=some r∧r.own≠none∧out.length+1≤r.cells.length∧
  h.get i out.length=some (.int .u64 (zs[out.length]:Nat))∧n=zs.length∧
  ∀d:Nat,IsG b (h.set i {r with cells:=putAt r.cells out.length [AV.int .u64 d]}) (.sl id 0 n ck) ((out++[d])++zs.drop (out.length+1)):=by
 have hln:(out++zs.drop out.length).length=zs.length:=by simp;omega
 obtain⟨i,r,h1,h2,h3,h4,h5,h6,h7⟩:=hs.put hw (j:=out.length) (by omega)
 obtain⟨i',e1,e2,e3⟩:=hs.isN.at (j:=out.length) (by omega)
 rw[h1] at e1
 injection e1 with e1
 subst e1
 have e4:(out++zs.drop out.length)[out.length]'(by omega)=zs[out.length]:=by
  rw[List.getElem_append_right (Nat.le_refl _)]
  simp
 rw[e4,Nat.zero_add] at e3
 refine⟨i,r,h1,h2,h3,h4,h5,h6,e3,by omega,fun d=> ?_⟩
 have:=h7 d
 rw[List.drop_eq_getElem_cons hl,put_mid] at this
 exact this
theorem Nn.nil (h:H):Nn h (.sl none 0 0 none) 0:=⟨[],IsN.nil _ _,Dig.nil,by simp,rfl⟩
theorem div_step {B w r a R V:Nat} (hw:0<w) (hr:r<w) (e:V=R*w+r):B*V+a=(B*R+(r*B+a)/w)*w+(r*B+a)%w:=by
 have h1:=Nat.div_add_mod (r*B+a) w
 subst e
 generalize (r*B+a)/w=q at*
 generalize (r*B+a)%w=s at*
 grind
theorem set_last {n d:Nat} {rest:List Nat}:(List.replicate (n+1) 0++rest).set n d=List.replicate n 0++d::rest:=by
 rw[List.replicate_succ',List.append_assoc,List.set_append_right _ _ (by simp),List.length_replicate,Nat.sub_self]
 rfl
theorem div_dig {B w r a:Nat} (hw:0<w) (hr:r<w) (ha:a<B):(r*B+a)/w<B:=by
 rw[Nat.div_lt_iff_lt_mul hw]
 have:(r+1)*B≤w*B:=Nat.mul_le_mul_right B hr
 rw[Nat.add_mul,Nat.one_mul] at this
 rw[Nat.mul_comm B w]
 omega
theorem lDivWord_calls {v:AV} {x w:Nat} {h:H} {K:AV→H→Prop} (nv:Nn h v x) (hw64:w<18446744073709551616) (hw0:0<w)
  (hk:∀r h',h'.wf→h.le h'→Nf h.next h' r (x/w)→K (.tup [r, .int .u64 (x%w:Nat), .int .i64 0]) h'):ACalls Tryz.prog 69 [v, .int .u64 (w:Int)] h K:=by
 refine in_limb_DivWord (by simp) fun hw=> ?_
 unfold c_limb_DivWord
 simp only[go_sem,eqF (show(w:Int)≠0 by omega)]
 refine trimT_calls nv fun r1 xs hv hxd hxt hxv hxn hxl=> ?_
 obtain⟨id,off,c,rfl⟩:=hv.form
 simp only[go_sem]
 refine⟨by omega,by omega,by omega, ?_⟩
 refine⟨fun k ρ h'=>k≤xs.length∧h'.wf∧h.le h'∧ρ 0= .sl id off xs.length c∧ρ 1= .int .u64 (w:Int)∧ρ 7= .sl (some h.next) 0 xs.length (some xs.length)∧ρ 9= .int .i64 ((k:Int)-1)∧∃qs rr,ρ 8= .int .u64 (rr:Nat)∧rr<w∧IsG h.next h' (.sl (some h.next) 0 xs.length (some xs.length)) (List.replicate k 0++qs)∧Dig qs∧qs.length=xs.length-k∧
  val 18446744073709551616 (xs.drop k)=val 18446744073709551616 qs*w+rr,xs.length,⟨Nat.le_refl _,H.wf_new hw _,H.le_new hw (H.le_refl h) _,by first|rfl|trivial|assumption,by first|rfl|trivial|assumption,by first|rfl|trivial|assumption, ?_,[],0,rfl,hw0,by simpa using IsG.made (Nat.le_refl _) _,Dig.nil,by simp,by simp[val]⟩, ?_⟩
 ·simp only[go_sem]
  rw[wI]<;>omega
 rintro k ρ h' ⟨hk1,hw',hle,h0,h1,h7,h9,qs,rr,h8,hrr,hs,hqd,hql,hqv⟩
 rcases Nat.eq_zero_or_pos k with rfl|hp
 ·have hc:decide ((0:Int)≤((0:Nat):Int)-1)=false:=by decide
  simp only[go_sem,h0,h1,h7,h8,h9,hc]
  rw[List.replicate_zero,List.nil_append] at hs
  rw[List.drop_zero,hxv] at hqv
  have e1:x/w=val 18446744073709551616 qs:=by
   rw[hqv,Nat.mul_comm,Nat.mul_add_div hw0,Nat.div_eq_of_lt hrr,Nat.add_zero]
  have e2:x%w=rr:=by
   rw[hqv,Nat.mul_comm,Nat.mul_add_mod,Nat.mod_eq_of_lt hrr]
  refine trimG_calls hs hqd (by omega) fun r hr=> ?_
  rw[←e1] at hr
  rw[e2] at hk
  simp only[go_sem,h8]
  exact fun _=>hk r h' hw' hle hr
 ·have hc:decide ((0:Int)≤(k:Int)-1)=true:=by simp;omega
  have e5:(k:Int)-1=((k-1:Nat):Int):=by omega
  have hxb:=hxd _ (List.getElem_mem (show k-1<xs.length by omega))
  obtain⟨i,rfl,_,hg⟩:=(hv.mono hle).at (j:=k-1) (by omega)
  rw[e5] at h9 hc
  simp only[go_sem,h0,h1,h7,h8,h9,hc]
  refine⟨by omega,by omega, ?_⟩
  simp only[go_sem,hg,h1,h7,h8,h9]
  have hdr:xs.drop (k-1)=xs[k-1]::xs.drop k:=by
   rw[List.drop_eq_getElem_cons (by omega),show k-1+1=k by omega]
  generalize xs[k-1]=a at*
  refine Div64_calls hrr hxb hw64 ?_
  obtain⟨i2,r2,e2',hb2,hl2,hr2,ho2,hf2,hp2⟩:=hs.put hw' (j:=k-1) (by simp;omega)
  injection e2' with e2'
  subst e2'
  have e6:IntKind.i64.wrap (((k-1:Nat):Int)-1)=((k-1:Nat):Int)-1:=by rw[wI]<;>omega
  simp only[go_sem,h7,h9]
  refine⟨by omega,by omega, ?_⟩
  simp only[go_sem,hr2]
  refine⟨ho2,by omega, ?_⟩
  simp only[go_sem,h0,h1,h7,h9,e6]
  have st:=div_step (B:=18446744073709551616) (a:=a) hw0 hrr hqv
  refine⟨k-1,by omega,by omega,H.wf_set hw' hl2 _,H.le_set hw hle hb2 _,by first|rfl|trivial|assumption,by first|rfl|trivial|assumption,by first|rfl|trivial|assumption,by first|rfl|trivial|assumption,((rr*18446744073709551616+a)/w)::qs,(rr*18446744073709551616+a)%w,rfl,Nat.mod_lt _ hw0, ?_, ?_,by simp;omega, ?_⟩
  ·have:=hp2 ((rr*18446744073709551616+a)/w)
   rw[show List.replicate k 0=List.replicate (k-1+1) 0 by rw[show k-1+1=k by omega],set_last] at this
   exact this
  ·intro z hz
   rcases List.mem_cons.1 hz with rfl|hz
   ·exact div_dig hw0 hrr hxb
   ·exact hqd z hz
  ·rw[hdr]
   simp only[val]
   rw[Nat.add_comm a,st,Nat.add_comm (18446744073709551616*val 18446744073709551616 qs)]
theorem IsG.mid {b:Nat} {h:H} {id:Option Nat} {n a:Nat} {ck:Option Nat} {pre rest:List Nat} (hw:h.wf) (hs:IsG b h (.sl id 0 n ck) (pre++a::rest)):∃i r,id=some i∧b≤i∧i<h.next∧h.rows i=some r∧r.own≠none∧pre.length+1≤r.cells.length∧
  h.get i pre.length=some (.int .u64 (a:Nat))∧n=(pre++a::rest).length∧
  ∀d:Nat,IsG b (h.set i {r with cells:=putAt r.cells pre.length [AV.int .u64 d]}) (.sl id 0 n ck) (pre++d::rest):=by
 obtain⟨i,r,h1,h2,h3,h4,h5,h6,h7⟩:=hs.put hw (j:=pre.length) (by simp)
 obtain⟨i',e1,e2,e3⟩:=hs.isN.at (j:=pre.length) (by simp)
 rw[h1] at e1
 injection e1 with e1
 subst e1
 have e4:(pre++a::rest)[pre.length]'(by simp)=a:=by simp
 rw[e4,Nat.zero_add] at e3
 refine⟨i,r,h1,h2,h3,h4,h5,h6,e3,e2,fun d=> ?_⟩
 have:=h7 d
 rw[List.set_append_right _ _ (Nat.le_refl _),Nat.sub_self,List.set_cons_zero] at this
 exact this
theorem bOr_comm {k:IntKind} {a b:Int}:bOr k a b=bOr k b a:=by simp[bOr,BitVec.or_comm]
theorem shl64 {w s t:Nat} (hw:w<18446744073709551616) (hs:s<64) (ht:t<2^s):
  bOr .u64 (t:Int) (bShl .u64 (w:Int) s)=((w*2^s%18446744073709551616+t:Nat):Int)∧w*2^s%18446744073709551616+t<18446744073709551616∧w*2^s/18446744073709551616<2^s∧w/2^(64-s)=w*2^s/18446744073709551616:=by
 have hp:0<2^s:=Nat.pow_pos (by omega)
 have e64:18446744073709551616=2^(64-s)*2^s:=by rw[←Nat.pow_add,show 64-s+s=64 from by omega]
 have e1:w*2^s%18446744073709551616=w%2^(64-s)*2^s:=by rw[e64,Nat.mul_mod_mul_right]
 have e2:w%2^(64-s)<2^(64-s):=Nat.mod_lt _ (Nat.pow_pos (by omega))
 have e3:(w%2^(64-s)+1)*2^s≤2^(64-s)*2^s:=Nat.mul_le_mul_right _ e2
 rw[←e64,Nat.add_mul,Nat.one_mul] at e3
 have e4:w*2^s/18446744073709551616=w/2^(64-s):=by rw[e64,Nat.mul_div_mul_right _ _ hp]
 refine⟨?_,by omega, ?_,e4.symm⟩
 ·rw[shlU (by omega),e1,bOr_comm]
  exact orU (by omega) ht (by omega)
 ·rw[e4,Nat.div_lt_iff_lt_mul (Nat.pow_pos (by omega)),Nat.mul_comm,←e64]
  exact hw
theorem lShl_calls {v:AV} {x n:Nat} {h:H} {K:AV→H→Prop} (nv:Nn h v x) (hn:n≤1048576)
  (hk:∀r h',h'.wf→h.le h'→Nf h.next h' r (x*2^n)→K r h'):ACalls Tryz.prog 66 [v, .int .i64 (n:Int)] h K:=by
 refine in_limb_Shl (by simp) fun hw=> ?_
 unfold c_limb_Shl
 simp only[go_sem]
 refine within_limb (by omega) ?_
 simp only[go_sem]
 refine trimT_calls nv fun r1 xs hv hxd hxt hxv hxn hxl=> ?_
 obtain⟨id,off,c,rfl⟩:=hv.form
 rcases Nat.eq_zero_or_pos xs.length with h0|hpos
 ·have e0:xs=[]:=List.eq_nil_of_length_eq_zero h0
  have hx0:x=0:=by rw[←hxv,e0];rfl
  subst hx0
  rw[Nat.zero_mul] at hk
  simp only[go_sem,eqT (show(xs.length:Int)=0 by omega)]
  exact fun _=>hk _ h hw (H.le_refl h) (Nf.nil _ _ _)
 have e4:((n:Int)).tdiv 64=((n/64:Nat):Int):=tdivN (b:=64)
 have e5:((n:Int)).tmod 64=((n%64:Nat):Int):=tmodN (b:=64)
 have e1:IntKind.i64.wrap ((n/64:Nat):Int)=((n/64:Nat):Int):=wI (by omega) (by omega)
 have e8:IntKind.u64.wrap ((n%64:Nat):Int)=((n%64:Nat):Int):=wUn (by omega)
 have e2:IntKind.i64.wrap ((xs.length:Int)+((n/64:Nat):Int))=((xs.length+n/64:Nat):Int):=by rw[wI]<;>omega
 have e3:=incI (i:=xs.length+n/64) (by omega)
 simp only[go_sem,eqF (show(xs.length:Int)≠0 by omega),e1,e2,e3,e4,e5,e8]
 refine⟨by omega,by omega, ?_⟩
 refine⟨by omega,by omega,by omega, ?_⟩
 obtain⟨k,hk0⟩:∃k,k=n/64:=⟨_,rfl⟩
 obtain⟨s,hs0⟩:∃s,s=n%64:=⟨_,rfl⟩
 rw[←hk0,←hs0]
 have hs64:s<64:=by omega
 have hpn:2^n=18446744073709551616^k*2^s:=by
  rw[pow64,←Nat.pow_add]
  congr 1
  omega
 clear e1 e2 e3 e4 e5 e8
 have hs1:IsG h.next (h.new ⟨some 73,1,zs [AV.int .u64 0] (xs.length+k+1)⟩) (.sl (some h.next) 0 (xs.length+k+1) (some (xs.length+k+1))) (List.replicate k 0++0::List.replicate (xs.length-0) 0):=by
  have:=IsG.made (h:=h) (Nat.le_refl _) (xs.length+k+1)
  rw[show xs.length+k+1=k+(xs.length-0+1) by omega,←List.replicate_append_replicate,List.replicate_succ] at this
  rw[show xs.length+k+1=k+(xs.length-0+1) by omega]
  exact this
 refine for_rule (fun i ρ h'=>i≤xs.length∧h'.wf∧h.le h'∧ρ 5= .int .i64 (k:Int)∧ρ 6= .int .u64 (s:Int)∧ρ 7= .sl (some h.next) 0 (xs.length+k+1) (some (xs.length+k+1))∧ρ 28= .sl id off xs.length c∧ρ 29= .int .i64 (xs.length:Int)∧ρ 30= .int .i64 (i:Int)∧∃pre tt,IsG h.next h' (.sl (some h.next) 0 (xs.length+k+1) (some (xs.length+k+1))) (pre++tt::List.replicate (xs.length-i) 0)∧Dig pre∧tt<2^s∧pre.length=i+k∧
  val 18446744073709551616 pre+18446744073709551616^(i+k)*tt=val 18446744073709551616 (xs.take i)*2^s*18446744073709551616^k) xs.length ⟨by omega,H.wf_new hw _,H.le_new hw (H.le_refl h) _,by first|rfl|trivial|assumption,by first|rfl|trivial|assumption,by first|rfl|trivial|assumption,rfl,rfl,rfl,List.replicate k 0,0,hs1,Dig.zeros _,Nat.pow_pos (by omega),by simp, ?_⟩ (fun i ρ h hI=>hI.1) ?_
 ·rw[val_zero 18446744073709551616 _ (fun z hz=>List.eq_of_mem_replicate hz)]
  simp[val]
 rintro i ρ h' ⟨hi,hw',hle,h5,h6,h7,h28,h29,h30,pre,tt,hs,hpd,htt,hpl,hpv⟩
 rcases Nat.lt_or_ge i xs.length with hxi|hxi
 ·have hxb:=hxd _ (List.getElem_mem hxi)
  have hvx:=val_take_succ 18446744073709551616 xs i hxi
  obtain⟨j,rfl,_,hg⟩:=(hv.mono hle).at hxi
  generalize xs[i]=p at*
  obtain⟨b1,b2,b3,b4⟩:=shl64 hxb hs64 htt
  have a1:IntKind.i64.wrap ((i:Int)+(k:Int))=((i+k:Nat):Int):=by rw[wI]<;>omega
  have a2:=incI (i:=i+k) (by omega)
  have a3:IntKind.u64.wrap (64-(s:Int))=((64-s:Nat):Int):=by rw[wU]<;>omega
  rw[show xs.length-i=(xs.length-(i+1))+1 by omega] at hs
  obtain⟨i2,r2,e2',hb2,hl2,hr2,ho2,hf2,hg2,_,hp2⟩:=hs.mid hw'
  injection e2' with e2'
  subst e2'
  rw[hpl] at hg2 hf2 hp2
  simp only[go_sem,h5,h6,h7,h28,h29,h30,ltT hxi]
  refine⟨by omega,by omega, ?_⟩
  simp only[go_sem,hg,h5,h6,h7,h28,h29,h30,a1]
  refine⟨by omega,by omega, ?_⟩
  simp only[go_sem,hg2,Int.toNat_natCast,h5,h6,h7,h28,h29,h30,a1,b1]
  refine⟨by omega,by omega,by omega, ?_⟩
  simp only[go_sem,hr2]
  refine⟨ho2,by omega, ?_⟩
  have fin:val 18446744073709551616 (pre++[p*2^s%18446744073709551616+tt])+18446744073709551616^(i+1+k)*(p*2^s/18446744073709551616)=val 18446744073709551616 (xs.take (i+1))*2^s*18446744073709551616^k:=by
   rw[val_snoc,hpl,hvx,show i+1+k=i+k+1 by omega,Nat.pow_succ,Nat.mul_assoc,Nat.add_mul,Nat.add_mul,←hpv]
   have e:=Nat.div_add_mod (p*2^s) 18446744073709551616
   have e2:=congrArg (fun z=>18446744073709551616^(i+k)*z) e
   simp only[Nat.mul_add] at e2⊢
   rw[show 18446744073709551616^i*p*2^s*18446744073709551616^k=18446744073709551616^(i+k)*(p*2^s) by rw[Nat.pow_add];ac_rfl]
   omega
  have hG:=hp2 (p*2^s%18446744073709551616+tt)
  rw[List.replicate_succ,←List.singleton_append (l:=List.replicate _ 0),←List.singleton_append (x:=p*2^s%18446744073709551616+tt),←List.append_assoc,List.singleton_append] at hG
  have hwf2:=H.wf_set hw' hl2 {r2 with cells:=putAt r2.cells (i+k) [AV.int .u64 ((p*2^s%18446744073709551616+tt:Nat):Int)]}
  have hle2:=H.le_set hw hle hb2 {r2 with cells:=putAt r2.cells (i+k) [AV.int .u64 ((p*2^s%18446744073709551616+tt:Nat):Int)]}
  generalize hgen:h'.set h.next {r2 with cells:=putAt r2.cells (i+k) [AV.int .u64 ((p*2^s%18446744073709551616+tt:Nat):Int)]}=h2 at*
  rcases Nat.eq_zero_or_pos s with hz|hz
  ·subst hz
   have q0:p*2^0/18446744073709551616=0:=by rw[Nat.pow_zero,Nat.mul_one];exact Nat.div_eq_of_lt hxb
   rw[q0] at fin
   simp only[go_sem,h5,h6,h7,h28,h29,h30,show decide ((0:Int)<((0:Nat):Int))=false from rfl,incI (i:=i) (by omega)]
   exact⟨by omega,hwf2,hle2,by first|rfl|trivial|assumption,by first|rfl|trivial|assumption,by first|rfl|trivial|assumption,by first|rfl|trivial|assumption,by first|rfl|trivial|assumption,by first|rfl|trivial|assumption,_,0,hG,hpd.append (Dig.one b2),by omega,by simp;omega,fin⟩
  ·obtain⟨i3,r3,e3',hb3,hl3,hr3,ho3,hf3,_,_,hp3⟩:=hG.mid hwf2
   injection e3' with e3'
   subst e3'
   have hpl2:(pre++[p*2^s%18446744073709551616+tt]).length=i+k+1:=by simp;omega
   rw[hpl2] at hf3 hp3
   simp only[go_sem,h5,h6,h7,h28,h29,h30,show decide ((0:Int)<(s:Int))=true from decide_eq_true (by omega),a1,a2,a3]
   refine⟨by omega, ?_⟩
   simp only[go_sem,h7,a1,a2,a3,Int.toNat_natCast,shrU (x:=p) (n:=64-s) (by omega),b4]
   refine⟨by omega,by omega, ?_⟩
   simp only[go_sem,hr3]
   refine⟨ho3,by omega, ?_⟩
   simp only[go_sem,h5,h6,h7,h28,h29,h30,incI (i:=i) (by omega)]
   exact⟨by omega,H.wf_set hwf2 hl3 _,H.le_set hw hle2 hb3 _,by first|rfl|trivial|assumption,by first|rfl|trivial|assumption,by first|rfl|trivial|assumption,by first|rfl|trivial|assumption,by first|rfl|trivial|assumption,by first|rfl|trivial|assumption,_,_,hp3 _,hpd.append (Dig.one b2),b3,by simp;omega,fin⟩
 ·have:i=xs.length:=by omega
  subst this
  rw[Nat.sub_self,List.replicate_zero] at hs
  rw[List.take_length,hxv] at hpv
  simp only[go_sem,h7,h28,h29,h30,ltF (Nat.le_refl xs.length)]
  have htb:tt<18446744073709551616:=Nat.lt_of_lt_of_le htt (Nat.pow_le_pow_right (by omega) (by omega):2^s≤2^64)
  refine trimG_calls hs (hpd.append (Dig.one htb)) (by simp;omega) fun r hr=> ?_
  rw[val_snoc,hpl,hpv,Nat.mul_assoc,Nat.mul_comm (2^s),←hpn] at hr
  simp only[go_sem]
  exact fun _=>hk r _ hw' hle hr
theorem shr64 {r f g:Nat} (hr:r<64) (hf:f<18446744073709551616) (hg:g<18446744073709551616):2^r*(f/2^r+g*2^(64-r)%18446744073709551616)+f%2^r=f+18446744073709551616*(g%2^r)∧f/2^r+g*2^(64-r)%18446744073709551616<18446744073709551616:=by
 have hp:0<2^r:=Nat.pow_pos (by omega)
 have e:18446744073709551616=2^r*2^(64-r):=by rw[←Nat.pow_add,show r+(64-r)=64 from by omega]
 have e1:g*2^(64-r)%18446744073709551616=g%2^r*2^(64-r):=by rw[e,Nat.mul_mod_mul_right]
 have e2:=Nat.div_add_mod f (2^r)
 have e3:2^r*(g%2^r*2^(64-r))=18446744073709551616*(g%2^r):=by rw[e,Nat.mul_comm (g%2^r),Nat.mul_assoc]
 have hm:=Nat.mod_lt g hp
 rw[e1]
 refine⟨by rw[Nat.mul_add,e3];omega, ?_⟩
 have h1:f/2^r<2^(64-r):=by
  rw[Nat.div_lt_iff_lt_mul hp,Nat.mul_comm,←e]
  exact hf
 have h2:(g%2^r+1)*2^(64-r)≤2^r*2^(64-r):=Nat.mul_le_mul_right _ hm
 rw[←e,Nat.add_mul,Nat.one_mul] at h2
 omega
theorem shr_or {r f g:Nat} (hr:r<64) (h0:0<r) (hf:f<18446744073709551616):bOr .u64 ((f/2^r:Nat):Int) (bShl .u64 (g:Int) (64-r))=((f/2^r+g*2^(64-r)%18446744073709551616:Nat):Int):=by
 have hp:0<2^r:=Nat.pow_pos (by omega)
 have e:18446744073709551616=2^r*2^(64-r):=by rw[←Nat.pow_add,show r+(64-r)=64 from by omega]
 have e1:g*2^(64-r)%18446744073709551616=g%2^r*2^(64-r):=by rw[e,Nat.mul_mod_mul_right]
 have h1:f/2^r<2^(64-r):=by
  rw[Nat.div_lt_iff_lt_mul hp,Nat.mul_comm,←e]
  exact hf
 have h2:g%2^r*2^(64-r)<18446744073709551616:=by
  rw[e]
  exact Nat.mul_lt_mul_of_pos_right (Nat.mod_lt _ hp) (Nat.pow_pos (by omega))
 rw[shlU (by omega),e1,bOr_comm,orU h2 h1 (by omega),Nat.add_comm]
theorem lShr_calls {v:AV} {x n:Nat} {h:H} {K:AV→H→Prop} (nv:Nn h v x) (hn:n≤1048576)
  (hk:∀r h',h'.wf→h.le h'→Nf h.next h' r (x/2^n)→K r h'):ACalls Tryz.prog 105 [v, .int .i64 (n:Int)] h K:=by
 refine in_limb_Shr (by simp) fun hw=> ?_
 unfold c_limb_Shr
 simp only[go_sem]
 refine within_limb (by omega) ?_
 simp only[go_sem]
 refine trimT_calls nv fun r1 xs hv hxd hxt hxv hxn hxl=> ?_
 obtain⟨id,off,c,rfl⟩:=hv.form
 have e4:((n:Int)).tdiv 64=((n/64:Nat):Int):=tdivN (b:=64)
 have e5:((n:Int)).tmod 64=((n%64:Nat):Int):=tmodN (b:=64)
 have e1:IntKind.i64.wrap ((n/64:Nat):Int)=((n/64:Nat):Int):=wI (by omega) (by omega)
 have e8:IntKind.u64.wrap ((n%64:Nat):Int)=((n%64:Nat):Int):=wUn (by omega)
 simp only[go_sem,e1,e4,e5,e8]
 refine⟨by omega,by omega, ?_⟩
 obtain⟨k,hk0⟩:∃k,k=n/64:=⟨_,rfl⟩
 obtain⟨s,hs0⟩:∃s,s=n%64:=⟨_,rfl⟩
 rw[←hk0,←hs0]
 have hs64:s<64:=by omega
 have hpn:2^n=18446744073709551616^k*2^s:=by
  rw[pow64,←Nat.pow_add]
  congr 1
  omega
 clear e1 e4 e5 e8
 have hq:x/2^n=val 18446744073709551616 (xs.drop k)/2^s:=by
  rw[←hxv]
  rcases Nat.lt_or_ge k xs.length with hl|hl
  ·rw[val_cut 18446744073709551616 xs k (by omega)]
   have h1:=val_lt_take 18446744073709551616 (by omega) xs hxd k
   rw[hpn,←Nat.div_div_eq_div_mul,Nat.add_mul_div_left _ _ (Nat.pow_pos (by omega)),Nat.div_eq_of_lt h1,Nat.zero_add]
  ·rw[List.drop_of_length_le hl]
   have h1:=val_lt 18446744073709551616 (by omega) xs hxd
   have h2:18446744073709551616^xs.length≤2^n:=by
    rw[pow64]
    exact Nat.pow_le_pow_right (by omega) (by omega)
   rw[Nat.div_eq_of_lt (by omega)]
   simp[val]
 rw[hq] at hk
 rcases Nat.lt_or_ge k xs.length with hkl|hkl
 ·have e2:IntKind.i64.wrap ((xs.length:Int)-(k:Int))=((xs.length-k:Nat):Int):=by rw[wI]<;>omega
  simp only[go_sem,leF hkl,e2]
  refine⟨by omega,by omega,by omega, ?_⟩
  obtain⟨m,hm⟩:∃m,m=xs.length-k:=⟨_,rfl⟩
  rw[←hm]
  refine for_rule (fun i ρ h'=>i≤m∧h'.wf∧h.le h'∧ρ 0= .sl id off xs.length c∧ρ 5= .int .i64 (k:Int)∧ρ 6= .int .u64 (s:Int)∧ρ 7= .sl (some h.next) 0 m (some m)∧ρ 28= .int .i64 (m:Int)∧ρ 29= .int .i64 (i:Int)∧∃out,IsG h.next h' (.sl (some h.next) 0 m (some m)) (out++List.replicate (m-i) 0)∧Dig out∧out.length=i∧
   2^s*val 18446744073709551616 out+xs.getD k 0%2^s=val 18446744073709551616 ((xs.drop k).take i)+18446744073709551616^i*(xs.getD (k+i) 0%2^s)) m ⟨by omega,H.wf_new hw _,H.le_new hw (H.le_refl h) _,by first|rfl|trivial|assumption,by first|rfl|trivial|assumption,by first|rfl|trivial|assumption,by first|rfl|trivial|assumption,rfl,rfl,[],by simpa using IsG.made (Nat.le_refl _) _,Dig.nil,rfl,by simp[val]⟩ (fun i ρ h hI=>hI.1) ?_
  rintro i ρ h' ⟨hi,hw',hle,h0,h5,h6,h7,h28,h29,out,hs,hod,hol,hov⟩
  rcases Nat.lt_or_ge i m with hxi|hxi
  ·have hxi2:k+i<xs.length:=by omega
   have hxb:=hxd _ (List.getElem_mem hxi2)
   have hgb:=getD_lt (B:=18446744073709551616) (by omega) hxd (k+i+1)
   have hxx:=getD_at hxi2
   obtain⟨j,rfl,_,hg⟩:=(hv.mono hle).at hxi2
   have hvx:val 18446744073709551616 ((xs.drop k).take (i+1))=val 18446744073709551616 ((xs.drop k).take i)+18446744073709551616^i*xs[k+i]:=by
    rw[val_take_succ 18446744073709551616 _ i (by simp;omega)]
    simp
   obtain⟨d1,d2⟩:=shr64 hs64 hxb hgb
   rw[hxx] at hov
   subst hol
   rw[show m-out.length=(m-(out.length+1))+1 by omega,List.replicate_succ] at hs
   obtain⟨i2,r2,e2',hb2,hl2,hr2,ho2,hf2,_,_,hp2⟩:=hs.mid hw'
   injection e2' with e2'
   subst e2'
   have a1:IntKind.i64.wrap ((out.length:Int)+(k:Int))=((k+out.length:Nat):Int):=by rw[wI]<;>omega
   have a2:=incI (i:=k+out.length) (by omega)
   have a3:IntKind.u64.wrap (64-(s:Int))=((64-s:Nat):Int):=by rw[wU]<;>omega
   simp only[go_sem,h0,h5,h6,h7,h28,h29,ltT hxi,a1]
   refine⟨by omega,by omega, ?_⟩
   simp only[go_sem,hg,h6,h7]
   refine⟨by omega,by omega,by omega, ?_⟩
   simp only[go_sem,hr2,Int.toNat_natCast,shrU (x:=xs[k+out.length]) (n:=s) (by omega)]
   refine⟨ho2,by omega, ?_⟩
   have hG:=hp2 (xs[k+out.length]/2^s)
   have hwf2:=H.wf_set hw' hl2 {r2 with cells:=putAt r2.cells out.length [AV.int .u64 ((xs[k+out.length]/2^s:Nat):Int)]}
   have hle2:=H.le_set hw hle hb2 {r2 with cells:=putAt r2.cells out.length [AV.int .u64 ((xs[k+out.length]/2^s:Nat):Int)]}
   generalize hgen:h'.set h.next {r2 with cells:=putAt r2.cells out.length [AV.int .u64 ((xs[k+out.length]/2^s:Nat):Int)]}=h2 at*
   have fin:∀d,d=xs[k+out.length]/2^s+xs.getD (k+out.length+1) 0*2^(64-s)%18446744073709551616→2^s*val 18446744073709551616 (out++[d])+xs.getD k 0%2^s=val 18446744073709551616 ((xs.drop k).take (out.length+1))+18446744073709551616^(out.length+1)*(xs.getD (k+(out.length+1)) 0%2^s):=by
    rintro d rfl
    rw[val_snoc,hvx,Nat.pow_succ,Nat.mul_assoc,←Nat.add_assoc k]
    have e2:=congrArg (fun z=>18446744073709551616^out.length*z) d1
    simp only[Nat.mul_add] at e2⊢
    rw[Nat.mul_left_comm (2^s) (18446744073709551616^out.length) (xs[k+out.length]/2^s),Nat.mul_left_comm (2^s) (18446744073709551616^out.length) (xs.getD (k+out.length+1) 0*2^(64-s)%18446744073709551616)]
    omega
   by_cases hcs:0<s∧k+out.length+1<xs.length
   ·obtain⟨hz,hnx⟩:=hcs
    obtain⟨j',hj',_,hg'⟩:=(hv.mono hle2).at hnx
    injection hj' with hj'
    subst hj'
    have hor:=shr_or (g:=xs[k+out.length+1]) hs64 hz hxb
    rw[getD_at hnx] at fin d2
    obtain⟨i3,r3,e3',hb3,hl3,hr3,ho3,hf3,hg3,_,hp3⟩:=hG.mid hwf2
    injection e3' with e3'
    subst e3'
    simp only[go_sem,h0,h5,h6,h7,h28,h29,show decide ((0:Int)<(s:Int))=true from decide_eq_true (by omega),a1,a2,a3,ltT hnx]
    refine⟨by omega,by omega, ?_⟩
    simp only[go_sem,hg3,h0,h5,h6,h7,a1,a2,a3]
    refine⟨by omega,by omega, ?_⟩
    simp only[go_sem,hg',h6,h7,a1,a2,a3]
    refine⟨by omega, ?_⟩
    simp only[go_sem,Int.toNat_natCast,hor,h7]
    refine⟨by omega,by omega, ?_⟩
    simp only[go_sem,hr3]
    refine⟨ho3,by omega, ?_⟩
    simp only[go_sem,h0,h5,h6,h7,h28,h29,incI (i:=out.length) (by omega)]
    refine⟨by omega,H.wf_set hwf2 hl3 _,H.le_set hw hle2 hb3 _,by first|rfl|trivial|assumption,by first|rfl|trivial|assumption,by first|rfl|trivial|assumption,by first|rfl|trivial|assumption,by first|rfl|trivial|assumption,by first|rfl|trivial|assumption,out++[xs[k+out.length]/2^s+xs[k+out.length+1]*2^(64-s)%18446744073709551616], ?_,hod.append (Dig.one d2),by simp,fin _ rfl⟩
    rw[List.append_assoc]
    exact hp3 _
   ·have hzero:xs.getD (k+out.length+1) 0*2^(64-s)%18446744073709551616=0:=by
     rcases Nat.eq_zero_or_pos s with hz|hz
     ·subst hz
      exact Nat.mul_mod_left _ _
     ·rw[getD_ge (by omega)]
      simp
    rw[hzero,Nat.add_zero] at d2 fin
    have go:(decide ((0:Int)<(s:Int))=false)∨(decide ((0:Int)<(s:Int))=true∧decide (((k+out.length+1:Nat):Int)<(xs.length:Int))=false):=by
     by_cases hz:0<s
     ·exact .inr ⟨decide_eq_true (by omega),decide_eq_false (by omega)⟩
     ·exact .inl (decide_eq_false (by omega))
    have hG2:IsG h.next h2 (.sl (some h.next) 0 m (some m)) ((out++[xs[k+out.length]/2^s])++List.replicate (m-(out.length+1)) 0):=by
     rw[List.append_assoc];exact hG
    rcases go with g1|⟨g1,g2⟩
    ·simp only[go_sem,h0,h5,h6,h7,h28,h29,g1,a1,a2,incI (i:=out.length) (by omega)]
     exact⟨by omega,hwf2,hle2,by first|rfl|trivial|assumption,by first|rfl|trivial|assumption,by first|rfl|trivial|assumption,by first|rfl|trivial|assumption,by first|rfl|trivial|assumption,by first|rfl|trivial|assumption,_,hG2,hod.append (Dig.one d2),by simp,fin _ rfl⟩
    ·simp only[go_sem,h0,h5,h6,h7,h28,h29,g1,g2,a1,a2,incI (i:=out.length) (by omega)]
     exact⟨by omega,hwf2,hle2,by first|rfl|trivial|assumption,by first|rfl|trivial|assumption,by first|rfl|trivial|assumption,by first|rfl|trivial|assumption,by first|rfl|trivial|assumption,by first|rfl|trivial|assumption,_,hG2,hod.append (Dig.one d2),by simp,fin _ rfl⟩
  ·have:i=m:=by omega
   subst this
   rw[Nat.sub_self,List.replicate_zero,List.append_nil] at hs
   simp only[go_sem,h0,h5,h6,h7,h28,h29,ltF (Nat.le_refl i)]
   refine trimG_calls hs hod (by omega) fun r hr=> ?_
   rw[getD_ge (xs:=xs) (i:=k+i) (by omega),List.take_of_length_le (by simp;omega),Nat.zero_mod,Nat.mul_zero,Nat.add_zero] at hov
   have hr0:0<2^s:=Nat.pow_pos (by omega)
   have hmm:=Nat.mod_lt (xs.getD k 0) hr0
   have:val 18446744073709551616 out=val 18446744073709551616 (xs.drop k)/2^s:=by
    rw[←hov,Nat.mul_add_div hr0,Nat.div_eq_of_lt hmm,Nat.add_zero]
   rw[this] at hr
   simp only[go_sem]
   exact fun _=>hk r _ hw' hle hr
 ·simp only[go_sem,leT hkl]
  rw[List.drop_of_length_le hkl] at hk
  have e0:val 18446744073709551616 ([]:List Nat)/2^s=0:=by simp[val]
  rw[e0] at hk
  exact fun _=>hk _ h hw (H.le_refl h) (Nf.nil _ _ _)
section
def blen (x:Nat):Nat:=if x=0 then 0 else Nat.log2 x+1
theorem blen_spec (x:Nat):BL x (blen x):=by
 unfold blen BL
 split
 ·rename_i h;subst h;simp
 ·rename_i h
  exact⟨(Nat.log2_lt h).1 (Nat.lt_succ_self _), .inr (Nat.log2_self_le h)⟩
theorem BL.uniq {x L M:Nat} (h:BL x L) (k:BL x M):L=M:=by
 have key:∀{L M:Nat},BL x L→BL x M→L≤M:=by
  intro L M h k
  rcases h.2 with h0|h0
  ·omega
  ·rcases Nat.lt_or_ge M L with hl|hl
   ·have h1:2^M≤2^(L-1):=Nat.pow_le_pow_right (by omega) (by omega)
    have:=k.1
    omega
   ·exact hl
 exact Nat.le_antisymm (key h k) (key k h)
theorem blen_mono {x y:Nat} (h:x≤y):blen x≤blen y:=by
 have hx:=blen_spec x
 have hy:=blen_spec y
 rcases hx.2 with h0|h0
 ·omega
 ·rcases Nat.lt_or_ge (blen y) (blen x) with hl|hl
  ·have h1:2^(blen y)≤2^(blen x-1):=Nat.pow_le_pow_right (by omega) (by omega)
   have:=hy.1
   omega
  ·exact hl
theorem blen_le {x k:Nat} (h:x<2^k):blen x≤k:=by
 have hx:=blen_spec x
 rcases hx.2 with h0|h0
 ·omega
 ·rcases Nat.lt_or_ge k (blen x) with hl|hl
  ·have h1:2^k≤2^(blen x-1):=Nat.pow_le_pow_right (by omega) (by omega)
   omega
  ·exact hl
def routeF (B T N n m:Nat):Nat:=if m=0 then 0 else if m<B then 1 else if 2*m≤n+1 then 2 else if m<T then 3 else if N≤n+m then 5 else if 2*((n+2)/3)<m then 4 else 3
def transC (l w:Nat):Nat:=3*(w*(2^l/2)*l+2*2^l)+6*2^l
def transF (n m w:Nat):Nat:=transC (blen (n+m-1)) w
def costF (B T N:Nat):Nat→Nat→Nat→Nat
 |0,_,_=>0
 |f+1,n,m=>
  if routeF B T N n m=1 then n*m
  else if routeF B T N n m=2 then n/m*costF B T N f m m+costF B T N f m (n%m)
  else if routeF B T N n m=3 then costF B T N f ((n+1)/2) ((n+1)/2)+costF B T N f (n-(n+1)/2) (m-(n+1)/2)+costF B T N f ((n+1)/2+1) ((n+1)/2+1)
  else if routeF B T N n m=4 then costF B T N f ((n+2)/3) ((n+2)/3)+3*costF B T N f ((n+2)/3+1) ((n+2)/3+1)+costF B T N f (n-2*((n+2)/3)) (m-2*((n+2)/3))
  else if routeF B T N n m=5 then transF n m 3
  else 0
structure TOk (B T N:Nat):Prop where
 b1:4≤B
 b2:B≤64
 t1:12≤T
 n1:64≤N
section
variable {B T N:Nat}
theorem route_cases (n m:Nat):(routeF B T N n m=0∧m=0)∨(routeF B T N n m=1∧0<m∧m<B)∨(routeF B T N n m=2∧0<m∧B≤m∧2*m≤n+1)∨
  (routeF B T N n m=3∧0<m∧B≤m∧n+1<2*m∧(m<T∨(n+m<N∧m≤2*((n+2)/3))))∨(routeF B T N n m=4∧0<m∧B≤m∧n+1<2*m∧T≤m∧n+m<N∧2*((n+2)/3)<m)∨
  (routeF B T N n m=5∧0<m∧B≤m∧n+1<2*m∧T≤m∧N≤n+m):=by
 unfold routeF
 by_cases h0:m=0
 ·rw[if_pos h0];exact .inl ⟨rfl,h0⟩
 rw[if_neg h0]
 by_cases h1:m<B
 ·rw[if_pos h1];exact .inr (.inl ⟨rfl,by omega,h1⟩)
 rw[if_neg h1]
 by_cases h2:2*m≤n+1
 ·rw[if_pos h2];exact .inr (.inr (.inl ⟨rfl,by omega,by omega,h2⟩))
 rw[if_neg h2]
 by_cases h3:m<T
 ·rw[if_pos h3];exact .inr (.inr (.inr (.inl ⟨rfl,by omega,by omega,by omega, .inl h3⟩)))
 rw[if_neg h3]
 by_cases h5:N≤n+m
 ·rw[if_pos h5];exact .inr (.inr (.inr (.inr (.inr ⟨rfl,by omega,by omega,by omega,by omega,h5⟩))))
 rw[if_neg h5]
 by_cases h4:2*((n+2)/3)<m
 ·rw[if_pos h4];exact .inr (.inr (.inr (.inr (.inl ⟨rfl,by omega,by omega,by omega,by omega,by omega,h4⟩))))
 rw[if_neg h4];exact .inr (.inr (.inr (.inl ⟨rfl,by omega,by omega,by omega, .inr ⟨by omega,by omega⟩⟩)))
theorem cost_0 {f n m:Nat} (h:routeF B T N n m=0):costF B T N f n m=0:=by cases f<;>simp[costF,h]
theorem cost_1 {f n m:Nat} (h:routeF B T N n m=1):costF B T N (f+1) n m=n*m:=by simp[costF,h]
theorem cost_2 {f n m:Nat} (h:routeF B T N n m=2):costF B T N (f+1) n m=n/m*costF B T N f m m+costF B T N f m (n%m):=by simp[costF,h]
theorem cost_3 {f n m:Nat} (h:routeF B T N n m=3):costF B T N (f+1) n m=costF B T N f ((n+1)/2) ((n+1)/2)+costF B T N f (n-(n+1)/2) (m-(n+1)/2)+costF B T N f ((n+1)/2+1) ((n+1)/2+1):=by simp[costF,h]
theorem cost_4 {f n m:Nat} (h:routeF B T N n m=4):costF B T N (f+1) n m=costF B T N f ((n+2)/3) ((n+2)/3)+3*costF B T N f ((n+2)/3+1) ((n+2)/3+1)+costF B T N f (n-2*((n+2)/3)) (m-2*((n+2)/3)):=by simp[costF,h]
theorem cost_5 {f n m:Nat} (h:routeF B T N n m=5):costF B T N (f+1) n m=transF n m 3:=by simp[costF,h]
theorem kara_even {h j c1 c2 c3:Nat} (hh:2≤h) (hj:1≤j) (hjh:j≤h) (h1:c1+14*h≤8*(h*h)) (h2:c2+14*(2*j-h)≤8*(h*j)) (h3:c3+14*(h+1)≤8*((h+1)*(h+1))):
  c1+c2+c3+14*(2*j)≤8*(2*h*(h+j)):=by
 have e1:(h+1)*(h+1)=h*h+2*h+1:=by grind
 have e2:2*h*(h+j)=2*(h*h)+2*(h*j):=by grind
 rw[e1] at h3
 rw[e2]
 have:h=2∨h=3∨4≤h:=by omega
 rcases this with rfl|rfl|h4
 ·omega
 ·omega
 ·have:=Nat.mul_le_mul_right j h4
  omega
theorem kara_odd {h j c1 c2 c3:Nat} (hh:3≤h) (hj:1≤j) (hjh:j≤h-1) (h1:c1+14*h≤8*(h*h)) (h2:c2+14*(2*j-(h-1))≤8*((h-1)*j)) (h3:c3+14*(h+1)≤8*((h+1)*(h+1))):
  c1+c2+c3+14*(2*j+1)≤8*((2*h-1)*(h+j)):=by
 obtain⟨g,rfl⟩:∃g,h=g+3:=⟨h-3,by omega⟩
 have e0:g+3-1=g+2:=by omega
 have e3:2*(g+3)-1=2*g+5:=by omega
 rw[e0] at h2
 have e1:(g+3+1)*(g+3+1)=g*g+8*g+16:=by grind
 have e2:(2*g+5)*(g+3+j)=2*(g*g)+11*g+15+2*(g*j)+5*j:=by grind
 have e4:(g+3)*(g+3)=g*g+6*g+9:=by grind
 have e5:(g+2)*j=g*j+2*j:=by grind
 rw[e1] at h3
 rw[e4] at h1
 rw[e5] at h2
 rw[e3,e2]
 have:g=0∨1≤g:=by omega
 rcases this with rfl|h4
 ·omega
 ·have:=Nat.mul_le_mul_right j h4
  omega
theorem toom_step {k r j c1 c2 c3:Nat} (hk:4≤k) (hr:r≤2) (hj:1≤j) (hjk:j+r≤k) (h1:c1+14*k≤8*(k*k)) (h2:c2+14*(k+1)≤8*((k+1)*(k+1))) (h3:c3≤8*((k-r)*j)):
  c1+3*c2+c3+14*(k+2*j+r)≤8*((3*k-r)*(2*k+j)):=by
 obtain⟨g,rfl⟩:∃g,k=g+4:=⟨k-4,by omega⟩
 have e1:(g+4+1)*(g+4+1)=g*g+10*g+25:=by grind
 have e4:(g+4)*(g+4)=g*g+8*g+16:=by grind
 rw[e1] at h2
 rw[e4] at h1
 have:r=0∨r=1∨r=2:=by omega
 rcases this with rfl|rfl|rfl
 ·have e2:(3*(g+4)-0)*(2*(g+4)+j)=6*(g*g)+48*g+96+3*(g*j)+12*j:=by rw[Nat.sub_zero];grind
  have e3:(g+4-0)*j=g*j+4*j:=by rw[Nat.sub_zero];grind
  rw[e3] at h3
  rw[e2]
  omega
 ·have e2:(3*(g+4)-1)*(2*(g+4)+j)=6*(g*g)+46*g+88+3*(g*j)+11*j:=by rw[show 3*(g+4)-1=3*g+11 by omega];grind
  have e3:(g+4-1)*j=g*j+3*j:=by rw[show g+4-1=g+3 by omega];grind
  rw[e3] at h3
  rw[e2]
  omega
 ·have e2:(3*(g+4)-2)*(2*(g+4)+j)=6*(g*g)+44*g+80+3*(g*j)+10*j:=by rw[show 3*(g+4)-2=3*g+10 by omega];grind
  have e3:(g+4-2)*j=g*j+2*j:=by rw[show g+4-2=g+2 by omega];grind
  rw[e3] at h3
  rw[e2]
  omega
theorem school_step {n m:Nat} (h:2≤n) (hm:m≤n):n*m+14*(2*m-n)≤8*(n*m):=by
 have:=Nat.mul_le_mul_right m h
 omega
theorem block_step {n m q r c1 c2:Nat} (e:n=m*q+r) (h1:c1+14*m≤8*(m*m)) (h2:c2≤8*(m*r)) (hq:1≤q) (hm:1≤m) (h:2*m≤n+1):q*c1+c2+14*(2*m-n)≤8*(n*m):=by
 have a:=Nat.mul_le_mul_left q h1
 have b:1*1≤q*m:=Nat.mul_le_mul hq hm
 rw[Nat.mul_add] at a
 have e1:q*(14*m)=14*(q*m):=by grind
 have e2:q*(8*(m*m))=8*(m*q*m):=by grind
 have e3:n*m=m*q*m+m*r:=by rw[e];grind
 rw[e1,e2] at a
 rw[e3]
 omega
theorem cost_kb (ok:TOk B T N):∀f n m,m≤n→2≤n→n<f→(m<T∨n+m<N)→costF B T N f n m+14*(2*m-n)≤8*(n*m):=by
 obtain⟨b1,b2,t1,n1⟩:=ok
 intro f
 induction f with
 |zero=>intro n m _ _ h;omega
 |succ f ih=>
  intro n m hm hn hf ht
  rcases route_cases (B:=B) (T:=T) (N:=N) n m with⟨e,h0⟩|⟨e,h0,h1⟩|⟨e,h0,h1,h2⟩|⟨e,h0,h1,h2,h3⟩|⟨e,h0,h1,h2,h3,h4,h5⟩|⟨e,h0,h1,h2,h3,h4⟩
  ·rw[cost_0 e];omega
  ·rw[cost_1 e];exact school_step hn hm
  ·rw[cost_2 e]
   have a:=ih m m (Nat.le_refl _) (by omega) (by omega) (by omega)
   have b:=ih m (n%m) (Nat.le_of_lt (Nat.mod_lt _ h0)) (by omega) (by omega) (by have:=Nat.mod_lt n h0;omega)
   rw[show 2*m-m=m by omega] at a
   exact block_step (Nat.div_add_mod n m).symm a (by omega) (Nat.div_pos (by omega) h0) h0 h2
  ·rw[cost_3 e]
   have ht2:∀a b,b≤m→a+b≤n+m→(b<T∨a+b<N):=by omega
   have a:=ih ((n+1)/2) ((n+1)/2) (Nat.le_refl _) (by omega) (by omega) (ht2 _ _ (by omega) (by omega))
   have b:=ih (n-(n+1)/2) (m-(n+1)/2) (by omega) (by omega) (by omega) (ht2 _ _ (by omega) (by omega))
   have c:=ih ((n+1)/2+1) ((n+1)/2+1) (Nat.le_refl _) (by omega) (by omega) (ht2 _ _ (by omega) (by omega))
   obtain⟨h,hh⟩:∃h,h=(n+1)/2:=⟨_,rfl⟩
   obtain⟨j,hj⟩:∃j,m=h+j:=⟨m-h,by omega⟩
   rw[←hh] at a b c⊢
   rw[show 2*h-h=h by omega] at a
   rw[show 2*(h+1)-(h+1)=h+1 by omega] at c
   subst hj
   rw[Nat.add_sub_cancel_left] at b⊢
   rcases Nat.mod_two_eq_zero_or_one n with hp|hp
   ·have hn2:n=2*h:=by omega
    subst hn2
    rw[show 2*h-h=h by omega] at b⊢
    have:=kara_even (by omega) (by omega) (by omega) a b c
    rw[show 2*(h+j)-2*h=2*j by omega]
    exact this
   ·have hn2:n=2*h-1:=by omega
    rw[show n-h=h-1 by omega] at b⊢
    have:=kara_odd (by omega) (by omega) (by omega) a b c
    rw[hn2,show 2*(h+j)-(2*h-1)=2*j+1 by omega]
    exact this
  ·rw[cost_4 e]
   have ht2:∀a b,a+b≤n+m→(b<T∨a+b<N):=by omega
   have a:=ih ((n+2)/3) ((n+2)/3) (Nat.le_refl _) (by omega) (by omega) (ht2 _ _ (by omega))
   have b:=ih (n-2*((n+2)/3)) (m-2*((n+2)/3)) (by omega) (by omega) (by omega) (ht2 _ _ (by omega))
   have c:=ih ((n+2)/3+1) ((n+2)/3+1) (Nat.le_refl _) (by omega) (by omega) (ht2 _ _ (by omega))
   obtain⟨k,hk⟩:∃k,k=(n+2)/3:=⟨_,rfl⟩
   obtain⟨j,hj⟩:∃j,m=2*k+j:=⟨m-2*k,by omega⟩
   obtain⟨r,hr⟩:∃r,r=3*k-n:=⟨_,rfl⟩
   rw[←hk] at a b c⊢
   rw[show 2*k-k=k by omega] at a
   rw[show 2*(k+1)-(k+1)=k+1 by omega] at c
   subst hj
   rw[Nat.add_sub_cancel_left] at b⊢
   rw[show n-2*k=k-r by omega] at b⊢
   have:=toom_step (k:=k) (r:=r) (j:=j) (by omega) (by omega) (by omega) (by omega) a c (show costF B T N f (k-r) j≤8*((k-r)*j) by omega)
   rw[show n=3*k-r by omega,show 2*(2*k+j)-(3*k-r)=k+2*j+r by omega]
   exact this
  ·omega
theorem nine (n m:Nat) (h1:n≤2*m) (h2:m≤2*n):2*((n+m)*(n+m))≤9*(n*m):=by
 obtain⟨a,ha⟩:∃a,2*m=n+a:=⟨2*m-n,by omega⟩
 obtain⟨b,hb⟩:∃b,2*n=m+b:=⟨2*n-m,by omega⟩
 have:9*(n*m)=2*((n+m)*(n+m))+a*b:=by grind
 omega
theorem trans_bound {n m:Nat} (h1:64≤n+m) (h2:n+1<2*m) (h3:m≤n) (h4:n≤16384):transF n m 3≤8*(n*m):=by
 have h9:=nine n m (by omega) (by omega)
 have hs:=blen_spec (n+m-1)
 unfold transF
 generalize blen (n+m-1)=l at*
 obtain⟨s1,s2⟩:=hs
 have hl:l≤15:=by
  rcases Nat.lt_or_ge 15 l with h|h
  ·have h5:2^15≤2^(l-1):=Nat.pow_le_pow_right (by omega) (by omega)
   have:2^(l-1)≤n+m-1:=s2.resolve_left (by omega)
   omega
  ·exact h
 have hl6:6≤l:=by
  rcases Nat.lt_or_ge l 6 with h|h
  ·have h5:2^l≤2^5:=Nat.pow_le_pow_right (by omega) (by omega)
   omega
  ·exact h
 have tb:∀S,S≤n+m→9*transC l 3≤16*(S*S)→transC l 3≤8*(n*m):=by
  intro S hS hk
  have:=Nat.mul_le_mul hS hS
  omega
 have:l=6∨l=7∨l=8∨l=9∨l=10∨l=11∨l=12∨l=13∨l=14∨l=15:=by omega
 rcases this with rfl|rfl|rfl|rfl|rfl|rfl|rfl|rfl|rfl|rfl
 ·exact tb 64 h1 (by decide)
 ·have:64≤n+m-1:=s2.resolve_left (by decide)
  exact tb 65 (by omega) (by decide)
 ·have:128≤n+m-1:=s2.resolve_left (by decide)
  exact tb 129 (by omega) (by decide)
 ·have:256≤n+m-1:=s2.resolve_left (by decide)
  exact tb 257 (by omega) (by decide)
 ·have:512≤n+m-1:=s2.resolve_left (by decide)
  exact tb 513 (by omega) (by decide)
 ·have:1024≤n+m-1:=s2.resolve_left (by decide)
  exact tb 1025 (by omega) (by decide)
 ·have:2048≤n+m-1:=s2.resolve_left (by decide)
  exact tb 2049 (by omega) (by decide)
 ·have:4096≤n+m-1:=s2.resolve_left (by decide)
  exact tb 4097 (by omega) (by decide)
 ·have:8192≤n+m-1:=s2.resolve_left (by decide)
  exact tb 8193 (by omega) (by decide)
 ·have:16384≤n+m-1:=s2.resolve_left (by decide)
  exact tb 16385 (by omega) (by decide)
theorem cost_bound (ok:TOk B T N):∀f n m,m≤n→n<f→n≤16384→costF B T N f n m≤8*(n*m):=by
 intro f
 induction f with
 |zero=>intro n m _ h;omega
 |succ f ih=>
  intro n m hm hf hn
  have kb:=cost_kb ok (f+1) n m hm
  obtain⟨b1,b2,t1,n1⟩:=ok
  rcases route_cases (B:=B) (T:=T) (N:=N) n m with⟨e,h0⟩|⟨e,h0,h1⟩|⟨e,h0,h1,h2⟩|⟨e,h0,h1,h2,h3⟩|⟨e,h0,h1,h2,h3,h4,h5⟩|⟨e,h0,h1,h2,h3,h4⟩
  ·rw[cost_0 e];omega
  ·rw[cost_1 e];omega
  ·rw[cost_2 e]
   have a:=ih m m (Nat.le_refl _) (by omega) (by omega)
   have b:=ih m (n%m) (Nat.le_of_lt (Nat.mod_lt _ h0)) (by omega) (by omega)
   have a':=Nat.mul_le_mul_left (n/m) a
   have e3:n*m=m*(n/m)*m+m*(n%m):=by
    conv=>lhs;rw[←Nat.div_add_mod n m]
    rw[Nat.add_mul,Nat.mul_comm (n%m)]
   have e2:n/m*(8*(m*m))=8*(m*(n/m)*m):=by grind
   rw[e3]
   omega
  ·have:=kb (by omega) hf (by omega)
   omega
  ·have:=kb (by omega) hf (by omega)
   omega
  ·rw[cost_5 e]
   exact trans_bound (by omega) (by omega) hm hn
theorem trans_pos (n m w:Nat):0<transF n m w:=by
 unfold transF transC
 have:0<2^blen (n+m-1):=Nat.pow_pos (by omega)
 omega
theorem cost_pos (ok:TOk B T N):∀f n m,m≤n→n<f→0<m→0<costF B T N f n m:=by
 intro f
 induction f with
 |zero=>intro n m _ h;omega
 |succ f ih=>
  intro n m hm hf hp
  obtain⟨b1,b2,t1,n1⟩:=ok
  rcases route_cases (B:=B) (T:=T) (N:=N) n m with⟨e,h0⟩|⟨e,h0,h1⟩|⟨e,h0,h1,h2⟩|⟨e,h0,h1,h2,h3⟩|⟨e,h0,h1,h2,h3,h4,h5⟩|⟨e,h0,h1,h2,h3,h4⟩
  ·omega
  ·rw[cost_1 e];exact Nat.mul_pos (by omega) hp
  ·rw[cost_2 e]
   have a:=ih m m (Nat.le_refl _) (by omega) hp
   have:0<n/m*costF B T N f m m:=Nat.mul_pos (Nat.div_pos hm hp) a
   omega
  ·rw[cost_3 e]
   have a:=ih ((n+1)/2) ((n+1)/2) (Nat.le_refl _) (by omega) (by omega)
   omega
  ·rw[cost_4 e]
   have a:=ih ((n+2)/3) ((n+2)/3) (Nat.le_refl _) (by omega) (by omega)
   omega
  ·rw[cost_5 e]
   exact trans_pos _ _ _
theorem cost_fuel (ok:TOk B T N):∀f n m,m≤n→n<f→costF B T N (f+1) n m=costF B T N f n m:=by
 intro f
 induction f with
 |zero=>intro n m _ h;omega
 |succ f ih=>
  intro n m hm hf
  obtain⟨b1,b2,t1,n1⟩:=ok
  rcases route_cases (B:=B) (T:=T) (N:=N) n m with⟨e,h0⟩|⟨e,h0,h1⟩|⟨e,h0,h1,h2⟩|⟨e,h0,h1,h2,h3⟩|⟨e,h0,h1,h2,h3,h4,h5⟩|⟨e,h0,h1,h2,h3,h4⟩
  ·rw[cost_0 e,cost_0 e]
  ·rw[cost_1 e,cost_1 e]
  ·rw[cost_2 e,cost_2 e,ih m m (Nat.le_refl _) (by omega),ih m (n%m) (Nat.le_of_lt (Nat.mod_lt _ h0)) (by omega)]
  ·rw[cost_3 e,cost_3 e,ih _ _ (Nat.le_refl ((n+1)/2)) (by omega),ih (n-(n+1)/2) (m-(n+1)/2) (by omega) (by omega),ih _ _ (Nat.le_refl ((n+1)/2+1)) (by omega)]
  ·rw[cost_4 e,cost_4 e,ih _ _ (Nat.le_refl ((n+2)/3)) (by omega),ih (n-2*((n+2)/3)) (m-2*((n+2)/3)) (by omega) (by omega),ih _ _ (Nat.le_refl ((n+2)/3+1)) (by omega)]
  ·rw[cost_5 e,cost_5 e]
theorem cost_fuels (ok:TOk B T N) {f n m:Nat} (hm:m≤n) (hf:n<f):∀k,costF B T N (f+k) n m=costF B T N f n m
 |0=>rfl
 |k+1=>by
  rw[←Nat.add_assoc,cost_fuel ok (f+k) n m hm (by omega),cost_fuels ok hm hf k]
theorem cost_same (ok:TOk B T N) {f g n m:Nat} (hm:m≤n) (hf:n<f) (hg:n<g):costF B T N f n m=costF B T N g n m:=by
 have a:=cost_fuels ok hm (Nat.lt_succ_self n) (f-(n+1))
 have b:=cost_fuels ok hm (Nat.lt_succ_self n) (g-(n+1))
 rw[show n.succ+(f-(n+1))=f by omega] at a
 rw[show n.succ+(g-(n+1))=g by omega] at b
 rw[a,b]
end
end
structure Tb where
 (base toom ntt div recip lehmer radix poly kron series tree:Int)
def Tb.cells (t:Tb):List AV:=[.int .i64 t.base, .int .i64 t.toom, .int .i64 t.ntt, .int .i64 t.div, .int .i64 t.recip, .int .i64 t.lehmer, .int .i64 t.radix, .int .i64 t.poly, .int .i64 t.kron, .int .i64 t.series, .int .i64 t.tree]
def Tb.av (t:Tb):AV:= .agg t.cells
def clampT (t:Tb):Tb:=⟨max 4 (min t.base 64),max 12 (min t.toom 8192),max 64 (min t.ntt 16384),max 4 (min t.div 1024),max 4 (min t.recip 4096),max 2 (min t.lehmer 1024),max 2 (min t.radix 1024),max 4 (min t.poly 256),max 4 (min t.kron 1024),max 2 (min t.series 1024),max 2 (min t.tree 256)⟩
theorem av_held {t:Tb}:t.av.held=true:=_root_.id rfl
theorem av_cells {t:Tb}:t.av.cells=t.cells:=_root_.id rfl
theorem cells_len {t:Tb}:t.cells.length=11:=_root_.id rfl
theorem H.get_of {h:H} {id off:Nat} {r:Row} (hr:h.rows id=some r):h.get id off=r.cells[off]? :=by simp[H.get,hr]
theorem H.gets_of {h:H} {id off n:Nat} {r:Row} (hr:h.rows id=some r) (hl:off+n≤r.cells.length):h.gets id off n=some ((r.cells.drop off).take n):=by simp[H.gets,hr,hl]
theorem g_new {h:H} {r:Row} {off:Nat}:(h.new r).get h.next off=r.cells[off]? :=H.get_of (H.rows_new _ _)
theorem g_new2 {h:H} {r q:Row} {off:Nat}:((h.new r).new q).get h.next off=r.cells[off]? :=H.get_of (by rw[H.rows_new_ne (by simp[H.new]),H.rows_new])
theorem gs_set {h:H} {id:Nat} {r:Row} (hl:r.cells.length=11):(h.set id r).gets id 0 11=some r.cells:=by
 rw[H.gets_of (H.rows_set _ _ _) (by omega)]
 simp only[List.drop_zero]
 rw[←hl,List.take_length]
theorem bld11 {a0 a1 a2 a3 a4 a5 a6 a7 a8 a9 a10:Int}:abuild [.int .i64 0, .int .i64 0, .int .i64 0, .int .i64 0, .int .i64 0, .int .i64 0, .int .i64 0, .int .i64 0, .int .i64 0, .int .i64 0, .int .i64 0] [(0,1, .int .i64 a0),(1,1, .int .i64 a1),(2,1, .int .i64 a2),(3,1, .int .i64 a3),(4,1, .int .i64 a4),(5,1, .int .i64 a5),(6,1, .int .i64 a6),(7,1, .int .i64 a7),(8,1, .int .i64 a8),(9,1, .int .i64 a9),(10,1, .int .i64 a10)]=some [.int .i64 a0, .int .i64 a1, .int .i64 a2, .int .i64 a3, .int .i64 a4, .int .i64 a5, .int .i64 a6, .int .i64 a7, .int .i64 a8, .int .i64 a9, .int .i64 a10]:=by simp[abuild,putAt,AV.held,AV.cells]
theorem put11 {a0 a1 a2 a3 a4 a5 a6 a7 a8 a9 a10:Int}:putAt [.int .i64 0, .int .i64 0, .int .i64 0, .int .i64 0, .int .i64 0, .int .i64 0, .int .i64 0, .int .i64 0, .int .i64 0, .int .i64 0, .int .i64 0] 0 [.int .i64 a0, .int .i64 a1, .int .i64 a2, .int .i64 a3, .int .i64 a4, .int .i64 a5, .int .i64 a6, .int .i64 a7, .int .i64 a8, .int .i64 a9, .int .i64 a10]=[.int .i64 a0, .int .i64 a1, .int .i64 a2, .int .i64 a3, .int .i64 a4, .int .i64 a5, .int .i64 a6, .int .i64 a7, .int .i64 a8, .int .i64 a9, .int .i64 a10]:=by simp[putAt]
theorem bld14 {t:Tb}:abuild [.int .i64 0, .int .i64 0, .int .i64 0, .int .i64 0, .int .i64 0, .int .i64 0, .int .i64 0, .int .i64 0, .int .i64 0, .int .i64 0, .int .i64 0, .int .i64 0, .int .i64 0, .int .i64 0] [(3,11,t.av)]=some ([.int .i64 0, .int .i64 0, .int .i64 0]++t.cells):=by simp[abuild,putAt,Tb.av,Tb.cells,AV.held,AV.cells]
theorem within_calls {n a b:Int} {h:H} {K:AV→H→Prop} (hk:K (.int .i64 (max a (min n b))) h):ACalls Tryz.prog 153 [.int .i64 n, .int .i64 a, .int .i64 b] h K:=by
 refine in_table_within (by simp) fun hw=> ?_
 unfold c_table_within
 simp only[go_sem]
 exact fun _=>hk
theorem Clamp_calls {t:Tb} {h:H} {K:AV→H→Prop} (hk:∀h',h'.wf→h.le h'→K (clampT t).av h'):ACalls Tryz.prog 136 [t.av] h K:=by
 refine in_table_Clamp (by simp) fun hw=> ?_
 unfold c_table_Clamp
 simp only[go_sem,av_held,av_cells,true_and,g_new2,Tb.cells]
 refine within_calls ?_
 simp only[go_sem,g_new2,and_true,true_and]
 refine within_calls ?_
 simp only[go_sem,g_new2,and_true,true_and]
 refine within_calls ?_
 simp only[go_sem,g_new2,and_true,true_and]
 refine within_calls ?_
 simp only[go_sem,g_new2,and_true,true_and]
 refine within_calls ?_
 simp only[go_sem,g_new2,and_true,true_and]
 refine within_calls ?_
 simp only[go_sem,g_new2,and_true,true_and]
 refine within_calls ?_
 simp only[go_sem,g_new2,and_true,true_and]
 refine within_calls ?_
 simp only[go_sem,g_new2,and_true,true_and]
 refine within_calls ?_
 simp only[go_sem,g_new2,and_true,true_and]
 refine within_calls ?_
 simp only[go_sem,g_new2,and_true,true_and]
 refine within_calls ?_
 simp only[go_sem,g_new2,and_true,true_and]
 simp only[bld11,go_sem]
 refine⟨rfl,rfl, ?_⟩
 rw[H.rows_new,k_put]
 refine⟨Option.some_ne_none _,by simp, ?_⟩
 simp only[go_sem,put11]
 rw[gs_set (by rfl)]
 simp only[go_sem]
 exact fun hw'=>hk _ hw' (H.le_set hw (H.le_new (H.wf_new hw _) (H.le_new hw (H.le_refl h) _) _) (Nat.le_succ _) _)
structure Tb.is (t:Tb) (B T N:Nat):Prop where
 base:t.base=B
 toom:t.toom=T
 ntt:t.ntt=N
 ok:TOk B T N
 t2:T≤8192
 n2:N≤16384
theorem wNI {n:Nat} (h:n<9223372036854775808):IntKind.i64.wrap (n:Int)=(n:Int):=wI (by omega) (by omega)
theorem addI {a b:Nat} (h:a+b<9223372036854775808):IntKind.i64.wrap ((a:Int)+(b:Int))=((a+b:Nat):Int):=by rw[wI]<;>omega
theorem subI {a b:Nat} (hb:b≤a) (h:a<9223372036854775808):IntKind.i64.wrap ((a:Int)-(b:Int))=((a-b:Nat):Int):=by rw[wI]<;>omega
theorem mulI {a b:Nat} (h:a*b<9223372036854775808):IntKind.i64.wrap ((a:Int)*(b:Int))=((a*b:Nat):Int):=by
 rw[←Int.natCast_mul,wI]<;>omega
theorem route_calls {t:Tb} {B T N n m:Nat} {h:H} {K:AV→H→Prop} (ht:t.is B T N) (hn:n≤1048576) (hm:m≤1048576) (hk:∀h' (r:Int),h'.wf→h.le h'→r=(routeF B T N n m:Nat)→K (.int .i64 r) h'):
  ACalls Tryz.prog 135 [t.av, .int .i64 (n:Int), .int .i64 (m:Int)] h K:=by
 obtain⟨hb,htm,hnt,⟨b1,b2,t1,n1⟩,t2,n2⟩:=ht
 refine in_table_route (by simp) fun hw=> ?_
 unfold c_table_route
 have e1:IntKind.i64.wrap ((n:Int)+2)=((n+2:Nat):Int):=by rw[wI]<;>omega
 have e2:((n+2:Nat):Int).tdiv 3=(((n+2)/3:Nat):Int):=tdivN (b:=3)
 have e3:IntKind.i64.wrap (((n+2)/3:Nat):Int)=(((n+2)/3:Nat):Int):=wNI (by omega)
 have e4:IntKind.i64.wrap (2*(m:Int))=((2*m:Nat):Int):=by rw[wI]<;>omega
 have e5:=incI (i:=n) (by omega)
 have e6:=addI (a:=n) (b:=m) (by omega)
 have e7:IntKind.i64.wrap (2*(((n+2)/3:Nat):Int))=((2*((n+2)/3):Nat):Int):=by rw[wI]<;>omega
 have fin:∀r:Int,r=(routeF B T N n m:Nat)→K (.int .i64 r) (h.new ⟨some 23,11,t.cells⟩):=fun r hr=>hk _ r (H.wf_new hw _) (H.le_new hw (H.le_refl h) _) hr
 simp only[Tb.cells,hb,htm,hnt] at fin
 simp only[go_sem,av_held,av_cells,cells_len,true_and,e1,e2,e3,Tb.cells,hb,htm,hnt]
 refine⟨by omega, ?_⟩
 by_cases h0:m=0
 ·simp only[go_sem,eqT (show(m:Int)=0 by omega)]
  exact fun _=>fin 0 (by simp[routeF,h0])
 by_cases h1:m<B
 ·simp only[go_sem,eqF (show(m:Int)≠0 by omega),g_new,ltT h1]
  exact fun _=>fin 1 (by simp[routeF,h0,h1])
 by_cases h2:2*m≤n+1
 ·simp only[go_sem,eqF (show(m:Int)≠0 by omega),g_new,ltF (show B≤m by omega),e4,e5,leT h2]
  exact fun _=>fin 2 (by simp[routeF,h0,h1,h2])
 by_cases h3:m<T
 ·simp only[go_sem,eqF (show(m:Int)≠0 by omega),g_new,ltF (show B≤m by omega),e4,e5,leF (show n+1<2*m by omega),ltT h3]
  exact fun _=>fin 3 (by simp[routeF,h0,h1,h2,h3])
 by_cases h5:N≤n+m
 ·simp only[go_sem,eqF (show(m:Int)≠0 by omega),g_new,ltF (show B≤m by omega),e4,e5,leF (show n+1<2*m by omega),ltF (show T≤m by omega),e6,leT h5]
  exact fun _=>fin 5 (by simp[routeF,h0,h1,h2,h3,h5])
 by_cases h4:2*((n+2)/3)<m
 ·simp only[go_sem,eqF (show(m:Int)≠0 by omega),g_new,ltF (show B≤m by omega),e4,e5,leF (show n+1<2*m by omega),ltF (show T≤m by omega),e6,leF (show n+m<N by omega),e7,ltT h4]
  exact fun _=>fin 4 (by simp[routeF,h0,h1,h2,h3,h5,h4])
 ·simp only[go_sem,eqF (show(m:Int)≠0 by omega),g_new,ltF (show B≤m by omega),e4,e5,leF (show n+1<2*m by omega),ltF (show T≤m by omega),e6,leF (show n+m<N by omega),e7,ltF (show m≤2*((n+2)/3) by omega)]
  exact fun _=>fin 3 (by simp[routeF,h0,h1,h2,h3,h5,h4])
theorem may_calls {n:Int} {h:H} {K:AV→H→Prop} (hk:∀t,t=decide (0≤n∧n≤16384)→K (.bool t) h):ACalls Tryz.prog 134 [.int .i64 n] h K:=by
 refine in_table_may (by simp) fun hw=> ?_
 unfold c_table_may
 by_cases h0:0≤n
 ·by_cases h1:n≤16384
  ·simp only[go_sem,decide_eq_true h0,decide_eq_true h1]
   exact fun _=>hk true (by simp[h0,h1])
  ·simp only[go_sem,decide_eq_true h0,decide_eq_false h1]
   exact fun _=>hk false (by simp[h1])
 ·simp only[go_sem,decide_eq_false h0]
  exact fun _=>hk false (by simp[h0])
theorem gsT {h':H} {id:Nat} {t:Tb} (hr:h'.rows id=some ⟨some 23,11,t.cells⟩):h'.gets id 0 11=some t.cells:=H.gets_of hr (by simp[cells_len])
def costT (t:Tb) (n m:Nat):Nat:=costF (clampT t).base.toNat (clampT t).toom.toNat (clampT t).ntt.toNat 20000 (max n m) (min n m)
def routeT (t:Tb) (n m:Int):Nat:=if n<0∨m<0∨16384<n∨16384<m then 0 else routeF (clampT t).base.toNat (clampT t).toom.toNat (clampT t).ntt.toNat (max n m).toNat (min n m).toNat
theorem clamp_isT (t:Tb):(clampT t).is (clampT t).base.toNat (clampT t).toom.toNat (clampT t).ntt.toNat:=by
 refine⟨?_, ?_, ?_,⟨?_, ?_, ?_, ?_⟩, ?_, ?_⟩<;>simp only[clampT]<;>omega
theorem Route_calls {t:Tb} {n m:Int} {h:H} {K:AV→H→Prop} (hk:∀h',h'.wf→h.le h'→K (.int .i64 (routeT t n m:Nat)) h'):ACalls Tryz.prog 117 [t.av, .int .i64 n, .int .i64 m] h K:=by
 refine in_table_Route (by simp) fun hw=> ?_
 unfold c_table_Route
 simp only[go_sem,av_held,av_cells,cells_len,true_and]
 refine may_calls fun b hb=> ?_
 by_cases hn:0≤n∧n≤16384
 ·have:b=true:=by rw[hb];exact decide_eq_true hn
  subst this
  simp only[go_sem,Bool.not_true]
  refine may_calls fun b hb=> ?_
  by_cases hm:0≤m∧m≤16384
  ·have:b=true:=by rw[hb];exact decide_eq_true hm
   subst this
   simp only[go_sem,Bool.not_true,gsT (H.rows_new h _)]
   refine Clamp_calls fun h1 hw1 hl1=> ?_
   simp only[go_sem]
   have e1:max n m=((max n m).toNat:Int):=by omega
   have e2:min n m=((min n m).toNat:Int):=by omega
   rw[e1,e2]
   refine route_calls (clamp_isT t) (by omega) (by omega) fun h2 r hw2 hl2 hr=> ?_
   simp only[go_sem]
   have e3:routeT t n m=routeF (clampT t).base.toNat (clampT t).toom.toNat (clampT t).ntt.toNat (max n m).toNat (min n m).toNat:=by unfold routeT;rw[if_neg (by omega)]
   rw[hr,←e3]
   exact fun _=>hk _ hw2 (H.le_trans (H.le_new hw (H.le_refl h) _) (H.le_trans hl1 hl2))
  ·have:b=false:=by rw[hb];exact decide_eq_false hm
   subst this
   simp only[go_sem,Bool.not_false]
   have e3:routeT t n m=0:=by unfold routeT;rw[if_pos (by omega)]
   rw[e3] at hk
   exact fun hw'=>hk _ hw' (H.le_new hw (H.le_refl h) _)
 ·have:b=false:=by rw[hb];exact decide_eq_false hn
  subst this
  simp only[go_sem,Bool.not_false]
  have e3:routeT t n m=0:=by unfold routeT;rw[if_pos (by omega)]
  rw[e3] at hk
  exact fun hw'=>hk _ hw' (H.le_new hw (H.le_refl h) _)
theorem routeT_nat {t:Tb} {n m:Nat} (hn:n≤16384) (hm:m≤16384):routeT t n m=routeF (clampT t).base.toNat (clampT t).toom.toNat (clampT t).ntt.toNat (max n m) (min n m):=by
 unfold routeT
 rw[if_neg (by omega)]
 congr 1<;>omega
end Ab
end Go.Proofs.YtkbglkjpdndkiaaGreatDoor
