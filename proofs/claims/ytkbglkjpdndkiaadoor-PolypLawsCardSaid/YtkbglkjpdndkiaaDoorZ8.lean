/- Joined texts: X22 X23 X24 N11 N12 X25. No condition. -/
import Derived.Test.YtkbglkjpdndkiaaDoorZ7
namespace Go.Proofs.YtkbglkjpdndkiaaDoor
namespace Ab
open Go Go.RowKit
set_option linter.unusedSimpArgs false
set_option linter.unusedVariables false
attribute [local go_sem ↓] x_mv x_pick x_bin x_beq x_peq x_seq x_cat x_aeq x_idxS x_idxV x_un x_cvI x_bts x_idx x_idxA x_fld x_ld x_st x_nn x_prt x_slc x_mk x_bsl x_bld x_box x_alloc x_len x_capo x_mnx x_app x_cpy x_mkf x_ext x_call x_callV x_bad s_none s_some s_nil s_cons s_chks w_skip w_reg tP_fin tP_no tP_alt w_seq w_cond w_block w_exit w_ret t_normal t_exit t_ret b_normal b_ret b_exit n_normal n_exit n_ret p_normal p_ret f_nil f_t f_c k_ops k_chk k_fin
attribute [local go_sem] e_t e_c e_f u_some u_none u_at env_at k_v k_pick k_add k_sub k_mul k_quo k_rem k_and k_or k_xor k_shl k_shr k_eql k_neq k_lss k_leq k_gtr k_geq k_beq k_peqn k_peqs k_neg k_not k_com k_cvI k_idxS k_idxV1 k_idxVn k_idx k_idxA k_idxG k_ldG k_gld k_seq k_cat k_aeq k_eqs k_fld k_ld1 k_ldn k_get k_gets k_sti k_stb k_stp k_sts k_stf k_sta k_put k_nn k_prt1 k_prtn k_slc_a k_slc_b k_slc_c k_mk k_agg k_bsl k_box k_len k_lenS k_cap k_max k_min k_ext k_callV k_true k_false k_gtt k_gtf k_gft k_gsk k_gff k_lit1i k_lit2i k_lit3i k_c0 k_c1 k_ck List.getElem?_cons_zero List.getElem?_cons_succ List.getElem?_nil Option.getD_some Option.getD_none tupOf List.map_cons List.map_nil Option.map_some Option.map_none List.nil_append List.cons_append List.append_nil Nat.mul_one Int.toNat_natCast Nat.zero_add
attribute [local go_sem_proc] Nat.reduceEqDiff Nat.reduceAdd Int.reduceToNat
attribute [local go_sem_proc ↓] reduceIte
attribute [local go_sem] Bool.false_eq_true
section
def shC (f:Nat→Nat) (k:Int) (i:Nat):Nat:=if k<0 then f (i+k.natAbs) else if i<k.natAbs then 0 else f (i-k.natAbs)
def InvOf (p a c:Nat):Prop:=c<p∧(Nat.gcd p (a%p)=1→a*c%p=1)∧(Nat.gcd p (a%p)≠1→c=0)
theorem InvOf.uniq {p a c d:Nat} (hc:InvOf p a c) (hd:InvOf p a d):c=d:=by
 by_cases hg:Nat.gcd p (a%p)=1
 ·have h1:=hc.2.1 hg
  have h2:=hd.2.1 hg
  have e1:c*(a*d)%p=c:=by
   rw[Nat.mul_mod,h2,Nat.mul_one,Nat.mod_mod,Nat.mod_eq_of_lt hc.1]
  have e2:c*(a*d)%p=d:=by
   rw[←Nat.mul_assoc,Nat.mul_comm c a,Nat.mul_mod,h1,Nat.one_mul,Nat.mod_mod,Nat.mod_eq_of_lt hd.1]
  exact e1.symm.trans e2
 ·rw[hc.2.2 hg,hd.2.2 hg]
theorem TrimF.nil {f:Nat→Nat} (h:∀i,f i=0):TrimF f []:=⟨fun i=>by rw[getD_out (Nat.zero_le _),h],by simp⟩
theorem TrimF.drop {f:Nat→Nat} {ys:List Nat} (h:TrimF f ys) (m:Nat):TrimF (fun i=>f (i+m)) (ys.drop m):=by
 refine⟨fun i=> ?_,fun y hy=> ?_⟩
 ·show _=f (i+m)
  rw[←h.1,List.getD_eq_getElem?_getD,List.getElem?_drop,List.getD_eq_getElem?_getD,Nat.add_comm]
 ·rw[List.getLast?_drop] at hy
  split at hy
  ·cases hy
  ·exact h.2 y hy
theorem TrimF.shift {f:Nat→Nat} {ys:List Nat} (h:TrimF f ys) (h0:ys≠ []) (m:Nat):TrimF (fun i=>if i<m then 0 else f (i-m)) (List.replicate m 0++ys):=by
 refine⟨fun i=> ?_,fun y hy=> ?_⟩
 ·rw[List.getD_eq_getElem?_getD]
  show _=if i<m then 0 else f (i-m)
  split
  ·rename_i hi
   rw[List.getElem?_append_left (by rw[List.length_replicate];exact hi),List.getElem?_replicate,if_pos hi]
   rfl
  ·rename_i hi
   rw[List.getElem?_append_right (by rw[List.length_replicate];omega),List.length_replicate,←h.1,List.getD_eq_getElem?_getD]
 ·rw[List.getLast?_append] at hy
  cases hl:ys.getLast? with
  |none=>exact absurd (List.getLast?_eq_none_iff.1 hl) h0
  |some z=>
   rw[hl] at hy
   simp at hy
   rw[←hy]
   exact h.2 z hl
theorem sum_nil:∀l:List Nat,(∀x∈l,x=0)→l.sum=0
 |[],_=>rfl
 |x::l,h=>by rw[List.sum_cons,h x (by simp),sum_nil l fun y hy=>h y (by simp[hy])]
section
variable {e p b x:Nat} {xs ys os:List Nat} {v va vb:AV} {h:H} {K:AV→H→Prop}
theorem pCut_calls {k:Int} (hr:RG h e p) (hv:IsN h v xs) (hl:xs.length≤1000000) (hk:∀(m:Nat) r ys h',(m:Int)=max 0 (min k xs.length)→h'.wf→h.le h'→IsG h.next h' r ys→TrimF (fun i=>(xs.take m).getD i 0%p) ys→ys.length≤xs.length→K r h'):ACalls Tryd.prog 19 [.ptr (some (e,0)),v, .int .i64 k] h K:=by
 obtain⟨id,off,c,rfl⟩:=hv.form
 refine in_polyp_Ring_Cut (by simp) fun hw=> ?_
 unfold c_polyp_Ring_Cut
 obtain⟨m,hm⟩:∃m:Nat,(m:Int)=max 0 (min k xs.length):=⟨(max 0 (min k xs.length)).toNat,by omega⟩
 have hmx:m≤xs.length:=by omega
 simp only[go_sem,←hm,Int.toNat_natCast]
 refine⟨by omega, .inl hmx,hv.row, ?_⟩
 refine pNorm_calls hr (hv.take hmx) (by rw[List.length_take];omega) fun r ys h' hw' hle hy ht hyl=> ?_
 simp only[go_sem]
 exact fun _=>hk m r ys h' hm hw' hle hy ht (by rw[List.length_take] at hyl;omega)
theorem pShift_calls {k:Int} (hr:RG h e p) (hv:IsN h v xs) (hl:xs.length≤1000) (hk:∀r ys h',h'.wf→h.le h'→IsN h' r ys→ys.length≤6000→TrimF (shC (fun i=>xs.getD i 0%p) (max (-4096) (min k 4096))) ys→K r h'):ACalls Tryd.prog 17 [.ptr (some (e,0)),v, .int .i64 k] h K:=by
 refine in_polyp_Ring_Shift (by simp) fun hw=> ?_
 unfold c_polyp_Ring_Shift
 obtain⟨k',hk'⟩:∃k',k'=max (-4096) (min k 4096):=⟨_,rfl⟩
 rw[←hk'] at hk
 simp only[go_sem,show max (-4096) (min k 4096)=k' from hk'.symm]
 refine pNorm_calls hr hv (by omega) fun r ys h1 hw1 hl1 hy ht hyl=> ?_
 obtain⟨id,c,rfl⟩:=hy.form
 have e1:IntKind.i64.wrap (0-(ys.length:Int))= -(ys.length:Int):=by rw[wI]<;>omega
 rcases Nat.eq_zero_or_pos ys.length with h0|h0
 ·have:ys=[]:=List.eq_nil_of_length_eq_zero h0
  subst this
  simp only[go_sem,show(((([]:List Nat).length:Nat):Int)==0)=true from rfl]
  refine fun hw'=>hk _ [] h1 hw' hl1 (IsN.nil _ _) (Nat.zero_le _) (TrimF.nil fun i=> ?_)
  have hz:∀i,xs.getD i 0%p=0:=fun i=>by
   have:=ht.1 i
   rw[getD_out (Nat.zero_le _)] at this
   exact this.symm
  unfold shC
  split
  ·exact hz _
  ·split
   ·rfl
   ·exact hz _
 by_cases c1:k'≤-(ys.length:Int)
 ·simp only[go_sem,eqF (show(ys.length:Int)≠0 by omega),e1,show decide (k'≤-(ys.length:Int))=true from decide_eq_true c1]
  refine fun hw'=>hk _ [] h1 hw' hl1 (IsN.nil _ _) (Nat.zero_le _) (TrimF.nil fun i=> ?_)
  unfold shC
  rw[if_pos (by omega),←ht.1,getD_out (by omega)]
 by_cases c2:k'≤0
 ·obtain⟨m,hm⟩:∃m:Nat,(m:Int)= -k':=⟨k'.natAbs,by omega⟩
  have e2:IntKind.i64.wrap (0-k')=(m:Int):=by rw[wI]<;>omega
  simp only[go_sem,eqF (show(ys.length:Int)≠0 by omega),e1,show decide (k'≤-(ys.length:Int))=false from decide_eq_false c1,show decide (k'≤0)=true from decide_eq_true c2,e2,Int.toNat_natCast]
  refine⟨by omega,by omega,hy.isN.row,fun hw'=> ?_⟩
  have hc:=hy.isN.cut (c':=c.map (· -m)) (a:=m) (b:=ys.length) (by omega) (Nat.le_refl _)
  rw[List.take_length,Nat.zero_add] at hc
  refine hk _ _ h1 hw' hl1 hc (by rw[List.length_drop];omega) ((ht.drop m).congr fun i=> ?_)
  unfold shC
  by_cases c3:k'<0
  ·rw[if_pos c3,show k'.natAbs=m by omega]
  ·rw[if_neg c3,if_neg (by omega),show m=0 by omega,show k'.natAbs=0 by omega]
   rfl
 ·obtain⟨m,hm⟩:∃m:Nat,(m:Int)=k':=⟨k'.natAbs,by omega⟩
  rw[←hm] at c1 c2 hk
  simp only[go_sem,eqF (show(ys.length:Int)≠0 by omega),e1,←hm,show decide ((m:Int)≤-(ys.length:Int))=false from decide_eq_false c1,show decide ((m:Int)≤0)=false from decide_eq_false c2,Int.toNat_natCast]
  refine⟨by omega,by omega,by omega, ?_⟩
  have hl2:=H.le_new hw1 (H.le_refl h1) ⟨some 22,1,zs [AV.int .u64 0] m⟩
  refine app_num hw1 (H.wf_new hw1 _) hl2 (IsG.made (Nat.le_refl _) m) (hy.isN.mono hl2) (by rw[List.length_replicate];omega) fun v g hwg hlg hv=> ?_
  simp only[go_sem]
  refine fun hw'=>hk _ _ g hw' (H.le_trans hl1 hlg) hv.isN (by simp;omega) ((ht.shift (by rintro rfl;simp at h0) m).congr fun i=> ?_)
  show(if i<m then 0 else xs.getD (i-m) 0%p)=if(m:Int)<0 then _ else if i<(m:Int).natAbs then 0 else xs.getD (i-(m:Int).natAbs) 0%p
  rw[if_neg (show¬(m:Int)<0 by omega),Int.natAbs_natCast]
theorem pMonic_calls (hr:RG h e p) (hv:IsN h v xs) (hl:xs.length≤1000000) (hk0:∀h',h'.wf→h.le h'→TrimF (fun i=>xs.getD i 0%p) []→K (.tup [.sl none 0 0 none, .bool false]) h') (hk:∀r ys zs c h',h'.wf→h.le h'→ys≠ []→TrimF (fun i=>xs.getD i 0%p) ys→InvOf p (ys.getD (ys.length-1) 0) c→IsG h.next h' r zs→zs.length≤xs.length→TrimF (fun i=>ys.getD i 0*c%p) zs→K (.tup [r, .bool true]) h'):ACalls Tryd.prog 28 [.ptr (some (e,0)),v] h K:=by
 refine in_polyp_Ring_Monic (by simp) fun hw=> ?_
 unfold c_polyp_Ring_Monic
 simp only[go_sem]
 refine pNorm_calls hr hv hl fun r ys h1 hw1 hl1 hy ht hyl=> ?_
 obtain⟨id,c,rfl⟩:=hy.form
 rcases Nat.eq_zero_or_pos ys.length with h0|h0
 ·have:ys=[]:=List.eq_nil_of_length_eq_zero h0
  subst this
  simp only[go_sem,show(((([]:List Nat).length:Nat):Int)==0)=true from rfl]
  exact fun hw'=>hk0 h1 hw' hl1 ht
 have e1:IntKind.i64.wrap ((ys.length:Int)-1)=((ys.length-1:Nat):Int):=by rw[wI]<;>omega
 obtain⟨ii,rfl,_,hg⟩:=hy.isN.at (j:=ys.length-1) (by omega)
 have hr1:=hr.mono hl1
 obtain⟨i,hgi,hm⟩:=hr.mono hl1
 rw[←getD_in (by omega),Nat.zero_add] at hg
 simp only[go_sem,eqF (show(ys.length:Int)≠0 by omega),e1,hgi]
 refine⟨by omega,by omega, ?_⟩
 simp only[go_sem,hg,hgi]
 refine mInv_calls hm fun c0 hc0 hc1=> ?_
 have hinv:InvOf p (ys.getD (ys.length-1) 0) (if Nat.gcd p (ys.getD (ys.length-1) 0%p)=1 then c0 else 0):=by
  have hp:=hm.p0
  refine⟨by split;exact hc0;omega,fun h=>by rw[if_pos h];exact hc1 h,fun h=>by rw[if_neg h]⟩
 generalize (if Nat.gcd p (ys.getD (ys.length-1) 0%p)=1 then c0 else 0)=c1 at*
 simp only[go_sem]
 refine pScale_calls hr1 hy.isN (by omega) fun r zs h2 hw2 hl2 hz hzt hzl=> ?_
 simp only[go_sem]
 have hb:=hl1.1
 exact fun hw'=>hk _ ys zs c1 h2 hw' (H.le_trans hl1 hl2) (by rintro rfl;simp at h0) ht hinv (hz.base hb) (by omega) hzt
theorem pTimes_calls (hr:RG h e p) (ha:IsN h va xs) (hb:IsN h vb ys) (hlx:xs.length≤1000000) (hly:ys.length≤1000000) (hk:∀r zs h',h'.wf→h.le h'→IsG h.next h' r zs→TrimF (fun k=>cau (fun i=>xs.getD i 0) (fun i=>ys.getD i 0) k%p) zs→zs.length≤xs.length+ys.length→K r h'):ACalls Tryd.prog 22 [.ptr (some (e,0)),va,vb] h K:=by
 refine in_polyp_Ring_Times (by simp) fun hw=> ?_
 unfold c_polyp_Ring_Times
 simp only[go_sem]
 refine pNorm_calls hr ha hlx fun ra us h1 hw1 hl1 hya hta hla=> ?_
 simp only[go_sem]
 refine pNorm_calls (hr.mono hl1) (hb.mono hl1) hly fun rb ws h2 hw2 hl2 hyb htb hlb=> ?_
 have hya:=hya.mono hl2
 obtain⟨ida,ca,rfl⟩:=hya.form
 obtain⟨idb,cb,rfl⟩:=hyb.form
 have hcau:∀k,cau (fun i=>us.getD i 0) (fun i=>ws.getD i 0) k%p=cau (fun i=>xs.getD i 0) (fun i=>ys.getD i 0) k%p:=cau_congr (fun i=>by show us.getD i 0%p=_;rw[hta.1,Nat.mod_mod]) (fun i=>by show ws.getD i 0%p=_;rw[htb.1,Nat.mod_mod])
 have l02:=H.le_trans hl1 hl2
 have hr2:=hr.mono l02
 clear hta htb
 obtain⟨f,hf⟩:∃f,f=fun i=>us.getD i 0:=⟨_,rfl⟩
 obtain⟨g,hg⟩:∃g,g=fun i=>ws.getD i 0:=⟨_,rfl⟩
 have hf0:∀i,us.length≤i→f i=0:=fun i hi=>by rw[hf];exact getD_out hi
 have hg0:∀i,ws.length≤i→g i=0:=fun i hi=>by rw[hg];exact getD_out hi
 rw[←hf,←hg] at hcau
 rcases Nat.eq_zero_or_pos us.length with h0|h0
 ·have e0:us=[]:=List.eq_nil_of_length_eq_zero h0
  subst e0
  simp only[go_sem,show(((([]:List Nat).length:Nat):Int)==0)=true from rfl]
  exact fun hw'=>hk _ [] h2 hw' l02 (IsF.nil _ _ _ _ _) (TrimF.nil fun k=>by rw[←hcau,cau_f0 (fun i=>hf0 i (Nat.zero_le _)),Nat.zero_mod]) (Nat.zero_le _)
 rcases Nat.eq_zero_or_pos ws.length with h0'|h0'
 ·have e0:ws=[]:=List.eq_nil_of_length_eq_zero h0'
  subst e0
  simp only[go_sem,eqF (show(us.length:Int)≠0 by omega),show(((([]:List Nat).length:Nat):Int)==0)=true from rfl]
  exact fun hw'=>hk _ [] h2 hw' l02 (IsF.nil _ _ _ _ _) (TrimF.nil fun k=>by
   rw[←hcau,←part_cau (n:=us.length+k) (fun i hi=>hf0 i (by omega)),show part f g (us.length+k) k=0 from ?_,Nat.zero_mod]
   have:∀m,part f g m k=0:=fun m=>by
    induction m with
    |zero=>rfl
    |succ m ih=>rw[part,ih,hg0 _ (Nat.zero_le _),Nat.mul_zero];split<;>rfl
   exact this _) (Nat.zero_le _)
 obtain⟨N,hN⟩:∃N,N+1=us.length+ws.length:=⟨us.length+ws.length-1,by omega⟩
 have e1:IntKind.i64.wrap ((us.length:Int)+(ws.length:Int))=((N+1:Nat):Int):=by rw[wI]<;>omega
 have e2:IntKind.i64.wrap (((N+1:Nat):Int)-1)=(N:Int):=by rw[wI]<;>omega
 simp only[go_sem,eqF (show(us.length:Int)≠0 by omega),eqF (show(ws.length:Int)≠0 by omega),e1,e2]
 refine⟨by omega,by omega,by omega, ?_⟩
 have hl3:=H.le_new hw2 (H.le_refl h2) ⟨some 22,1,zs [AV.int .u64 0] N⟩
 have hw3:=H.wf_new hw2 ⟨some 22,1,zs [AV.int .u64 0] N⟩
 refine loop_cut (fun ρ h'=>h'.wf∧h2.le h'∧ρ 7= .sl (some h2.next) 0 N (some N)∧IsG h2.next h' (.sl (some h2.next) 0 N (some N)) (rowF (fun k=>part f g us.length k%p) N)) ?_ ?_
 ·refine for_rule (fun i ρ h'=>i≤us.length∧h'.wf∧h2.le h'∧ρ 0= .ptr (some (e,0))∧ρ 2= .sl idb 0 ws.length cb∧ρ 7= .sl (some h2.next) 0 N (some N)∧ρ 33= .sl ida 0 us.length ca∧ρ 34= .int .i64 (us.length:Int)∧ρ 35= .int .i64 (i:Int)∧IsG h2.next h' (.sl (some h2.next) 0 N (some N)) (rowF (fun k=>part f g i k%p) N)) us.length
   ⟨by omega,hw3,hl3,by first|rfl|trivial|assumption,by first|rfl|trivial|assumption,by first|rfl|trivial|assumption,by first|rfl|trivial|assumption,by first|rfl|trivial|assumption,by first|rfl|trivial|assumption,by rw[show(fun k=>part f g 0 k%p)=fun _=>0 from funext fun k=>Nat.zero_mod p,rowF_rep];exact IsG.made (Nat.le_refl _) _⟩ (fun i ρ h hI=>hI.1) ?_
  rintro i ρ h3 ⟨hi,hw3,hle,q0,q2,q7,q33,q34,q35,hs⟩
  rcases Nat.lt_or_ge i us.length with c1|c1
  ·obtain⟨ii,rfl,_,hga⟩:=(hya.isN.mono hle).at c1
   rw[Nat.zero_add] at hga
   have hfi:us[i]=f i:=by rw[hf];exact(getD_in c1).symm
   rw[hfi] at hga
   simp only[go_sem,q0,q2,q7,q33,q34,q35,ltT c1]
   refine⟨by omega,by omega, ?_⟩
   simp only[go_sem,hga,q0,q2,q7,q33,q34,q35]
   refine loop_cut2 (fun ρ h'=>h'.wf∧h2.le h'∧ρ 0= .ptr (some (e,0))∧ρ 2= .sl idb 0 ws.length cb∧ρ 7= .sl (some h2.next) 0 N (some N)∧ρ 33= .sl (some ii) 0 us.length ca∧ρ 34= .int .i64 (us.length:Int)∧ρ 35= .int .i64 (i:Int)∧IsG h2.next h' (.sl (some h2.next) 0 N (some N)) (rowF (fun k=>part f g (i+1) k%p) N)) ?_ ?_
   ·refine for_rule (fun j ρ h'=>j≤ws.length∧h'.wf∧h2.le h'∧ρ 0= .ptr (some (e,0))∧ρ 2= .sl idb 0 ws.length cb∧ρ 7= .sl (some h2.next) 0 N (some N)∧ρ 33= .sl (some ii) 0 us.length ca∧ρ 34= .int .i64 (us.length:Int)∧ρ 35= .int .i64 (i:Int)∧ρ 8= .int .i64 (i:Int)∧ρ 9= .int .u64 (f i:Nat)∧ρ 40= .sl idb 0 ws.length cb∧ρ 41= .int .i64 (ws.length:Int)∧ρ 42= .int .i64 (j:Int)∧IsG h2.next h' (.sl (some h2.next) 0 N (some N)) (rowF (fun k=>partJ f g i j k%p) N)) ws.length
     ⟨by omega,hw3,hle,by first|rfl|trivial|assumption,by first|rfl|trivial|assumption,by first|rfl|trivial|assumption,by first|rfl|trivial|assumption,by first|rfl|trivial|assumption,by first|rfl|trivial|assumption,by first|rfl|trivial|assumption,by first|rfl|trivial|assumption,by first|rfl|trivial|assumption,by first|rfl|trivial|assumption,by first|rfl|trivial|assumption,by rw[show(fun k=>partJ f g i 0 k%p)=fun k=>part f g i k%p from funext fun k=>by rw[partJ_zero]];exact hs⟩ (fun i ρ h hI=>hI.1) ?_
    clear hs hle hw3 h3 q0 q2 q7 q33 q34 q35 hga
    rintro j ρ h3 ⟨hj,hw3,hle,q0,q2,q7,q33,q34,q35,q8,q9,q40,q41,q42,hs⟩
    rcases Nat.lt_or_ge j ws.length with c2|c2
    ·obtain⟨jj,rfl,_,hgb⟩:=(hyb.isN.mono hle).at c2
     rw[Nat.zero_add] at hgb
     have hgj:ws[j]=g j:=by rw[hg];exact(getD_in c2).symm
     rw[hgj] at hgb
     obtain⟨mi,hgi,hm⟩:=hr2.mono hle
     have hij:i+j<N:=by omega
     obtain⟨io',rr,e0',hbi,_,hrr,ho,hcl,hput⟩:=hs.put hw3 (j:=i+j) (by rw[rowF_len];exact hij)
     injection e0' with e0'
     subst e0'
     obtain⟨kk,e0',_,hgo⟩:=hs.isN.at (j:=i+j) (by rw[rowF_len];exact hij)
     injection e0' with e0'
     subst e0'
     rw[rowF_get hij,Nat.zero_add] at hgo
     have hval:(partJ f g i j (i+j)%p+f i*g j%p)%p=partJ f g i (j+1) (i+j)%p:=by
      rw[←Nat.add_mod,partJ_here]
     have hput:=hput (partJ f g i (j+1) (i+j)%p)
     rw[rowF_set (G:=fun k=>partJ f g i (j+1) k%p) rfl (fun k _ hk=>by show partJ f g i (j+1) k%p=_;rw[partJ_other hk])] at hput
     have eij:IntKind.i64.wrap ((i:Int)+(j:Int))=((i+j:Nat):Int):=by rw[wI]<;>omega
     simp only[go_sem,q0,q2,q7,q33,q34,q35,q8,q9,q40,q41,q42,ltT c2]
     refine⟨by omega,by omega, ?_⟩
     simp only[go_sem,hgb,q0,q2,q7,q33,q34,q35,q8,q9,q40,q41,q42,hgi,eij]
     refine⟨by omega,by omega, ?_⟩
     simp only[go_sem,hgo,q0,q2,q7,q33,q34,q35,q8,q9,q40,q41,q42,hgi,eij]
     refine mMul_calls hm ?_
     simp only[go_sem,hgo,q0,q2,q7,q33,q34,q35,q8,q9,q40,q41,q42,hgi,eij,true_and]
     refine mAdd_calls hm ?_
     rw[hval]
     simp only[go_sem,q0,q2,q7,q33,q34,q35,q8,q9,q40,q41,q42]
     refine⟨by omega,by omega, ?_⟩
     simp only[go_sem,hrr]
     refine⟨ho,hcl, ?_⟩
     simp only[go_sem,q0,q2,q7,q33,q34,q35,q8,q9,q40,q41,q42,incI (i:=j) (by omega)]
     exact⟨by omega,H.wf_set hw3 (H.row_lt hw3 hrr) _,H.le_set hw2 hle hbi _,by first|rfl|trivial|assumption,by first|rfl|trivial|assumption,by first|rfl|trivial|assumption,by first|rfl|trivial|assumption,by first|rfl|trivial|assumption,by first|rfl|trivial|assumption,by first|rfl|trivial|assumption,by first|rfl|trivial|assumption,by first|rfl|trivial|assumption,by first|rfl|trivial|assumption,by first|rfl|trivial|assumption,hput⟩
    ·obtain rfl:j=ws.length:=by omega
     simp only[go_sem,q41,q42,ltF (Nat.le_refl ws.length)]
     rw[show(fun k=>partJ f g i ws.length k%p)=fun k=>part f g (i+1) k%p from funext fun k=>by rw[partJ_full hg0]] at hs
     exact⟨hw3,hle,q0,q2,q7,q33,q34,q35,hs⟩
   ·clear hs hle hw3 h3 q0 q2 q7 q33 q34 q35 hga
    rintro ρ h3 ⟨hw3,hle,q0,q2,q7,q33,q34,q35,hs⟩
    simp only[go_sem,q0,q2,q7,q33,q34,q35,incI (i:=i) (by omega)]
    exact⟨by omega,hw3,hle,by first|rfl|trivial|assumption,by first|rfl|trivial|assumption,by first|rfl|trivial|assumption,by first|rfl|trivial|assumption,by first|rfl|trivial|assumption,by first|rfl|trivial|assumption,hs⟩
  ·obtain rfl:i=us.length:=by omega
   simp only[go_sem,q34,q35,ltF (Nat.le_refl us.length)]
   exact⟨hw3,hle,q7,hs⟩
 rintro ρ h' ⟨hw',hle,q7,hs⟩
 simp only[go_sem,q7]
 refine ptrim_calls hs (by rw[rowF_len];omega) fun r zs hy ht hyl=> ?_
 simp only[go_sem]
 rw[rowF_len] at hyl
 have hbb:=l02.1
 exact fun _=>hk r zs h' hw' (H.le_trans l02 hle) (hy.base hbb) (ht.congr fun k=>by
  rw[rowF_getD]
  split
  ·rw[part_cau hf0,hcau]
  ·rw[←hcau,cau_zero hf0 hg0 k (by omega),Nat.zero_mod]) (by omega)
theorem pRoots_calls (hr:RG h e p) (hv:IsN h v xs) (hl:xs.length≤1000) (hk:∀r zs h',h'.wf→h.le h'→IsG h.next h' r zs→TrimF (rootsC p xs) zs→zs.length≤2001→K r h'):ACalls Tryd.prog 24 [.ptr (some (e,0)),v] h K:=by
 obtain⟨id,off,c,rfl⟩:=hv.form
 refine in_polyp_Ring_Roots (by simp) fun hw=> ?_
 unfold c_polyp_Ring_Roots
 simp only[go_sem,show abuild (zs [.int .u64 0] 1) [(0*1,1, .int .u64 1)]=some [.int .u64 1] from rfl]
 have hl1:=H.le_new hw (H.le_refl h) ⟨some 22,1,[.int .u64 1]⟩
 refine for_rule (fun j ρ h'=>j≤xs.length∧h'.wf∧h.le h'∧ρ 0= .ptr (some (e,0))∧ρ 9= .sl id off xs.length c∧ρ 10= .int .i64 (xs.length:Int)∧ρ 11= .int .i64 (j:Int)∧∃zs,IsG h.next h' (ρ 5) zs∧TrimF (rootsC p (xs.take j)) zs∧zs.length≤1+2*j) xs.length
  ⟨by omega,H.wf_new hw _,hl1,by first|rfl|trivial|assumption,by first|rfl|trivial|assumption,by first|rfl|trivial|assumption,by first|rfl|trivial|assumption,[1],⟨some h.next,some 1,rfl, .inr ⟨h.next,_,rfl,Nat.le_refl _,H.rows_new _ _,rfl,rfl,by simp,rfl⟩⟩,⟨fun i=>by
   show [1].getD i 0=if i=0 then 1 else 0
   rcases i with _|i
   ·rfl
   ·rw[getD_out (by simp),if_neg (by omega)],by simp⟩,by simp⟩ (fun i ρ h hI=>hI.1) ?_
 rintro j ρ h' ⟨hj,hw',hle,q0,q9,q10,q11,zs,hs,hst,hsl⟩
 rcases Nat.lt_or_ge j xs.length with h3|h3
 ·obtain⟨ii,rfl,_,hg⟩:=(hv.mono hle).at h3
  have hr':=hr.mono hle
  obtain⟨i,hgi,hm⟩:=hr.mono hle
  simp only[go_sem,q0,q9,q10,q11,ltT h3]
  refine⟨by omega,by omega, ?_⟩
  simp only[go_sem,hg,q0,q9,q10,q11,hgi]
  refine mNeg_calls hm ?_
  simp only[go_sem,q0,q9,q10,q11,show∀m:Int,abuild (Ab.zs [.int .u64 0] 2) [(0*1,1, .int .u64 m),(1*1,1, .int .u64 1)]=some [.int .u64 m, .int .u64 1] from fun m=>rfl]
  have hl4:=H.le_new hw' (H.le_refl h') ⟨some 22,1,[.int .u64 ((p-xs[j]%p)%p:Nat), .int .u64 1]⟩
  have hb4:=hle.1
  refine pTimes_calls (hr'.mono hl4) (hs.isN.mono hl4) (IsN.lit [(p-xs[j]%p)%p,1] _ rfl rfl) (by omega) (by simp) fun r ws g hwg hlg hwr hwt hwl=> ?_
  simp only[go_sem,q0,q9,q10,q11,incI (i:=j) (by omega)]
  have hl5:=H.le_trans hl4 hlg
  refine⟨by omega,hwg,H.le_trans hle hl5,by first|rfl|trivial|assumption,by first|rfl|trivial|assumption,by first|rfl|trivial|assumption,by first|rfl|trivial|assumption,ws,hwr.base (by have:=hl4.1;omega),hwt.congr fun k=> ?_,by simp at hwl;omega⟩
  rw[List.take_succ_eq_append_getElem h3,rootsC_snoc]
  unfold rootC
  congr 2
  ·funext i
   exact hst.1 i
  ·funext i
   rcases i with _|_|i
   ·rfl
   ·rfl
   ·rfl
 ·obtain rfl:j=xs.length:=by omega
  rw[List.take_length] at hst
  simp only[go_sem,q10,q11,ltF (Nat.le_refl xs.length)]
  exact fun _=>hk _ zs h' hw' hle hs hst (by omega)
theorem pPlus_calls {ls:List (List Nat)} (hr:RG h e p) (hv:IsA 1 IsNl h v ls) (hl:ls.length≤1000) (hls:∀l∈ls,l.length≤1000000) (hk:∀r zs h',h'.wf→h.le h'→IsG h.next h' r zs→TrimF (fun i=>sumL p ls ls.length i) zs→zs.length≤mxL ls→K r h'):ACalls Tryd.prog 33 [.ptr (some (e,0)),v] h K:=by
 obtain⟨id,off,c,rfl⟩:=hv.form
 refine in_polyp_Ring_Plus (by simp) fun hw=> ?_
 unfold c_polyp_Ring_Plus
 simp only[go_sem]
 have hN:mxL ls≤1000000:=mxL_bound ls 0 (Nat.zero_le _) hls
 have hNl:∀l∈ls,l.length≤mxL ls:=(mxL_ge ls 0).2
 refine loop_cut (fun ρ h'=>h'=h∧ρ 0= .ptr (some (e,0))∧ρ 1= .sl id off ls.length c∧ρ 5= .int .i64 (mxL ls:Nat)) ?_ ?_
 ·refine for_rule (fun j ρ h'=>j≤ls.length∧h'=h∧ρ 0= .ptr (some (e,0))∧ρ 1= .sl id off ls.length c∧ρ 13= .sl id off ls.length c∧ρ 14= .int .i64 (ls.length:Int)∧ρ 15= .int .i64 (j:Int)∧ρ 5= .int .i64 (mxL (ls.take j):Nat)) ls.length
   ⟨by omega,rfl,by first|rfl|trivial|assumption,by first|rfl|trivial|assumption,by first|rfl|trivial|assumption,by first|rfl|trivial|assumption,by first|rfl|trivial|assumption,by first|rfl|trivial|assumption⟩ (fun i ρ h hI=>hI.1) ?_
  rintro j ρ h' ⟨hj,rfl,q0,q1,q13,q14,q15,q5⟩
  rcases Nat.lt_or_ge j ls.length with h3|h3
  ·obtain⟨ii,a,rfl,_,hg,va,e1,hva⟩:=hv.at1 h3
   injection e1 with e1
   subst e1
   obtain⟨ia,oa,ca,rfl⟩:=hva.form
   simp only[go_sem,q0,q1,q13,q14,q15,q5,ltT h3]
   refine⟨by omega,by omega, ?_⟩
   simp only[go_sem,hg,q0,q1,q13,q14,q15,q5,maxN,incI (i:=j) (by omega)]
   rw[mxL_succ h3]
   exact⟨by omega,by first|rfl|trivial|assumption,by first|rfl|trivial|assumption,by first|rfl|trivial|assumption,by first|rfl|trivial|assumption,by first|rfl|trivial|assumption,by first|rfl|trivial|assumption,by first|rfl|trivial|assumption⟩
  ·obtain rfl:j=ls.length:=by omega
   rw[List.take_length] at q5
   simp only[go_sem,q14,q15,ltF (Nat.le_refl ls.length)]
   exact⟨by first|rfl|trivial|assumption,q0,q1,q5⟩
 rintro ρ h' ⟨rfl,q0,q1,q5⟩
 generalize mxL ls=N at*
 simp only[go_sem,q0,q1,q5]
 refine⟨by omega,by omega,by omega, ?_⟩
 have hl3:=H.le_new hw (H.le_refl h') ⟨some 22,1,zs [AV.int .u64 0] N⟩
 have hw3:=H.wf_new hw ⟨some 22,1,zs [AV.int .u64 0] N⟩
 generalize hh0:h'=h0 at*
 have hs0:IsG h0.next (h0.new ⟨some 22,1,zs [AV.int .u64 0] N⟩) (.sl (some h0.next) 0 N (some N)) (List.replicate N 0):=IsG.made (Nat.le_refl _) _
 generalize h0.new ⟨some 22,1,zs [AV.int .u64 0] N⟩=h1 at*
 refine loop_cut (fun ρ h'=>h'.wf∧h0.le h'∧ρ 8= .sl (some h0.next) 0 N (some N)∧IsG h0.next h' (.sl (some h0.next) 0 N (some N)) (rowF (fun i=>sumL p ls ls.length i) N)) ?_ ?_
 ·refine for_rule (fun j ρ h'=>j≤ls.length∧h'.wf∧h0.le h'∧ρ 0= .ptr (some (e,0))∧ρ 8= .sl (some h0.next) 0 N (some N)∧ρ 26= .sl id off ls.length c∧ρ 27= .int .i64 (ls.length:Int)∧ρ 28= .int .i64 (j:Int)∧IsG h0.next h' (.sl (some h0.next) 0 N (some N)) (rowF (fun i=>sumL p ls j i) N)) ls.length
   ⟨by omega,hw3,hl3,by first|rfl|trivial|assumption,by first|rfl|trivial|assumption,by first|rfl|trivial|assumption,by first|rfl|trivial|assumption,by first|rfl|trivial|assumption,by rw[show(fun i=>sumL p ls 0 i)=fun _=>0 from funext fun i=>by unfold sumL;simp,rowF_rep];exact hs0⟩ (fun i ρ h hI=>hI.1) ?_
  rintro j ρ h3 ⟨hj,hw3,hle,q0,q8,q26,q27,q28,hs⟩
  rcases Nat.lt_or_ge j ls.length with c1|c1
  ·obtain⟨ii,a,rfl,_,hg,va,e1,hva⟩:=(hv.mono IsNl.grows hle).at1 c1
   injection e1 with e1
   subst e1
   obtain⟨ia,oa,ca,rfl⟩:=hva.form
   have hln:=hNl _ (List.getElem_mem c1)
   have hva0:IsN h0 (.sl ia oa ls[j].length ca) ls[j]:=by
    obtain⟨ii',a',e5,_,hg',va',e1',hva'⟩:=hv.at1 c1
    injection e5 with e5
    subst e5
    injection e1' with e1'
    subst e1'
    have:=H.get_le hle hg'
    rw[hg] at this
    injection this with this
    rw[this]
    exact hva'
   have hsu:=fun i=>sumL_succ (p:=p) c1 i
   generalize ls[j]=zl at*
   simp only[go_sem,q0,q8,q26,q27,q28,ltT c1]
   refine⟨by omega,by omega, ?_⟩
   simp only[go_sem,hg,q0,q8,q26,q27,q28]
   refine loop_cut2 (fun ρ h'=>h'.wf∧h0.le h'∧ρ 0= .ptr (some (e,0))∧ρ 8= .sl (some h0.next) 0 N (some N)∧ρ 26= .sl (some ii) off ls.length c∧ρ 27= .int .i64 (ls.length:Int)∧ρ 28= .int .i64 (j:Int)∧IsG h0.next h' (.sl (some h0.next) 0 N (some N)) (rowF (fun i=>sumL p ls (j+1) i) N)) ?_ ?_
   ·refine for_rule (fun k ρ h'=>k≤zl.length∧h'.wf∧h0.le h'∧ρ 0= .ptr (some (e,0))∧ρ 8= .sl (some h0.next) 0 N (some N)∧ρ 26= .sl (some ii) off ls.length c∧ρ 27= .int .i64 (ls.length:Int)∧ρ 28= .int .i64 (j:Int)∧ρ 32= .sl ia oa zl.length ca∧ρ 33= .int .i64 (zl.length:Int)∧ρ 34= .int .i64 (k:Int)∧IsG h0.next h' (.sl (some h0.next) 0 N (some N)) (rowF (fun i=>if i<k then sumL p ls (j+1) i else sumL p ls j i) N)) zl.length
     ⟨by omega,hw3,hle,by first|rfl|trivial|assumption,by first|rfl|trivial|assumption,by first|rfl|trivial|assumption,by first|rfl|trivial|assumption,by first|rfl|trivial|assumption,by first|rfl|trivial|assumption,by first|rfl|trivial|assumption,by first|rfl|trivial|assumption,by
      rw[show rowF (fun i=>if i<0 then sumL p ls (j+1) i else sumL p ls j i) N=rowF (fun i=>sumL p ls j i) N from rowF_ext fun i _=>if_neg (by omega)]
      exact hs⟩ (fun i ρ h hI=>hI.1) ?_
    clear hs hle hw3 h3 q0 q8 q26 q27 q28 hg hva
    rintro k ρ h3 ⟨hk2,hw3,hle,q0,q8,q26,q27,q28,q32,q33,q34,hs⟩
    rcases Nat.lt_or_ge k zl.length with c2|c2
    ·obtain⟨jj,rfl,_,hgb⟩:=(hva0.mono hle).at c2
     rw[←getD_in c2] at hgb
     obtain⟨mi,hgi,hm⟩:=hr.mono hle
     have hkN:k<N:=by omega
     obtain⟨io',rr,e0',hbi,_,hrr,ho,hcl,hput⟩:=hs.put hw3 (j:=k) (by rw[rowF_len];exact hkN)
     injection e0' with e0'
     subst e0'
     obtain⟨kk,e0',_,hgo⟩:=hs.isN.at (j:=k) (by rw[rowF_len];exact hkN)
     injection e0' with e0'
     subst e0'
     rw[rowF_get hkN,Nat.zero_add,if_neg (by omega)] at hgo
     have hput:=hput (sumL p ls (j+1) k)
     rw[rowF_set (G:=fun i=>if i<k+1 then sumL p ls (j+1) i else sumL p ls j i) (if_pos (by omega)) (fun i _ hi=>by
      show(if i<k+1 then _ else _)=if i<k then _ else _
      by_cases c3:i<k
      ·rw[if_pos c3,if_pos (by omega)]
      ·rw[if_neg c3,if_neg (by omega)])] at hput
     simp only[go_sem,q0,q8,q26,q27,q28,q32,q33,q34,ltT c2]
     refine⟨by omega,by omega, ?_⟩
     simp only[go_sem,hgb,q0,q8,q26,q27,q28,q32,q33,q34,hgi]
     refine⟨by omega,by omega, ?_⟩
     simp only[go_sem,hgo,q0,q8,q26,q27,q28,q32,q33,q34,hgi]
     refine mAdd_calls hm ?_
     rw[←hsu]
     simp only[go_sem,q0,q8,q26,q27,q28,q32,q33,q34]
     refine⟨by omega,by omega, ?_⟩
     simp only[go_sem,hrr]
     refine⟨ho,hcl, ?_⟩
     simp only[go_sem,q0,q8,q26,q27,q28,q32,q33,q34,incI (i:=k) (by omega)]
     exact⟨by omega,H.wf_set hw3 (H.row_lt hw3 hrr) _,H.le_set hw hle hbi _,by first|rfl|trivial|assumption,by first|rfl|trivial|assumption,by first|rfl|trivial|assumption,by first|rfl|trivial|assumption,by first|rfl|trivial|assumption,by first|rfl|trivial|assumption,by first|rfl|trivial|assumption,by first|rfl|trivial|assumption,hput⟩
    ·obtain rfl:k=zl.length:=by omega
     simp only[go_sem,q33,q34,ltF (Nat.le_refl zl.length)]
     rw[rowF_ext (G:=fun i=>sumL p ls (j+1) i) (fun i _=>by
      show(if i<zl.length then _ else _)=_
      split
      ·rfl
      ·rw[hsu,getD_out (by omega),Nat.add_zero]
       unfold sumL
       rw[Nat.mod_mod])] at hs
     exact⟨hw3,hle,q0,q8,q26,q27,q28,hs⟩
   ·clear hs hle hw3 h3 q0 q8 q26 q27 q28 hg hva
    rintro ρ h3 ⟨hw3,hle,q0,q8,q26,q27,q28,hs⟩
    simp only[go_sem,q0,q8,q26,q27,q28,incI (i:=j) (by omega)]
    exact⟨by omega,hw3,hle,by first|rfl|trivial|assumption,by first|rfl|trivial|assumption,by first|rfl|trivial|assumption,by first|rfl|trivial|assumption,by first|rfl|trivial|assumption,hs⟩
  ·obtain rfl:j=ls.length:=by omega
   simp only[go_sem,q27,q28,ltF (Nat.le_refl ls.length)]
   exact⟨hw3,hle,q8,hs⟩
 rintro ρ h4 ⟨hw',hle,q8,hs⟩
 simp only[go_sem,q8]
 refine ptrim_calls hs (by rw[rowF_len];omega) fun r zs hy ht hyl=> ?_
 simp only[go_sem]
 rw[rowF_len] at hyl
 exact fun _=>hk r zs h4 hw' hle hy (ht.congr fun i=>by
  rw[rowF_getD]
  split
  ·rfl
  ·unfold sumL
   rw[show((ls.take ls.length).map fun l=>l.getD i 0).sum=0 from ?_,Nat.zero_mod]
   rw[List.take_length]
   refine sum_nil _ fun x hx=> ?_
   obtain⟨l,hl5,rfl⟩:=List.mem_map.1 hx
   exact getD_out (by have:=hNl l hl5;omega)) hyl
end
section
variable {p:Nat} {h:H} {K:AV→H→Prop}
theorem pNew_calls (hp:3≤p∧p<4611686018427387904) (ho:p%2=1) (hi:isPr p=true) (hk:∀e h',h'.wf→h.le h'→RG h' e p→K (.tup [.ptr (some (e,0)), .int .i64 0]) h'):ACalls Tryd.prog 9 [.int .u64 (p:Int)] h K:=by
 refine in_polyp_New (by simp) fun hw=> ?_
 unfold c_polyp_New
 simp only[go_sem]
 refine pMod_calls hp ho hi fun i h1 hw1 hl1 _ hm=> ?_
 simp only[go_sem,show((0:Int) !=0)=false from rfl,show abuild [.ptr none] [(0,1, .ptr (some (i,0)))]=some [.ptr (some (i,0))] from rfl]
 simp only[AV.held,AV.cells,true_and,go_sem]
 have hl2:=H.le_new hw1 (H.le_refl h1) ⟨some 31,1,[AV.ptr (some (i,0))]⟩
 exact fun hw'=>hk _ _ hw' (H.le_trans hl1 hl2) ⟨i,H.get_of (H.rows_new _ _),hm.mono hl2⟩
theorem pMod_none (hp:p<18446744073709551616) (h0:¬(p%2=1∧p<4611686018427387904∧isPr p=true)) (hk:∀h',h'.wf→h.le h'→K (.tup [.ptr none, .int .i64 3]) h'):ACalls Tryd.prog 46 [.int .u64 (p:Int)] h K:=by
 refine in_prime_Mod (by simp) fun hw=> ?_
 unfold c_prime_Mod
 have e2:((p:Int)).tmod 2=((p%2:Nat):Int):=tmodN (b:=2)
 by_cases c1:p%2=0
 ·simp only[go_sem,e2,eqT (show((p%2:Nat):Int)=0 by omega)]
  exact⟨by decide,fun hw'=>hk h hw' (H.le_refl h)⟩
 by_cases c2:4611686018427387904≤p
 ·simp only[go_sem,e2,eqF (show((p%2:Nat):Int)≠0 by omega),show decide (4611686018427387904≤(p:Int))=true from decide_eq_true (by omega)]
  exact⟨by decide,fun hw'=>hk h hw' (H.le_refl h)⟩
 ·simp only[go_sem,e2,eqF (show((p%2:Nat):Int)≠0 by omega),show decide (4611686018427387904≤(p:Int))=false from decide_eq_false (by omega)]
  refine⟨by decide, ?_⟩
  refine Is_calls (by omega) fun h1 hw1 hl1=> ?_
  rw[show isPr p=false by
   cases hi:isPr p
   ·rfl
   ·exact absurd ⟨by omega,by omega,hi⟩ h0]
  simp only[go_sem,Bool.not_false]
  exact fun hw'=>hk h1 hw' hl1
theorem pNew_none (hp:p<18446744073709551616) (h0:¬(p%2=1∧p<4611686018427387904∧isPr p=true)) (hk:∀h',h'.wf→h.le h'→K (.tup [.ptr none, .int .i64 3]) h'):ACalls Tryd.prog 9 [.int .u64 (p:Int)] h K:=by
 refine in_polyp_New (by simp) fun hw=> ?_
 unfold c_polyp_New
 simp only[go_sem]
 refine pMod_none hp h0 fun h1 hw1 hl1=> ?_
 simp only[go_sem,show((3:Int) !=0)=true from rfl]
 exact fun hw'=>hk h1 hw' hl1
end
end
section
section
variable {p a b:Nat} {xs ys os:List Nat} {v va vb:AV} {h:H} {K:AV→H→Prop}
theorem rAdd_math (hp:0<p):(p-b%p≤a%p→a%p-(p-b%p)=(a+b)%p)∧(a%p<p-b%p→a%p+b%p=(a+b)%p):=by
 have ha:=Nat.mod_lt a hp
 have hb:=Nat.mod_lt b hp
 rw[Nat.add_mod a b p]
 generalize a%p=x at*
 generalize b%p=y at*
 refine⟨fun h=> ?_,fun h=>(Nat.mod_eq_of_lt (by omega)).symm⟩
 rw[show x+y=x-(p-y)+p by omega,Nat.add_mod_right,Nat.mod_eq_of_lt (by omega)]
theorem r6Add_calls (hp:0<p) (hpB:p<4611686018427387904) (hk:K (.int .u64 ((a+b)%p:Nat)) h):ACalls Tryd.prog 55 [.int .u64 (a:Int), .int .u64 (b:Int), .int .u64 (p:Int)] h K:=by
 refine in_ref06_Add (by simp) fun hw=> ?_
 unfold c_ref06_Add
 have ha:=Nat.mod_lt a hp
 have hb:=Nat.mod_lt b hp
 obtain⟨m1,m2⟩:=rAdd_math (a:=a) (b:=b) hp
 simp only[go_sem,tmodN]
 refine⟨by omega,by omega, ?_⟩
 generalize a%p=x at*
 generalize b%p=y at*
 generalize (a+b)%p=z at*
 have e1:IntKind.u64.wrap ((p:Int)-(y:Int))=((p-y:Nat):Int):=by rw[wU]<;>omega
 rcases Nat.lt_or_ge x (p-y) with c|c
 ·simp only[go_sem,e1,leF c,show IntKind.u64.wrap ((x:Int)+(y:Int))=(z:Int) by rw[wU]<;>have:=m2 c<;>omega]
  exact fun _=>hk
 ·simp only[go_sem,e1,leT c,show IntKind.u64.wrap ((x:Int)-((p-y:Nat):Int))=(z:Int) by rw[wU]<;>have:=m1 c<;>omega]
  exact fun _=>hk
theorem r6Sub_calls (hp:0<p) (hpB:p<4611686018427387904) (hk:K (.int .u64 ((a%p+p-b%p)%p:Nat)) h):ACalls Tryd.prog 53 [.int .u64 (a:Int), .int .u64 (b:Int), .int .u64 (p:Int)] h K:=by
 refine in_ref06_Sub (by simp) fun hw=> ?_
 unfold c_ref06_Sub
 have ha:=Nat.mod_lt a hp
 have hb:=Nat.mod_lt b hp
 simp only[go_sem,tmodN]
 refine⟨by omega,by omega, ?_⟩
 generalize a%p=x at*
 generalize b%p=y at*
 rcases Nat.lt_or_ge x y with c|c
 ·have ez:(x+p-y)%p=x+p-y:=Nat.mod_eq_of_lt (by omega)
  rw[ez] at hk
  simp only[go_sem,leF c,show IntKind.u64.wrap ((p:Int)-(y:Int))=((p-y:Nat):Int) by rw[wU]<;>omega,show IntKind.u64.wrap ((x:Int)+((p-y:Nat):Int))=((x+p-y:Nat):Int) by rw[wU]<;>omega]
  exact fun _=>hk
 ·have ez:(x+p-y)%p=x-y:=by rw[show x+p-y=x-y+p by omega,Nat.add_mod_right,Nat.mod_eq_of_lt (by omega)]
  rw[ez] at hk
  simp only[go_sem,leT c,show IntKind.u64.wrap ((x:Int)-(y:Int))=((x-y:Nat):Int) by rw[wU]<;>omega]
  exact fun _=>hk
theorem r6Mul_calls (hp:0<p) (hpB:p<18446744073709551616) (hk:K (.int .u64 (a*b%p:Nat)) h):ACalls Tryd.prog 56 [.int .u64 (a:Int), .int .u64 (b:Int), .int .u64 (p:Int)] h K:=by
 refine in_ref06_Mul (by simp) fun hw=> ?_
 unfold c_ref06_Mul
 have ha:=Nat.mod_lt a hp
 have hb:=Nat.mod_lt b hp
 rw[Nat.mul_mod] at hk
 simp only[go_sem,tmodN]
 refine⟨by omega,by omega, ?_⟩
 generalize a%p=x at*
 generalize b%p=y at*
 refine Mul64_calls (by omega) (by omega) ?_
 simp only[go_sem]
 have hlt:x*y/18446744073709551616<p:=by
  rw[Nat.div_lt_iff_lt_mul (by omega)]
  exact Nat.mul_lt_mul_of_lt_of_le ha (by omega) (by omega)
 have e:x*y/18446744073709551616*18446744073709551616+x*y%18446744073709551616=x*y:=by omega
 refine Div64_calls hlt (Nat.mod_lt _ (by omega)) (by omega) ?_
 rw[e]
 simp only[go_sem]
 exact fun _=>hk
theorem r6Reds_calls (hp:0<p) (hv:IsN h v xs) (hl:xs.length≤4000000) (hk:∀r h',h'.wf→h.le h'→IsG h.next h' r (rowF (fun i=>xs.getD i 0%p) xs.length)→K r h'):ACalls Tryd.prog 63 [v, .int .u64 (p:Int)] h K:=by
 obtain⟨id,off,c,rfl⟩:=hv.form
 refine in_ref06_Reds (by simp) fun hw=> ?_
 unfold c_ref06_Reds
 simp only[go_sem]
 refine⟨by omega,by omega,by omega, ?_⟩
 have hl2:=H.le_new hw (H.le_refl h) ⟨some 22,1,zs [AV.int .u64 0] xs.length⟩
 refine for_rule (fun j ρ h'=>j≤xs.length∧h'.wf∧h.le h'∧ρ 0= .sl id off xs.length c∧ρ 1= .int .u64 (p:Int)∧ρ 5= .sl (some h.next) 0 xs.length (some xs.length)∧ρ 6= .int .i64 (j:Int)∧IsG h.next h' (.sl (some h.next) 0 xs.length (some xs.length)) (rowF (upF (fun i=>xs.getD i 0%p) 0 j) xs.length)) xs.length
  ⟨by omega,H.wf_new hw _,hl2,by first|rfl|trivial|assumption,by first|rfl|trivial|assumption,by first|rfl|trivial|assumption,by first|rfl|trivial|assumption,by rw[upF_zero];exact IsG.made (Nat.le_refl _) _⟩ (fun i ρ h hI=>hI.1) ?_
 rintro j ρ h' ⟨hj,hw',hle,q0,q1,q5,q6,hs⟩
 rcases Nat.lt_or_ge j xs.length with h3|h3
 ·obtain⟨ii,rfl,_,hg⟩:=(hv.mono hle).at h3
  obtain⟨io',rr,e0',hbi,_,hrr,ho,hcl,hput⟩:=hs.put hw' (j:=j) (by rw[rowF_len];exact h3)
  injection e0' with e0'
  subst e0'
  have hput:=hput ((fun i=>xs.getD i 0%p) j)
  rw[upF_step] at hput
  rw[←getD_in h3] at hg
  simp only[go_sem,q0,q1,q5,q6,ltT h3]
  refine⟨by omega,by omega, ?_⟩
  simp only[go_sem,hg,q0,q1,q5,q6,tmodN]
  refine⟨by omega,by omega,by omega, ?_⟩
  simp only[go_sem,hrr]
  refine⟨ho,hcl, ?_⟩
  simp only[go_sem,q0,q1,q5,q6,incI (i:=j) (by omega)]
  exact⟨by omega,H.wf_set hw' (H.row_lt hw' hrr) _,H.le_set hw hle hbi _,by first|rfl|trivial|assumption,by first|rfl|trivial|assumption,by first|rfl|trivial|assumption,by first|rfl|trivial|assumption,hput⟩
 ·obtain rfl:j=xs.length:=by omega
  rw[upF_all] at hs
  simp only[go_sem,q0,q5,q6,ltF (Nat.le_refl xs.length)]
  exact fun _=>hk _ h' hw' hle hs
theorem r6Conv_calls {n:Nat} (hp:0<p) (hpB:p<4611686018427387904) (ha:IsN h va xs) (hb:IsN h vb ys) (hlx:xs.length≤1000000) (hly:ys.length≤1000000) (hn:n=xs.length+ys.length) (hk:∀r h',h'.wf→h.le h'→IsG h.next h' r (rowF (fun k=>part (fun i=>xs.getD i 0) (fun i=>ys.getD i 0) xs.length k%p) n)→K r h'):ACalls Tryd.prog 51 [va,vb, .int .i64 (n:Int), .int .u64 (p:Int)] h K:=by
 obtain⟨ida,offa,ca,rfl⟩:=ha.form
 obtain⟨idb,offb,cb,rfl⟩:=hb.form
 refine in_ref06_Conv (by simp) fun hw=> ?_
 unfold c_ref06_Conv
 obtain⟨f,hf⟩:∃f,f=fun i=>xs.getD i 0:=⟨_,rfl⟩
 obtain⟨g,hg⟩:∃g,g=fun i=>ys.getD i 0:=⟨_,rfl⟩
 have hg0:∀i,ys.length≤i→g i=0:=fun i hi=>by rw[hg];exact getD_out hi
 rw[←hf,←hg] at hk
 simp only[go_sem]
 refine⟨by omega,by omega,by omega, ?_⟩
 have hl3:=H.le_new hw (H.le_refl h) ⟨some 22,1,zs [AV.int .u64 0] n⟩
 have hw3:=H.wf_new hw ⟨some 22,1,zs [AV.int .u64 0] n⟩
 refine for_rule (fun i ρ h'=>i≤xs.length∧h'.wf∧h.le h'∧ρ 0= .sl ida offa xs.length ca∧ρ 1= .sl idb offb ys.length cb∧ρ 2= .int .i64 (n:Int)∧ρ 3= .int .u64 (p:Int)∧ρ 9= .sl (some h.next) 0 n (some n)∧ρ 10= .int .i64 (i:Int)∧IsG h.next h' (.sl (some h.next) 0 n (some n)) (rowF (fun k=>part f g i k%p) n)) xs.length
  ⟨by omega,hw3,hl3,by first|rfl|trivial|assumption,by first|rfl|trivial|assumption,by first|rfl|trivial|assumption,by first|rfl|trivial|assumption,by first|rfl|trivial|assumption,by first|rfl|trivial|assumption,by rw[show(fun k=>part f g 0 k%p)=fun _=>0 from funext fun k=>Nat.zero_mod p,rowF_rep];exact IsG.made (Nat.le_refl _) _⟩ (fun i ρ h hI=>hI.1) ?_
 rintro i ρ h3 ⟨hi,hw3,hle,q0,q1,q2,q3,q9,q10,hs⟩
 rcases Nat.lt_or_ge i xs.length with c1|c1
 ·obtain⟨ii,rfl,_,hga⟩:=ha.at c1
  have hfi:xs[i]=f i:=by rw[hf];exact(getD_in c1).symm
  rw[hfi] at hga
  simp only[go_sem,q0,q1,q2,q3,q9,q10,ltT c1]
  refine loop_cut2 (fun ρ h'=>h'.wf∧h.le h'∧ρ 0= .sl (some ii) offa xs.length ca∧ρ 1= .sl idb offb ys.length cb∧ρ 2= .int .i64 (n:Int)∧ρ 3= .int .u64 (p:Int)∧ρ 9= .sl (some h.next) 0 n (some n)∧ρ 10= .int .i64 (i:Int)∧IsG h.next h' (.sl (some h.next) 0 n (some n)) (rowF (fun k=>part f g (i+1) k%p) n)) ?_ ?_
  ·refine for_rule (fun j ρ h'=>j≤ys.length∧h'.wf∧h.le h'∧ρ 0= .sl (some ii) offa xs.length ca∧ρ 1= .sl idb offb ys.length cb∧ρ 2= .int .i64 (n:Int)∧ρ 3= .int .u64 (p:Int)∧ρ 9= .sl (some h.next) 0 n (some n)∧ρ 10= .int .i64 (i:Int)∧ρ 11= .int .i64 (j:Int)∧IsG h.next h' (.sl (some h.next) 0 n (some n)) (rowF (fun k=>partJ f g i j k%p) n)) ys.length
    ⟨by omega,hw3,hle,by first|rfl|trivial|assumption,by first|rfl|trivial|assumption,by first|rfl|trivial|assumption,by first|rfl|trivial|assumption,by first|rfl|trivial|assumption,by first|rfl|trivial|assumption,by first|rfl|trivial|assumption,by rw[show(fun k=>partJ f g i 0 k%p)=fun k=>part f g i k%p from funext fun k=>by rw[partJ_zero]];exact hs⟩ (fun i ρ h hI=>hI.1) ?_
   clear hs hle hw3 h3 q0 q1 q2 q3 q9 q10
   rintro j ρ h3 ⟨hj,hw3,hle,q0,q1,q2,q3,q9,q10,q11,hs⟩
   rcases Nat.lt_or_ge j ys.length with c2|c2
   ·have hga3:=H.get_le hle hga
    obtain⟨jj,rfl,_,hgb⟩:=(hb.mono hle).at c2
    have hgj:ys[j]=g j:=by rw[hg];exact(getD_in c2).symm
    rw[hgj] at hgb
    have hij:i+j<n:=by omega
    obtain⟨io',rr,e0',hbi,_,hrr,ho,hcl,hput⟩:=hs.put hw3 (j:=i+j) (by rw[rowF_len];exact hij)
    injection e0' with e0'
    subst e0'
    obtain⟨kk,e0',_,hgo⟩:=hs.isN.at (j:=i+j) (by rw[rowF_len];exact hij)
    injection e0' with e0'
    subst e0'
    rw[rowF_get hij,Nat.zero_add] at hgo
    have hval:(partJ f g i j (i+j)%p+f i*g j%p)%p=partJ f g i (j+1) (i+j)%p:=by
     rw[←Nat.add_mod,partJ_here]
    have hput:=hput (partJ f g i (j+1) (i+j)%p)
    rw[rowF_set (G:=fun k=>partJ f g i (j+1) k%p) rfl (fun k _ hk=>by show partJ f g i (j+1) k%p=_;rw[partJ_other hk])] at hput
    have eij:IntKind.i64.wrap ((i:Int)+(j:Int))=((i+j:Nat):Int):=by rw[wI]<;>omega
    have emod:((i+j:Nat):Int).tmod (n:Int)=((i+j:Nat):Int):=by rw[tmodN,Nat.mod_eq_of_lt hij]
    simp only[go_sem,q0,q1,q2,q3,q9,q10,q11,ltT c2,eij,emod]
    refine⟨by omega,by omega,by omega, ?_⟩
    simp only[go_sem,hgo,q0,q1,q2,q3,q9,q10,q11]
    refine⟨by omega,by omega, ?_⟩
    simp only[go_sem,hgo,hga3,q0,q1,q2,q3,q9,q10,q11]
    refine⟨by omega,by omega, ?_⟩
    simp only[go_sem,hgo,hga3,hgb,q0,q1,q2,q3,q9,q10,q11]
    refine r6Mul_calls hp (by omega) ?_
    simp only[go_sem,hgo,hga3,hgb,q0,q1,q2,q3,q9,q10,q11,true_and]
    refine r6Add_calls hp hpB ?_
    rw[hval]
    simp only[go_sem,q0,q1,q2,q3,q9,q10,q11]
    refine⟨by omega,by omega, ?_⟩
    simp only[go_sem,hrr]
    refine⟨ho,hcl, ?_⟩
    simp only[go_sem,q0,q1,q2,q3,q9,q10,q11,incI (i:=j) (by omega)]
    exact⟨by omega,H.wf_set hw3 (H.row_lt hw3 hrr) _,H.le_set hw hle hbi _,by first|rfl|trivial|assumption,by first|rfl|trivial|assumption,by first|rfl|trivial|assumption,by first|rfl|trivial|assumption,by first|rfl|trivial|assumption,by first|rfl|trivial|assumption,by first|rfl|trivial|assumption,hput⟩
   ·obtain rfl:j=ys.length:=by omega
    simp only[go_sem,q1,q11,ltF (Nat.le_refl ys.length)]
    rw[show(fun k=>partJ f g i ys.length k%p)=fun k=>part f g (i+1) k%p from funext fun k=>by rw[partJ_full hg0]] at hs
    exact⟨hw3,hle,q0,by first|rfl|trivial|assumption,q2,q3,q9,q10,hs⟩
  ·clear hs hle hw3 h3 q0 q1 q2 q3 q9 q10
   rintro ρ h3 ⟨hw3,hle,q0,q1,q2,q3,q9,q10,hs⟩
   simp only[go_sem,q0,q1,q2,q3,q9,q10,incI (i:=i) (by omega)]
   exact⟨by omega,hw3,hle,by first|rfl|trivial|assumption,by first|rfl|trivial|assumption,by first|rfl|trivial|assumption,by first|rfl|trivial|assumption,by first|rfl|trivial|assumption,by first|rfl|trivial|assumption,hs⟩
 ·obtain rfl:i=xs.length:=by omega
  simp only[go_sem,q0,q9,q10,ltF (Nat.le_refl xs.length)]
  exact fun _=>hk _ h3 hw3 hle hs
theorem r6Gcd_calls (hk:K (.int .u64 (Nat.gcd a b:Nat)) h):ACalls Tryd.prog 72 [.int .u64 (a:Int), .int .u64 (b:Int)] h K:=by
 refine in_ref06_Gcd (by simp) fun hw=> ?_
 unfold c_ref06_Gcd
 simp only[go_sem]
 refine⟨fun s ρ h'=>h'=h∧ρ 1= .int .u64 (s:Int)∧∃r:Nat,ρ 0= .int .u64 (r:Int)∧Nat.gcd r s=Nat.gcd a b,b,⟨rfl,by first|rfl|trivial|assumption,a,by first|rfl|trivial|assumption,rfl⟩, ?_⟩
 rintro s ρ h' ⟨rfl,q1,r,q0,hg⟩
 rcases Nat.eq_zero_or_pos s with rfl|hpos
 ·rw[Nat.gcd_zero_right] at hg
  subst hg
  simp only[go_sem,q0,q1,show decide ((0:Int)<((0:Nat):Int))=false from rfl]
  exact fun _=>hk
 ·have hgg:Nat.gcd s (r%s)=Nat.gcd a b:=by rw[←hg,Nat.gcd_comm r s,Nat.gcd_rec s r,Nat.gcd_comm]
  simp only[go_sem,q0,q1,show decide ((0:Int)<(s:Int))=true from decide_eq_true (by omega),tmodN]
  exact⟨by omega,r%s,Nat.mod_lt _ hpos,by first|rfl|trivial|assumption,by first|rfl|trivial|assumption,s,by first|rfl|trivial|assumption,hgg⟩
theorem r6Inv_calls (hp:1<p) (hpB:p<4611686018427387904) (hk:∀c ok,InvOf p a c→K (.tup [.int .u64 (c:Nat), .bool ok]) h):ACalls Tryd.prog 58 [.int .u64 (a:Int), .int .u64 (p:Int)] h K:=by
 refine in_ref06_Inv (by simp) fun hw=> ?_
 unfold c_ref06_Inv
 have hap:=Nat.mod_lt a (show 0<p by omega)
 simp only[go_sem,tmodN]
 refine⟨by omega, ?_⟩
 refine r6Gcd_calls ?_
 by_cases hG:Nat.gcd (a%p) p=1
 ·simp only[go_sem,neF (show((Nat.gcd (a%p) p:Nat):Int)=1 by rw[hG];rfl)]
  refine⟨fun s ρ h'=>h'=h∧ρ 1= .int .u64 (p:Int)∧ρ 7= .int .u64 (s:Int)∧s<p∧∃r x y:Nat,ρ 6= .int .u64 (r:Int)∧ρ 8= .int .u64 (x:Int)∧ρ 9= .int .u64 (y:Int)∧r≤p∧x<p∧y<p∧Nat.gcd r s=1∧(a*x)%p=r%p∧(a*y)%p=s%p,a%p,
   ⟨rfl,by first|rfl|trivial|assumption,by first|rfl|trivial|assumption,hap,p,0,1,by first|rfl|trivial|assumption,by first|rfl|trivial|assumption,by first|rfl|trivial|assumption,by omega,by omega,by omega,by rw[Nat.gcd_comm];exact hG,by simp,by simp⟩, ?_⟩
  rintro s ρ h' ⟨rfl,q1,q7,hsp,r,x,y,q6,q8,q9,hr,hx,hy,hg,hax,hay⟩
  rcases Nat.eq_zero_or_pos s with rfl|hpos
  ·rw[Nat.gcd_zero_right] at hg
   subst hg
   simp only[go_sem,q1,q7,q6,q8,q9,show decide ((0:Int)<((0:Nat):Int))=false from rfl,tmodN,Nat.mod_eq_of_lt hx]
   exact⟨by omega,fun _=>hk x true ⟨hx,fun _=>by rw[hax,Nat.mod_eq_of_lt hp],fun hn=>absurd (by rw[Nat.gcd_comm];exact hG) hn⟩⟩
  ·have hdm:=Nat.div_add_mod r s
   have hms:=Nat.mod_lt r hpos
   have hqr:r/s≤r:=Nat.div_le_self _ _
   have hgg:Nat.gcd s (r%s)=1:=by rw[←hg,Nat.gcd_comm r s,Nat.gcd_rec s r,Nat.gcd_comm]
   have etd:(r:Int).tdiv (s:Int)=((r/s:Nat):Int):=tdivN
   generalize r/s=q at*
   generalize r%s=r' at*
   have e1:IntKind.u64.wrap ((q:Int))=(q:Int):=by rw[wU]<;>omega
   have hqs:q*s=r-r':=by rw[Nat.mul_comm];omega
   have e2:IntKind.u64.wrap ((q:Int)*(s:Int))=((r-r':Nat):Int):=by rw[←Int.natCast_mul,hqs,wU]<;>omega
   have e3:IntKind.u64.wrap ((r:Int)-((r-r':Nat):Int))=(r':Int):=by rw[wU]<;>omega
   simp only[go_sem,q1,q7,q6,q8,q9,show decide ((0:Int)<(s:Int))=true from decide_eq_true (by omega),etd,e1,e2,e3]
   refine⟨by omega, ?_⟩
   refine r6Mul_calls (by omega) (by omega) ?_
   simp only[go_sem,q1,q7,q6,q8,q9]
   refine r6Sub_calls (by omega) hpB ?_
   simp only[go_sem,q1,q7,q6,q8,q9]
   refine⟨r',hms,by first|rfl|trivial|assumption,by first|rfl|trivial|assumption,by first|rfl|trivial|assumption,by omega,s,y,_,by first|rfl|trivial|assumption,by first|rfl|trivial|assumption,by first|rfl|trivial|assumption,by omega,hy,Nat.mod_lt _ (by omega),hgg,hay, ?_⟩
   have hne:NeZero p:=⟨by omega⟩
   have z1:zp p a*zp p x=zp p r:=by rw[←zp_mul];exact zp_iff.2 hax
   have z2:zp p a*zp p y=zp p s:=by rw[←zp_mul];exact zp_iff.2 hay
   have z3:zp p r=zp p s*zp p q+zp p r':=by rw[←zp_mul,←zp_add,hdm]
   refine zp_iff.1 ?_
   have hm2:q*y%p%p≤x%p+p:=by have:=Nat.mod_lt (q*y%p) (show 0<p by omega);omega
   rw[zp_mul,zp_mod,zp_sub hm2,zp_add,zp_self,zp_mod,zp_mod,zp_mod,zp_mul]
   grind
 ·simp only[go_sem,neT (show((Nat.gcd (a%p) p:Nat):Int)≠1 from fun e=>hG (by exact_mod_cast e))]
  exact fun _=>hk 0 false ⟨by omega,fun hn=>absurd (by rw[Nat.gcd_comm];exact hn) hG,fun _=>rfl⟩
end
end
section
theorem cau_g0 {f g:Nat→Nat} (hg:∀i,g i=0):∀k,cau f g k=0:=by
 intro k
 induction k generalizing f with
 |zero=>rw[cau,hg,Nat.mul_zero]
 |succ k ih=>rw[cau,hg,ih,Nat.mul_zero]
theorem rowF_snoc {α:Type} {F:Nat→α} {n:Nat}:rowF F n++[F n]=rowF F (n+1):=by
 unfold rowF
 rw[List.range_succ,List.map_append]
 rfl
section
variable {p a b x:Nat} {xs ys os:List Nat} {v va vb:AV} {h:H} {K:AV→H→Prop}
theorem r3Norm_calls (hp:0<p) (hv:IsN h v xs) (hl:xs.length≤4000000) (hk:∀r ys h',h'.wf→h.le h'→IsG h.next h' r ys→TrimF (fun i=>xs.getD i 0%p) ys→ys.length≤xs.length→K r h'):ACalls Tryd.prog 40 [v, .int .u64 (p:Int)] h K:=by
 refine in_ref23_Norm (by simp) fun hw=> ?_
 unfold c_ref23_Norm
 simp only[go_sem]
 refine r6Reds_calls hp hv hl fun r h1 hw1 hl1 hs=> ?_
 obtain⟨id,c,rfl⟩:=hs.form
 have hcg:∀i,(rowF (fun i=>xs.getD i 0%p) xs.length).getD i 0=xs.getD i 0%p:=fun i=>by
  rw[rowF_getD]
  split
  ·rfl
  ·rw[getD_out (by omega),Nat.zero_mod]
 have hlen:(rowF (fun i=>xs.getD i 0%p) xs.length).length=xs.length:=rowF_len
 generalize rowF (fun i=>xs.getD i 0%p) xs.length=os at*
 simp only[go_sem]
 refine⟨fun k ρ h2=>h2=h1∧ρ 5= .sl id 0 k c∧k≤os.length∧(∀x∈os.drop k,x=0),os.length,⟨rfl,by first|rfl|trivial|assumption,Nat.le_refl _,by simp⟩, ?_⟩
 rintro k ρ h2 ⟨rfl,q0,hk1,hz⟩
 have hvk:IsG h.next h2 (.sl id 0 k c) (os.take k):=hs.cut0 hk1
 have fin:(∀x,(os.take k).getLast? =some x→x≠0)→h2.wf→K (.sl id 0 k c) h2:=fun hl hw'=>hk _ _ _ hw' hl1 hvk ((TrimG.of (z:=0) hz hl).congr hcg) (by rw[List.length_take];omega)
 rcases Nat.eq_zero_or_pos k with h0|h0
 ·subst h0
  simp only[go_sem,q0,show decide ((0:Int)<((0:Nat):Int))=false from rfl]
  exact fin (by simp)
 ·obtain⟨i,e7,_,hg⟩:=hs.isN.at (j:=k-1) (by omega)
  subst e7
  rw[Nat.zero_add] at hg
  have e1:IntKind.i64.wrap ((k:Int)-1)=((k-1:Nat):Int):=by rw[wI]<;>omega
  simp only[go_sem,q0,show decide ((0:Int)<(k:Int))=true from decide_eq_true (by omega),e1]
  refine⟨by omega,by omega, ?_⟩
  simp only[go_sem,hg]
  by_cases hx:os[k-1]=0
  ·simp only[go_sem,show(((os[k-1]:Nat):Int)==0)=true by simp[hx],q0,e1]
   refine⟨by omega, .inl (by omega),hvk.isN.row, ?_⟩
   refine⟨k-1,by omega,by first|rfl|trivial|assumption,by first|rfl|trivial|assumption,by omega,fun x hm=> ?_⟩
   rw[List.drop_eq_getElem_cons (by omega)] at hm
   rcases List.mem_cons.1 hm with rfl|hm
   ·exact hx
   ·exact hz x (by rwa[show k-1+1=k from by omega] at hm)
  ·simp only[go_sem,show(((os[k-1]:Nat):Int)==0)=false by simp;omega,q0]
   refine fin fun x hl=> ?_
   rw[List.getLast?_eq_getElem?,List.length_take,Nat.min_eq_left hk1,List.getElem?_take,if_pos (by omega),List.getElem?_eq_getElem (by omega)] at hl
   injection hl with hl
   omega
theorem r3Deg_calls (hp:0<p) (hv:IsN h v xs) (hl:xs.length≤1000000) (hk:∀ys h',h'.wf→h.le h'→TrimF (fun i=>xs.getD i 0%p) ys→K (.int .i64 ((ys.length:Int)-1)) h'):ACalls Tryd.prog 31 [v, .int .u64 (p:Int)] h K:=by
 refine in_ref23_Deg (by simp) fun hw=> ?_
 unfold c_ref23_Deg
 simp only[go_sem]
 refine r3Norm_calls hp hv (by omega) fun r ys h1 hw1 hl1 hs ht hyl=> ?_
 obtain⟨id,c,rfl⟩:=hs.form
 have e1:IntKind.i64.wrap ((ys.length:Int)-1)=(ys.length:Int)-1:=by rw[wI]<;>omega
 simp only[go_sem,e1]
 exact fun hw'=>hk ys h1 hw' hl1 ht
theorem r3at_calls {j:Nat} (hv:IsN h v xs) (hk:K (.int .u64 (xs.getD j 0:Nat)) h):ACalls Tryd.prog 59 [v, .int .i64 (j:Int)] h K:=by
 obtain⟨id,off,c,rfl⟩:=hv.form
 refine in_ref23_at (by simp) fun hw=> ?_
 unfold c_ref23_at
 rcases Nat.lt_or_ge j xs.length with h1|h1
 ·obtain⟨i,rfl,_,hg⟩:=hv.at h1
  simp only[go_sem,show decide ((j:Int)<0)=false from decide_eq_false (by omega),leF h1]
  refine⟨by omega,by omega, ?_⟩
  simp only[go_sem,hg]
  rw[getD_in h1] at hk
  exact fun _=>hk
 ·rw[getD_out h1] at hk
  simp only[go_sem,show decide ((j:Int)<0)=false from decide_eq_false (by omega),leT h1]
  exact fun _=>hk
theorem r3Add_calls (hp:0<p) (hpB:p<4611686018427387904) (ha:IsN h va xs) (hb:IsN h vb ys) (hlx:xs.length≤1000000) (hly:ys.length≤1000000) (hk:∀r zs h',h'.wf→h.le h'→IsG h.next h' r zs→TrimF (fun i=>(xs.getD i 0+ys.getD i 0)%p) zs→zs.length≤max xs.length ys.length→K r h'):ACalls Tryd.prog 34 [va,vb, .int .u64 (p:Int)] h K:=by
 obtain⟨id,off,c,rfl⟩:=ha.form
 obtain⟨id2,off2,c2,rfl⟩:=hb.form
 refine in_ref23_Add (by simp) fun hw=> ?_
 unfold c_ref23_Add
 obtain⟨n,hn⟩:∃n,n=max xs.length ys.length:=⟨_,rfl⟩
 simp only[go_sem,maxN,←hn]
 refine⟨by omega,by omega,by omega, ?_⟩
 have hl2:=H.le_new hw (H.le_refl h) ⟨some 22,1,zs [AV.int .u64 0] n⟩
 refine loop_cut (fun ρ h'=>h'.wf∧h.le h'∧ρ 2= .int .u64 (p:Int)∧ρ 7= .sl (some h.next) 0 n (some n)∧IsG h.next h' (.sl (some h.next) 0 n (some n)) (rowF (fun i=>(xs.getD i 0+ys.getD i 0)%p) n)) ?_ ?_
 ·refine for_rule (fun j ρ h'=>j≤n∧h'.wf∧h.le h'∧ρ 0= .sl id off xs.length c∧ρ 1= .sl id2 off2 ys.length c2∧ρ 2= .int .u64 (p:Int)∧ρ 7= .sl (some h.next) 0 n (some n)∧ρ 8= .int .i64 (j:Int)∧IsG h.next h' (.sl (some h.next) 0 n (some n)) (rowF (upF (fun i=>(xs.getD i 0+ys.getD i 0)%p) 0 j) n)) n
   ⟨by omega,H.wf_new hw _,hl2,by first|rfl|trivial|assumption,by first|rfl|trivial|assumption,by first|rfl|trivial|assumption,by first|rfl|trivial|assumption,by first|rfl|trivial|assumption,by rw[upF_zero];exact IsG.made (Nat.le_refl _) _⟩ (fun i ρ h hI=>hI.1) ?_
  rintro j ρ h' ⟨hj,hw',hle,q0,q1,q2,q7,q8,hs⟩
  rcases Nat.lt_or_ge j n with h3|h3
  ·obtain⟨io',rr,e0',hbi,_,hrr,ho,hcl,hput⟩:=hs.put hw' (j:=j) (by rw[rowF_len];exact h3)
   injection e0' with e0'
   subst e0'
   have hput:=hput ((fun i=>(xs.getD i 0+ys.getD i 0)%p) j)
   rw[upF_step] at hput
   simp only[go_sem,q0,q1,q2,q7,q8,ltT h3]
   refine r3at_calls (ha.mono hle) ?_
   simp only[go_sem,q0,q1,q2,q7,q8]
   refine r3at_calls (hb.mono hle) ?_
   simp only[go_sem,q0,q1,q2,q7,q8]
   refine r6Add_calls hp hpB ?_
   simp only[go_sem,q0,q1,q2,q7,q8]
   refine⟨by omega,by omega, ?_⟩
   simp only[go_sem,hrr]
   refine⟨ho,hcl, ?_⟩
   simp only[go_sem,q0,q1,q2,q7,q8,incI (i:=j) (by omega)]
   exact⟨by omega,H.wf_set hw' (H.row_lt hw' hrr) _,H.le_set hw hle hbi _,by first|rfl|trivial|assumption,by first|rfl|trivial|assumption,by first|rfl|trivial|assumption,by first|rfl|trivial|assumption,by first|rfl|trivial|assumption,hput⟩
  ·obtain rfl:j=n:=by omega
   simp only[go_sem,q7,q8,ltF (Nat.le_refl j)]
   rw[upF_all] at hs
   exact⟨hw',hle,q2,by first|rfl|trivial|assumption,hs⟩
 rintro ρ h' ⟨hw',hle,q2,q7,hs⟩
 simp only[go_sem,q2,q7]
 refine r3Norm_calls hp hs.isN (by rw[rowF_len];omega) fun r zs h2 hw2 hl2 hy ht hyl=> ?_
 simp only[go_sem]
 rw[rowF_len] at hyl
 have hbb:=hle.1
 exact fun hw'=>hk r zs h2 hw' (H.le_trans hle hl2) (hy.base hbb) (ht.congr fun i=>by
  rw[rowF_getD]
  split
  ·rw[Nat.mod_mod]
  ·rw[getD_out (by omega),getD_out (by omega)]) (by omega)
theorem r3Sub_calls (hp:0<p) (hpB:p<4611686018427387904) (ha:IsN h va xs) (hb:IsN h vb ys) (hlx:xs.length≤1000000) (hly:ys.length≤1000000) (hk:∀r zs h',h'.wf→h.le h'→IsG h.next h' r zs→TrimF (fun i=>(xs.getD i 0%p+p-ys.getD i 0%p)%p) zs→zs.length≤max xs.length ys.length→K r h'):ACalls Tryd.prog 36 [va,vb, .int .u64 (p:Int)] h K:=by
 obtain⟨id,off,c,rfl⟩:=ha.form
 obtain⟨id2,off2,c2,rfl⟩:=hb.form
 refine in_ref23_Sub (by simp) fun hw=> ?_
 unfold c_ref23_Sub
 obtain⟨n,hn⟩:∃n,n=max xs.length ys.length:=⟨_,rfl⟩
 simp only[go_sem,maxN,←hn]
 refine⟨by omega,by omega,by omega, ?_⟩
 have hl2:=H.le_new hw (H.le_refl h) ⟨some 22,1,zs [AV.int .u64 0] n⟩
 refine loop_cut (fun ρ h'=>h'.wf∧h.le h'∧ρ 2= .int .u64 (p:Int)∧ρ 7= .sl (some h.next) 0 n (some n)∧IsG h.next h' (.sl (some h.next) 0 n (some n)) (rowF (fun i=>(xs.getD i 0%p+p-ys.getD i 0%p)%p) n)) ?_ ?_
 ·refine for_rule (fun j ρ h'=>j≤n∧h'.wf∧h.le h'∧ρ 0= .sl id off xs.length c∧ρ 1= .sl id2 off2 ys.length c2∧ρ 2= .int .u64 (p:Int)∧ρ 7= .sl (some h.next) 0 n (some n)∧ρ 8= .int .i64 (j:Int)∧IsG h.next h' (.sl (some h.next) 0 n (some n)) (rowF (upF (fun i=>(xs.getD i 0%p+p-ys.getD i 0%p)%p) 0 j) n)) n
   ⟨by omega,H.wf_new hw _,hl2,by first|rfl|trivial|assumption,by first|rfl|trivial|assumption,by first|rfl|trivial|assumption,by first|rfl|trivial|assumption,by first|rfl|trivial|assumption,by rw[upF_zero];exact IsG.made (Nat.le_refl _) _⟩ (fun i ρ h hI=>hI.1) ?_
  rintro j ρ h' ⟨hj,hw',hle,q0,q1,q2,q7,q8,hs⟩
  rcases Nat.lt_or_ge j n with h3|h3
  ·obtain⟨io',rr,e0',hbi,_,hrr,ho,hcl,hput⟩:=hs.put hw' (j:=j) (by rw[rowF_len];exact h3)
   injection e0' with e0'
   subst e0'
   have hput:=hput ((fun i=>(xs.getD i 0%p+p-ys.getD i 0%p)%p) j)
   rw[upF_step] at hput
   simp only[go_sem,q0,q1,q2,q7,q8,ltT h3]
   refine r3at_calls (ha.mono hle) ?_
   simp only[go_sem,q0,q1,q2,q7,q8]
   refine r3at_calls (hb.mono hle) ?_
   simp only[go_sem,q0,q1,q2,q7,q8]
   refine r6Sub_calls hp hpB ?_
   simp only[go_sem,q0,q1,q2,q7,q8]
   refine⟨by omega,by omega, ?_⟩
   simp only[go_sem,hrr]
   refine⟨ho,hcl, ?_⟩
   simp only[go_sem,q0,q1,q2,q7,q8,incI (i:=j) (by omega)]
   exact⟨by omega,H.wf_set hw' (H.row_lt hw' hrr) _,H.le_set hw hle hbi _,by first|rfl|trivial|assumption,by first|rfl|trivial|assumption,by first|rfl|trivial|assumption,by first|rfl|trivial|assumption,by first|rfl|trivial|assumption,hput⟩
  ·obtain rfl:j=n:=by omega
   simp only[go_sem,q7,q8,ltF (Nat.le_refl j)]
   rw[upF_all] at hs
   exact⟨hw',hle,q2,by first|rfl|trivial|assumption,hs⟩
 rintro ρ h' ⟨hw',hle,q2,q7,hs⟩
 simp only[go_sem,q2,q7]
 refine r3Norm_calls hp hs.isN (by rw[rowF_len];omega) fun r zs h2 hw2 hl2 hy ht hyl=> ?_
 simp only[go_sem]
 rw[rowF_len] at hyl
 have hbb:=hle.1
 exact fun hw'=>hk r zs h2 hw' (H.le_trans hle hl2) (hy.base hbb) (ht.congr fun i=>by
  rw[rowF_getD]
  split
  ·rw[Nat.mod_mod]
  ·rw[getD_out (ys:=xs) (by omega),getD_out (ys:=ys) (by omega),Nat.zero_mod,Nat.zero_add,Nat.sub_zero,Nat.mod_self]) (by omega)
theorem r3Scale_calls (hp:0<p) (hpB:p<4611686018427387904) (hv:IsN h v xs) (hl:xs.length≤1000000) (hk:∀r ys h',h'.wf→h.le h'→IsG h.next h' r ys→TrimF (fun i=>xs.getD i 0*x%p) ys→ys.length≤xs.length→K r h'):ACalls Tryd.prog 38 [v, .int .u64 (x:Int), .int .u64 (p:Int)] h K:=by
 obtain⟨id,off,c,rfl⟩:=hv.form
 refine in_ref23_Scale (by simp) fun hw=> ?_
 unfold c_ref23_Scale
 simp only[go_sem]
 refine⟨by omega,by omega,by omega, ?_⟩
 have hl2:=H.le_new hw (H.le_refl h) ⟨some 22,1,zs [AV.int .u64 0] xs.length⟩
 refine loop_cut (fun ρ h'=>h'.wf∧h.le h'∧ρ 2= .int .u64 (p:Int)∧ρ 7= .sl (some h.next) 0 xs.length (some xs.length)∧IsG h.next h' (.sl (some h.next) 0 xs.length (some xs.length)) (rowF (fun i=>xs.getD i 0*x%p) xs.length)) ?_ ?_
 ·refine for_rule (fun j ρ h'=>j≤xs.length∧h'.wf∧h.le h'∧ρ 0= .sl id off xs.length c∧ρ 1= .int .u64 (x:Int)∧ρ 2= .int .u64 (p:Int)∧ρ 7= .sl (some h.next) 0 xs.length (some xs.length)∧ρ 8= .int .i64 (j:Int)∧IsG h.next h' (.sl (some h.next) 0 xs.length (some xs.length)) (rowF (upF (fun i=>xs.getD i 0*x%p) 0 j) xs.length)) xs.length
   ⟨by omega,H.wf_new hw _,hl2,by first|rfl|trivial|assumption,by first|rfl|trivial|assumption,by first|rfl|trivial|assumption,by first|rfl|trivial|assumption,by first|rfl|trivial|assumption,by rw[upF_zero];exact IsG.made (Nat.le_refl _) _⟩ (fun i ρ h hI=>hI.1) ?_
  rintro j ρ h' ⟨hj,hw',hle,q0,q1,q2,q7,q8,hs⟩
  rcases Nat.lt_or_ge j xs.length with h3|h3
  ·obtain⟨ii,rfl,_,hg⟩:=(hv.mono hle).at h3
   rw[←getD_in h3] at hg
   obtain⟨io',rr,e0',hbi,_,hrr,ho,hcl,hput⟩:=hs.put hw' (j:=j) (by rw[rowF_len];exact h3)
   injection e0' with e0'
   subst e0'
   have hput:=hput ((fun i=>xs.getD i 0*x%p) j)
   rw[upF_step] at hput
   simp only[go_sem,q0,q1,q2,q7,q8,ltT h3]
   refine⟨by omega,by omega, ?_⟩
   simp only[go_sem,hg,q0,q1,q2,q7,q8]
   refine r6Mul_calls hp (by omega) ?_
   simp only[go_sem,q0,q1,q2,q7,q8]
   refine⟨by omega,by omega, ?_⟩
   simp only[go_sem,hrr]
   refine⟨ho,hcl, ?_⟩
   simp only[go_sem,q0,q1,q2,q7,q8,incI (i:=j) (by omega)]
   exact⟨by omega,H.wf_set hw' (H.row_lt hw' hrr) _,H.le_set hw hle hbi _,by first|rfl|trivial|assumption,by first|rfl|trivial|assumption,by first|rfl|trivial|assumption,by first|rfl|trivial|assumption,by first|rfl|trivial|assumption,hput⟩
  ·obtain rfl:j=xs.length:=by omega
   simp only[go_sem,q0,q8,ltF (Nat.le_refl xs.length)]
   rw[upF_all] at hs
   exact⟨hw',hle,q2,q7,hs⟩
 rintro ρ h' ⟨hw',hle,q2,q7,hs⟩
 simp only[go_sem,q2,q7]
 refine r3Norm_calls hp hs.isN (by rw[rowF_len];omega) fun r zs h2 hw2 hl2 hy ht hyl=> ?_
 simp only[go_sem]
 rw[rowF_len] at hyl
 have hbb:=hle.1
 exact fun hw'=>hk r zs h2 hw' (H.le_trans hle hl2) (hy.base hbb) (ht.congr fun i=>by
  rw[rowF_getD]
  split
  ·rw[Nat.mod_mod]
  ·rw[getD_out (ys:=xs) (by omega),Nat.zero_mul]) (by omega)
theorem r3Cut_calls {k:Int} (hp:0<p) (hv:IsN h v xs) (hl:xs.length≤1000000) (hk:∀(m:Nat) r ys h',(m:Int)=max 0 (min k xs.length)→h'.wf→h.le h'→IsG h.next h' r ys→TrimF (fun i=>(xs.take m).getD i 0%p) ys→ys.length≤xs.length→K r h'):ACalls Tryd.prog 20 [v, .int .i64 k, .int .u64 (p:Int)] h K:=by
 obtain⟨id,off,c,rfl⟩:=hv.form
 refine in_ref23_Cut (by simp) fun hw=> ?_
 unfold c_ref23_Cut
 obtain⟨m,hm⟩:∃m:Nat,(m:Int)=max 0 (min k xs.length):=⟨(max 0 (min k xs.length)).toNat,by omega⟩
 have hmx:m≤xs.length:=by omega
 simp only[go_sem,show min (xs.length:Int) (max k 0)=(m:Int) by omega,Int.toNat_natCast]
 refine⟨by omega, .inl hmx,hv.row, ?_⟩
 refine r3Norm_calls hp (hv.take hmx) (by rw[List.length_take];omega) fun r ys h' hw' hle hy ht hyl=> ?_
 simp only[go_sem]
 exact fun _=>hk m r ys h' hm hw' hle hy ht (by rw[List.length_take] at hyl;omega)
theorem r3Shift_calls {k:Int} (hp:0<p) (hv:IsN h v xs) (hl:xs.length≤1000) (hk:∀r ys h',h'.wf→h.le h'→IsN h' r ys→TrimF (shC (fun i=>xs.getD i 0%p) (max (-4096) (min k 4096))) ys→K r h'):ACalls Tryd.prog 18 [v, .int .i64 k, .int .u64 (p:Int)] h K:=by
 refine in_ref23_Shift (by simp) fun hw=> ?_
 unfold c_ref23_Shift
 obtain⟨k',hk'⟩:∃k',k'=max (-4096) (min k 4096):=⟨_,rfl⟩
 rw[←hk'] at hk
 simp only[go_sem,show min (max k (-4096)) 4096=k' by omega]
 refine r3Norm_calls hp hv (by omega) fun r ys h1 hw1 hl1 hy ht hyl=> ?_
 obtain⟨id,c,rfl⟩:=hy.form
 by_cases c1:k'<0
 ·obtain⟨m,hm⟩:∃m:Nat,(m:Int)= -k':=⟨k'.natAbs,by omega⟩
  have e2:IntKind.i64.wrap (0-k')=(m:Int):=by rw[wI]<;>omega
  obtain⟨n,hn⟩:∃n,n=min ys.length m:=⟨_,rfl⟩
  simp only[go_sem,show decide (k'<0)=true from decide_eq_true c1,e2,minN,←hn,Int.toNat_natCast]
  have hc:=hy.isN.cut (c':=c.map (· -n)) (a:=n) (b:=ys.length) (by omega) (Nat.le_refl _)
  rw[List.take_length,Nat.zero_add] at hc
  refine⟨by omega,by omega,hy.isN.row, ?_⟩
  refine app_num (xs:=[]) hw1 hw1 (H.le_refl _) (IsF.nil _ _ _ _ _) hc (by simp;omega) fun v g hwg hlg hv=> ?_
  simp only[go_sem]
  refine fun hw'=>hk _ _ g hw' (H.le_trans hl1 hlg) hv.isN ?_
  rw[List.nil_append]
  refine(ht.drop n).congr fun i=> ?_
  show xs.getD (i+n) 0%p=shC _ k' i
  unfold shC
  rw[if_pos c1,show k'.natAbs=m by omega]
  by_cases c3:m≤ys.length
  ·rw[show n=m by omega]
  ·have h5:=ht.1 (i+n)
   have h6:=ht.1 (i+m)
   rw[getD_out (by omega)] at h5 h6
   exact h5.symm.trans h6
 rcases Nat.eq_zero_or_pos ys.length with h0|h0
 ·have:ys=[]:=List.eq_nil_of_length_eq_zero h0
  subst this
  simp only[go_sem,show decide (k'<0)=false from decide_eq_false c1,show(((([]:List Nat).length:Nat):Int)==0)=true from rfl]
  refine fun hw'=>hk _ [] h1 hw' hl1 (IsN.nil _ _) (TrimF.nil fun i=> ?_)
  have hz:∀i,xs.getD i 0%p=0:=fun i=>by
   have:=ht.1 i
   rw[getD_out (Nat.zero_le _)] at this
   exact this.symm
  unfold shC
  split
  ·exact hz _
  ·split
   ·rfl
   ·exact hz _
 ·obtain⟨m,hm⟩:∃m:Nat,(m:Int)=k':=⟨k'.natAbs,by omega⟩
  rw[←hm] at c1 hk
  simp only[go_sem,eqF (show(ys.length:Int)≠0 by omega),←hm,show decide ((m:Int)<0)=false from decide_eq_false c1,Int.toNat_natCast]
  refine⟨by omega,by omega,by omega, ?_⟩
  have hl2:=H.le_new hw1 (H.le_refl h1) ⟨some 22,1,zs [AV.int .u64 0] m⟩
  refine app_num hw1 (H.wf_new hw1 _) hl2 (IsG.made (Nat.le_refl _) m) (hy.isN.mono hl2) (by rw[List.length_replicate];omega) fun v g hwg hlg hv=> ?_
  simp only[go_sem]
  refine fun hw'=>hk _ _ g hw' (H.le_trans hl1 hlg) hv.isN ((ht.shift (by rintro rfl;simp at h0) m).congr fun i=> ?_)
  show(if i<m then 0 else xs.getD (i-m) 0%p)=if(m:Int)<0 then _ else if i<(m:Int).natAbs then 0 else xs.getD (i-(m:Int).natAbs) 0%p
  rw[if_neg (show¬(m:Int)<0 by omega),Int.natAbs_natCast]
theorem r3Mul_calls (hp:0<p) (hpB:p<4611686018427387904) (ha:IsN h va xs) (hb:IsN h vb ys) (hlx:xs.length≤1000000) (hly:ys.length≤1000000) (hk:∀r zs h',h'.wf→h.le h'→IsG h.next h' r zs→TrimF (fun k=>cau (fun i=>xs.getD i 0) (fun i=>ys.getD i 0) k%p) zs→zs.length≤xs.length+ys.length→K r h'):ACalls Tryd.prog 23 [va,vb, .int .u64 (p:Int)] h K:=by
 obtain⟨id,off,c,rfl⟩:=ha.form
 obtain⟨id2,off2,c2,rfl⟩:=hb.form
 refine in_ref23_Mul (by simp) fun hw=> ?_
 unfold c_ref23_Mul
 rcases Nat.eq_zero_or_pos xs.length with h0|h0
 ·have e0:xs=[]:=List.eq_nil_of_length_eq_zero h0
  subst e0
  simp only[go_sem,show(((([]:List Nat).length:Nat):Int)==0)=true from rfl]
  exact fun hw'=>hk _ [] h hw' (H.le_refl h) (IsF.nil _ _ _ _ _) (TrimF.nil fun k=>by rw[cau_f0 (fun i=>getD_out (Nat.zero_le _)),Nat.zero_mod]) (Nat.zero_le _)
 rcases Nat.eq_zero_or_pos ys.length with h0'|h0'
 ·have e0:ys=[]:=List.eq_nil_of_length_eq_zero h0'
  subst e0
  simp only[go_sem,eqF (show(xs.length:Int)≠0 by omega),show(((([]:List Nat).length:Nat):Int)==0)=true from rfl]
  exact fun hw'=>hk _ [] h hw' (H.le_refl h) (IsF.nil _ _ _ _ _) (TrimF.nil fun k=>by rw[cau_g0 (fun i=>getD_out (Nat.zero_le _)),Nat.zero_mod]) (Nat.zero_le _)
 simp only[go_sem,eqF (show(xs.length:Int)≠0 by omega),eqF (show(ys.length:Int)≠0 by omega),show IntKind.i64.wrap ((xs.length:Int)+(ys.length:Int))=((xs.length+ys.length:Nat):Int) by rw[wI]<;>omega]
 refine r6Conv_calls hp hpB ha hb hlx hly rfl fun r h1 hw1 hl1 hs=> ?_
 simp only[go_sem]
 refine r3Norm_calls hp hs.isN (by rw[rowF_len];omega) fun r zs h2 hw2 hl2 hy ht hyl=> ?_
 simp only[go_sem]
 rw[rowF_len] at hyl
 have hbb:=hl1.1
 exact fun hw'=>hk r zs h2 hw' (H.le_trans hl1 hl2) (hy.base hbb) (ht.congr fun k=>by
  rw[rowF_getD]
  split
  ·rw[Nat.mod_mod,part_cau fun i hi=>getD_out hi]
  ·rw[cau_zero (m:=xs.length) (fun i hi=>getD_out hi) (n:=ys.length) (fun i hi=>getD_out hi) k (by omega)]) hyl
theorem r3At_calls (hp:0<p) (hpB:p<4611686018427387904) (hv:IsN h v xs) (hl:xs.length≤1000000) (hk:K (.int .u64 (val x xs%p:Nat)) h):ACalls Tryd.prog 27 [v, .int .u64 (x:Int), .int .u64 (p:Int)] h K:=by
 obtain⟨id,off,c,rfl⟩:=hv.form
 refine in_ref23_At (by simp) fun hw=> ?_
 unfold c_ref23_At
 have e0:IntKind.i64.wrap ((xs.length:Int)-1)=(xs.length:Int)-1:=wI (by omega) (by omega)
 simp only[go_sem,e0]
 refine for_rule (fun j ρ h'=>j≤xs.length∧h'=h∧ρ 0= .sl id off xs.length c∧ρ 1= .int .u64 (x:Int)∧ρ 2= .int .u64 (p:Int)∧ρ 7= .int .u64 (val x (xs.drop (xs.length-j))%p:Nat)∧ρ 8= .int .i64 ((xs.length:Int)-1-(j:Int))) xs.length
  ⟨by omega,rfl,by first|rfl|trivial|assumption,by first|rfl|trivial|assumption,by first|rfl|trivial|assumption,by rw[Nat.sub_zero,List.drop_length,show val x []=0 from rfl,Nat.zero_mod];rfl,by rw[show(xs.length:Int)-1-((0:Nat):Int)=(xs.length:Int)-1 by omega];rfl⟩ (fun i ρ h hI=>hI.1) ?_
 rintro j ρ h' ⟨hj,rfl,q0,q1,q2,q7,q8⟩
 rcases Nat.lt_or_ge j xs.length with h3|h3
 ·obtain⟨k,hkk⟩:∃k,k=xs.length-1-j:=⟨_,rfl⟩
  have ei:(xs.length:Int)-1-(j:Int)=(k:Int):=by omega
  rw[ei] at q8
  have hkl:k<xs.length:=by omega
  obtain⟨ii,rfl,_,hg⟩:=hv.at hkl
  have hd1:xs.length-j=k+1:=by omega
  have hd2:xs.length-(j+1)=k:=by omega
  have hv1:(val x (xs.drop (k+1))%p*x%p+xs[k])%p=val x (xs.drop k)%p:=by
   rw[List.drop_eq_getElem_cons hkl,val,Nat.add_mod,Nat.mod_mod,Nat.mul_mod,Nat.mod_mod,←Nat.mul_mod,←Nat.add_mod,Nat.add_comm,Nat.mul_comm]
  rw[hd1] at q7
  have e6:IntKind.i64.wrap ((k:Int)-1)=(xs.length:Int)-1-((j+1:Nat):Int):=by rw[wI]<;>omega
  simp only[go_sem,q0,q1,q2,q7,q8,show decide ((0:Int)≤(k:Int))=true from decide_eq_true (by omega)]
  refine⟨by omega,by omega, ?_⟩
  simp only[go_sem,hg,q0,q1,q2,q7,q8]
  refine r6Mul_calls hp (by omega) ?_
  simp only[go_sem,hg,q0,q1,q2,q7,q8,true_and]
  refine r6Add_calls hp hpB ?_
  rw[hv1]
  simp only[go_sem,q0,q1,q2,q7,q8,e6]
  exact⟨by omega,by first|rfl|trivial|assumption,by first|rfl|trivial|assumption,by first|rfl|trivial|assumption,by first|rfl|trivial|assumption,by rw[hd2],by first|rfl|trivial|assumption⟩
 ·obtain rfl:j=xs.length:=by omega
  rw[Nat.sub_self,List.drop_zero] at q7
  simp only[go_sem,q7,q8,show decide ((0:Int)≤(xs.length:Int)-1-(xs.length:Int))=false from decide_eq_false (by omega)]
  exact fun _=>hk
theorem r3Derive_calls (hp:0<p) (hpB:p<4611686018427387904) (hv:IsN h v xs) (hl:xs.length≤1000000) (hk:∀r ys h',h'.wf→h.le h'→IsG h.next h' r ys→TrimF (fun i=>drv (fun i=>xs.getD i 0) i%p) ys→ys.length≤xs.length→K r h'):ACalls Tryd.prog 30 [v, .int .u64 (p:Int)] h K:=by
 obtain⟨id,off,c,rfl⟩:=hv.form
 refine in_ref23_Derive (by simp) fun hw=> ?_
 unfold c_ref23_Derive
 simp only[go_sem]
 refine loop_cut (fun ρ h'=>h'.wf∧h.le h'∧ρ 1= .int .u64 (p:Int)∧IsG h.next h' (ρ 5) (rowF (fun i=>drv (fun i=>xs.getD i 0) i%p) (xs.length-1))) ?_ ?_
 ·refine for_rule (fun j ρ h'=>j≤xs.length-1∧h'.wf∧h.le h'∧ρ 0= .sl id off xs.length c∧ρ 1= .int .u64 (p:Int)∧ρ 6= .int .i64 ((j+1:Nat):Int)∧IsG h.next h' (ρ 5) (rowF (fun i=>drv (fun i=>xs.getD i 0) i%p) j)) (xs.length-1)
   ⟨by omega,hw,H.le_refl _,by first|rfl|trivial|assumption,by first|rfl|trivial|assumption,by first|rfl|trivial|assumption,IsF.nil _ _ _ _ _⟩ (fun i ρ h hI=>hI.1) ?_
  rintro j ρ h' ⟨hj,hw',hle,q0,q1,q6,hs⟩
  rcases Nat.lt_or_ge j (xs.length-1) with h3|h3
  ·obtain⟨ii,rfl,_,hg⟩:=(hv.mono hle).at (j:=j+1) (by omega)
   have hxj:xs[j+1]'(by omega)*(j+1)=drv (fun i=>xs.getD i 0) j:=by
    show _=(j+1)*xs.getD (j+1) 0
    rw[getD_in (by omega),Nat.mul_comm]
   simp only[go_sem,q0,q1,q6,ltT (show j+1<xs.length by omega)]
   refine⟨by omega,by omega, ?_⟩
   simp only[go_sem,hg,q0,q1,q6,wUn (x:=j+1) (by omega)]
   refine r6Mul_calls hp (by omega) ?_
   rw[hxj]
   simp only[go_sem,q0,q1,q6,show∀m:Int,abuild (zs [.int .u64 0] 1) [(0*1,1, .int .u64 m)]=some [.int .u64 m] from fun m=>rfl]
   refine app_lit [drv (fun i=>xs.getD i 0) j%p] hw hw' hle hs rfl rfl (by rw[rowF_len];simp;omega) fun r g hwg hlg hrg=> ?_
   simp only[go_sem,q0,q1,q6,incI (i:=j+1) (by omega)]
   exact⟨by omega,hwg,hlg,by first|rfl|trivial|assumption,by first|rfl|trivial|assumption,by first|rfl|trivial|assumption,by rw[←rowF_snoc];exact hrg⟩
  ·obtain rfl:j=xs.length-1:=by omega
   simp only[go_sem,q0,q6,ltF (show xs.length≤xs.length-1+1 by omega)]
   exact⟨hw',hle,q1,hs⟩
 rintro ρ h' ⟨hw',hle,q1,hs⟩
 simp only[go_sem,q1]
 refine r3Norm_calls hp hs.isN (by rw[rowF_len];omega) fun r zs h2 hw2 hl2 hy ht hyl=> ?_
 simp only[go_sem]
 rw[rowF_len] at hyl
 have hbb:=hle.1
 exact fun hw'=>hk r zs h2 hw' (H.le_trans hle hl2) (hy.base hbb) (ht.congr fun i=>by
  rw[rowF_getD]
  split
  ·rw[Nat.mod_mod]
  ·show 0%p=(i+1)*xs.getD (i+1) 0%p
   rw[getD_out (by omega),Nat.mul_zero]) (by omega)
theorem r3Monic_calls (hp:1<p) (hpB:p<4611686018427387904) (hv:IsN h v xs) (hl:xs.length≤1000000) (hk0:∀h',h'.wf→h.le h'→TrimF (fun i=>xs.getD i 0%p) []→K (.sl none 0 0 none) h') (hk:∀r ys zs c h',h'.wf→h.le h'→ys≠ []→TrimF (fun i=>xs.getD i 0%p) ys→InvOf p (ys.getD (ys.length-1) 0) c→IsG h.next h' r zs→TrimF (fun i=>ys.getD i 0*c%p) zs→K r h'):ACalls Tryd.prog 32 [v, .int .u64 (p:Int)] h K:=by
 refine in_ref23_Monic (by simp) fun hw=> ?_
 unfold c_ref23_Monic
 simp only[go_sem]
 refine r3Norm_calls (by omega) hv (by omega) fun r ys h1 hw1 hl1 hy ht hyl=> ?_
 obtain⟨id,c,rfl⟩:=hy.form
 rcases Nat.eq_zero_or_pos ys.length with h0|h0
 ·have:ys=[]:=List.eq_nil_of_length_eq_zero h0
  subst this
  simp only[go_sem,show(((([]:List Nat).length:Nat):Int)==0)=true from rfl]
  exact fun hw'=>hk0 h1 hw' hl1 ht
 have e1:IntKind.i64.wrap ((ys.length:Int)-1)=((ys.length-1:Nat):Int):=by rw[wI]<;>omega
 obtain⟨ii,rfl,_,hg⟩:=hy.isN.at (j:=ys.length-1) (by omega)
 rw[←getD_in (by omega),Nat.zero_add] at hg
 simp only[go_sem,eqF (show(ys.length:Int)≠0 by omega),e1]
 refine⟨by omega,by omega, ?_⟩
 simp only[go_sem,hg]
 refine r6Inv_calls hp hpB fun c1 ok hinv=> ?_
 simp only[go_sem]
 refine r3Scale_calls (by omega) hpB hy.isN (by omega) fun r zs h2 hw2 hl2 hz hzt hzl=> ?_
 simp only[go_sem]
 have hb:=hl1.1
 exact fun hw'=>hk _ ys zs c1 h2 hw' (H.le_trans hl1 hl2) (by rintro rfl;simp at h0) ht hinv (hz.base hb) hzt
theorem r3Roots_calls (hp:1<p) (hpB:p<4611686018427387904) (hv:IsN h v xs) (hl:xs.length≤1000) (hk:∀r zs h',h'.wf→h.le h'→IsG h.next h' r zs→TrimF (rootsC p xs) zs→zs.length≤2001→K r h'):ACalls Tryd.prog 25 [v, .int .u64 (p:Int)] h K:=by
 obtain⟨id,off,c,rfl⟩:=hv.form
 refine in_ref23_Roots (by simp) fun hw=> ?_
 unfold c_ref23_Roots
 simp only[go_sem,show abuild (zs [.int .u64 0] 1) [(0*1,1, .int .u64 1)]=some [.int .u64 1] from rfl]
 have hl1:=H.le_new hw (H.le_refl h) ⟨some 22,1,[.int .u64 1]⟩
 refine for_rule (fun j ρ h'=>j≤xs.length∧h'.wf∧h.le h'∧ρ 0= .sl id off xs.length c∧ρ 1= .int .u64 (p:Int)∧ρ 6= .int .i64 (j:Int)∧∃zs,IsG h.next h' (ρ 5) zs∧TrimF (rootsC p (xs.take j)) zs∧zs.length≤1+2*j) xs.length
  ⟨by omega,H.wf_new hw _,hl1,by first|rfl|trivial|assumption,by first|rfl|trivial|assumption,by first|rfl|trivial|assumption,[1],⟨some h.next,some 1,rfl, .inr ⟨h.next,_,rfl,Nat.le_refl _,H.rows_new _ _,rfl,rfl,by simp,rfl⟩⟩,⟨fun i=>by
   show [1].getD i 0=if i=0 then 1 else 0
   rcases i with _|i
   ·rfl
   ·rw[getD_out (by simp),if_neg (by omega)],by simp⟩,by simp⟩ (fun i ρ h hI=>hI.1) ?_
 rintro j ρ h' ⟨hj,hw',hle,q0,q1,q6,zs,hs,hst,hsl⟩
 rcases Nat.lt_or_ge j xs.length with h3|h3
 ·obtain⟨ii,rfl,_,hg⟩:=(hv.mono hle).at h3
  simp only[go_sem,q0,q1,q6,ltT h3]
  refine⟨by omega,by omega, ?_⟩
  simp only[go_sem,hg,q0,q1,q6]
  refine r6Sub_calls (a:=0) (by omega) hpB ?_
  rw[Nat.zero_mod,Nat.zero_add]
  simp only[go_sem,q0,q1,q6,show∀m:Int,abuild (Ab.zs [.int .u64 0] 2) [(0*1,1, .int .u64 m),(1*1,1, .int .u64 1)]=some [.int .u64 m, .int .u64 1] from fun m=>rfl]
  have hl4:=H.le_new hw' (H.le_refl h') ⟨some 22,1,[.int .u64 ((p-xs[j]%p)%p:Nat), .int .u64 1]⟩
  have hb4:=hle.1
  refine r3Mul_calls (by omega) hpB (hs.isN.mono hl4) (IsN.lit [(p-xs[j]%p)%p,1] _ rfl rfl) (by omega) (by simp) fun r ws g hwg hlg hwr hwt hwl=> ?_
  simp only[go_sem,q0,q1,q6,incI (i:=j) (by omega)]
  have hl5:=H.le_trans hl4 hlg
  refine⟨by omega,hwg,H.le_trans hle hl5,by first|rfl|trivial|assumption,by first|rfl|trivial|assumption,by first|rfl|trivial|assumption,ws,hwr.base (by have:=hl4.1;omega),hwt.congr fun k=> ?_,by simp at hwl;omega⟩
  rw[List.take_succ_eq_append_getElem h3,rootsC_snoc]
  unfold rootC
  congr 2
  ·funext i
   exact hst.1 i
  ·funext i
   rcases i with _|_|i
   ·rfl
   ·rfl
   ·rfl
 ·obtain rfl:j=xs.length:=by omega
  rw[List.take_length] at hst
  simp only[go_sem,q0,q6,ltF (Nat.le_refl xs.length)]
  exact fun _=>hk _ zs h' hw' hle hs hst (by omega)
end
end
theorem pow_mod_ne {q n d:Nat} (hq:∀m,m∣q→m=1∨m=q) (hn:1<n) (h:n%q≠0):q^d%n≠0:=by
 intro h0
 have hc:Nat.Coprime n q:=by
  rcases hq _ (Nat.gcd_dvd_right n q) with h1|h1
  ·exact h1
  ·have h2:=Nat.gcd_dvd_left n q
   rw[h1] at h2
   exact absurd (Nat.mod_eq_zero_of_dvd h2) h
 have h1:n∣q^d:=Nat.dvd_of_mod_eq_zero h0
 have h2:Nat.Coprime n (q^d):=Nat.Coprime.pow_right d hc
 have h3:n∣Nat.gcd n (q^d):=Nat.dvd_gcd (Nat.dvd_refl n) h1
 have h4:Nat.gcd n (q^d)=1:=h2
 rw[h4] at h3
 have:=Nat.le_of_dvd (by omega) h3
 omega
theorem prime_of {q:Nat} (h0:0<q) (h:∀m,m<q+1→q%m=0→m=1∨m=q):∀m,m∣q→m=1∨m=q:=fun m hm=>h m (by have:=Nat.le_of_dvd h0 hm;omega) (Nat.mod_eq_zero_of_dvd hm)
theorem small_primes:∀q∈ [2,3,5,7,11,13,17,19,23,29,31,37],∀m,m∣q→m=1∨m=q:=by
 intro q hq
 have key:∀q∈ [2,3,5,7,11,13,17,19,23,29,31,37],0<q∧∀m,m<q+1→q%m=0→m=1∨m=q:=by decide
 exact prime_of (key q hq).1 (key q hq).2
def witLR:Nat→Nat→Nat→Bool
 |0,_,_=>false
 |k+1,x,n=>if x*x%n=n-1 then true else witLR k (x*x%n) n
theorem witLR_not:∀(k x n:Nat),witLR k x n= !witL k x n
 |0,_,_=>rfl
 |k+1,x,n=>by
  rw[witLR,witL]
  split
  ·rfl
  ·exact witLR_not k _ n
def witR (a n d s:Nat):Bool:=if a^d%n=1∨a^d%n=n-1 then true else witLR (s-1) (a^d%n) n
theorem witR_not {a n d s:Nat} (hn:1<n) (hd:d<2^64) (h0:a^d%n≠0):witR a n d s= !wit a n d s:=by
 have e:pwl 64 (1%n) (a%n) d n=a^d%n:=by
  rw[pwl_eq (by omega) 64 _ _ _ hd (Nat.mod_lt _ (by omega)),Nat.mod_eq_of_lt hn,Nat.one_mul,←Nat.pow_mod]
 unfold witR wit
 rw[e]
 by_cases h1:a^d%n=1∨a^d%n=n-1
 ·rw[if_pos h1,if_pos (.inr h1)]
  rfl
 ·rw[if_neg h1,if_neg (by rintro(h|h);exact h0 h;exact h1 h)]
  exact witLR_not _ _ _
def refPr (n:Nat):Bool:=if n<2 then false else match smallL ps12 n with
 |some b=>b
 |none=>ps12.all fun a=>witR a n ((n-1)/2^tzf 64 (n-1)) (tzf 64 (n-1))
theorem refPr_eq {n:Nat} (hn:n<18446744073709551616):refPr n=isPr n:=by
 unfold refPr isPr
 split
 ·rfl
 ·rcases hs:smallL ps12 n with _|b
  ·have key:∀a∈ps12,witR a n ((n-1)/2^tzf 64 (n-1)) (tzf 64 (n-1))= !wit a n ((n-1)/2^tzf 64 (n-1)) (tzf 64 (n-1)):=fun a ha=>
    witR_not (by omega) (Nat.lt_of_le_of_lt (Nat.div_le_self _ _) (by omega)) (pow_mod_ne (small_primes a ha) (by omega) (smallL_none ps12 hs ha))
   show(ps12.all fun a=>_)=(ps12.all fun a=>_)
   rw[Bool.eq_iff_iff,List.all_eq_true,List.all_eq_true]
   constructor
   ·intro h a ha
    rw[←key a ha]
    exact h a ha
   ·intro h a ha
    rw[key a ha]
    exact h a ha
  ·rfl
section
section
variable {p a b n:Nat} {h:H} {K:AV→H→Prop}
theorem andOne {x:Nat} (hx:x<18446744073709551616):bAnd .u64 (x:Int) 1=((x%2:Nat):Int):=by
 have:=band0 (a:=x) (b:=1) hx (by omega)
 rw[Nat.and_one_is_mod] at this
 exact this
theorem r6Pow_calls (hp:0<p) (hpB:p<18446744073709551616) (hn:n<18446744073709551616) (hk:K (.int .u64 (a^n%p:Nat)) h):ACalls Tryd.prog 75 [.int .u64 (a:Int), .int .u64 (n:Int), .int .u64 (p:Int)] h K:=by
 refine in_ref06_Pow (by simp) fun hw=> ?_
 unfold c_ref06_Pow
 simp only[go_sem,show(1:Int).tmod (p:Int)=((1%p:Nat):Int) from tmodN (a:=1)]
 refine⟨by omega, ?_⟩
 refine for_rule (fun j ρ h'=>j≤64∧h'=h∧ρ 0= .int .u64 (a:Int)∧ρ 1= .int .u64 (n:Int)∧ρ 2= .int .u64 (p:Int)∧ρ 7= .int .u64 (a^(n/2^(64-j))%p:Nat)∧ρ 8= .int .i64 (63-(j:Int))) 64
  ⟨by omega,rfl,by first|rfl|trivial|assumption,by first|rfl|trivial|assumption,by first|rfl|trivial|assumption,by rw[Nat.sub_zero,Nat.div_eq_of_lt (show n<2^64 from hn),Nat.pow_zero];rfl,by first|rfl|trivial|assumption⟩ (fun i ρ h hI=>hI.1) ?_
 rintro j ρ h' ⟨hj,rfl,q0,q1,q2,q7,q8⟩
 rcases Nat.lt_or_ge j 64 with h3|h3
 ·obtain⟨k,hkk⟩:∃k,k=63-j:=⟨_,rfl⟩
  rw[show(63:Int)-(j:Int)=(k:Int) by omega] at q8
  rw[show 64-j=k+1 by omega] at q7
  have e6:IntKind.i64.wrap ((k:Int)-1)=63-((j+1:Nat):Int):=by rw[wI]<;>omega
  have hlt:n/2^k<18446744073709551616:=Nat.lt_of_le_of_lt (Nat.div_le_self _ _) hn
  have e7:n/2^k=2*(n/2^(k+1))+n/2^k%2:=by
   rw[Nat.pow_succ,←Nat.div_div_eq_div_mul]
   omega
  have e8:a^(n/2^(k+1))%p*(a^(n/2^(k+1))%p)%p=a^(2*(n/2^(k+1)))%p:=by
   rw[←Nat.mul_mod,←Nat.pow_add,Nat.two_mul]
  generalize n/2^(k+1)=m at*
  simp only[go_sem,q0,q1,q2,q7,q8,show decide ((0:Int)≤(k:Int))=true from decide_eq_true (by omega)]
  refine r6Mul_calls hp hpB ?_
  rw[e8]
  simp only[go_sem,q0,q1,q2,q7,q8,wUn (x:=k) (by omega),shrU (x:=n) (n:=k) (by omega),andOne hlt]
  refine⟨by omega, ?_⟩
  have hfin:64-(j+1)=k:=by omega
  rcases Nat.mod_two_eq_zero_or_one (n/2^k) with h0|h0
  ·simp only[go_sem,q0,q1,q2,q7,q8,eqF (show((n/2^k%2:Nat):Int)≠1 by omega),e6]
   exact⟨by omega,by first|rfl|trivial|assumption,by first|rfl|trivial|assumption,by first|rfl|trivial|assumption,by first|rfl|trivial|assumption,by rw[hfin,e7,h0];rfl,by first|rfl|trivial|assumption⟩
  ·simp only[go_sem,q0,q1,q2,q7,q8,eqT (show((n/2^k%2:Nat):Int)=1 by omega)]
   refine r6Mul_calls hp hpB ?_
   simp only[go_sem,q0,q1,q2,q7,q8,e6]
   exact⟨by omega,by first|rfl|trivial|assumption,by first|rfl|trivial|assumption,by first|rfl|trivial|assumption,by first|rfl|trivial|assumption,by rw[hfin,e7,h0,Nat.pow_succ,Nat.mod_mul_mod],by first|rfl|trivial|assumption⟩
 ·obtain rfl:j=64:=by omega
  rw[Nat.sub_self,Nat.pow_zero,Nat.div_one] at q7
  simp only[go_sem,q7,q8,show decide ((0:Int)≤63-((64:Nat):Int))=false from rfl]
  exact fun _=>hk
theorem r6witness_calls {d s:Nat} (hn:n<18446744073709551616) (h2:2≤n) (hd:d<18446744073709551616) (hs:1≤s∧s≤64) (hk:K (.bool (witR a n d s)) h):ACalls Tryd.prog 67 [.int .u64 (a:Int), .int .u64 (d:Int), .int .i64 (s:Int), .int .u64 (n:Int)] h K:=by
 refine in_ref06_witness (by simp) fun hw=> ?_
 unfold c_ref06_witness
 unfold witR at hk
 have e1:IntKind.u64.wrap ((n:Int)-1)=((n-1:Nat):Int):=by rw[wU]<;>omega
 simp only[go_sem]
 refine r6Pow_calls (by omega) hn hd ?_
 have hx:=Nat.mod_lt (a^d) (show 0<n by omega)
 generalize a^d%n=x0 at*
 by_cases c1:x0=1
 ·rw[if_pos (.inl c1)] at hk
  simp only[go_sem,eqT (show(x0:Int)=1 by omega)]
  exact fun _=>hk
 by_cases c2:x0=n-1
 ·rw[if_pos (.inr c2)] at hk
  simp only[go_sem,eqF (show(x0:Int)≠1 by omega),e1,eqT (show(x0:Int)=((n-1:Nat):Int) by omega)]
  exact fun _=>hk
 rw[if_neg (by omega)] at hk
 simp only[go_sem,eqF (show(x0:Int)≠1 by omega),e1,eqF (show(x0:Int)≠((n-1:Nat):Int) by omega)]
 refine for_rule (fun j ρ h'=>j≤s-1∧h'=h∧ρ 2= .int .i64 (s:Int)∧ρ 3= .int .u64 (n:Int)∧ρ 10= .int .i64 ((1+j:Nat):Int)∧∃x,x<n∧ρ 9= .int .u64 (x:Int)∧witLR (s-1) x0 n=witLR (s-1-j) x n) (s-1)
  ⟨by omega,rfl,by first|rfl|trivial|assumption,by first|rfl|trivial|assumption,by first|rfl|trivial|assumption,x0,hx,by first|rfl|trivial|assumption,rfl⟩ (fun i ρ h hI=>hI.1) ?_
 rintro j ρ h' ⟨hj,rfl,q2,q3,q10,x,hxn,q9,hwit⟩
 rcases Nat.lt_or_ge j (s-1) with h3|h3
 ·rw[show s-1-j=(s-1-(j+1))+1 by omega,witLR] at hwit
  simp only[go_sem,q2,q3,q10,q9,ltT (show 1+j<s by omega)]
  refine r6Mul_calls (by omega) hn ?_
  have hy:=Nat.mod_lt (x*x) (show 0<n by omega)
  generalize x*x%n=y at*
  by_cases c3:y=n-1
  ·rw[if_pos c3] at hwit
   rw[hwit] at hk
   simp only[go_sem,q2,q3,q10,q9,e1,eqT (show(y:Int)=((n-1:Nat):Int) by omega)]
   exact fun _=>hk
  ·rw[if_neg c3] at hwit
   simp only[go_sem,q2,q3,q10,q9,e1,eqF (show(y:Int)≠((n-1:Nat):Int) by omega),incI (i:=1+j) (by omega)]
   exact⟨by omega,by first|rfl|trivial|assumption,by first|rfl|trivial|assumption,by first|rfl|trivial|assumption,by first|rfl|trivial|assumption,y,hy,by first|rfl|trivial|assumption,hwit⟩
 ·obtain rfl:j=s-1:=by omega
  rw[Nat.sub_self] at hwit
  rw[hwit] at hk
  simp only[go_sem,q2,q10,ltF (show s≤1+(s-1) by omega)]
  exact fun _=>hk
theorem odd_uniq {m m':Nat} (hm:m%2=1) (hm':m'%2=1):∀{i j:Nat},2^i*m=2^j*m'→i=j∧m=m'
 |0,0,h=>⟨rfl,by simpa using h⟩
 |0,j+1,h=>by
  rw[Nat.pow_zero,Nat.one_mul,Nat.pow_succ,Nat.mul_right_comm] at h
  omega
 |i+1,0,h=>by
  rw[Nat.pow_zero,Nat.one_mul,Nat.pow_succ,Nat.mul_right_comm] at h
  omega
 |i+1,j+1,h=>by
  rw[Nat.pow_succ,Nat.pow_succ,Nat.mul_right_comm,Nat.mul_right_comm (2^j)] at h
  obtain⟨h1,h2⟩:=odd_uniq hm hm' (Nat.eq_of_mul_eq_mul_right (by omega) h)
  exact⟨by omega,h2⟩
theorem bld12s:abuild (zs [.int .u64 0] 12) [(0,1, .int .u64 2),(1,1, .int .u64 3),(2,1, .int .u64 5),(3,1, .int .u64 7),(4,1, .int .u64 11),(5,1, .int .u64 13),(6,1, .int .u64 17),(7,1, .int .u64 19),(8,1, .int .u64 23),(9,1, .int .u64 29),(10,1, .int .u64 31),(11,1, .int .u64 37)]=some (W .u64 (ps12.map fun n:Nat=>(n:Int))):=rfl
set_option maxHeartbeats 1000000 in
theorem r6Prime_calls (hn:n<18446744073709551616) (hk:∀h',h'.wf→h.le h'→K (.bool (isPr n)) h'):ACalls Tryd.prog 47 [.int .u64 (n:Int)] h K:=by
 refine in_ref06_Prime (by simp) fun hw=> ?_
 unfold c_ref06_Prime
 rw[←refPr_eq hn] at hk
 unfold refPr at hk
 simp only[go_sem,bld12s]
 have hl1:=H.le_new hw (H.le_refl h) ⟨some 22,1,W .u64 (ps12.map fun n:Nat=>(n:Int))⟩
 have hw1:=H.wf_new hw ⟨some 22,1,W .u64 (ps12.map fun n:Nat=>(n:Int))⟩
 have hL:IsN (h.new ⟨some 22,1,W .u64 (ps12.map fun n:Nat=>(n:Int))⟩) (.sl (some h.next) 0 12 (some 12)) ps12:=IsN.lit ps12 _ rfl rfl
 generalize h.new ⟨some 22,1,W .u64 (ps12.map fun n:Nat=>(n:Int))⟩=h1 at*
 have hk:=fun hw'=>hk h1 hw' hl1
 have hl12:ps12.length=12:=rfl
 have hps:∀q∈ps12,2≤q∧q<40:=by decide
 by_cases h2:n<2
 ·rw[if_pos h2] at hk
  simp only[go_sem,show decide ((n:Int)<2)=true from decide_eq_true (by omega)]
  exact hk
 rw[if_neg h2] at hk
 simp only[go_sem,show decide ((n:Int)<2)=false from decide_eq_false (by omega)]
 refine loop_cut (fun ρ h'=>h'=h1∧ρ 0= .int .u64 (n:Int)∧ρ 3= .sl (some h.next) 0 12 (some 12)∧smallL ps12 n=none) ?_ ?_
 ·refine for_rule (fun j ρ h'=>j≤12∧h'=h1∧ρ 0= .int .u64 (n:Int)∧ρ 3= .sl (some h.next) 0 12 (some 12)∧ρ 4= .int .i64 (j:Int)∧smallL (ps12.drop j) n=smallL ps12 n) 12 ⟨by omega,rfl,by first|rfl|trivial|assumption,by first|rfl|trivial|assumption,by first|rfl|trivial|assumption,rfl⟩ (fun i ρ h hI=>hI.1) ?_
  rintro j ρ h' ⟨hj,rfl,q0,q3,q4,hsm⟩
  rcases Nat.lt_or_ge j 12 with h3|h3
  ·obtain⟨ii,e7,_,hg⟩:=hL.at (j:=j) (by omega)
   injection e7 with e7
   subst e7
   rw[Nat.zero_add] at hg
   have hq:=hps _ (List.getElem_mem (show j<ps12.length by omega))
   rw[List.drop_eq_getElem_cons (by omega),smallL] at hsm
   generalize ps12[j]'(by omega)=q at*
   simp only[go_sem,q0,q3,q4,ltT h3]
   refine⟨by omega,by omega, ?_⟩
   simp only[go_sem,hg,q0,q3,q4,tmodN]
   refine⟨by omega, ?_⟩
   by_cases h0:n%q=0
   ·rw[if_pos h0] at hsm
    rw[←hsm] at hk
    simp only[go_sem,q0,q3,q4,eqT (show((n%q:Nat):Int)=0 by omega)]
    refine⟨by omega,by omega, ?_⟩
    simp only[go_sem,hg,q0,show((n:Int)==(q:Int))=decide (n=q) by rw[Bool.eq_iff_iff];simp;omega]
    exact hk
   ·rw[if_neg h0] at hsm
    simp only[go_sem,q0,q3,q4,eqF (show((n%q:Nat):Int)≠0 by omega),incI (i:=j) (by omega)]
    exact⟨by omega,by first|rfl|trivial|assumption,by first|rfl|trivial|assumption,by first|rfl|trivial|assumption,by first|rfl|trivial|assumption,hsm⟩
  ·obtain rfl:j=12:=by omega
   simp only[go_sem,q3,q4,ltF (Nat.le_refl 12)]
   exact⟨by first|rfl|trivial|assumption,q0,by first|rfl|trivial|assumption,hsm.symm⟩
 rintro ρ h' ⟨rfl,q0,q3,hsm⟩
 rw[hsm] at hk
 have h20:=smallL_none (q:=2) ps12 hsm (by decide)
 have e1:IntKind.u64.wrap ((n:Int)-1)=((n-1:Nat):Int):=by rw[wU]<;>omega
 simp only[go_sem,q0,e1]
 refine loop_cut (fun ρ h2=>h2=h'∧ρ 0= .int .u64 (n:Int)∧ρ 3= .sl (some h.next) 0 12 (some 12)∧∃d s:Nat,ρ 5= .int .u64 (d:Int)∧ρ 6= .int .i64 (s:Int)∧d%2=1∧2^s*d=n-1) ?_ ?_
 ·refine⟨fun d ρ h2=>h2=h'∧ρ 0= .int .u64 (n:Int)∧ρ 3= .sl (some h.next) 0 12 (some 12)∧ρ 5= .int .u64 (d:Int)∧∃s:Nat,ρ 6= .int .i64 (s:Int)∧0<d∧2^s*d=n-1,n-1,⟨rfl,by first|rfl|trivial|assumption,by first|rfl|trivial|assumption,by first|rfl|trivial|assumption,0,by first|rfl|trivial|assumption,by omega,by simp⟩, ?_⟩
  rintro d ρ h2 ⟨rfl,q0,q3,q5,s,q6,hd,hds⟩
  have em:((d:Int)).tmod 2=((d%2:Nat):Int):=tmodN (b:=2)
  have ed:((d:Int)).tdiv 2=((d/2:Nat):Int):=tdivN (b:=2)
  have hdn:d≤n-1:=by
   rw[←hds]
   exact Nat.le_mul_of_pos_left _ (Nat.pow_pos (by omega))
  have hsb:s<64:=by
   rcases Nat.lt_or_ge s 64 with h5|h5
   ·exact h5
   ·have h6:2^64≤2^s:=Nat.pow_le_pow_right (by omega) h5
    have h7:2^s*1≤2^s*d:=Nat.mul_le_mul_left _ hd
    omega
  by_cases c3:d%2=0
  ·simp only[go_sem,q0,q3,q5,q6,em,eqT (show((d%2:Nat):Int)=0 by omega),ed,wUn (x:=d/2) (by omega),incI (i:=s) (by omega)]
   refine⟨by decide,by decide,d/2,by omega,by first|rfl|trivial|assumption,by first|rfl|trivial|assumption,by first|rfl|trivial|assumption,by first|rfl|trivial|assumption,s+1,by first|rfl|trivial|assumption,by omega, ?_⟩
   rw[Nat.pow_succ,Nat.mul_assoc,show 2*(d/2)=d by omega,hds]
  ·simp only[go_sem,q0,q3,q5,q6,em,eqF (show((d%2:Nat):Int)≠0 by omega)]
   exact⟨by decide,by first|rfl|trivial|assumption,by first|rfl|trivial|assumption,by first|rfl|trivial|assumption,d,s,by first|rfl|trivial|assumption,by first|rfl|trivial|assumption,by omega,hds⟩
 clear q0 q3
 rintro ρ h2 ⟨rfl,q0,q3,d,s,q5,q6,hdo,hds⟩
 obtain⟨m,hm,hx⟩:=tzf_spec 64 (n-1) (by omega) (by omega)
 obtain⟨hs1,hd1⟩:=odd_uniq hdo hm (hds.trans hx)
 have hdd:(n-1)/2^tzf 64 (n-1)=d:=by
  rw[hd1]
  exact Nat.div_eq_of_eq_mul_right (Nat.pow_pos (by omega)) hx
 rw[hdd,←hs1] at hk
 have hs64:1≤s∧s≤64:=by
  refine⟨?_, ?_⟩
  ·rcases Nat.eq_zero_or_pos s with h5|h5
   ·subst h5
    simp at hds
    omega
   ·exact h5
  ·rcases Nat.lt_or_ge s 65 with h5|h5
   ·omega
   ·have h6:2^65≤2^s:=Nat.pow_le_pow_right (by omega) h5
    have h7:2^s*1≤2^s*d:=Nat.mul_le_mul_left _ (by omega)
    omega
 have hdB:d<18446744073709551616:=by
  have h7:1*d≤2^s*d:=Nat.mul_le_mul_right _ (Nat.pow_pos (by omega))
  omega
 simp only[go_sem]
 refine for_rule (fun j ρ h3=>j≤12∧h3=h2∧ρ 0= .int .u64 (n:Int)∧ρ 3= .sl (some h.next) 0 12 (some 12)∧ρ 5= .int .u64 (d:Int)∧ρ 6= .int .i64 (s:Int)∧ρ 7= .int .i64 (j:Int)∧(ps12.all fun a=>witR a n d s)=((ps12.drop j).all fun a=>witR a n d s)) 12 ⟨by omega,rfl,q0,q3,q5,q6,by first|rfl|trivial|assumption,rfl⟩ (fun i ρ h hI=>hI.1) ?_
 clear q0 q3 q5 q6
 rintro j ρ h3 ⟨hj,rfl,q0,q3,q5,q6,q7,hall⟩
 rcases Nat.lt_or_ge j 12 with h4|h4
 ·obtain⟨ii,e7,_,hg⟩:=hL.at (j:=j) (by omega)
  injection e7 with e7
  subst e7
  rw[Nat.zero_add] at hg
  rw[List.drop_eq_getElem_cons (by omega),List.all_cons] at hall
  generalize ps12[j]'(by omega)=q at*
  simp only[go_sem,q0,q3,q5,q6,q7,ltT h4]
  refine⟨by omega,by omega, ?_⟩
  simp only[go_sem,hg,q0,q3,q5,q6,q7]
  refine r6witness_calls hn (by omega) hdB hs64 ?_
  cases hwt:witR q n d s
  ·rw[hwt,Bool.false_and] at hall
   rw[hall] at hk
   simp only[go_sem,Bool.not_false,q0,q3,q5,q6,q7]
   exact hk
  ·rw[hwt,Bool.true_and] at hall
   simp only[go_sem,Bool.not_true,q0,q3,q5,q6,q7,incI (i:=j) (by omega)]
   exact⟨by omega,by first|rfl|trivial|assumption,by first|rfl|trivial|assumption,by first|rfl|trivial|assumption,by first|rfl|trivial|assumption,by first|rfl|trivial|assumption,by first|rfl|trivial|assumption,hall⟩
 ·obtain rfl:j=12:=by omega
  rw[show ps12.drop 12=[] from rfl,List.all_nil] at hall
  rw[hall] at hk
  simp only[go_sem,q3,q7,ltF (Nat.le_refl 12)]
  exact hk
def PrimeP (p:Nat):Prop:=3≤p∧p<4611686018427387904∧p%2=1∧isPr p=true
theorem r6May_calls (hk:K (.bool (decide (p%2=1∧3≤p∧p<4611686018427387904))) h):ACalls Tryd.prog 45 [.int .u64 (p:Int)] h K:=by
 refine in_ref06_May (by simp) fun hw=> ?_
 unfold c_ref06_May
 have em:((p:Int)).tmod 2=((p%2:Nat):Int):=tmodN (b:=2)
 by_cases c1:p%2=1
 ·by_cases c2:3≤p
  ·by_cases c3:p<4611686018427387904
   ·rw[decide_eq_true ⟨c1,c2,c3⟩] at hk
    simp only[go_sem,em,eqT (show((p%2:Nat):Int)=1 by omega),show decide ((3:Int)≤(p:Int))=true from decide_eq_true (by omega),show decide ((p:Int)<4611686018427387904)=true from decide_eq_true (by omega)]
    exact⟨by decide,fun _=>hk⟩
   ·rw[decide_eq_false fun h=>c3 h.2.2] at hk
    simp only[go_sem,em,eqT (show((p%2:Nat):Int)=1 by omega),show decide ((3:Int)≤(p:Int))=true from decide_eq_true (by omega),show decide ((p:Int)<4611686018427387904)=false from decide_eq_false (by omega)]
    exact⟨by decide,fun _=>hk⟩
  ·rw[decide_eq_false fun h=>c2 h.2.1] at hk
   simp only[go_sem,em,eqT (show((p%2:Nat):Int)=1 by omega),show decide ((3:Int)≤(p:Int))=false from decide_eq_false (by omega)]
   exact⟨by decide,fun _=>hk⟩
 ·rw[decide_eq_false fun h=>c1 h.1] at hk
  simp only[go_sem,em,eqF (show((p%2:Nat):Int)≠1 by omega)]
  exact⟨by decide,fun _=>hk⟩
theorem Modulus_calls (hp:p<18446744073709551616) (hk:∀b h',(b=true↔PrimeP p)→h'.wf→h.le h'→K (.bool b) h'):ACalls Tryd.prog 10 [.int .u64 (p:Int)] h K:=by
 refine in_ref31_Modulus (by simp) fun hw=> ?_
 unfold c_ref31_Modulus
 simp only[go_sem]
 refine r6May_calls ?_
 by_cases c1:p%2=1∧3≤p∧p<4611686018427387904
 ·simp only[go_sem,decide_eq_true c1]
  refine r6Prime_calls hp fun h1 hw1 hl1=> ?_
  simp only[go_sem]
  exact fun hw'=>hk _ h1 ⟨fun hi=>⟨c1.2.1,c1.2.2,c1.1,hi⟩,fun hi=>hi.2.2.2⟩ hw' hl1
 ·simp only[go_sem,decide_eq_false c1]
  exact fun hw'=>hk false h ⟨(fun hi=>by cases hi),fun hi=>absurd ⟨hi.2.2.1,hi.1,hi.2.1⟩ c1⟩ hw' (H.le_refl h)
def prs23:List Nat:=[3,5,7,17,97,257,65537,998244353,4294967291,4611686018427387847,4179340454199820289,1000003]
theorem prs23_ok:∀q∈prs23,3≤q∧q<4611686018427387904∧q%2=1∧isPr q=true:=by decide+kernel
theorem bldP:abuild (zs [.int .u64 0] 12) [(0,1, .int .u64 3),(1,1, .int .u64 5),(2,1, .int .u64 7),(3,1, .int .u64 17),(4,1, .int .u64 97),(5,1, .int .u64 257),(6,1, .int .u64 65537),(7,1, .int .u64 998244353),(8,1, .int .u64 4294967291),(9,1, .int .u64 4611686018427387847),(10,1, .int .u64 4179340454199820289),(11,1, .int .u64 1000003)]=some (W .u64 (prs23.map fun n:Nat=>(n:Int))):=rfl
theorem lPrime_calls {k:Nat} (hk:∀q h',q∈prs23→h'.wf→h.le h'→K (.int .u64 (q:Nat)) h'):ACalls Tryd.prog 48 [.int .u64 (k:Int)] h K:=by
 refine in_law23_Prime (by simp) fun hw=> ?_
 unfold c_law23_Prime
 simp only[go_sem,bldP]
 have hl1:=H.le_new hw (H.le_refl h) ⟨some 22,1,W .u64 (prs23.map fun n:Nat=>(n:Int))⟩
 have hL:IsN (h.new ⟨some 22,1,W .u64 (prs23.map fun n:Nat=>(n:Int))⟩) (.sl (some h.next) 0 12 (some 12)) prs23:=IsN.lit prs23 _ rfl rfl
 generalize h.new ⟨some 22,1,W .u64 (prs23.map fun n:Nat=>(n:Int))⟩=h1 at*
 have hl12:prs23.length=12:=rfl
 have hm:=Nat.mod_lt k (show 0<12 by omega)
 obtain⟨ii,e7,_,hg⟩:=hL.at (j:=k%12) (by omega)
 injection e7 with e7
 subst e7
 rw[Nat.zero_add] at hg
 simp only[go_sem,show IntKind.u64.wrap ((12:Nat):Int)=12 from rfl,show(k:Int).tmod 12=((k%12:Nat):Int) from tmodN (b:=12)]
 refine⟨by decide,by omega,by omega, ?_⟩
 simp only[go_sem,hg]
 exact fun hw'=>hk _ h1 (List.getElem_mem _) hw' hl1
theorem ring_calls {k:Nat} (hk:∀e p h',h'.wf→h.le h'→RG h' e p→PrimeP p→K (.tup [.ptr (some (e,0)), .int .u64 (p:Nat)]) h'):ACalls Tryd.prog 14 [.int .u64 (k:Int)] h K:=by
 refine in_law23_ring (by simp) fun hw=> ?_
 unfold c_law23_ring
 simp only[go_sem]
 refine lPrime_calls fun q h1 hq hw1 hl1=> ?_
 obtain⟨c1,c2,c3,c4⟩:=prs23_ok q hq
 simp only[go_sem]
 refine pNew_calls ⟨c1,c2⟩ c3 c4 fun e h2 hw2 hl2 hr=> ?_
 simp only[go_sem,show((0:Int) !=0)=false from rfl]
 exact fun hw'=>hk e q h2 hw' (H.le_trans hl1 hl2) hr ⟨c1,c2,c3,c4⟩
theorem wakes23_calls (hk:∀h',h'.wf→h.le h'→K (.bool true) h'):ACalls Tryd.prog 12 [] h K:=by
 refine in_law23_wakes (by simp) fun hw=> ?_
 unfold c_law23_wakes
 simp only[go_sem]
 refine pNew_calls (p:=7) (by decide) (by decide) (by decide+kernel) fun e h1 hw1 hl1 hr=> ?_
 simp only[go_sem,show((0:Int)==0)=true from rfl,Option.isNone,Bool.true_bne,Bool.not_false,show abuild (zs [.int .u64 0] 2) [(0*1,1, .int .u64 3),(1*1,1, .int .u64 7)]=some [.int .u64 3, .int .u64 7] from rfl]
 have hl2:=H.le_new hw1 (H.le_refl h1) ⟨some 22,1,[.int .u64 3, .int .u64 7]⟩
 refine pNorm_calls (hr.mono hl2) (IsN.lit [3,7] _ rfl rfl) (by simp) fun r ys h3 hw3 hl3 hy ht _=> ?_
 have ey:ys=[3]:=ht.uniq ⟨fun i=>by
  rcases i with _|_|i
  ·rfl
  ·rfl
  ·rfl,by simp⟩
 subst ey
 simp only[go_sem,show abuild (zs [.int .u64 0] 1) [(0*1,1, .int .u64 3)]=some [.int .u64 3] from rfl]
 have hl4:=H.le_new hw3 (H.le_refl h3) ⟨some 22,1,[.int .u64 3]⟩
 have hw4:=H.wf_new hw3 ⟨some 22,1,[.int .u64 3]⟩
 refine kSame_calls (xs:=[3]) (hy.isN.mono hl4) (IsN.lit [3] _ rfl rfl) (by simp) ?_
 have hr4:=((hr.mono hl2).mono hl3).mono hl4
 simp only[go_sem]
 refine pDeg_calls hr4 (IsN.nil _ _) (by simp) fun ys ht=> ?_
 have ey:ys=[]:=ht.uniq (TrimF.nil fun i=>by rw[getD_out (Nat.zero_le _)])
 subst ey
 simp only[go_sem,show((((([]:List Nat).length:Nat):Int)-1)== -1)=true from rfl,show abuild (zs [.int .u64 0] 8) [(0,1, .int .u64 0),(1,1, .int .u64 0),(2,1, .int .u64 0),(3,1, .int .u64 0),(4,1, .int .u64 0),(5,1, .int .u64 0),(6,1, .int .u64 0),(7,1, .int .u64 1)]=some (W .u64 ([0,0,0,0,0,0,0,1].map fun n:Nat=>(n:Int))) from rfl]
 generalize hh5:(h3.new ⟨some 22,1,[.int .u64 3]⟩)=g4 at*
 have hl5:=H.le_new hw4 (H.le_refl g4) ⟨some 22,1,W .u64 ([0,0,0,0,0,0,0,1].map fun n:Nat=>(n:Int))⟩
 refine pDerive_calls (xs:=[0,0,0,0,0,0,0,1]) (hr4.mono hl5) (IsN.lit [0,0,0,0,0,0,0,1] _ rfl rfl) (by simp) fun r ys h6 hw6 hl6 hy6 ht6 _=> ?_
 have ey:ys=[]:=ht6.uniq (TrimF.nil fun i=>by
  show(i+1)*[0,0,0,0,0,0,0,1].getD (i+1) 0%7=0
  rcases i with _|_|_|_|_|_|_|i
  ·rfl
  ·rfl
  ·rfl
  ·rfl
  ·rfl
  ·rfl
  ·rfl
  ·rw[getD_out (by simp),Nat.mul_zero])
 subst ey
 obtain⟨id,c,rfl⟩:=hy6.form
 have hr6:=(hr4.mono hl5).mono hl6
 obtain⟨i,hgi,hm⟩:=hr6
 simp only[go_sem,show(((([]:List Nat).length:Nat):Int)==0)=true from rfl,hgi]
 refine mMul_calls (a:=3) (b:=5) hm ?_
 simp only[go_sem,show(((3*5%7:Nat):Int)==1)=true from rfl]
 exact fun hw'=>hk h6 hw' ((H.le_trans hl1 (H.le_trans hl2 (H.le_trans hl3 (H.le_trans hl4 (H.le_trans hl5 hl6))))))
end
end
end Ab
end Go.Proofs.YtkbglkjpdndkiaaDoor
