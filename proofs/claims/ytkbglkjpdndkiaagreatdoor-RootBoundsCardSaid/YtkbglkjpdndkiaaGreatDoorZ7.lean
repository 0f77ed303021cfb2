/- Joined texts: M8 M9 M10 M11 M12 P1 V1 V2 P2 O1. No condition. -/
import Derived.Test.YtkbglkjpdndkiaaGreatDoorZ6
namespace Go.Proofs.YtkbglkjpdndkiaaGreatDoor
namespace Ab
open Go Go.RowKit
set_option linter.unusedSimpArgs false
set_option linter.unusedVariables false
attribute [local go_sem ↓] x_mv x_pick x_bin x_beq x_peq x_seq x_cat x_aeq x_idxS x_idxV x_un x_cvI x_bts x_idx x_idxA x_fld x_ld x_st x_nn x_prt x_slc x_mk x_bsl x_bld x_box x_alloc x_len x_capo x_mnx x_app x_cpy x_mkf x_ext x_call x_callV x_bad s_none s_some s_nil s_cons s_chks w_skip w_reg tP_fin tP_no tP_alt w_seq w_cond w_block w_exit w_ret t_normal t_exit t_ret b_normal b_ret b_exit n_normal n_exit n_ret p_normal p_ret f_nil f_t f_c k_ops k_chk k_fin
attribute [local go_sem] e_t e_c e_f u_some u_none u_at env_at k_v k_pick k_add k_sub k_mul k_quo k_rem k_and k_or k_xor k_shl k_shr k_eql k_neq k_lss k_leq k_gtr k_geq k_beq k_peqn k_peqs k_neg k_not k_com k_cvI k_idxS k_idxV1 k_idxVn k_idx k_idxA k_idxG k_ldG k_gld k_seq k_cat k_aeq k_eqs k_fld k_ld1 k_ldn k_get k_gets k_sti k_stb k_stp k_sts k_stf k_sta k_put k_nn k_prt1 k_prtn k_slc_a k_slc_b k_slc_c k_mk k_agg k_bsl k_box k_len k_lenS k_cap k_max k_min k_ext k_callV k_true k_false k_gtt k_gtf k_gft k_gsk k_gff k_lit1i k_lit2i k_lit3i k_c0 k_c1 k_ck List.getElem?_cons_zero List.getElem?_cons_succ List.getElem?_nil Option.getD_some Option.getD_none tupOf List.map_cons List.map_nil Option.map_some Option.map_none List.nil_append List.cons_append List.append_nil Nat.mul_one Int.toNat_natCast Nat.zero_add
attribute [local go_sem] e_t e_c e_f u_some u_none u_at env_at k_v k_pick k_add k_sub k_mul k_quo k_rem k_and k_or k_xor k_shl k_shr k_eql k_neq k_lss k_leq k_gtr k_geq k_beq k_peqn k_peqs k_neg k_not k_com k_cvI k_idxS k_idxV1 k_idxVn k_idx k_idxA k_idxG k_ldG k_gld k_seq k_cat k_aeq k_eqs k_fld k_ld1 k_ldn k_get k_gets k_sti k_stb k_stp k_sts k_stf k_sta k_put k_nn k_prt1 k_prtn k_slc_a k_slc_b k_slc_c k_mk k_agg k_bsl k_box k_len k_lenS k_cap k_max k_min k_ext k_callV k_true k_false k_gtt k_gtf k_gft k_gsk k_gff k_lit1i k_lit2i k_lit3i k_c0 k_c1 k_ck List.getElem?_cons_zero List.getElem?_cons_succ List.getElem?_nil Option.getD_some Option.getD_none tupOf List.map_cons List.map_nil Option.map_some Option.map_none List.nil_append List.cons_append List.append_nil Nat.mul_one Int.toNat_natCast Nat.zero_add
--what a store into a cell of two leaves
attribute [local go_sem_proc] Nat.reduceEqDiff Nat.reduceAdd Int.reduceToNat
attribute [local go_sem_proc ↓] reduceIte
attribute [local go_sem] Bool.false_eq_true
theorem mulsub_step {q d c u:Nat} (hq:q<18446744073709551616) (hd:d<18446744073709551616) (hc:c<18446744073709551616) (hu:u<18446744073709551616):
  ((u+18446744073709551616-(q*d%18446744073709551616+c)%18446744073709551616-0)%18446744073709551616)+q*d+c=u+18446744073709551616*(q*d/18446744073709551616+(q*d%18446744073709551616+c)/18446744073709551616+(if u<(q*d%18446744073709551616+c)%18446744073709551616+0 then 1 else 0))∧
  q*d/18446744073709551616+(q*d%18446744073709551616+c)/18446744073709551616+(if u<(q*d%18446744073709551616+c)%18446744073709551616+0 then 1 else 0)<18446744073709551616:=by
 have h1:q*d≤18446744073709551615*18446744073709551615:=Nat.mul_le_mul (by omega) (by omega)
 generalize q*d=p at*
 have h2:(p+c)/18446744073709551616≤18446744073709551615:=by omega
 split
 ·omega
 ·omega
theorem guess {P t D2 q r lo Dlo T D:Nat} (e:t=q*D2+r) (hr:r<D2) (hlo:lo<P) (hT:T=lo+P*t) (hD:D=Dlo+P*D2):T<(q+1)*D:=by
 have h1:t+1≤(q+1)*D2:=by rw[Nat.add_mul,Nat.one_mul];omega
 have h2:P*(t+1)≤P*((q+1)*D2):=Nat.mul_le_mul_left _ h1
 have h3:P*((q+1)*D2)=(q+1)*(P*D2):=by ac_rfl
 have h4:(q+1)*(P*D2)≤(q+1)*D:=Nat.mul_le_mul_left _ (by omega)
 rw[Nat.mul_add,Nat.mul_one] at h2
 omega
theorem val_top3 {win:List Nat} {m:Nat} (hl:win.length=m+1) (hm:2≤m):val 18446744073709551616 win=val 18446744073709551616 (win.take (m-2))+18446744073709551616^(m-2)*((win[m]'(by omega)*18446744073709551616+win[m-1]'(by omega))*18446744073709551616+win[m-2]'(by omega)):=by
 have h1:=val_take_succ 18446744073709551616 win (m-2) (by omega)
 have h2:=val_take_succ 18446744073709551616 win (m-1) (by omega)
 have h3:=val_take_succ 18446744073709551616 win m (by omega)
 rw[←hl,List.take_length] at h3
 rw[show m-2+1=m-1 by omega] at h1
 rw[show m-1+1=m by omega] at h2
 rw[h3,h2,h1]
 obtain⟨k,rfl⟩:∃k,m=k+2:=⟨m-2,by omega⟩
 simp only[show k+2-1=k+1 by omega,show k+2-2=k by omega,Nat.pow_succ]
 grind
theorem val_top2 {ds:List Nat} {m:Nat} (hl:ds.length=m) (hm:2≤m):val 18446744073709551616 ds=val 18446744073709551616 (ds.take (m-2))+18446744073709551616^(m-2)*(ds[m-1]'(by omega)*18446744073709551616+ds[m-2]'(by omega)):=by
 have h1:=val_take_succ 18446744073709551616 ds (m-2) (by omega)
 have h2:=val_take_succ 18446744073709551616 ds (m-1) (by omega)
 rw[show m-1+1=m by omega,List.take_of_length_le (by omega)] at h2
 rw[show m-2+1=m-1 by omega] at h1
 rw[h2,h1]
 obtain⟨k,rfl⟩:∃k,m=k+2:=⟨m-2,by omega⟩
 simp only[show k+2-1=k+1 by omega,show k+2-2=k by omega,Nat.pow_succ]
 grind
theorem guess_calls {a2 a1 a0 d1 d0 v:Nat} {h:H} {K:AV→H→Prop} (G:Nat→Prop) (h2:a2<18446744073709551616) (h1:a1<18446744073709551616) (h0:a0<18446744073709551616) (hd1:d1<18446744073709551616) (hd0:d0<18446744073709551616) (htop:9223372036854775808≤d1) (hv:IsInv2 d1 d0 v)
  (g1:G 18446744073709551615) (g2:∀q r,q<18446744073709551616→r<d1*18446744073709551616+d0→(a2*18446744073709551616+a1)*18446744073709551616+a0=q*(d1*18446744073709551616+d0)+r→G q)
  (hk:∀(ok:Bool) (q x y:Nat),q<18446744073709551616→(ok=true→G q)→(ok=false→G 18446744073709551615)→K (.tup [.int .u64 (q:Nat), .int .u64 (x:Nat), .int .u64 (y:Nat), .bool ok]) h):
  ACalls Tryz.prog 119 [.int .u64 (a2:Int), .int .u64 (a1:Int), .int .u64 (a0:Int), .int .u64 (d1:Int), .int .u64 (d0:Int), .int .u64 (v:Int)] h K:=
 Div3_calls h2 h1 h0 hd1 hd0 (fun _=>hk false 0 0 0 (by omega) (fun h=>by cases h) (fun _=>g1)) (fun _ _=>hv) (fun _ _ q r hq hr e=>hk true q _ _ hq (fun _=>g2 q r hq hr e) (fun h=>by cases h))
def KeptBut (iu:Nat) (a h h':H):Prop:=h'.wf∧a.le h'∧h'.next=h.next∧∀i r,i≠iu→h.rows i=some r→h'.rows i=some r
theorem app_mid {A out X:List Nat} {d:Nat}:(A++(out++[d]))++X=(A++out)++d::X:=by simp
theorem KeptBut.set {iu:Nat} {a h h':H} (k:KeptBut iu a h h') (ha:a.wf) (hi:a.next≤iu) (hl:iu<h'.next) (r:Row):KeptBut iu a h (h'.set iu r):=
 ⟨H.wf_set k.1 hl _,H.le_set ha k.2.1 hi _,k.2.2.1,fun i q hne hq=>by rw[H.rows_set_ne hne];exact k.2.2.2 i q hne hq⟩
set_option maxHeartbeats 4000000 in
theorem digit_calls {a h:H} {iu N m v:Nat} {ck c0:Option Nat} {dv:AV} {A win C ds:List Nat} {K:AV→H→Prop} (ha:a.wf) (hal:a.le h) (hs:IsG a.next h (.sl (some iu) 0 N ck) (A++(win++C))) (hd:IsN a dv ds) (hm:2≤m) (hdl:ds.length=m) (hwl:win.length=m+1)
  (hwd:Dig win) (hdd:Dig ds) (hml:m≤1099511627776) (htop:9223372036854775808≤ds[m-1]'(by omega)) (hv:IsInv2 (ds[m-1]'(by omega)) (ds[m-2]'(by omega)) v) (hT:val 18446744073709551616 win<val 18446744073709551616 ds*18446744073709551616)
  (hk:∀h' ws,KeptBut iu a h h'→IsG a.next h' (.sl (some iu) 0 N ck) (A++(ws++C))→Dig ws→ws.length=m+1→val 18446744073709551616 ws=val 18446744073709551616 win%val 18446744073709551616 ds→K (.int .u64 (val 18446744073709551616 win/val 18446744073709551616 ds:Nat)) h'):
  ACalls Tryz.prog 104 [.sl (some iu) A.length (m+1) c0,dv, .int .u64 (v:Int)] h K:=by
 obtain⟨id,off,c,rfl⟩:=hd.form
 have hd':=hd
 rw[hdl] at hd
 refine in_divs_digit (by simp) fun hw=> ?_
 unfold c_divs_digit
 have e1:=decI (i:=m) (by omega) (by omega)
 have e2:IntKind.i64.wrap ((m:Int)-2)=((m-2:Nat):Int):=by rw[wI]<;>omega
 have hxs:∀i (hi:i<m+1),h.get iu (A.length+i)=some (.int .u64 (win[i]'(by omega):Nat)):=by
  intro i hi
  obtain⟨i',ee,_,hg⟩:=hs.isN.at (j:=A.length+i) (by simp;omega)
  injection ee with ee
  subst ee
  rw[Nat.zero_add] at hg
  rw[hg]
  congr 3
  rw[List.getElem_append_right (by omega),List.getElem_append_left (by omega)]
  simp
 have hds:∀(g:H),a.le g→∀i (hi:i<m),∃jd,id=some jd∧g.get jd (off+i)=some (.int .u64 (ds[i]'(by omega):Nat)):=by
  intro g hg i hi
  obtain⟨jd,ee,_,hgg⟩:=(hd'.mono hg).at (j:=i) (by omega)
  exact⟨jd,ee,hgg⟩
 obtain⟨jd,rfl,g1⟩:=hds h hal (m-1) (by omega)
 obtain⟨jd',ee,g2⟩:=hds h hal (m-2) (by omega)
 injection ee with ee
 subst ee
 simp only[go_sem,hdl]
 refine⟨by omega,by omega, ?_⟩
 simp only[go_sem,hxs m (by omega),e1,e2]
 refine⟨by omega,by omega, ?_⟩
 simp only[go_sem,hxs (m-1) (by omega),e1,e2]
 refine⟨by omega,by omega, ?_⟩
 simp only[go_sem,hxs (m-2) (by omega),e1,e2]
 refine⟨by omega,by omega, ?_⟩
 simp only[go_sem,g1,e1,e2]
 refine⟨by omega,by omega, ?_⟩
 simp only[go_sem,g2,e1,e2]
 have hD:=val_top2 hdl hm
 have hTT:=val_top3 hwl hm
 have hlo:=val_lt_take 18446744073709551616 (by omega) win hwd (m-2)
 refine guess_calls (fun q=>val 18446744073709551616 win<(q+1)*val 18446744073709551616 ds) (hwd _ (List.getElem_mem _)) (hwd _ (List.getElem_mem _)) (hwd _ (List.getElem_mem _)) (hdd _ (List.getElem_mem _)) (hdd _ (List.getElem_mem _)) htop hv (by rw[Nat.mul_comm];exact hT) (fun q r hq hr e=>guess e hr hlo hTT hD) fun ok q0 x0 y0 hq0 g1' g2'=> ?_
 clear hD hTT hlo
 simp only[go_sem]
 refine cond_cut (fun ρ' h2=>h2=h∧ρ' 0= .sl (some iu) A.length (m+1) c0∧ρ' 1= .sl (some jd) off m c∧ρ' 7= .int .i64 (m:Int)∧∃q:Nat,ρ' 8= .int .u64 (q:Int)∧q<18446744073709551616∧val 18446744073709551616 win<(q+1)*val 18446744073709551616 ds) ?_ ?_
 ·cases ok
  ·simp only[go_sem,Bool.not_false]
   exact⟨trivial,trivial,trivial,trivial,18446744073709551615,rfl,by omega,g2' rfl⟩
  ·simp only[go_sem,Bool.not_true]
   exact⟨trivial,trivial,trivial,trivial,q0,rfl,hq0,g1' rfl⟩
 clear g1' g2' hq0
 rintro ρ hh ⟨rfl,h0,h1,h7,q,h8,hq,hqT⟩
 have hwm:=hwd _ (List.getElem_mem (show m<win.length by omega))
 simp only[go_sem,h0,h1,h7,h8]
 refine loop_cut (fun ρ' h'=>KeptBut iu a hh h'∧ρ' 0= .sl (some iu) A.length (m+1) c0∧ρ' 1= .sl (some jd) off m c∧ρ' 7= .int .i64 (m:Int)∧ρ' 8= .int .u64 (q:Int)∧∃out cc,ρ' 12= .int .u64 (cc:Nat)∧cc<18446744073709551616∧out.length=m∧Dig out∧IsG a.next h' (.sl (some iu) 0 N ck) ((A++out)++win[m]'(by omega)::C)∧val 18446744073709551616 out+q*val 18446744073709551616 ds=val 18446744073709551616 (win.take m)+18446744073709551616^m*cc) ?_ ?_
 ·refine for_rule (fun i ρ' h'=>i≤m∧KeptBut iu a hh h'∧ρ' 0= .sl (some iu) A.length (m+1) c0∧ρ' 1= .sl (some jd) off m c∧ρ' 7= .int .i64 (m:Int)∧ρ' 8= .int .u64 (q:Int)∧ρ' 13= .int .i64 (i:Int)∧∃out cc,ρ' 12= .int .u64 (cc:Nat)∧cc<18446744073709551616∧out.length=i∧Dig out∧IsG a.next h' (.sl (some iu) 0 N ck) ((A++out)++(win.drop i++C))∧val 18446744073709551616 out+q*val 18446744073709551616 (ds.take i)=val 18446744073709551616 (win.take i)+18446744073709551616^i*cc) m ⟨by omega,⟨hw,hal,rfl,fun i r _ h=>h⟩,by first|rfl|trivial|assumption,by first|rfl|trivial|assumption,by first|rfl|trivial|assumption,by first|rfl|trivial|assumption,rfl,[],0,rfl,by omega,rfl,Dig.nil,by simpa using hs,rfl⟩ (fun i ρ h hI=>hI.1) ?_
  rintro i ρ h' ⟨hi,hkb,h0,h1,h7,h8,h13,out,cc,h12,hcc,hol,hod,hs,hov⟩
  rcases Nat.lt_or_ge i m with him|him
  ·have hdb:=hdd _ (List.getElem_mem (show i<ds.length by omega))
   have hub:=hwd _ (List.getElem_mem (show i<win.length by omega))
   have hvd:=val_take_succ 18446744073709551616 ds i (by omega)
   have hvw:=val_take_succ 18446744073709551616 win i (by omega)
   obtain⟨_,ee,gd⟩:=hds h' hkb.2.1 i him
   injection ee with ee
   subst ee
   rw[List.drop_eq_getElem_cons (show i<win.length by omega),List.cons_append] at hs
   obtain⟨i2,r2,ee,hb2,hl2,hr2,ho2,hf2,hg2,hn2,hp2⟩:=hs.mid hkb.1
   injection ee with ee
   subst ee
   have hal2:(A++out).length=A.length+i:=by simp;omega
   rw[hal2] at hf2 hg2 hp2
   obtain⟨s1,s2⟩:=mulsub_step hq hdb hcc hub
   have fin:∀d c2:Nat,d+q*ds[i]+cc=win[i]+18446744073709551616*c2→val 18446744073709551616 (out++[d])+q*val 18446744073709551616 (ds.take (i+1))=val 18446744073709551616 (win.take (i+1))+18446744073709551616^(i+1)*c2:=by
    intro d c2 e
    rw[val_snoc,hvd,hvw,hol,Nat.pow_succ,Nat.mul_assoc]
    have e2:=congrArg (fun z=>18446744073709551616^i*z) e
    simp only[Nat.mul_add] at e2⊢
    rw[Nat.mul_left_comm q (18446744073709551616^i) ds[i]]
    omega
   have f1:=fin _ _ s1
   have b1:q*ds[i]%18446744073709551616<18446744073709551616:=Nat.mod_lt _ (by omega)
   have a1:=addU (a:=q*ds[i]/18446744073709551616) (b:=(q*ds[i]%18446744073709551616+cc)/18446744073709551616) (by omega)
   have a2:=addU (a:=q*ds[i]/18446744073709551616+(q*ds[i]%18446744073709551616+cc)/18446744073709551616) (b:=if win[i]<(q*ds[i]%18446744073709551616+cc)%18446744073709551616+0 then 1 else 0) s2
   simp only[go_sem,h0,h1,h7,h8,h13,h12,ltT him]
   refine⟨by omega,by omega, ?_⟩
   simp only[go_sem,gd,h0,h1,h7,h8,h13,h12]
   refine Mul64_calls hq hdb ?_
   simp only[go_sem,h0,h1,h7,h8,h13,h12]
   refine Add64_calls (c:=0) b1 hcc (by omega) ?_
   simp only[go_sem,Nat.add_zero,a1,h0,h1,h7,h8,h13,h12]
   refine⟨by omega,by omega, ?_⟩
   simp only[go_sem,hg2]
   refine Sub64_calls (c:=0) (by omega) ?_
   simp only[go_sem,h0,h13]
   refine⟨by omega,by omega, ?_⟩
   simp only[go_sem,hr2]
   refine⟨ho2,by omega, ?_⟩
   simp only[go_sem,h0,h1,h7,h8,h13,a2,incI (i:=i) (by omega)]
   refine⟨by omega,hkb.set ha hb2 hl2 _,by first|rfl|trivial|assumption,by first|rfl|trivial|assumption,by first|rfl|trivial|assumption,by first|rfl|trivial|assumption,by first|rfl|trivial|assumption,out++[_],_,rfl,s2,by simp;omega,hod.append (Dig.one (Nat.mod_lt _ (by omega))), ?_,f1⟩
   rw[app_mid]
   exact hp2 _
  ·have:i=m:=by omega
   subst this
   simp only[go_sem,h0,h1,h7,h8,h13,h12,ltF (Nat.le_refl i)]
   refine⟨hkb,by first|rfl|trivial|assumption,by first|rfl|trivial|assumption,by first|rfl|trivial|assumption,by first|rfl|trivial|assumption,out,cc,by first|rfl|trivial|assumption,hcc,hol,hod, ?_, ?_⟩
   ·rw[List.drop_eq_getElem_cons (show i<win.length by omega),List.drop_of_length_le (show win.length≤i+1 by omega)] at hs
    exact hs
   ·rw[List.take_of_length_le (show ds.length≤i by omega)] at hov
    exact hov
 rintro ρ h' ⟨hkb,h0,h1,h7,h8,out,cc,h12,hcc,hol,hod,hs,hov⟩
 have hvw:=val_take_succ 18446744073709551616 win m (by omega)
 rw[←hwl,List.take_length] at hvw
 generalize win[m]'(by omega)=um at*
 obtain⟨i2,r2,ee,hb2,hl2,hr2,ho2,hf2,hg2,hn2,hp2⟩:=hs.mid hkb.1
 injection ee with ee
 subst ee
 have hal2:(A++out).length=A.length+m:=by simp;omega
 rw[hal2] at hf2 hg2 hp2
 simp only[go_sem,h0,h1,h7,h8,h12]
 refine⟨by omega,by omega, ?_⟩
 simp only[go_sem,hg2,h7,h0,h8,h12]
 refine Sub64_calls (c:=0) (by omega) ?_
 simp only[go_sem,h0,h7]
 refine⟨by omega,by omega, ?_⟩
 simp only[go_sem,hr2]
 refine⟨ho2,by omega, ?_⟩
 have hG:=hp2 ((um+18446744073709551616-cc-0)%18446744073709551616)
 have hkb2:=hkb.set ha hb2 hl2 {r2 with cells:=putAt r2.cells (A.length+m) [AV.int .u64 (((um+18446744073709551616-cc-0)%18446744073709551616:Nat):Int)]}
 generalize h'.set iu {r2 with cells:=putAt r2.cells (A.length+m) [AV.int .u64 (((um+18446744073709551616-cc-0)%18446744073709551616:Nat):Int)]}=h2 at*
 have hwd2:(um+18446744073709551616-cc-0)%18446744073709551616<18446744073709551616:=Nat.mod_lt _ (by omega)
 have hk1:(if um<cc+0 then 1 else 0)≤1:=by split<;>omega
 have hsub:(um+18446744073709551616-cc-0)%18446744073709551616+cc=um+18446744073709551616*(if um<cc+0 then 1 else 0):=by split<;>omega
 generalize (um+18446744073709551616-cc-0)%18446744073709551616=w at*
 generalize (if um<cc+0 then 1 else 0)=kk at*
 have hR:val 18446744073709551616 (out++[w])+q*val 18446744073709551616 ds=val 18446744073709551616 win+18446744073709551616^(m+1)*kk:=by
  have e2:=congrArg (fun z=>18446744073709551616^m*z) hsub
  simp only[Nat.mul_add] at e2
  rw[val_snoc,hol,hvw,Nat.pow_succ,Nat.mul_assoc]
  omega
 rw[←app_mid] at hG
 clear hov hsub hs hp2 hg2 hf2
 refine⟨fun q' ρ' h3=>KeptBut iu a hh h3∧ρ' 0= .sl (some iu) A.length (m+1) c0∧ρ' 1= .sl (some jd) off m c∧ρ' 7= .int .i64 (m:Int)∧ρ' 8= .int .u64 (q':Int)∧q'<18446744073709551616∧val 18446744073709551616 win<(q'+1)*val 18446744073709551616 ds∧∃ws kk,ρ' 18= .int .u64 (kk:Nat)∧kk≤1∧ws.length=m+1∧Dig ws∧IsG a.next h3 (.sl (some iu) 0 N ck) (A++(ws++C))∧val 18446744073709551616 ws+q'*val 18446744073709551616 ds=val 18446744073709551616 win+18446744073709551616^(m+1)*kk,q,
  ⟨hkb2,by first|rfl|trivial|assumption,by first|rfl|trivial|assumption,by first|rfl|trivial|assumption,by first|rfl|trivial|assumption,hq,hqT,out++[w],kk,rfl,hk1,by simp;omega,hod.append (Dig.one hwd2),by rw[←List.append_assoc];exact hG,hR⟩, ?_⟩
 clear hkb h0 h1 h7 h8 h12 hq hqT hR hG hkb2 hk1 hwd2 hcc hol hod hr2 ho2 hl2 hn2
 rintro q ρ h3 ⟨hkb,h0,h1,h7,h8,hq,hqT,ws,kk,h18,hk1,hwsl,hwsd,hG,hR⟩
 rcases Nat.eq_zero_or_pos kk with hz|hz
 ·subst hz
  rw[Nat.mul_zero,Nat.add_zero] at hR
  simp only[go_sem,h8,h18,neF (show((0:Nat):Int)=0 from rfl)]
  have hD0:0<val 18446744073709551616 ds:=by
   rcases Nat.eq_zero_or_pos (val 18446744073709551616 ds) with h|h
   ·rw[h] at hqT;omega
   ·exact h
  rw[Nat.add_mul,Nat.one_mul] at hqT
  have hlt:val 18446744073709551616 ws<val 18446744073709551616 ds:=by omega
  have e3:val 18446744073709551616 win/val 18446744073709551616 ds=q:=by
   rw[←hR,Nat.add_comm,Nat.mul_comm,Nat.mul_add_div hD0,Nat.div_eq_of_lt hlt,Nat.add_zero]
  have e4:val 18446744073709551616 win%val 18446744073709551616 ds=val 18446744073709551616 ws:=by
   rw[←hR,Nat.add_comm,Nat.mul_comm,Nat.mul_add_mod,Nat.mod_eq_of_lt hlt]
  rw[e3,e4] at hk
  exact fun _=>hk h3 ws hkb hG hwsd hwsl rfl
 ·have:kk=1:=by omega
  subst this
  rw[Nat.mul_one] at hR
  have hwlt:=val_lt 18446744073709551616 (by omega) ws hwsd
  rw[hwsl] at hwlt
  have hq1:1≤q:=by
   rcases Nat.eq_zero_or_pos q with h|h
   ·subst h;omega
   ·exact h
  have a0:IntKind.u64.wrap ((q:Int)-1)=((q-1:Nat):Int):=by rw[wU]<;>omega
  simp only[go_sem,h0,h1,h7,h8,h18,neT (show((1:Nat):Int)≠0 by omega),a0]
  refine loop_cut (fun ρ' h'=>KeptBut iu a hh h'∧ρ' 0= .sl (some iu) A.length (m+1) c0∧ρ' 1= .sl (some jd) off m c∧ρ' 7= .int .i64 (m:Int)∧ρ' 8= .int .u64 ((q-1:Nat):Int)∧ρ' 18= .int .u64 ((1:Nat):Int)∧∃out cc,ρ' 12= .int .u64 (cc:Nat)∧cc≤1∧out.length=m∧Dig out∧IsG a.next h' (.sl (some iu) 0 N ck) ((A++out)++ws[m]'(by omega)::C)∧val 18446744073709551616 out+18446744073709551616^m*cc=val 18446744073709551616 (ws.take m)+val 18446744073709551616 ds) ?_ ?_
  ·refine for_rule (fun i ρ' h'=>i≤m∧KeptBut iu a hh h'∧ρ' 0= .sl (some iu) A.length (m+1) c0∧ρ' 1= .sl (some jd) off m c∧ρ' 7= .int .i64 (m:Int)∧ρ' 8= .int .u64 ((q-1:Nat):Int)∧ρ' 18= .int .u64 ((1:Nat):Int)∧ρ' 19= .int .i64 (i:Int)∧∃out cc,ρ' 12= .int .u64 (cc:Nat)∧cc≤1∧out.length=i∧Dig out∧IsG a.next h' (.sl (some iu) 0 N ck) ((A++out)++(ws.drop i++C))∧val 18446744073709551616 out+18446744073709551616^i*cc=val 18446744073709551616 (ws.take i)+val 18446744073709551616 (ds.take i)) m ⟨by omega,hkb,by first|rfl|trivial|assumption,by first|rfl|trivial|assumption,by first|rfl|trivial|assumption,by first|rfl|trivial|assumption,by first|rfl|trivial|assumption,rfl,[],0,rfl,by omega,rfl,Dig.nil,by simpa using hG,rfl⟩ (fun i ρ h hI=>hI.1) ?_
   rintro i ρ h' ⟨hi,hkb,h0,h1,h7,h8,h18,h19,out,cc,h12,hcc,hol,hod,hs,hov⟩
   rcases Nat.lt_or_ge i m with him|him
   ·have hdb:=hdd _ (List.getElem_mem (show i<ds.length by omega))
    have hub:=hwsd _ (List.getElem_mem (show i<ws.length by omega))
    have hvd:=val_take_succ 18446744073709551616 ds i (by omega)
    have hvw:=val_take_succ 18446744073709551616 ws i (by omega)
    obtain⟨_,ee,gd⟩:=hds h' hkb.2.1 i him
    injection ee with ee
    subst ee
    rw[List.drop_eq_getElem_cons (show i<ws.length by omega),List.cons_append] at hs
    obtain⟨i2,r2,ee,hb2,hl2,hr2,ho2,hf2,hg2,hn2,hp2⟩:=hs.mid hkb.1
    injection ee with ee
    subst ee
    have hal2:(A++out).length=A.length+i:=by simp;omega
    rw[hal2] at hf2 hg2 hp2
    have fin:∀d c2:Nat,d+18446744073709551616*c2=ws[i]+ds[i]+cc→val 18446744073709551616 (out++[d])+18446744073709551616^(i+1)*c2=val 18446744073709551616 (ws.take (i+1))+val 18446744073709551616 (ds.take (i+1)):=by
     intro d c2 e
     rw[val_snoc,hvd,hvw,hol,Nat.pow_succ,Nat.mul_assoc]
     have e2:=congrArg (fun z=>18446744073709551616^i*z) e
     simp only[Nat.mul_add] at e2⊢
     omega
    have f1:=fin ((ws[i]+ds[i]+cc)%18446744073709551616) ((ws[i]+ds[i]+cc)/18446744073709551616) (by omega)
    have f2:(ws[i]+ds[i]+cc)/18446744073709551616≤1:=by omega
    simp only[go_sem,h0,h1,h7,h8,h18,h19,h12,ltT him]
    refine⟨by omega,by omega, ?_⟩
    simp only[go_sem,hg2,h1,h19,h12]
    refine⟨by omega,by omega, ?_⟩
    simp only[go_sem,gd,h12]
    refine Add64_calls hub hdb hcc ?_
    simp only[go_sem,h0,h19]
    refine⟨by omega,by omega, ?_⟩
    simp only[go_sem,hr2]
    refine⟨ho2,by omega, ?_⟩
    simp only[go_sem,h0,h1,h7,h8,h18,h19,incI (i:=i) (by omega)]
    refine⟨by omega,hkb.set ha hb2 hl2 _,by first|rfl|trivial|assumption,by first|rfl|trivial|assumption,by first|rfl|trivial|assumption,by first|rfl|trivial|assumption,by first|rfl|trivial|assumption,by first|rfl|trivial|assumption,out++[_],_,rfl,f2,by simp;omega,hod.append (Dig.one (Nat.mod_lt _ (by omega))), ?_,f1⟩
    rw[app_mid]
    exact hp2 _
   ·have:i=m:=by omega
    subst this
    simp only[go_sem,h0,h1,h7,h8,h18,h19,h12,ltF (Nat.le_refl i)]
    refine⟨hkb,by first|rfl|trivial|assumption,by first|rfl|trivial|assumption,by first|rfl|trivial|assumption,by first|rfl|trivial|assumption,by first|rfl|trivial|assumption,out,cc,by first|rfl|trivial|assumption,hcc,hol,hod, ?_, ?_⟩
    ·rw[List.drop_eq_getElem_cons (show i<ws.length by omega),List.drop_of_length_le (show ws.length≤i+1 by omega)] at hs
     exact hs
    ·rw[List.take_of_length_le (show ds.length≤i by omega)] at hov
     exact hov
  rintro ρ h' ⟨hkb,h0,h1,h7,h8,h18,out,cc,h12,hcc,hol,hod,hs,hov⟩
  have hvw:=val_take_succ 18446744073709551616 ws m (by omega)
  rw[←hwsl,List.take_length] at hvw
  have hub:=hwsd _ (List.getElem_mem (show m<ws.length by omega))
  generalize ws[m]'(by omega)=um at*
  obtain⟨i2,r2,ee,hb2,hl2,hr2,ho2,hf2,hg2,hn2,hp2⟩:=hs.mid hkb.1
  injection ee with ee
  subst ee
  have hal2:(A++out).length=A.length+m:=by simp;omega
  rw[hal2] at hf2 hg2 hp2
  simp only[go_sem,h0,h1,h7,h8,h12]
  refine⟨by omega,by omega, ?_⟩
  simp only[go_sem,hg2,h12]
  refine Add64_calls (y:=0) hub (by omega) hcc ?_
  simp only[go_sem,h0,h7]
  refine⟨by omega,by omega, ?_⟩
  simp only[go_sem,hr2]
  refine⟨ho2,by omega, ?_⟩
  have hG:=hp2 ((um+0+cc)%18446744073709551616)
  have hkb2:=hkb.set ha hb2 hl2 {r2 with cells:=putAt r2.cells (A.length+m) [AV.int .u64 (((um+0+cc)%18446744073709551616:Nat):Int)]}
  generalize h'.set iu {r2 with cells:=putAt r2.cells (A.length+m) [AV.int .u64 (((um+0+cc)%18446744073709551616:Nat):Int)]}=h2 at*
  have hwd2:(um+0+cc)%18446744073709551616<18446744073709551616:=Nat.mod_lt _ (by omega)
  have hk2:(um+0+cc)/18446744073709551616≤1:=by omega
  have hadd:(um+0+cc)%18446744073709551616+18446744073709551616*((um+0+cc)/18446744073709551616)=um+cc:=by omega
  generalize (um+0+cc)%18446744073709551616=w at*
  generalize (um+0+cc)/18446744073709551616=c2 at*
  have a5:IntKind.u64.wrap (((1:Nat):Int)-(c2:Int))=((1-c2:Nat):Int):=by rw[wU]<;>omega
  have e5:q*val 18446744073709551616 ds=(q-1)*val 18446744073709551616 ds+val 18446744073709551616 ds:=by
   obtain⟨k,rfl⟩:∃k,q=k+1:=⟨q-1,by omega⟩
   rw[Nat.add_mul,Nat.one_mul]
   rfl
  have hR2:val 18446744073709551616 (out++[w])+(q-1)*val 18446744073709551616 ds=val 18446744073709551616 win+18446744073709551616^(m+1)*(1-c2):=by
   have e2:=congrArg (fun z=>18446744073709551616^m*z) hadd
   simp only[Nat.mul_add] at e2
   rw[val_snoc,hol]
   rw[Nat.pow_succ,Nat.mul_assoc]
   rw[Nat.pow_succ] at hR
   have:c2=0∨c2=1:=by omega
   rcases this with rfl|rfl<;>omega
  simp only[go_sem,h0,h1,h7,h8,h18,a5]
  refine⟨q-1,by omega,hkb2,by first|rfl|trivial|assumption,by first|rfl|trivial|assumption,by first|rfl|trivial|assumption,by first|rfl|trivial|assumption,by omega, ?_,out++[w],1-c2,rfl,by omega,by simp;omega,hod.append (Dig.one hwd2),by rw[←List.append_assoc,app_mid];exact hG,hR2⟩
  rw[show q-1+1=q by omega]
  omega
theorem digit_at {a h:H} {iu N m v j:Nat} {ck c0:Option Nat} {dv:AV} {A win C ds:List Nat} {K:AV→H→Prop} (hj:A.length=j) (ha:a.wf) (hal:a.le h) (hs:IsG a.next h (.sl (some iu) 0 N ck) (A++(win++C))) (hd:IsN a dv ds) (hm:2≤m) (hdl:ds.length=m) (hwl:win.length=m+1)
  (hwd:Dig win) (hdd:Dig ds) (hml:m≤1099511627776) (htop:9223372036854775808≤ds[m-1]'(by omega)) (hv:IsInv2 (ds[m-1]'(by omega)) (ds[m-2]'(by omega)) v) (hT:val 18446744073709551616 win<val 18446744073709551616 ds*18446744073709551616)
  (hk:∀h' ws,KeptBut iu a h h'→IsG a.next h' (.sl (some iu) 0 N ck) (A++(ws++C))→Dig ws→ws.length=m+1→val 18446744073709551616 ws=val 18446744073709551616 win%val 18446744073709551616 ds→K (.int .u64 (val 18446744073709551616 win/val 18446744073709551616 ds:Nat)) h'):
  ACalls Tryz.prog 104 [.sl (some iu) j (m+1) c0,dv, .int .u64 (v:Int)] h K:=by
 subst hj
 exact digit_calls ha hal hs hd hm hdl hwl hwd hdd hml htop hv hT hk
theorem IsG.other {b:Nat} {h:H} {iu k n:Nat} {ck:Option Nat} {us:List Nat} {r:Row} (hs:IsG b h (.sl (some iu) 0 n ck) us) (hne:iu≠k):IsG b (h.set k r) (.sl (some iu) 0 n ck) us:=by
 obtain⟨id,c,e,h1⟩:=hs
 refine⟨id,c,e, ?_⟩
 injection e with e1
 subst e1
 rcases h1 with⟨e2,_⟩|⟨i,q,e2,hb,hq,h2⟩
 ·cases e2
 ·injection e2 with e2
  subst e2
  exact .inr ⟨iu,q,rfl,hb,by rw[H.rows_set_ne hne];exact hq,h2⟩
theorem normed {ys:List Nat} {m s:Nat} (hm:ys.length=m) (hm1:1≤m) (hd:Dig ys) (h1:9223372036854775808≤ys[m-1]'(by omega)*2^s) (h2:ys[m-1]'(by omega)*2^s<18446744073709551616) (hs:s≤63):
  18446744073709551616^(m-1)*9223372036854775808≤val 18446744073709551616 ys*2^s∧val 18446744073709551616 ys*2^s<18446744073709551616^m:=by
 have e:=val_take_succ 18446744073709551616 ys (m-1) (by omega)
 rw[show m-1+1=m by omega,List.take_of_length_le (by omega)] at e
 have hlo:=val_lt_take 18446744073709551616 (by omega) ys hd (m-1)
 generalize val 18446744073709551616 (ys.take (m-1))=lo at*
 generalize ys[m-1]'(by omega)=b at*
 have e64:18446744073709551616=2^(64-s)*2^s:=by rw[←Nat.pow_add,show 64-s+s=64 from by omega]
 have hb:b+1≤2^(64-s):=by
  rw[e64] at h2
  exact Nat.lt_of_mul_lt_mul_right h2
 obtain⟨k,rfl⟩:∃k,m=k+1:=⟨m-1,by omega⟩
 rw[show k+1-1=k by omega] at*
 have p1:(lo+18446744073709551616^k*b)*2^s=lo*2^s+18446744073709551616^k*(b*2^s):=by rw[Nat.add_mul,Nat.mul_assoc]
 have p2:18446744073709551616^k*9223372036854775808≤18446744073709551616^k*(b*2^s):=Nat.mul_le_mul_left _ h1
 have p3:(lo+1)*2^s≤18446744073709551616^k*2^s:=Nat.mul_le_mul_right _ hlo
 have p4:18446744073709551616^k*((b+1)*2^s)≤18446744073709551616^k*18446744073709551616:=Nat.mul_le_mul_left _ (by rw[e64];exact Nat.mul_le_mul_right _ hb)
 have p5:18446744073709551616^k*((b+1)*2^s)=18446744073709551616^k*(b*2^s)+18446744073709551616^k*2^s:=by rw[Nat.add_mul,Nat.one_mul,Nat.mul_add]
 have p6:0<2^s:=Nat.pow_pos (by omega)
 rw[e,p1,Nat.pow_succ]
 rw[Nat.add_mul,Nat.one_mul] at p3
 omega
theorem top_digit {ds:List Nat} {m:Nat} (hm:ds.length=m) (hm1:1≤m) (hd:Dig ds) (h:18446744073709551616^(m-1)*9223372036854775808≤val 18446744073709551616 ds):9223372036854775808≤ds[m-1]'(by omega):=by
 have e:=val_take_succ 18446744073709551616 ds (m-1) (by omega)
 rw[show m-1+1=m by omega,List.take_of_length_le (by omega)] at e
 have hlo:=val_lt_take 18446744073709551616 (by omega) ds hd (m-1)
 generalize val 18446744073709551616 (ds.take (m-1))=lo at*
 generalize ds[m-1]'(by omega)=b at*
 rcases Nat.lt_or_ge b 9223372036854775808 with h1|h1
 ·exfalso
  have:18446744073709551616^(m-1)*(b+1)≤18446744073709551616^(m-1)*9223372036854775808:=Nat.mul_le_mul_left _ h1
  rw[Nat.mul_add,Nat.mul_one] at this
  omega
 ·exact h1
theorem long_step {us A win C ws:List Nat} {j m D U:Nat} {qs:List Nat} (hus:us=A++(win++C)) (hA:A.length=j) (hAd:Dig A) (hC:∀x∈C,x=0) (hD:0<D) (hDm:D<18446744073709551616^m) (hws:ws.length=m+1) (hwd:Dig ws)
  (hwv:val 18446744073709551616 ws=val 18446744073709551616 win%D) (hU:U=val 18446744073709551616 us+D*18446744073709551616^(j+1)*val 18446744073709551616 qs) (hwl:win.length=m+1):
  U=val 18446744073709551616 (A++(ws++C))+D*18446744073709551616^j*val 18446744073709551616 (val 18446744073709551616 win/D::qs)∧val 18446744073709551616 (A++(ws++C))<D*18446744073709551616^j∧∀x∈(A++(ws++C)).drop (j+m),x=0:=by
 have hCv:val 18446744073709551616 C=0:=val_zero 18446744073709551616 C hC
 have e1:val 18446744073709551616 us=val 18446744073709551616 A+18446744073709551616^j*val 18446744073709551616 win:=by rw[hus,val_append,val_append,hA,hCv];simp
 have e2:val 18446744073709551616 (A++(ws++C))=val 18446744073709551616 A+18446744073709551616^j*(val 18446744073709551616 win%D):=by rw[val_append,val_append,hA,hCv,hwv];simp
 have h1:=Nat.div_add_mod (val 18446744073709551616 win) D
 have h2:=Nat.mod_lt (val 18446744073709551616 win) hD
 have hAl:=val_lt 18446744073709551616 (by omega) A hAd
 rw[hA] at hAl
 refine⟨?_, ?_, ?_⟩
 ·rw[hU,e1,e2]
  simp only[val,Nat.pow_succ]
  generalize val 18446744073709551616 win/D=q at*
  generalize val 18446744073709551616 win%D=r at*
  rw[←h1]
  grind
 ·rw[e2]
  have:18446744073709551616^j*(val 18446744073709551616 win%D+1)≤18446744073709551616^j*D:=Nat.mul_le_mul_left _ h2
  rw[Nat.mul_add,Nat.mul_one] at this
  rw[Nat.mul_comm D]
  omega
 ·intro x hx
  have hwm:ws.drop m=[0]:=by
   have h3:=val_take_succ 18446744073709551616 ws m (by omega)
   rw[←hws,List.take_length] at h3
   have h4:ws[m]'(by omega)=0:=by
    rcases Nat.eq_zero_or_pos (ws[m]'(by omega)) with h|h
    ·exact h
    ·have:18446744073709551616^m*1≤18446744073709551616^m*ws[m]'(by omega):=Nat.mul_le_mul_left _ h
     omega
   rw[List.drop_eq_getElem_cons (show m<ws.length by omega),h4,List.drop_of_length_le (by omega)]
  have:(A++(ws++C)).drop (j+m)=ws.drop m++C:=by
   rw[List.drop_append,hA,List.drop_of_length_le (by omega),show j+m-j=m by omega,List.nil_append,List.drop_append,hws,show m-(m+1)=0 by omega,List.drop_zero]
  rw[this,hwm] at hx
  rcases List.mem_append.1 hx with hx|hx
  ·simpa using hx
  ·exact hC x hx
def longCost (x y:Nat):Nat:=if wlen x<wlen y then 0 else(wlen x-wlen y+1)*(wlen y+1)
theorem Long_calls {e u m0 nw dp:Nat} {t:Tb} {va vb:AV} {x y:Nat} {h:H} {K:AV→H→Prop} (he:Eng 5 h e u) (ht:Tune h u m0 nw dp t) (nv:Nn h va x) (nu:Nn h vb y) (hx:Big x) (hy:Big y)
  (hk0:y=0→h.wf→K (.tup [.sl none 0 0 none, .sl none 0 0 none, .int .i64 2]) h)
  (hk:0<y→∀q r h',h'.wf→H.lee u h h'→Tune h' u (m0+longCost x y) nw dp t→Nf h.next h' q (x/y)→Nf h.next h' r (x%y)→K (.tup [q,r, .int .i64 0]) h'):
  ACalls Tryz.prog 86 [.ptr (some (e,0)),va,vb] h K:=by
 obtain⟨xs,hv,hxd,hxl,rfl⟩:=nv
 obtain⟨ys,hu,hyd,hyl,rfl⟩:=nu
 have hwx:=wlen_big hx
 have hwy:=wlen_big hy
 rw[wordL_eq] at hwx hwy
 refine in_divs_Engine_Long (by simp) fun hw=> ?_
 unfold c_divs_Engine_Long
 simp only[go_sem]
 refine Len_calls hv hxd (by omega) ?_
 simp only[go_sem]
 refine Len_calls hu hyd (by omega) ?_
 rcases Nat.eq_zero_or_pos (val 18446744073709551616 ys) with hy0|hy0
 ·simp only[go_sem,eqT (show((wlen (val 18446744073709551616 ys):Nat):Int)=0 by rw[hy0];rfl)]
  exact hk0 hy0
 have hm1:1≤wlen (val 18446744073709551616 ys):=by
  rcases Nat.eq_zero_or_pos (wlen (val 18446744073709551616 ys)) with h|h
  ·have:=wlen_eq_zero.1 h;omega
  ·exact h
 simp only[go_sem,eqF (show((wlen (val 18446744073709551616 ys):Nat):Int)≠0 by omega)]
 rcases Nat.lt_or_ge (wlen (val 18446744073709551616 xs)) (wlen (val 18446744073709551616 ys)) with hlt|hge
 ·simp only[go_sem,ltT hlt]
  refine Norm_calls ⟨xs,hv,hxd,hxl,rfl⟩ fun r h' hw' hl' hr=> ?_
  have hxy:val 18446744073709551616 xs<val 18446744073709551616 ys:=by
   rcases Nat.lt_or_ge (val 18446744073709551616 xs) (val 18446744073709551616 ys) with h|h
   ·exact h
   ·have:=wlen_mono h;omega
  simp only[go_sem]
  refine fun _=>hk hy0 _ _ h' hw' hl'.lee ?_ ?_ ?_
  ·unfold longCost
   rw[if_pos hlt]
   exact ht.mono hl'
  ·rw[Nat.div_eq_of_lt hxy]
   exact Nf.nil _ _ _
  ·rw[Nat.mod_eq_of_lt hxy]
   exact hr
 have hcost:longCost (val 18446744073709551616 xs) (val 18446744073709551616 ys)=(wlen (val 18446744073709551616 xs)-wlen (val 18446744073709551616 ys)+1)*(wlen (val 18446744073709551616 ys)+1):=by unfold longCost;rw[if_neg (by omega)]
 have hcb:(wlen (val 18446744073709551616 xs)-wlen (val 18446744073709551616 ys)+1)*(wlen (val 18446744073709551616 ys)+1)≤500001*500001:=Nat.mul_le_mul (by omega) (by omega)
 rw[hcost] at hk
 clear hcost
 simp only[Eng] at he
 obtain⟨r1,e1,hr1,hc1,r2,e2,hr2,hc2,r3,e3,hr3,hc3,r4,e4,hr4,hc4,r5,e5,hr5,hc5,rfl⟩:=he
 have g1:h.get e 0=some (.ptr (some (e1,0))):=by rw[H.get_of hr1,hc1];rfl
 have g2:h.get e1 0=some (.ptr (some (e2,0))):=by rw[H.get_of hr2,hc2];rfl
 have g3:h.get e2 0=some (.ptr (some (e3,0))):=by rw[H.get_of hr3,hc3];rfl
 have g4:h.get e3 0=some (.ptr (some (e4,0))):=by rw[H.get_of hr4,hc4];rfl
 have g5:h.get e4 0=some (.ptr (some (e5,0))):=by rw[H.get_of hr5,hc5];rfl
 obtain⟨n,hn0⟩:∃n,n=wlen (val 18446744073709551616 xs):=⟨_,rfl⟩
 obtain⟨m,hmm⟩:∃m,m=wlen (val 18446744073709551616 ys):=⟨_,rfl⟩
 rw[←hn0,←hmm] at hk hcb
 rw[←hn0] at hwx
 rw[←hmm] at hwy
 rw[←hn0,←hmm] at hge
 rw[←hmm] at hm1
 rw[←hn0,←hmm]
 have a1:=subI (a:=n) (b:=m) hge (by omega)
 have a2:=incI (i:=n-m) (by omega)
 have a3:=incI (i:=m) (by omega)
 have a4:=mulI (a:=n-m+1) (b:=m+1) (by omega)
 simp only[go_sem,ltF hge,g1,g2,g3,g4,g5,a1,a2,a3,a4]
 refine Spend_calls ht fun h1 hw1 hl1 hn1 ht1=> ?_
 have hv1:=hv.monoE ht hl1
 have hu1:=hu.monoE ht hl1
 have hul:=H.row_lt hw ht
 obtain⟨yt,hytd,hytt,hytv,hytl,hytle,hyte⟩:=cut_open hyd
 rw[←hmm] at hytl
 obtain⟨idb,offb,cb,rfl⟩:=hu1.form
 have hl10:H.lee e5 h h1:=hl1
 by_cases hmone:m=1
 ·subst hmone
  have hy1:0<ys.length:=by omega
  have hval:val 18446744073709551616 ys=ys[0]:=by
   rw[←hytv,hyte 0 (by omega) hy1]
   match yt,hytl with
   |[z],_=>simp[val]
  have hyb:=hyd _ (List.getElem_mem hy1)
  obtain⟨jb,rfl,_,hgb⟩:=hu1.at hy1
  rw[Nat.add_zero] at hgb
  simp only[go_sem,eqT (show((1:Nat):Int)=1 from rfl)]
  refine⟨by omega,by omega, ?_⟩
  simp only[go_sem,Nat.zero_mul,Nat.add_zero,hgb]
  rw[hval] at hy0 hk
  refine lDivWord_calls ⟨xs,hv1,hxd,hxl,rfl⟩ hyb hy0 fun q h2 hw2 hl2 hq=> ?_
  simp only[go_sem]
  refine One_calls (Nat.lt_trans (Nat.mod_lt _ hy0) hyb) fun r h3 hw3 hl3 hr=> ?_
  simp only[go_sem]
  exact fun _=>hk hy0 q r h3 hw3 (hl10.trans (H.le_trans hl2 hl3).lee) (ht1.mono (H.le_trans hl2 hl3)) ((hq.mono hl3).base (by omega)) (hr.base (by have:=hl2.1;omega))
 ·have hm2:2≤m:=by omega
  have a5:IntKind.i64.wrap ((m:Int)-1)=((m-1:Nat):Int):=decI (by omega) (by omega)
  have a6:IntKind.i64.wrap ((m:Int)-2)=((m-2:Nat):Int):=by rw[wI]<;>omega
  have hmy:m-1<ys.length:=by omega
  have hyb:=hyd _ (List.getElem_mem hmy)
  obtain⟨jb,rfl,_,hgb⟩:=hu1.at hmy
  have hyeq:=hyte (m-1) (by omega) hmy
  have hb0:0<ys[m-1]:=by
   rw[hyeq]
   have:=hytt (yt[m-1]'(by omega)) (by rw[List.getLast?_eq_getElem?,show yt.length-1=m-1 by omega,List.getElem?_eq_getElem (by omega)])
   omega
  simp only[go_sem,eqF (show(m:Int)≠1 by omega),a5]
  refine⟨by omega,by omega, ?_⟩
  simp only[go_sem,hgb]
  refine LeadingZeros64_calls hyb hb0 fun s hs63 hsb hsb2=> ?_
  rw[hyeq] at hsb hsb2
  obtain⟨hn1',hn2'⟩:=normed hytl.symm (by omega) hytd hsb hsb2 hs63
  rw[hytv] at hn1' hn2'
  simp only[go_sem]
  refine lShl_calls ⟨ys,hu1,hyd,hyl,rfl⟩ (by omega) fun d h2 hw2 hl2 hd=> ?_
  obtain⟨ds,hdG,hdd,hdt,hdv⟩:=hd
  have hdl:ds.length=m:=by
   have q1:=top_len hdd hdt
   rw[hdv] at q1
   have q2:wlen (val 18446744073709551616 ys*2^s)≤m:=wlen_le.2 hn2'
   have q3:m-1<wlen (val 18446744073709551616 ys*2^s):=lt_wlen.2 (Nat.le_trans (Nat.le_mul_of_pos_right _ (by omega)) hn1')
   omega
  have hdN:=hdG.isN
  have a7:=incI (i:=n) (by omega)
  simp only[go_sem,a7]
  refine⟨by omega,by omega,by omega, ?_⟩
  have hl3:=H.le_new hw2 (H.le_refl h2) ⟨some 73,1,zs [AV.int .u64 0] (n+1)⟩
  refine lShl_calls ⟨xs,(hv1.mono hl2).mono hl3,hxd,hxl,rfl⟩ (by omega) fun us0 h4 hw4 hl4 hus0=> ?_
  obtain⟨uz,huzG,huzd,huzt,huzv⟩:=hus0
  have huzl:uz.length≤n+1:=by
   rw[top_len huzd huzt,huzv]
   refine wlen_le.2 ?_
   have q1:=wlen_lt (val 18446744073709551616 xs)
   rw[←hn0] at q1
   have q2:2^s≤18446744073709551616:=(Nat.pow_le_pow_right (by omega) (by omega):2^s≤2^64)
   have q3:val 18446744073709551616 xs*2^s<18446744073709551616^n*18446744073709551616:=Nat.mul_lt_mul_of_lt_of_le q1 q2 (by omega)
   rw[Nat.pow_succ]
   exact q3
  simp only[go_sem]
  refine cpy_num (b:=h2.next) hw4 ((IsG.made (Nat.le_refl _) _).mono hl4) huzG.isN (by rw[List.length_replicate];omega) fun h5 hw5 hn5 hle5 hsu=> ?_
  have hl25:h2.le h5:=hle5 h2 hw2 (H.le_trans hl3 hl4) (Nat.le_refl _)
  rw[List.drop_replicate] at hsu
  obtain⟨idd,cd,rfl⟩:=hdG.form
  rw[hdl] at hdN hdG⊢
  have hdN5:=hdN.mono hl25
  obtain⟨jd,rfl,_,gd1⟩:=hdN5.at (j:=m-1) (by omega)
  obtain⟨jd',ee,_,gd2⟩:=hdN5.at (j:=m-2) (by omega)
  injection ee with ee
  subst ee
  have htop:=top_digit hdl (by omega) hdd (by rw[hdv];exact hn1')
  have hdb1:=hdd _ (List.getElem_mem (show m-1<ds.length by omega))
  have hdb2:=hdd _ (List.getElem_mem (show m-2<ds.length by omega))
  rw[Nat.zero_add] at gd1 gd2
  simp only[go_sem,a5,a6]
  refine⟨by omega,by omega, ?_⟩
  simp only[go_sem,gd1,a6]
  refine⟨by omega,by omega, ?_⟩
  simp only[go_sem,gd2]
  refine Inverse2_calls hdb1 hdb2 (fun hc=>absurd htop (by omega)) fun _ v hvi=> ?_
  simp only[go_sem,a1,a2]
  refine⟨by omega,by omega,by omega, ?_⟩
  obtain⟨L,hL⟩:∃L,L=n-m+1:=⟨_,rfl⟩
  rw[←hL]
  have hD0:0<val 18446744073709551616 ds:=by rw[hdv];exact Nat.mul_pos hy0 (Nat.pow_pos (by omega))
  have hDm:val 18446744073709551616 ds<18446744073709551616^m:=by rw[hdv];exact hn2'
  have husl:(uz++List.replicate (n+1-uz.length) 0).length=n+1:=by simp;omega
  have husv:val 18446744073709551616 (uz++List.replicate (n+1-uz.length) 0)=val 18446744073709551616 xs*2^s:=by rw[val_zeros,huzv]
  have hUlt:val 18446744073709551616 xs*2^s<val 18446744073709551616 ds*18446744073709551616^L:=by
   have q1:=wlen_lt (val 18446744073709551616 xs)
   rw[←hn0] at q1
   have q2:2^s≤9223372036854775808:=(Nat.pow_le_pow_right (by omega) hs63:2^s≤2^63)
   have q3:val 18446744073709551616 xs*2^s<18446744073709551616^n*9223372036854775808:=Nat.mul_lt_mul_of_lt_of_le q1 q2 (by omega)
   have q4:18446744073709551616^(m-1)*9223372036854775808*18446744073709551616^L≤val 18446744073709551616 ds*18446744073709551616^L:=Nat.mul_le_mul_right _ (by rw[hdv];exact hn1')
   have q5:18446744073709551616^(m-1)*9223372036854775808*18446744073709551616^L=18446744073709551616^n*9223372036854775808:=by
    rw[Nat.mul_right_comm,←Nat.pow_add]
    congr 2
    omega
   omega
  have hn52:h2.next<h5.next:=by
   have:=hl4.1
   rw[hn5]
   exact Nat.lt_of_lt_of_le (Nat.lt_succ_self _) this
  have hl56:=H.le_new hw5 (H.le_refl h5) ⟨some 73,1,zs [AV.int .u64 0] L⟩
  generalize hh6:h5.new ⟨some 73,1,zs [AV.int .u64 0] L⟩=h6 at*
  have hw6:h6.wf:=by rw[←hh6];exact H.wf_new hw5 _
  have hx6:IsG h5.next h6 (.sl (some h5.next) 0 L (some L)) (List.replicate L 0):=by rw[←hh6];exact IsG.made (Nat.le_refl _) _
  clear hh6
  refine⟨fun k ρ h'=>k≤L∧h'.wf∧h2.le h'∧h5.next<h'.next∧ρ 10= .int .i64 (m:Int)∧ρ 14= .int .i64 (s:Int)∧ρ 15= .sl (some jd) 0 m cd∧ρ 16= .sl (some h2.next) 0 (n+1) (some (n+1))∧ρ 17= .int .u64 (v:Int)∧ρ 19= .sl (some h5.next) 0 L (some L)∧ρ 20= .int .i64 ((k:Int)-1)∧∃us qs,us.length=n+1∧Dig us∧(∀x∈us.drop (k+m),x=0)∧val 18446744073709551616 us<val 18446744073709551616 ds*18446744073709551616^k∧
   IsG h2.next h' (.sl (some h2.next) 0 (n+1) (some (n+1))) us∧IsG h5.next h' (.sl (some h5.next) 0 L (some L)) (List.replicate k 0++qs)∧Dig qs∧qs.length=L-k∧val 18446744073709551616 xs*2^s=val 18446744073709551616 us+val 18446744073709551616 ds*18446744073709551616^k*val 18446744073709551616 qs,L,
   ⟨Nat.le_refl _,hw6,(H.le_trans hl25 hl56),H.row_lt hw6 (hx6.isN.row _ rfl).choose_spec.1,by first|rfl|trivial|assumption,by first|rfl|trivial|assumption,by first|rfl|trivial|assumption,by first|rfl|trivial|assumption,by first|rfl|trivial|assumption,by first|rfl|trivial|assumption,congrArg (AV.int .i64) (by omega),uz++List.replicate (n+1-uz.length) 0,[],husl,huzd.append (Dig.zeros _),fun z hz=>by rw[List.drop_of_length_le (by omega)] at hz;simp at hz,by rw[husv];exact hUlt,hsu.mono hl56,by simpa using hx6,Dig.nil,by simp,by rw[husv];simp[val]⟩, ?_⟩
  rintro k ρ h' ⟨hkL,hw',hle,hnx,h10,h14,h15,h16,h17,h19,h20,us,qs,hul',hud,huz0,huv,huG,hxG,hqd,hql,hU⟩
  rcases Nat.eq_zero_or_pos k with rfl|hp
  ·have hc:decide ((0:Int)≤((0:Nat):Int)-1)=false:=by decide
   rw[List.replicate_zero,List.nil_append] at hxG
   rw[Nat.pow_zero,Nat.mul_one] at huv hU
   simp only[go_sem,h10,h14,h15,h16,h17,h19,h20,hc]
   have hq1:val 18446744073709551616 xs/val 18446744073709551616 ys=val 18446744073709551616 qs∧val 18446744073709551616 us=val 18446744073709551616 xs%val 18446744073709551616 ys*2^s:=by
    rw[hdv] at hU huv
    have p0:0<2^s:=Nat.pow_pos (by omega)
    have z1:val 18446744073709551616 xs*2^s/(val 18446744073709551616 ys*2^s)=val 18446744073709551616 qs:=by
     rw[hU,Nat.add_comm,Nat.mul_add_div (Nat.mul_pos hy0 p0),Nat.div_eq_of_lt huv,Nat.add_zero]
    have z2:val 18446744073709551616 xs*2^s%(val 18446744073709551616 ys*2^s)=val 18446744073709551616 us:=by
     rw[hU,Nat.add_comm,Nat.mul_add_mod,Nat.mod_eq_of_lt huv]
    rw[Nat.mul_div_mul_right _ _ p0] at z1
    rw[Nat.mul_mod_mul_right] at z2
    exact⟨z1,z2.symm⟩
   have hbq:Big (val 18446744073709551616 qs):=by rw[←hq1.1];exact hx.le (Nat.div_le_self _ _)
   refine Norm_calls ⟨qs,hxG.isN,hqd,by omega,rfl⟩ fun q h7 hw7 hl7 hq=> ?_
   simp only[go_sem,h16,h14]
   refine lShr_calls ⟨us,huG.isN.mono hl7,hud,by omega,rfl⟩ (by omega) fun r h8 hw8 hl8 hr=> ?_
   rw[hq1.2,Nat.mul_div_cancel _ (Nat.pow_pos (by omega))] at hr
   rw[←hq1.1] at hq
   simp only[go_sem]
   have hb1:h.next≤h'.next:=by have:=hl2.1;have:=hle.1;omega
   exact fun _=>hk hy0 q r h8 hw8 (hl10.trans (H.le_trans hl2 (H.le_trans hle (H.le_trans hl7 hl8))).lee) (ht1.mono (H.le_trans hl2 (H.le_trans hle (H.le_trans hl7 hl8)))) ((hq.mono hl8).base hb1) (hr.base (Nat.le_trans hb1 hl7.1))
  ·have hc:decide ((0:Int)≤(k:Int)-1)=true:=by simp;omega
   have e5':(k:Int)-1=((k-1:Nat):Int):=by omega
   obtain⟨j,rfl⟩:∃j,k=j+1:=⟨k-1,by omega⟩
   rw[show j+1-1=j by omega] at e5'
   rw[e5'] at h20 hc
   have b1:IntKind.i64.wrap ((j:Int)+(m:Int))=((j+m:Nat):Int):=by rw[wI]<;>omega
   have b2:=incI (i:=j+m) (by omega)
   have b3:IntKind.i64.wrap ((j:Int)-1)=(j:Int)-1:=by rw[wI]<;>omega
   simp only[go_sem,h10,h14,h15,h16,h17,h19,h20,hc,b1,b2]
   refine⟨by omega,by omega,by omega, .inl (by omega),huG.isN.row, ?_⟩
   simp only[go_sem,h15,h17,Nat.zero_add,Nat.mul_one,Int.toNat_natCast,show j+m+1-j=m+1 by omega]
   have hsplit:us=us.take j++((us.drop j).take (m+1)++us.drop (j+(m+1))):=by
    rw[←List.drop_drop,List.take_append_drop,List.take_append_drop]
   have hAl:(us.take j).length=j:=by simp;omega
   have hwl:((us.drop j).take (m+1)).length=m+1:=by simp;omega
   have hAd:=hud.take j
   have hwd:Dig ((us.drop j).take (m+1)):=(hud.drop j).take _
   have hCz:∀x∈us.drop (j+(m+1)),x=0:=fun x hx=>huz0 x (by rw[show j+1+m=j+(m+1) by omega];exact hx)
   generalize us.take j=A at*
   generalize (us.drop j).take (m+1)=win at*
   generalize us.drop (j+(m+1))=C at*
   have hTlt:val 18446744073709551616 win<val 18446744073709551616 ds*18446744073709551616:=by
    have q1:18446744073709551616^j*val 18446744073709551616 win≤val 18446744073709551616 us:=by
     rw[hsplit,val_append,hAl,val_append,val_zero 18446744073709551616 C hCz,Nat.mul_zero,Nat.add_zero]
     exact Nat.le_add_left _ _
    rw[Nat.pow_succ] at huv
    have q2:18446744073709551616^j*val 18446744073709551616 win<18446744073709551616^j*(val 18446744073709551616 ds*18446744073709551616):=by
     have:val 18446744073709551616 ds*(18446744073709551616^j*18446744073709551616)=18446744073709551616^j*(val 18446744073709551616 ds*18446744073709551616):=by ac_rfl
     omega
    exact Nat.lt_of_mul_lt_mul_left q2
   rw[hsplit] at huG
   refine digit_at hAl hw2 hle huG hdN (by omega) hdl hwl hwd hdd (by omega) htop hvi hTlt fun h7 ws hkb hG7 hwsd hwsl hwsv=> ?_
   obtain⟨st1,st2,st3⟩:=long_step (D:=val 18446744073709551616 ds) (m:=m) hsplit hAl hAd hCz hD0 hDm hwsl hwsd hwsv hU hwl
   have hqlt:val 18446744073709551616 win/val 18446744073709551616 ds<18446744073709551616:=by
    rw[Nat.div_lt_iff_lt_mul hD0,Nat.mul_comm]
    exact hTlt
   have hx7:IsG h5.next h7 (.sl (some h5.next) 0 L (some L)) (List.replicate (j+1) 0++qs):=hxG.monoE hn52 ⟨Nat.le_of_eq hkb.2.2.1.symm,hkb.2.2.2⟩
   obtain⟨i8,r8,ee,hb8,hl8,hr8,ho8,hf8,hp8⟩:=hx7.put hkb.1 (j:=j) (by simp;omega)
   injection ee with ee
   subst ee
   have hq8:=hp8 (val 18446744073709551616 win/val 18446744073709551616 ds)
   rw[set_last] at hq8
   simp only[go_sem,h19,h20]
   refine⟨by omega,by omega, ?_⟩
   simp only[go_sem,Nat.zero_add,Nat.mul_one,hr8]
   refine⟨ho8,by omega, ?_⟩
   simp only[go_sem,h10,h14,h15,h16,h17,h19,h20,b3]
   refine⟨j,by omega,by omega,H.wf_set hkb.1 hl8 _,H.le_set hw2 hkb.2.1 (by omega) _,hl8,by first|rfl|trivial|assumption,by first|rfl|trivial|assumption,by first|rfl|trivial|assumption,by first|rfl|trivial|assumption,by first|rfl|trivial|assumption,by first|rfl|trivial|assumption,by first|rfl|trivial|assumption,A++(ws++C),(val 18446744073709551616 win/val 18446744073709551616 ds)::qs, ?_,hAd.append (hwsd.append (fun x hx=>by rw[hCz x hx];omega)),st3,st2,hG7.other (by omega),hq8, ?_,by simp;omega,st1⟩
   ·have:=congrArg List.length hsplit
    simp only[List.length_append] at this⊢
    omega
   ·intro x hx
    rcases List.mem_cons.1 hx with rfl|hx
    ·exact hqlt
    ·exact hqd x hx
theorem IsG.cut {b:Nat} {h:H} {id:Option Nat} {n:Nat} {c c':Option Nat} {xs:List Nat} (hv:IsG b h (.sl id 0 n c) xs) {m:Nat} (hm:m≤xs.length):IsG b h (.sl id 0 m c') (xs.take m):=by
 have:=IsF.cut (c':=c') hv (m:=m) (by simpa using hm)
 unfold IsG
 rw[List.map_take]
 exact this
theorem kSame_calls {v u:AV} {xs:List Nat} {h:H} {K:AV→H→Prop} (hv:IsN h v xs) (hu:IsN h u xs) (hl:xs.length<4611686018427387904) (hk:K (.bool true) h):ACalls Tryz.prog 50 [v,u] h K:=by
 obtain⟨id,off,c,rfl⟩:=hv.form
 obtain⟨id',off',c',rfl⟩:=hu.form
 refine in_keep_Same (by simp) fun hw=> ?_
 unfold c_keep_Same
 simp only[go_sem,neF (show(xs.length:Int)=xs.length from rfl)]
 refine for_rule (fun i ρ h'=>i≤xs.length∧h'=h∧ρ 0= .sl id off xs.length c∧ρ 1= .sl id' off' xs.length c'∧ρ 5= .int .i64 (i:Int)) xs.length ⟨by omega,rfl,rfl,rfl,rfl⟩ (fun i ρ h hI=>hI.1) ?_
 rintro i ρ h' ⟨hi,rfl,q0,q1,q5⟩
 rcases Nat.lt_or_ge i xs.length with hlt|hge
 ·obtain⟨j,rfl,_,hg⟩:=hv.at hlt
  obtain⟨j2,rfl,_,hg2⟩:=hu.at hlt
  simp only[go_sem,q0,q1,q5,ltT hlt]
  refine⟨by omega,by omega, ?_⟩
  simp only[go_sem,hg,q1,q5]
  refine⟨by omega,by omega, ?_⟩
  simp only[go_sem,hg2,neF (show((xs[i]:Nat):Int)=(xs[i]:Nat) from rfl),q5,incI (i:=i) (by omega)]
  exact⟨by omega,by first|rfl|trivial|assumption,by first|rfl|trivial|assumption,by first|rfl|trivial|assumption,by first|rfl|trivial|assumption⟩
 ·simp only[go_sem,q0,q1,q5,ltF hge]
  exact fun _=>hk
structure Sp (m dp m' dp' nw B D:Nat):Prop where
 m1:m≤m'
 m2:m'≤m+B
 d1:dp≤dp'
 d2:dp'≤max dp (nw+D)
theorem Sp.refl (m dp nw B D:Nat):Sp m dp m dp nw B D:=⟨by omega,by omega,by omega,by omega⟩
theorem Sp.trans {m dp m1 d1 m2 d2 nw B1 D1 B2 D2:Nat} (h:Sp m dp m1 d1 nw B1 D1) (k:Sp m1 d1 m2 d2 nw B2 D2):Sp m dp m2 d2 nw (B1+B2) (max D1 D2):=by
 have:=h.1;have:=h.2;have:=h.3;have:=h.4;have:=k.1;have:=k.2;have:=k.3;have:=k.4
 exact⟨by omega,by omega,by omega,by omega⟩
theorem Sp.le {m dp m' dp' nw B D B' D':Nat} (h:Sp m dp m' dp' nw B D) (hB:B≤B') (hD:D≤D'):Sp m dp m' dp' nw B' D':=by
 have:=h.1;have:=h.2;have:=h.3;have:=h.4
 exact⟨by omega,by omega,by omega,by omega⟩
theorem Sp.deep {m dp m' dp' nw B D:Nat} (h:Sp m (max dp (nw+1)) m' dp' (nw+1) B D):Sp m dp m' dp' nw B (D+1):=by
 have:=h.1;have:=h.2;have:=h.3;have:=h.4
 exact⟨by omega,by omega,by omega,by omega⟩
theorem tune_row {m nw dp:Nat} {t:Tb} {h:H} {u:Nat} (ht:Tune h u m nw dp t):h.get u 1=some (.int .i64 (nw:Int))∧h.get u 2=some (.int .i64 (dp:Int)):=by
 rw[H.get_of ht,H.get_of ht]
 exact⟨rfl,rfl⟩
theorem Enter_calls {u m nw dp:Nat} {t:Tb} {h:H} {K:AV→H→Prop} (ht:Tune h u m nw dp t) (hn:nw≤4611686018427387904)
  (hk:∀v h',h'.wf→H.lee u h h'→h'.next=h.next→Tune h' u m (nw+1) (max dp (nw+1)) t→K v h'):ACalls Tryz.prog 121 [.ptr (some (u,0))] h K:=by
 refine in_meter_Meter_Enter (by simp) fun hw=> ?_
 unfold c_meter_Meter_Enter
 have hul:=H.row_lt hw ht
 have hr:h.rows u=some (tuneRow m nw dp t):=ht
 have e1:=incI (i:=nw) (by omega)
 have p1:({tuneRow m nw dp t with cells:=putAt (tuneRow m nw dp t).cells 1 [AV.int .i64 ((nw+1:Nat):Int)]}:Row)=tuneRow m (nw+1) dp t:=by
  simp[tuneRow,putAt]
 have p2:({tuneRow m (nw+1) dp t with cells:=putAt (tuneRow m (nw+1) dp t).cells 2 [AV.int .i64 ((max dp (nw+1):Nat):Int)]}:Row)=tuneRow m (nw+1) (max dp (nw+1)) t:=by
  simp[tuneRow,putAt]
 simp only[go_sem,(tune_row ht).1,e1,hr]
 refine⟨by simp[tuneRow],by simp[tuneRow], ?_⟩
 rw[p1]
 have ht2:Tune (h.set u (tuneRow m (nw+1) dp t)) u m (nw+1) dp t:=H.rows_set _ _ _
 have hr2:(h.set u (tuneRow m (nw+1) dp t)).rows u=some (tuneRow m (nw+1) dp t):=ht2
 simp only[go_sem,(tune_row ht2).1,(tune_row ht2).2,maxN (a:=dp) (b:=nw+1),hr2]
 refine⟨by simp[tuneRow],by simp[tuneRow], ?_⟩
 rw[p2]
 have ht3:Tune ((h.set u (tuneRow m (nw+1) dp t)).set u (tuneRow m (nw+1) (max dp (nw+1)) t)) u m (nw+1) (max dp (nw+1)) t:=H.rows_set _ _ _
 simp only[go_sem,(tune_row ht3).1]
 exact fun hw'=>hk _ _ hw' ((H.lee_set _).trans (H.lee_set _)) rfl ht3
theorem Leave_calls {u m nw dp:Nat} {t:Tb} {h:H} {K:AV→H→Prop} (ht:Tune h u m (nw+1) dp t) (hn:nw≤4611686018427387904)
  (hk:∀v h',h'.wf→H.lee u h h'→h'.next=h.next→Tune h' u m nw dp t→K v h'):ACalls Tryz.prog 124 [.ptr (some (u,0))] h K:=by
 refine in_meter_Meter_Leave (by simp) fun hw=> ?_
 unfold c_meter_Meter_Leave
 have hr:h.rows u=some (tuneRow m (nw+1) dp t):=ht
 have e1:IntKind.i64.wrap (((nw+1:Nat):Int)-1)=(nw:Int):=(wI (by omega) (by omega)).trans (by omega)
 have d1:decide ((0:Int)<((nw+1:Nat):Int))=true:=decide_eq_true (by omega)
 have p1:({tuneRow m (nw+1) dp t with cells:=putAt (tuneRow m (nw+1) dp t).cells 1 [AV.int .i64 (nw:Int)]}:Row)=tuneRow m nw dp t:=by
  simp[tuneRow,putAt]
 simp only[go_sem,(tune_row ht).1,e1,d1,hr]
 refine⟨by simp[tuneRow],by simp[tuneRow], ?_⟩
 rw[p1]
 have ht2:Tune (h.set u (tuneRow m nw dp t)) u m nw dp t:=H.rows_set _ _ _
 simp only[go_sem,(tune_row ht2).1]
 exact fun hw'=>hk _ _ hw' (H.lee_set _) rfl ht2
theorem adU {a b:Nat} (h:a+b<18446744073709551616):IntKind.u64.wrap ((a:Int)+(b:Int))=((a+b:Nat):Int):=by rw[wU]<;>omega
theorem valset {B:Nat} {d:Nat}:∀{xs:List Nat} {k:Nat} (hk:k<xs.length),val B (xs.set k d)+B^k*xs[k]=val B xs+B^k*d
 |x::xs,0,_=>by simp[val];omega
 |x::xs,k+1,hk=>by
  have ih:=valset (B:=B) (d:=d) (xs:=xs) (k:=k) (by simpa using hk)
  simp only[List.set_cons_succ,val,List.getElem_cons_succ,Nat.pow_succ]
  have e:∀z,B^k*B*z=B*(B^k*z):=fun z=>by ac_rfl
  rw[e,e,Nat.add_assoc,←Nat.mul_add,ih,Nat.mul_add,←Nat.add_assoc]
theorem schoolstep {V w vt o v c d c2 B k i j os os2:Nat} (h1:os+B^k*c=V+B^i*(w*vt)) (h2:os2+B^k*o=os+B^k*d) (h3:d+B*c2=o+v*w+c) (hk:k=i+j):os2+B^(k+1)*c2=V+B^i*(w*(vt+B^j*v)):=by
 subst hk
 have e:=congrArg (fun z=>B^(i+j)*z) h3
 simp only[Nat.mul_add] at e
 have e1:B^(i+j)*(B*c2)=B^(i+j+1)*c2:=by rw[Nat.pow_succ];ac_rfl
 have e2:B^i*(w*(B^j*v))=B^(i+j)*(v*w):=by rw[Nat.pow_add];ac_rfl
 rw[Nat.mul_add,Nat.mul_add,e2]
 omega
theorem dropset {α:Type} {l:List α} {i k:Nat} {x:α} (h:i<k):(l.set i x).drop k=l.drop k:=by
 apply List.ext_getElem?
 intro j
 rw[List.getElem?_drop,List.getElem?_drop,List.getElem?_set,if_neg (by omega)]
theorem sMul_calls {e u m0 nw dp:Nat} {t:Tb} {va vb:AV} {xs ys:List Nat} {h:H} {K:AV→H→Prop} (he:Eng 1 h e u) (ht:Tune h u m0 nw dp t) (hv:IsN h va xs) (hxd:Dig xs) (hxl:xs.length≤1073741824) (hu:IsN h vb ys) (hyd:Dig ys) (hyl:ys.length≤1073741824)
  (hk:∀r h',h'.wf→H.lee u h h'→Tune h' u (m0+xs.length*ys.length) nw dp t→Nf h.next h' r (val 18446744073709551616 xs*val 18446744073709551616 ys)→K r h'):
  ACalls Tryz.prog 100 [.ptr (some (e,0)),va,vb] h K:=by
 obtain⟨id,off,c,rfl⟩:=hv.form
 obtain⟨id',off',c',rfl⟩:=hu.form
 refine in_school_Engine_Mul (by simp) fun hw=> ?_
 unfold c_school_Engine_Mul
 simp only[Eng] at he
 obtain⟨r1,e1,hr1,hc1,rfl⟩:=he
 have g1:h.get e 0=some (.ptr (some (e1,0))):=by rw[H.get_of hr1,hc1];rfl
 have hmul:xs.length*ys.length≤1073741824*1073741824:=Nat.mul_le_mul hxl hyl
 have a1:=mulI (a:=xs.length) (b:=ys.length) (by omega)
 have a2:=addI (a:=xs.length) (b:=ys.length) (by omega)
 simp only[go_sem,g1,a1]
 refine Spend_calls ht fun h1 hw1 hl1 hn1 ht1=> ?_
 have hv1:=hv.monoE ht hl1
 have hu1:=hu.monoE ht hl1
 simp only[go_sem,a2]
 refine⟨by omega,by omega,by omega, ?_⟩
 obtain⟨N,hN⟩:∃N,N=xs.length+ys.length:=⟨_,rfl⟩
 rw[←hN]
 have hl2:=H.le_new hw1 (H.le_refl h1) ⟨some 73,1,zs [AV.int .u64 0] N⟩
 refine loop_cut (fun ρ h'=>h'.wf∧h1.le h'∧ρ 7= .sl (some h1.next) 0 N (some N)∧∃os,IsG h1.next h' (.sl (some h1.next) 0 N (some N)) os∧Dig os∧os.length=N∧val 18446744073709551616 os=val 18446744073709551616 xs*val 18446744073709551616 ys) ?_ ?_
 ·refine for_rule (fun i ρ h'=>i≤xs.length∧h'.wf∧h1.le h'∧ρ 2= .sl id' off' ys.length c'∧ρ 7= .sl (some h1.next) 0 N (some N)∧ρ 35= .sl id off xs.length c∧ρ 36= .int .i64 (xs.length:Int)∧ρ 37= .int .i64 (i:Int)∧∃os,IsG h1.next h' (.sl (some h1.next) 0 N (some N)) os∧Dig os∧os.length=N∧(∀x∈os.drop (i+ys.length),x=0)∧val 18446744073709551616 os=val 18446744073709551616 (xs.take i)*val 18446744073709551616 ys) xs.length
   ⟨by omega,H.wf_new hw1 _,hl2,by first|rfl|trivial|assumption,by first|rfl|trivial|assumption,by first|rfl|trivial|assumption,by first|rfl|trivial|assumption,by first|rfl|trivial|assumption,_,IsG.made (Nat.le_refl _) _,Dig.zeros _,by simp,fun x hx=>by rw[List.drop_replicate] at hx;exact List.eq_of_mem_replicate hx,by rw[val_zero _ _ (fun x hx=>List.eq_of_mem_replicate hx)];simp[val]⟩ (fun i ρ h hI=>hI.1) ?_
  rintro i ρ h' ⟨hi,hw',hle,q2,q7,q35,q36,q37,os,hs,hod,hol,hz,hov⟩
  rcases Nat.lt_or_ge i xs.length with hxi|hxi
  ·obtain⟨ja,rfl,_,hga⟩:=(hv1.mono hle).at hxi
   have hxb:=hxd _ (List.getElem_mem hxi)
   have hvx:=val_take_succ 18446744073709551616 xs i hxi
   simp only[go_sem,q2,q7,q35,q36,q37,ltT hxi]
   refine⟨by omega,by omega, ?_⟩
   simp only[go_sem,hga,q2,q7,q35,q36,q37]
   generalize xs[i]=w at*
   refine loop_cut (fun ρ h'=>h'.wf∧h1.le h'∧ρ 2= .sl id' off' ys.length c'∧ρ 7= .sl (some h1.next) 0 N (some N)∧ρ 35= .sl (some ja) off xs.length c∧ρ 36= .int .i64 (xs.length:Int)∧ρ 37= .int .i64 (i:Int)∧ρ 8= .int .i64 (i:Int)∧∃os cc,ρ 10= .int .u64 (cc:Nat)∧cc<18446744073709551616∧IsG h1.next h' (.sl (some h1.next) 0 N (some N)) os∧Dig os∧os.length=N∧(∀x∈os.drop (i+ys.length),x=0)∧val 18446744073709551616 os+18446744073709551616^(i+ys.length)*cc=val 18446744073709551616 (xs.take i)*val 18446744073709551616 ys+18446744073709551616^i*(w*val 18446744073709551616 ys)) ?_ ?_
   ·refine for_rule (fun j ρ h'=>j≤ys.length∧h'.wf∧h1.le h'∧ρ 2= .sl id' off' ys.length c'∧ρ 7= .sl (some h1.next) 0 N (some N)∧ρ 35= .sl (some ja) off xs.length c∧ρ 36= .int .i64 (xs.length:Int)∧ρ 37= .int .i64 (i:Int)∧ρ 8= .int .i64 (i:Int)∧ρ 9= .int .u64 (w:Int)∧ρ 42= .sl id' off' ys.length c'∧ρ 43= .int .i64 (ys.length:Int)∧ρ 44= .int .i64 (j:Int)∧∃os cc,ρ 10= .int .u64 (cc:Nat)∧cc<18446744073709551616∧IsG h1.next h' (.sl (some h1.next) 0 N (some N)) os∧Dig os∧os.length=N∧(∀x∈os.drop (i+ys.length),x=0)∧val 18446744073709551616 os+18446744073709551616^(i+j)*cc=val 18446744073709551616 (xs.take i)*val 18446744073709551616 ys+18446744073709551616^i*(w*val 18446744073709551616 (ys.take j))) ys.length
     ⟨by omega,hw',hle,q2,q7,by first|rfl|trivial|assumption,q36,q37,by first|rfl|trivial|assumption,by first|rfl|trivial|assumption,by first|rfl|trivial|assumption,by first|rfl|trivial|assumption,by first|rfl|trivial|assumption,os,0,rfl,by omega,hs,hod,hol,hz,by simp[val,hov]⟩ (fun i ρ h hI=>hI.1) ?_
    rintro j ρ h2 ⟨hj,hw2,hle2,q2,q7,q35,q36,q37,q8,q9,q42,q43,q44,os,cc,q10,hcc,hs,hod,hol,hz,hov⟩
    rcases Nat.lt_or_ge j ys.length with hyj|hyj
    ·obtain⟨jb,rfl,_,hgb⟩:=(hu1.mono hle2).at hyj
     have hyb:=hyd _ (List.getElem_mem hyj)
     have hvy:=val_take_succ 18446744073709551616 ys j hyj
     generalize ys[j]=v at*
     have hkN:i+j<os.length:=by omega
     have hob:=hod _ (List.getElem_mem hkN)
     have hset:=fun d=>valset (B:=18446744073709551616) (d:=d) hkN
     obtain⟨jo,eo,_,hgo⟩:=hs.isN.at hkN
     injection eo with eo
     subst eo
     obtain⟨i2,r2,e2,hb2,hlt2,hr2,ho2,hf2,hp2⟩:=hs.put hw2 hkN
     injection e2 with e2
     subst e2
     have ast:=addmul_step (b:=w) (w:=v) (c:=cc) (a:=os[i+j]) hxb hyb hcc hob
     generalize os[i+j]=o at*
     rw[Nat.zero_add] at hgo
     simp only[go_sem,q2,q7,q35,q36,q37,q8,q9,q42,q43,q44,q10,ltT hyj]
     refine⟨by omega,by omega, ?_⟩
     simp only[go_sem,hgb,q9]
     refine Mul64_calls hxb hyb ?_
     simp only[go_sem,q10]
     have b1:w*v/18446744073709551616<18446744073709551616:=by
      rw[Nat.div_lt_iff_lt_mul (by omega)]
      exact Nat.mul_lt_mul_of_lt_of_le hxb (Nat.le_of_lt hyb) (by omega)
     refine Add64_calls (c:=0) (Nat.mod_lt _ (by omega)) hcc (by omega) ?_
     have b3:w*v/18446744073709551616+(w*v%18446744073709551616+cc)/18446744073709551616<18446744073709551616:=Nat.lt_of_le_of_lt (Nat.le_add_right _ _) ast.2
     have a3:IntKind.u64.wrap (((w*v/18446744073709551616:Nat):Int)+(((w*v%18446744073709551616+cc+0)/18446744073709551616:Nat):Int))=((w*v/18446744073709551616+(w*v%18446744073709551616+cc)/18446744073709551616:Nat):Int):=by rw[Nat.add_zero];exact adU b3
     have a4:=addI (a:=i) (b:=j) (by omega)
     simp only[go_sem,a3,a4,q7,q8]
     refine⟨by omega,by omega, ?_⟩
     simp only[go_sem,hgo,Nat.add_zero]
     refine Add64_calls (c:=0) hob (Nat.mod_lt _ (by omega)) (by omega) ?_
     have a5:IntKind.u64.wrap (((w*v/18446744073709551616+(w*v%18446744073709551616+cc)/18446744073709551616:Nat):Int)+(((o+(w*v%18446744073709551616+cc)%18446744073709551616+0)/18446744073709551616:Nat):Int))=((w*v/18446744073709551616+(w*v%18446744073709551616+cc)/18446744073709551616+(o+(w*v%18446744073709551616+cc)%18446744073709551616)/18446744073709551616:Nat):Int):=by rw[Nat.add_zero];exact adU ast.2
     simp only[go_sem,a4,q7]
     refine⟨by omega,by omega, ?_⟩
     simp only[go_sem,hr2]
     refine⟨ho2,by omega, ?_⟩
     simp only[go_sem,a5,q2,q7,q35,q36,q37,q8,q9,q42,q43,q44,incI (i:=j) (by omega)]
     refine⟨by omega,H.wf_set hw2 hlt2 _,H.le_set hw1 hle2 hb2 _,by first|rfl|trivial|assumption,by first|rfl|trivial|assumption,by first|rfl|trivial|assumption,by first|rfl|trivial|assumption,by first|rfl|trivial|assumption,by first|rfl|trivial|assumption,by first|rfl|trivial|assumption,by first|rfl|trivial|assumption,by first|rfl|trivial|assumption,by first|rfl|trivial|assumption,_,_,by first|rfl|trivial|assumption,ast.2,hp2 ((o+(w*v%18446744073709551616+cc)%18446744073709551616+0)%18446744073709551616),hod.set _ (Nat.mod_lt _ (by omega)),by rw[List.length_set];exact hol,by rw[dropset (by omega)];exact hz, ?_⟩
     rw[hvy]
     refine schoolstep hov (hset _) ?_ rfl
     rw[Nat.add_zero,ast.1,Nat.mul_comm v w]
    ·have:j=ys.length:=by omega
     subst this
     rw[List.take_length] at hov
     simp only[go_sem,q2,q7,q35,q36,q37,q8,q42,q43,q44,ltF (Nat.le_refl ys.length)]
     exact⟨hw2,hle2,by first|rfl|trivial|assumption,by first|rfl|trivial|assumption,by first|rfl|trivial|assumption,by first|rfl|trivial|assumption,by first|rfl|trivial|assumption,by first|rfl|trivial|assumption,os,cc,by first|rfl|trivial|assumption,hcc,hs,hod,hol,hz,hov⟩
   ·rintro ρ h2 ⟨hw2,hle2,q2,q7,q35,q36,q37,q8,os,cc,q10,hcc,hs,hod,hol,hz,hov⟩
    have hkN:i+ys.length<os.length:=by omega
    have a4:=addI (a:=i) (b:=ys.length) (by omega)
    obtain⟨i2,r2,e2,hb2,hlt2,hr2,ho2,hf2,hp2⟩:=hs.put hw2 hkN
    injection e2 with e2
    subst e2
    have hset:=valset (B:=18446744073709551616) (d:=cc) hkN
    have h0:os[i+ys.length]=0:=hz _ (by have:=List.getElem_mem (l:=os.drop (i+ys.length)) (n:=0) (by simp;omega);simpa using this)
    rw[h0,Nat.mul_zero,Nat.add_zero] at hset
    simp only[go_sem,q2,q7,q8,q10,a4]
    refine⟨by omega,by omega, ?_⟩
    simp only[go_sem,hr2]
    refine⟨ho2,by omega, ?_⟩
    simp only[go_sem,q2,q7,q35,q36,q37,incI (i:=i) (by omega)]
    refine⟨by omega,H.wf_set hw2 hlt2 _,H.le_set hw1 hle2 hb2 _,by first|rfl|trivial|assumption,by first|rfl|trivial|assumption,by first|rfl|trivial|assumption,by first|rfl|trivial|assumption,by first|rfl|trivial|assumption,_,hp2 cc,hod.set _ hcc,by rw[List.length_set];exact hol,fun x hx=> ?_, ?_⟩
    ·rw[show i+1+ys.length=i+ys.length+1 by omega,dropset (by omega)] at hx
     exact hz x (by rw[List.drop_eq_getElem_cons hkN];exact List.mem_cons_of_mem _ hx)
    ·rw[hset,hov,hvx,Nat.add_mul,Nat.mul_assoc]
  ·have:i=xs.length:=by omega
   subst this
   rw[List.take_length] at hov
   simp only[go_sem,q2,q7,q35,q36,q37,ltF (Nat.le_refl xs.length)]
   exact⟨hw',hle,by first|rfl|trivial|assumption,os,hs,hod,hol,hov⟩
 ·rintro ρ h2 ⟨hw2,hle2,q7,os,hs,hod,hol,hov⟩
  simp only[go_sem,q7]
  refine Norm_calls ⟨os,hs.isN,hod,by omega,hov⟩ fun r h3 hw3 hl3 hr=> ?_
  simp only[go_sem]
  exact fun _=>hk r h3 hw3 (hl1.trans (H.le_trans hle2 hl3).lee) ((ht1.mono hle2).mono hl3) (hr.base (by have:=hle2.1;omega))
theorem putAt_len {l m:List AV} {k:Nat} (h:k+m.length≤l.length):(putAt l k m).length=l.length:=by simp[putAt];omega
theorem putAt_get {l m:List AV} {k i:Nat} (h:k+m.length≤l.length):(putAt l k m)[i]? =if k≤i∧i<k+m.length then m[i-k]? else l[i]? :=by
 unfold putAt
 have hm:min k l.length=k:=by omega
 rcases Nat.lt_or_ge i k with h1|h1
 ·rw[if_neg (by omega),List.append_assoc,List.getElem?_append_left (by simp;omega),List.getElem?_take,if_pos h1]
 ·rcases Nat.lt_or_ge i (k+m.length) with h2|h2
  ·rw[if_pos ⟨h1,h2⟩,List.append_assoc,List.getElem?_append_right (by simp;omega),List.getElem?_append_left (by simp;omega)]
   simp[hm]
  ·rw[if_neg (by omega),List.getElem?_append_right (by simp;omega),List.getElem?_drop]
   congr 1
   simp[hm]
   omega
def IsC (z:Nat) (h:H) (v:AV) (n:Nat) (cs:List AV):Prop:=
 cs.length=n*z∧∃id off c,v= .sl id off n c∧((id=none∧n=0∧off=0)∨∃i r,id=some i∧h.rows i=some r∧(r.own=none∨r.esz=z)∧off+n*z≤r.cells.length∧(r.cells.drop off).take (n*z)=cs)
def IsCF (t:TypeId) (z b:Nat) (h:H) (v:AV) (n:Nat) (cs:List AV):Prop:=
 cs.length=n*z∧∃id c,v= .sl id 0 n c∧((id=none∧n=0)∨∃i r,id=some i∧b≤i∧h.rows i=some r∧r.own=some t∧r.esz=z∧n*z≤r.cells.length∧r.cells.take (n*z)=cs)
theorem IsCF.isC {t:TypeId} {z b n:Nat} {h:H} {v:AV} {cs:List AV} (hv:IsCF t z b h v n cs):IsC z h v n cs:=by
 obtain⟨hl,id,c,rfl,h1⟩:=hv
 refine⟨hl,id,0,c,rfl, ?_⟩
 rcases h1 with⟨rfl,rfl⟩|⟨i,r,rfl,_,hr,_,he,hf,ht⟩
 ·exact .inl ⟨rfl,rfl,rfl⟩
 ·exact .inr ⟨i,r,rfl,hr, .inr he,by omega,by simpa using ht⟩
theorem IsC.mono {z n:Nat} {h h':H} {v:AV} {cs:List AV} (hv:IsC z h v n cs) (hl:h.le h'):IsC z h' v n cs:=by
 obtain⟨h0,id,off,c,rfl,h1⟩:=hv
 refine⟨h0,id,off,c,rfl, ?_⟩
 rcases h1 with h1|⟨i,r,rfl,hr,h2⟩
 ·exact .inl h1
 ·exact .inr ⟨i,r,rfl,hl.2 i r hr,h2⟩
theorem IsCF.mono {t:TypeId} {z b n:Nat} {h h':H} {v:AV} {cs:List AV} (hv:IsCF t z b h v n cs) (hl:h.le h'):IsCF t z b h' v n cs:=by
 obtain⟨h0,id,c,rfl,h1⟩:=hv
 refine⟨h0,id,c,rfl, ?_⟩
 rcases h1 with h1|⟨i,r,rfl,hb,hr,h2⟩
 ·exact .inl h1
 ·exact .inr ⟨i,r,rfl,hb,hl.2 i r hr,h2⟩
theorem IsCF.monoE {t:TypeId} {z b n u:Nat} {h h':H} {v:AV} {cs:List AV} (hub:u<b) (hv:IsCF t z b h v n cs) (hl:H.lee u h h'):IsCF t z b h' v n cs:=by
 obtain⟨h0,id,c,rfl,h1⟩:=hv
 refine⟨h0,id,c,rfl, ?_⟩
 rcases h1 with h1|⟨i,r,rfl,hb,hr,h2⟩
 ·exact .inl h1
 ·exact .inr ⟨i,r,rfl,hb,hl.2 i r (by omega) hr,h2⟩
theorem IsCF.nil (t:TypeId) (z b:Nat) (h:H) (c:Option Nat):IsCF t z b h (.sl none 0 0 c) 0 []:=⟨by simp,none,c,rfl, .inl ⟨rfl,rfl⟩⟩
theorem IsC.form {z n:Nat} {h:H} {v:AV} {cs:List AV} (hv:IsC z h v n cs):∃id off c,v= .sl id off n c:=by
 obtain⟨_,id,off,c,e,_⟩:=hv
 exact⟨id,off,c,e⟩
theorem IsC.at {z n m:Nat} {h:H} {id:Option Nat} {off:Nat} {c:Option Nat} {cs:List AV} (hv:IsC z h (.sl id off m c) n cs) {j:Nat} (hj:j<n*z):∃i,id=some i∧m=n∧h.get i (off+j)=cs[j]? :=by
 obtain⟨hl,id',off',c',e,h1⟩:=hv
 injection e with e1 e2 e3 e4
 subst e1;subst e2;subst e3;subst e4
 rcases h1 with⟨_,rfl,_⟩|⟨i,r,rfl,hr,_,hf,ht⟩
 ·simp at hj
 ·refine⟨i,rfl,rfl, ?_⟩
  rw[←ht,List.getElem?_take,if_pos hj,List.getElem?_drop]
  simp[H.get,hr]
theorem IsC.ats {z n m:Nat} {h:H} {id:Option Nat} {off:Nat} {c:Option Nat} {cs:List AV} (hv:IsC z h (.sl id off m c) n cs) {j w:Nat} (hj:j+w≤n*z) (hw:0<w):∃i,id=some i∧m=n∧h.gets i (off+j) w=some ((cs.drop j).take w):=by
 obtain⟨hl,id',off',c',e,h1⟩:=hv
 injection e with e1 e2 e3 e4
 subst e1;subst e2;subst e3;subst e4
 rcases h1 with⟨_,rfl,_⟩|⟨i,r,rfl,hr,_,hf,ht⟩
 ·simp at hj;omega
 ·refine⟨i,rfl,rfl, ?_⟩
  simp only[H.gets,hr,Option.bind_some]
  rw[if_pos (by omega),←ht,List.drop_take,List.take_take,List.drop_drop,Nat.min_eq_left (by omega)]
theorem IsCF.put {t:TypeId} {z b n m:Nat} {h:H} {id:Option Nat} {c:Option Nat} {cs:List AV} (hw:h.wf) (hv:IsCF t z b h (.sl id 0 m c) n cs) {k w:Nat} (hk:k+w≤n*z) (hw0:0<w):∃i r,id=some i∧b≤i∧i<h.next∧h.rows i=some r∧r.own≠none∧m=n∧k+w≤r.cells.length∧
  ∀l:List AV,l.length=w→IsCF t z b (h.set i {r with cells:=putAt r.cells k l}) (.sl id 0 m c) n (putAt cs k l):=by
 obtain⟨hl,id',c2,e,h1⟩:=hv
 injection e with e1 e2 e3 e4
 subst e1;subst e3;subst e4
 rcases h1 with⟨_,rfl⟩|⟨i,r,rfl,hbi,hr,ho,he,hf,ht⟩
 ·simp at hk;omega
 ·refine⟨i,r,rfl,hbi,H.row_lt hw hr,hr,by rw[ho];simp,rfl,by omega,fun l hll=> ?_⟩
  refine⟨by rw[putAt_len (by omega)];exact hl,some i,c,rfl, .inr ⟨i,_,rfl,hbi,H.rows_set _ _ _,ho,he, ?_, ?_⟩⟩
  ·show m*z≤(putAt r.cells k l).length
   rw[putAt_len (by omega)]
   exact hf
  ·show(putAt r.cells k l).take (m*z)=_
   apply List.ext_getElem?
   intro j
   rw[List.getElem?_take,putAt_get (by omega),putAt_get (by omega),←ht,List.getElem?_take]
   by_cases hj:j<m*z
   ·rw[if_pos hj,if_pos hj]
   ·rw[if_neg hj,if_neg hj,if_neg (by omega)]
theorem zs_len {z n:Nat} {zero:List AV} (h:zero.length=z):(zs zero n).length=n*z:=by
 subst h
 unfold zs
 split
 ·simp
 ·simp
theorem IsCF.made {t:TypeId} {z b:Nat} {h:H} {zero:List AV} (hb:b≤h.next) (hz:zero.length=z) (n:Nat):IsCF t z b (h.new ⟨some t,z,zs zero n⟩) (.sl (some h.next) 0 n (some n)) n (zs zero n):=
 ⟨zs_len hz,some h.next,some n,rfl, .inr ⟨h.next,_,rfl,hb,H.rows_new _ _,rfl,rfl,Nat.le_of_eq (zs_len hz).symm,List.take_of_length_le (Nat.le_of_eq (zs_len hz))⟩⟩
theorem IsCF.lit {t:TypeId} {z b:Nat} {h:H} (hb:b≤h.next) {l:List AV} {n:Nat} (hn:l.length=n*z):IsCF t z b (h.new ⟨some t,z,l⟩) (.sl (some h.next) 0 n (some n)) n l:=
 ⟨hn,some h.next,some n,rfl, .inr ⟨h.next,_,rfl,hb,H.rows_new _ _,rfl,rfl,Nat.le_of_eq hn.symm,List.take_of_length_le (Nat.le_of_eq hn)⟩⟩
def H.upto (h:H) (n:Nat):H:={rows:=fun i=>if i<n then h.rows i else none,next:=n}
theorem H.upto_next (h:H) (n:Nat):(h.upto n).next=n:=rfl
theorem H.upto_wf (h:H) (n:Nat):(h.upto n).wf:=fun i hi=>by
 show(if i<n then h.rows i else none)=none
 rw[if_neg]
 exact Nat.not_lt.2 hi
theorem H.upto_le {h:H} {n:Nat} (hn:n≤h.next):(h.upto n).le h:=⟨hn,fun i r hr=>by
 have hr':(if i<n then h.rows i else none)=some r:=hr
 split at hr'
 ·exact hr'
 ·cases hr'⟩
theorem upto_row {u:Nat} {h h':H} (hw:h.wf) (hl:H.lee u h h') {i:Nat} {r:Row} (hi:i≠u) (hr:h.rows i=some r):(h'.upto h.next).rows i=some r:=by
 show(if i<h.next then h'.rows i else none)=some r
 rw[if_pos (H.row_lt hw hr)]
 exact hl.2 i r hi hr
section
set_option maxRecDepth 100000
def AllC {α:Type} (z:Nat) (R:List AV→α→Prop) (cs:List AV) (xs:List α):Prop:=cs.length=xs.length*z∧∀(j:Nat) (x:α),xs[j]? =some x→R ((cs.drop (j*z)).take z) x
theorem AllC.nil {α:Type} (z:Nat) (R:List AV→α→Prop):AllC z R [] []:=⟨by simp,fun _ _ h=>by simp at h⟩
theorem AllC.mono {α:Type} {z:Nat} {R R':List AV→α→Prop} {cs:List AV} {xs:List α} (h:AllC z R cs xs) (hr:∀c x,R c x→R' c x):AllC z R' cs xs:=⟨h.1,fun j x h1=>hr _ x (h.2 j x h1)⟩
theorem AllC.snoc {α:Type} {z:Nat} {R:List AV→α→Prop} {cs l:List AV} {xs:List α} (h:AllC z R cs xs) {x:α} (hz:l.length=z) (hc:R l x):AllC z R (cs++l) (xs++[x]):=by
 refine⟨by simp[h.1,hz,Nat.add_mul],fun j x' h2=> ?_⟩
 rcases Nat.lt_or_ge j xs.length with hj|hj
 ·rw[List.getElem?_append_left hj] at h2
  have h3:j*z+z≤cs.length:=by rw[h.1,←Nat.succ_mul];exact Nat.mul_le_mul_right _ hj
  rw[List.drop_append_of_le_length (by omega),List.take_append_of_le_length (by simp;omega)]
  exact h.2 j x' h2
 ·rw[List.getElem?_append_right hj] at h2
  rcases hjj:j-xs.length with _|k
  ·rw[hjj] at h2
   simp at h2
   subst h2
   have:j=xs.length:=by omega
   rw[this,←h.1,List.drop_left,List.take_of_length_le (by omega)]
   exact hc
  ·rw[hjj] at h2
   simp at h2
theorem chunk_le {j n z:Nat} (h:j<n):j*z+z≤n*z:=by rw[←Nat.succ_mul];exact Nat.mul_le_mul_right _ h
theorem AllC.set {α:Type} {z:Nat} {R:List AV→α→Prop} {cs l:List AV} {xs:List α} (h:AllC z R cs xs) {j:Nat} {x:α} (hj:j<xs.length) (hz:l.length=z) (hc:R l x):AllC z R (putAt cs (j*z) l) (xs.set j x):=by
 have h0:=chunk_le (z:=z) hj
 have hl:=h.1
 refine⟨by rw[putAt_len (by omega),List.length_set];exact hl,fun k y h2=> ?_⟩
 rw[List.getElem?_set] at h2
 have ext:∀m,(((putAt cs (j*z) l).drop (k*z)).take z)[m]? =if m<z then(if j*z≤k*z+m∧k*z+m<j*z+z then l[k*z+m-j*z]? else cs[k*z+m]?) else none:=by
  intro m
  rw[List.getElem?_take]
  split
  ·rw[List.getElem?_drop,putAt_get (by omega),hz]
  ·rfl
 split at h2
 ·rename_i e
  subst e
  injection h2 with h2
  subst h2
  have:((putAt cs (j*z) l).drop (j*z)).take z=l:=by
   apply List.ext_getElem?
   intro m
   rw[ext m]
   split
   ·rw[if_pos (by omega),show j*z+m-j*z=m by omega]
   ·rw[List.getElem?_eq_none (by omega)]
  rw[this]
  exact hc
 ·rename_i hne
  have hk:k<xs.length:=(List.getElem?_eq_some_iff.1 h2).1
  have:((putAt cs (j*z) l).drop (k*z)).take z=(cs.drop (k*z)).take z:=by
   apply List.ext_getElem?
   intro m
   rw[ext m,List.getElem?_take,List.getElem?_drop]
   split
   ·rename_i hm
    rw[if_neg]
    rcases Nat.lt_or_gt_of_ne hne with h3|h3
    ·have:=chunk_le (z:=z) h3;omega
    ·have:=chunk_le (z:=z) h3;omega
   ·rfl
  rw[this]
  exact h.2 k y h2
def IsA {α:Type} (z:Nat) (R:H→List AV→α→Prop) (h:H) (v:AV) (xs:List α):Prop:=∃cs,IsC z h v xs.length cs∧AllC z (R h) cs xs
def Grows {α:Type} (R:H→List AV→α→Prop):Prop:=∀⦃h h':H⦄ ⦃c:List AV⦄ ⦃x:α⦄,R h c x→h.le h'→R h' c x
theorem IsA.form {α:Type} {z:Nat} {R:H→List AV→α→Prop} {h:H} {v:AV} {xs:List α} (hv:IsA z R h v xs):∃id off c,v= .sl id off xs.length c:=by
 obtain⟨cs,h1,_⟩:=hv
 exact h1.form
theorem take_one {l:List AV} {j:Nat} (h:j<l.length):(l.drop j).take 1=[l[j]]:=by
 rw[List.drop_eq_getElem_cons h]
 rfl
theorem IsA.at1 {α:Type} {R:H→List AV→α→Prop} {h:H} {id:Option Nat} {off n:Nat} {c:Option Nat} {xs:List α} (hv:IsA 1 R h (.sl id off n c) xs) {j:Nat} (hj:j<xs.length):∃i a,id=some i∧n=xs.length∧h.get i (off+j)=some a∧R h [a] xs[j]:=by
 obtain⟨cs,h1,h2⟩:=hv
 obtain⟨i,e1,e2,e3⟩:=h1.at (j:=j) (by omega)
 have hl:=h2.1
 have h3:=h2.2 j _ (List.getElem?_eq_getElem hj)
 rw[Nat.mul_one,take_one (by omega)] at h3
 exact⟨i,cs[j],e1,e2,e3.trans (List.getElem?_eq_getElem (by omega)),h3⟩
def Live {α:Type} (t:TypeId) (z b:Nat) (R:H→List AV→α→Prop) (h:H) (v:AV) (xs:List α):Prop:=∃io c cs,v= .sl io 0 xs.length c∧IsCF t z b h v xs.length cs∧AllC z (R (h.del io)) cs xs
theorem H.del_le {h:H} (o:Option Nat):(h.del o).le h:=⟨Nat.le_refl _,fun i r e=>by
 simp only[H.del] at e
 split at e
 ·cases e
 ·exact e⟩
theorem H.del_mono {h h':H} (hl:h.le h') (o:Option Nat):(h.del o).le (h'.del o):=⟨hl.1,fun i r e=>by
 simp only[H.del] at e⊢
 split at e
 ·cases e
 ·rename_i hi;rw[if_neg hi];exact hl.2 i r e⟩
theorem H.get_le {a h:H} (hl:a.le h) {i j:Nat} {v:AV} (e:a.get i j=some v):h.get i j=some v:=by
 unfold H.get at*
 cases hr:a.rows i with
 |none=>rw[hr] at e;cases e
 |some r=>rw[hr] at e;rw[hl.2 _ _ hr];exact e
theorem Live.nil {α:Type} (t:TypeId) (z b:Nat) (R:H→List AV→α→Prop) (h:H) (c:Option Nat):Live t z b R h (.sl none 0 0 c) []:=⟨none,c,[],rfl,IsCF.nil _ _ _ _ _,AllC.nil _ _⟩
theorem Live.form {α:Type} {t:TypeId} {z b:Nat} {R:H→List AV→α→Prop} {h:H} {v:AV} {xs:List α} (hv:Live t z b R h v xs):∃io c,v= .sl io 0 xs.length c:=by
 obtain⟨io,c,cs,e,_⟩:=hv
 exact⟨io,c,e⟩
theorem Live.isA {α:Type} {t:TypeId} {z b:Nat} {R:H→List AV→α→Prop} (hR:Grows R) {h:H} {v:AV} {xs:List α} (hv:Live t z b R h v xs):IsA z R h v xs:=by
 obtain⟨io,c,cs,e,h1,h2⟩:=hv
 exact⟨cs,h1.isC,h2.mono fun l x hx=>hR hx (H.del_le io)⟩
theorem Live.mono {α:Type} {t:TypeId} {z b:Nat} {R:H→List AV→α→Prop} (hR:Grows R) {h h':H} {v:AV} {xs:List α} (hv:Live t z b R h v xs) (hl:h.le h'):Live t z b R h' v xs:=by
 obtain⟨io,c,cs,e,h1,h2⟩:=hv
 exact⟨io,c,cs,e,h1.mono hl,h2.mono fun l x hx=>hR hx (H.del_mono hl io)⟩
theorem Live.app {α:Type} {t:TypeId} {z:Nat} {R:H→List AV→α→Prop} (hR:Grows R) {a h h2:H} {K:AV→H→Prop} {io:Option Nat} {co:Option Nat} {l:List AV} {ys:List α} {y:α} {bt n:Nat} (hz:0<z) (ha:a.wf) (hw:h.wf) (hah:a.le h)
  (hs:Live t z a.next R h (.sl io 0 n co) ys) (hn:n=ys.length) (hx:R (h.del io) l y) (hlz:l.length=z) (h1:l.all (·.one)=true) (hbt:bt≤64) (hl:n+1≤1099511627776)
  (hh:h2=h.new ⟨some t,z,l⟩) (hk:∀v h',h'.wf→a.le h'→Live t z a.next R h' v (ys++[y])→K v h'):appK t z bt (.sl io 0 n co) (.sl (some h.next) 0 1 (some 1)) h2 K:=by
 subst hh
 subst hn
 obtain⟨io',co',cs,e,hs,hc⟩:=hs
 injection e with e1 e2 e3 e4
 subst e1;subst e4
 have hbb:=Nat.mul_le_mul hl hbt
 have hw2:=H.wf_new hw ⟨some t,z,l⟩
 have hs2:=hs.mono (H.le_new hw (H.le_refl h) ⟨some t,z,l⟩)
 have hah2:=H.le_new hw hah ⟨some t,z,l⟩
 obtain⟨hcl,id',c',e,h3⟩:=hs2
 injection e with e1 e2 e3 e4
 subst e1;subst e4
 have hnx:(h.new ⟨some t,z,l⟩).next=h.next+1:=rfl
 simp only[appK]
 refine⟨fun h0=>by omega,fun _=>⟨h.next,_,rfl,H.rows_new _ _, ?_, ?_,by omega,by omega, ?_⟩⟩
 ·show 0+1*z≤l.length
  omega
 ·show((l.drop 0).take (1*z)).all (·.one)=true
  rw[List.drop_zero,Nat.one_mul,List.take_of_length_le (by omega)]
  exact h1
 have et:((⟨some t,z,l⟩:Row).cells.drop 0).take (1*z)=l:=by
  show(l.drop 0).take (1*z)=l
  rw[List.drop_zero,Nat.one_mul,List.take_of_length_le (by omega)]
 rw[et]
 have hlen1:(ys++[y]).length=ys.length+1:=by simp
 rcases h3 with⟨rfl,h0⟩|⟨i,q,rfl,hbi,hq,ho,he,hf2,ht2⟩
 ·have hy:ys=[]:=List.eq_nil_of_length_eq_zero h0
  subst hy
  have:cs=[]:=List.eq_nil_of_length_eq_zero (by simpa using hcl)
  subst this
  refine .inl ⟨rfl,rfl,hk _ _ (H.wf_new hw2 _) (H.le_new hw2 hah2 _) ⟨some (h.next+1),none,[]++l,rfl, ?_, ?_⟩⟩
  ·exact⟨by simp[hlz],some (h.next+1),none,rfl, .inr ⟨h.next+1,_,rfl,by have:=hah.1;omega,H.rows_new _ _,rfl,rfl,by simp[hlz],List.take_of_length_le (by simp[hlz])⟩⟩
  ·refine(hc.snoc hlz hx).mono fun l' x' hx'=>hR hx' ⟨by show h.next≤h.next+1+1;omega,fun j r hj=> ?_⟩
   have hj':=(H.del_le none).2 j r hj
   have hlt:=H.row_lt hw hj'
   simp only[H.del]
   rw[if_neg (by intro e;injection e;omega),H.rows_new_ne (by rw[hnx];omega),H.rows_new_ne (by omega)]
   exact hj'
 ·have hil:=H.row_lt hw2 hq
  have hi2:i≠h.next:=by
   intro e
   obtain⟨_,id2,c2,e2,h4⟩:=hs
   injection e2 with e2
   rcases h4 with⟨h4,_⟩|⟨i2,q2,h4,_,h5,_⟩
   ·rw[←e2] at h4;cases h4
   ·rw[←e2] at h4
    injection h4 with h4
    have:=H.row_lt hw h5
    omega
  refine .inr ⟨i,q,rfl,hq,ho,he,by simp,hf2,hk _ _ (H.wf_new (H.wf_del hw2 _) _) (H.le_new (H.wf_del hw2 _) (H.le_del ha hah2 hbi) _) ⟨some (h.next+1),none,cs++l,by rw[hlen1];rfl, ?_, ?_⟩⟩
  ·refine⟨by simp[hcl,hlz,Nat.add_mul],some (h.next+1),none,by rw[hlen1];rfl, .inr ⟨h.next+1,_,rfl,by have:=hah.1;omega,H.rows_new _ _,rfl,rfl, ?_, ?_⟩⟩
   ·rw[hlen1]
    simp only[List.length_append,ht2,hcl,hlz,Nat.add_mul];omega
   ·rw[hlen1,ht2]
    exact List.take_of_length_le (by simp[hcl,hlz,Nat.add_mul])
  ·refine(hc.snoc hlz hx).mono fun l' x' hx'=>hR hx' ⟨by show h.next≤h.next+1+1;omega,fun j r hj=> ?_⟩
   have hj':=(H.del_le (some i)).2 j r hj
   have hlt:=H.row_lt hw hj'
   have hji:j≠i:=by
    rintro rfl
    simp[H.del] at hj
   simp only[H.del]
   rw[if_neg (by intro e;injection e;omega)]
   show((H.del _ (some i)).new _).rows j=some r
   rw[H.rows_new_ne (by rw[H.next_del,hnx];omega),H.rows_del_ne hji,H.rows_new_ne (by omega)]
   exact hj'
theorem Nf.del {b:Nat} {h:H} {v:AV} {x:Nat} {io:Option Nat} (hio:∀i,io=some i→i<b) (hv:Nf b h v x):Nf b (h.del io) v x:=by
 obtain⟨xs,⟨id,c,rfl,h1⟩,h2⟩:=hv
 refine⟨xs,⟨id,c,rfl, ?_⟩,h2⟩
 rcases h1 with h1|⟨i,r,rfl,hb,hr,h3⟩
 ·exact .inl h1
 ·refine .inr ⟨i,r,rfl,hb, ?_,h3⟩
  simp only[H.del]
  rw[if_neg (fun e=>by have:=hio i e.symm;omega)]
  exact hr
theorem Live.io_lt {α:Type} {t:TypeId} {z b n:Nat} {R:H→List AV→α→Prop} {h:H} {io c:Option Nat} {xs:List α} (hw:h.wf) (hv:Live t z b R h (.sl io 0 n c) xs):∀i,io=some i→i<h.next:=by
 obtain⟨io',c',cs,e,⟨_,id,c2,e2,h3⟩,_⟩:=hv
 injection e2 with e2
 subst e2
 rintro i rfl
 rcases h3 with⟨h3,_⟩|⟨i',q,h3,_,hq,_⟩
 ·cases h3
 ·injection h3 with h3
  subst h3
  exact H.row_lt hw hq
theorem Live.monoE {α:Type} {t:TypeId} {z b u:Nat} {R:H→List AV→α→Prop} (hR:∀{h h':H} {c:List AV} {x:α},R h c x→H.lee u h h'→R h' c x) {h h':H} {v:AV} {xs:List α} (hub:u<b) (hv:Live t z b R h v xs) (hl:H.lee u h h'):Live t z b R h' v xs:=by
 obtain⟨io,c,cs,e,h1,h2⟩:=hv
 refine⟨io,c,cs,e,h1.monoE hub hl,h2.mono fun l x hx=>hR hx ⟨hl.1,fun i r hi he=> ?_⟩⟩
 simp only[H.del] at he⊢
 split at he
 ·cases he
 ·rename_i hj;rw[if_neg hj];exact hl.2 i r hi he
theorem lee_upto {u:Nat} {h h' h2:H} (hw:h.wf) (hl:H.lee u h h') (hu:(h'.upto h.next).le h2):H.lee u h h2:=
 ⟨hu.1,fun i r hi hr=>hu.2 i r (upto_row hw hl hi hr)⟩
theorem Tune.upto {u m nw dp:Nat} {tb:Tb} {h h' h2:H} (hu:u<h.next) (ht:Tune h' u m nw dp tb) (hl:(h'.upto h.next).le h2):Tune h2 u m nw dp tb:=by
 refine hl.2 _ _ ?_
 show(if u<h.next then h'.rows u else none)=_
 rw[if_pos hu]
 exact ht
end
theorem seq_cut {P:Program} {a b:AC} {Q:Post} {ρ:Env} {h:H} (M:Env→H→Prop) (h1:awp P a (onN M Q) ρ h) (h2:∀ρ h,M ρ h→awp P b Q ρ h):awp P (.seq a b) Q ρ h:=
 awp_cut (next:=awp P b Q) M h1 h2
theorem loop_cut2 {P:Program} {c:AC} {id id2:Nat} {next:Env→H→Prop} {Q:Post} {ρ:Env} {h:H} (M:Env→H→Prop) (h1:awp P (.loop c) (ablk id (ablk id2 (onN M Q))) ρ h) (h2:∀ρ h,M ρ h→next ρ h):awp P (.loop c) (ablk id (ablk id2 (athen next Q))) ρ h:=by
 have key:∀e ρ h,ablk id2 (onN M Q) e ρ h→ablk id2 (athen next Q) e ρ h:=by
  intro e ρ h hh
  cases e with
  |exit id'=>
   simp only[ablk] at hh⊢
   split
   ·rename_i hi;rw[if_pos hi] at hh;exact h2 _ _ hh
   ·rename_i hi;rw[if_neg hi] at hh;exact hh
  |normal=>exact h2 _ _ hh
  |_=>exact hh
 refine awp_mono (fun e ρ h hh=> ?_) h1
 cases e with
 |exit id'=>
  simp only[ablk] at hh⊢
  split
  ·rename_i hi;rw[if_pos hi] at hh;exact key .normal ρ h hh
  ·rename_i hi;rw[if_neg hi] at hh;exact key (.exit id') ρ h hh
 |normal=>exact key .normal ρ h hh
 |ret=>exact key .ret ρ h hh
 |goto l=>exact key (.goto l) ρ h hh
 |panic l=>exact key (.panic l) ρ h hh
 |outgrown=>exact key .outgrown ρ h hh
theorem trimA_calls {v:AV} {x:Nat} {a h:H} {K:AV→H→Prop} (hah:a.le h) (hv:Nn a v x) (hk:∀r xs,IsN a r xs→Dig xs→Top xs→val 18446744073709551616 xs=x→xs.length=wlen x→xs.length≤1099511627776→K r h):ACalls Tryz.prog 80 [v] h K:=by
 obtain⟨xs,h1,h2,h3,rfl⟩:=hv
 obtain⟨id,off,c,rfl⟩:=h1.form
 refine in_limb_trim (by simp) fun hw=> ?_
 unfold c_limb_trim
 simp only[go_sem]
 refine Len_calls (h1.mono hah) h2 (by omega) ?_
 have hl:=wlen_len h2
 have e:=top_cut h2
 simp only[go_sem]
 exact⟨by omega,by omega,(h1.mono hah).row,fun _=>hk _ _ (h1.take hl) (h2.take _) e.1 e.2 (by rw[List.length_take];omega) (by rw[List.length_take];omega)⟩
theorem LenN_calls {v:AV} {x:Nat} {h:H} {K:AV→H→Prop} (nv:Nn h v x) (hk:K (.int .i64 (wlen x:Nat)) h):ACalls Tryz.prog 62 [v] h K:=by
 obtain⟨xs,h1,h2,h3,rfl⟩:=nv
 exact Len_calls h1 h2 (by omega) hk
def NnL (h:H) (l:List AV) (x:Nat):Prop:=∃v,l=[v]∧Nn h v x
theorem parts_le {B k n:Nat} (hB:0<B):∀{xs:List Nat} (i0:Nat),(∀i (hi:i<xs.length),xs[i]≠0→xs[i]<B^(n-k*(i0+i))∧k*(i0+i)≤n)→(B^k)^i0*val (B^k) xs≤xs.length*B^n
 |[],i0,_=>by simp[val]
 |x::xs,i0,h=>by
  have ih:=parts_le (n:=n) hB (xs:=xs) (i0+1) (fun i hi h0=>by
   have:=h (i+1) (by simpa using hi) (by simpa using h0)
   rw[show i0+1+i=i0+(i+1) by omega]
   simpa using this)
  have h0:(B^k)^i0*x≤B^n:=by
   by_cases hx:x=0
   ·subst hx;simp
   ·obtain⟨h1,h2⟩:=h 0 (by simp) (by simpa using hx)
    simp only[List.getElem_cons_zero,Nat.add_zero] at h1 h2
    have e:B^n=(B^k)^i0*B^(n-k*i0):=by rw[←Nat.pow_mul,←Nat.pow_add];congr 1;omega
    rw[e]
    exact Nat.mul_le_mul_left _ (Nat.le_of_lt h1)
  rw[val,Nat.mul_add,List.length_cons,Nat.succ_mul]
  have e2:(B^k)^i0*(B^k*val (B^k) xs)=(B^k)^(i0+1)*val (B^k) xs:=by rw[Nat.pow_succ];ac_rfl
  rw[e2]
  omega
theorem parts_lt {k n:Nat} {xs:List Nat} (hl:xs.length<18446744073709551616) (h:∀i (hi:i<xs.length),xs[i]≠0→k*i+wlen xs[i]≤n):val (18446744073709551616^k) xs<18446744073709551616^(n+1):=by
 have:=parts_le (B:=18446744073709551616) (k:=k) (n:=n) (by omega) (xs:=xs) 0 (fun i hi h0=>by
  have h1:=h i hi h0
  rw[Nat.zero_add]
  exact⟨Nat.lt_of_lt_of_le (wlen_lt _) (Nat.pow_le_pow_right (by omega) (by omega)),by omega⟩)
 rw[Nat.pow_zero,Nat.one_mul] at this
 have h2:xs.length*18446744073709551616^n<18446744073709551616*18446744073709551616^n:=Nat.mul_lt_mul_of_pos_right hl (Nat.pow_pos (by omega))
 rw[Nat.pow_succ,Nat.mul_comm (18446744073709551616^n)]
 omega
theorem val_mono_take {B:Nat} {xs:List Nat} {i:Nat}:val B (xs.take i)≤val B xs:=by
 rcases Nat.le_total i xs.length with h|h
 ·rw[val_cut B xs i h];omega
 ·rw[List.take_of_length_le h];exact Nat.le_refl _
theorem join_step {V vt o v c d c2 B k a j os os2:Nat} (h1:os+B^k*c=V+B^a*vt) (h2:os2+B^k*o=os+B^k*d) (h3:d+B*c2=o+v+c) (hk:k=a+j):os2+B^(k+1)*c2=V+B^a*(vt+B^j*v):=by
 subst hk
 have e:=congrArg (fun z=>B^(a+j)*z) h3
 simp only[Nat.mul_add] at e
 have e1:B^(a+j)*(B*c2)=B^(a+j+1)*c2:=by rw[Nat.pow_succ];ac_rfl
 have e2:B^a*(B^j*v)=B^(a+j)*v:=by rw[Nat.pow_add];ac_rfl
 rw[Nat.mul_add,e2]
 omega
theorem Join_calls {v:AV} {k:Nat} {xs:List Nat} {h:H} {K:AV→H→Prop} (hk16:k≤16384) (hv:IsA 1 NnL h v xs) (hb:∀x∈xs,Big x) (hl:xs.length≤1000000)
  (hk:∀r h',h'.wf→h.le h'→Nf h.next h' r (val (18446744073709551616^k) xs)→K r h'):ACalls Tryz.prog 108 [.int .i64 (k:Int),v] h K:=by
 obtain⟨id,off,c,rfl⟩:=hv.form
 refine in_limb_Join (by simp) fun hw=> ?_
 unfold c_limb_Join
 simp only[go_sem]
 refine within_limb (by omega) ?_
 simp only[go_sem]
 have hwl:∀i (hi:i<xs.length),wlen xs[i]≤500000:=fun i hi=>by
  have:=wlen_big (hb _ (List.getElem_mem hi))
  rw[wordL_eq] at this
  exact this
 have hki:∀i,i<xs.length→k*i≤16384*1000000:=fun i hi=>Nat.mul_le_mul hk16 (by omega)
 refine loop_cut (fun ρ h'=>h'=h∧ρ 0= .int .i64 (k:Int)∧ρ 1= .sl id off xs.length c∧∃n:Nat,ρ 5= .int .i64 (n:Int)∧n≤20000000000∧∀i (hi:i<xs.length),xs[i]≠0→k*i+wlen xs[i]≤n) ?_ ?_
 ·refine for_rule (fun i ρ h'=>i≤xs.length∧h'=h∧ρ 0= .int .i64 (k:Int)∧ρ 1= .sl id off xs.length c∧ρ 17= .sl id off xs.length c∧ρ 18= .int .i64 (xs.length:Int)∧ρ 19= .int .i64 (i:Int)∧∃n:Nat,ρ 5= .int .i64 (n:Int)∧n≤20000000000∧∀j (hj:j<xs.length),j<i→xs[j]≠0→k*j+wlen xs[j]≤n) xs.length
   ⟨by omega,rfl,rfl,rfl,rfl,rfl,rfl,0,rfl,by omega,fun j _ hj=>by omega⟩ (fun i ρ h hI=>hI.1) ?_
  rintro i ρ h' ⟨hi,rfl,q0,q1,q17,q18,q19,n,q5,hn,hall⟩
  rcases Nat.lt_or_ge i xs.length with h1|h1
  ·obtain⟨ii,a,rfl,_,hg,a',e,ha⟩:=hv.at1 h1
   injection e with e
   subst e
   simp only[go_sem,q0,q1,q17,q18,q19,q5,ltT h1]
   refine⟨by omega,by omega, ?_⟩
   simp only[go_sem,hg]
   refine LenN_calls ha ?_
   have hw1:=hwl i h1
   have hk1:=hki i h1
   by_cases h0:xs[i]=0
   ·rw[h0,wlen_zero]
    have hd:decide ((0:Int)<((0:Nat):Int))=false:=by decide
    simp only[go_sem,hd,q0,q1,q17,q18,q19,q5,incI (i:=i) (by omega)]
    refine⟨by omega,by first|rfl|trivial|assumption,by first|rfl|trivial|assumption,by first|rfl|trivial|assumption,by first|rfl|trivial|assumption,by first|rfl|trivial|assumption,by first|rfl|trivial|assumption,n,by first|rfl|trivial|assumption,hn,fun j hj hji h2=> ?_⟩
    by_cases e:j=i
    ·subst e;exact absurd h0 h2
    ·exact hall j hj (by omega) h2
   ·have hp:0<wlen xs[i]:=by
     have:=mt wlen_eq_zero.1 h0;omega
    have hd:decide ((0:Int)<((wlen xs[i]:Nat):Int))=true:=decide_eq_true (by omega)
    have a1:=mulI (a:=k) (b:=i) (by omega)
    have a2:=addI (a:=k*i) (b:=wlen xs[i]) (by omega)
    simp only[go_sem,hd,q0,q1,q17,q18,q19,q5,a1,a2,maxN,incI (i:=i) (by omega)]
    refine⟨by omega,by first|rfl|trivial|assumption,by first|rfl|trivial|assumption,by first|rfl|trivial|assumption,by first|rfl|trivial|assumption,by first|rfl|trivial|assumption,by first|rfl|trivial|assumption,_,rfl,by omega,fun j hj hji h2=> ?_⟩
    by_cases e:j=i
    ·subst e;omega
    ·have:=hall j hj (by omega) h2
     omega
  ·simp only[go_sem,q0,q1,q17,q18,q19,q5,ltF h1]
   exact⟨trivial,trivial,trivial,n,rfl,hn,fun j hj h2=>hall j hj (by omega) h2⟩
 ·rintro ρ h' ⟨rfl,q0,q1,n,q5,hn,hall⟩
  have a1:IntKind.i64.wrap ((n:Int)+2)=((n+2:Nat):Int):=by rw[wI]<;>omega
  have hT:=parts_lt (by omega) hall
  simp only[go_sem,q0,q1,q5,a1]
  refine⟨by omega,by omega,by omega, ?_⟩
  have hl2:=H.le_new hw (H.le_refl h') ⟨some 73,1,zs [AV.int .u64 0] (n+2)⟩
  refine for_rule (fun i ρ h2=>i≤xs.length∧h2.wf∧h'.le h2∧ρ 0= .int .i64 (k:Int)∧ρ 9= .sl (some h'.next) 0 (n+2) (some (n+2))∧ρ 39= .sl id off xs.length c∧ρ 40= .int .i64 (xs.length:Int)∧ρ 41= .int .i64 (i:Int)∧∃os,IsG h'.next h2 (.sl (some h'.next) 0 (n+2) (some (n+2))) os∧Dig os∧os.length=n+2∧val 18446744073709551616 os=val (18446744073709551616^k) (xs.take i)) xs.length
   ⟨by omega,H.wf_new hw _,hl2,by first|rfl|trivial|assumption,by first|rfl|trivial|assumption,by first|rfl|trivial|assumption,by first|rfl|trivial|assumption,by first|rfl|trivial|assumption,_,IsG.made (Nat.le_refl _) _,Dig.zeros _,by simp,by rw[val_zero _ _ (fun x hx=>List.eq_of_mem_replicate hx)];simp[val]⟩ (fun i ρ h hI=>hI.1) ?_
  rintro i ρ h2 ⟨hi,hw2,hle,q0,q9,q39,q40,q41,os,hs,hod,hol,hov⟩
  rcases Nat.lt_or_ge i xs.length with h1|h1
  ·obtain⟨ii,a,rfl,_,hg0,a',e,ha⟩:=hv.at1 h1
   injection e with e
   subst e
   have hg:=H.get_le hle hg0
   simp only[go_sem,q0,q9,q39,q40,q41,ltT h1]
   refine⟨by omega,by omega, ?_⟩
   simp only[go_sem,hg]
   refine trimA_calls hle ha fun r ps hp hpd hpt hpv hpl _=> ?_
   have hw1:=hwl i h1
   have hk1:=hki i h1
   have hsum:=val_take_succ (18446744073709551616^k) xs i h1
   rw[←Nat.pow_mul] at hsum
   have hle1:val (18446744073709551616^k) (xs.take (i+1))≤val (18446744073709551616^k) xs:=val_mono_take
   have hin:xs[i]≠0→k*i+wlen xs[i]≤n:=hall i h1
   generalize hx:xs[i]=x at*
   obtain⟨idp,offp,cp,rfl⟩:=hp.form
   simp only[go_sem,q0,q9,q39,q40,q41]
   refine loop_cut2 (fun ρ h3=>h3.wf∧h'.le h3∧ρ 0= .int .i64 (k:Int)∧ρ 9= .sl (some h'.next) 0 (n+2) (some (n+2))∧ρ 39= .sl (some ii) off xs.length c∧ρ 40= .int .i64 (xs.length:Int)∧ρ 41= .int .i64 (i:Int)∧∃os,IsG h'.next h3 (.sl (some h'.next) 0 (n+2) (some (n+2))) os∧Dig os∧os.length=n+2∧val 18446744073709551616 os=val (18446744073709551616^k) (xs.take (i+1))) ?_ ?_
   ·refine for_rule (fun j ρ h3=>j≤n+2∧h3.wf∧h'.le h3∧ρ 0= .int .i64 (k:Int)∧ρ 9= .sl (some h'.next) 0 (n+2) (some (n+2))∧ρ 39= .sl (some ii) off xs.length c∧ρ 40= .int .i64 (xs.length:Int)∧ρ 41= .int .i64 (i:Int)∧ρ 10= .int .i64 (i:Int)∧ρ 11= .sl idp offp ps.length cp∧ρ 13= .int .i64 (j:Int)∧∃os cc,ρ 12= .int .u64 (cc:Nat)∧cc≤1∧IsG h'.next h3 (.sl (some h'.next) 0 (n+2) (some (n+2))) os∧Dig os∧os.length=n+2∧val 18446744073709551616 os+18446744073709551616^(k*i+j)*cc=val (18446744073709551616^k) (xs.take i)+18446744073709551616^(k*i)*val 18446744073709551616 (ps.take j)) (n+2)
     ⟨by omega,hw2,hle,by first|rfl|trivial|assumption,by first|rfl|trivial|assumption,by first|rfl|trivial|assumption,by first|rfl|trivial|assumption,by first|rfl|trivial|assumption,by first|rfl|trivial|assumption,by first|rfl|trivial|assumption,by first|rfl|trivial|assumption,os,0,by first|rfl|trivial|assumption,by omega,hs,hod,hol,by simp[val,hov]⟩ (fun i ρ h hI=>hI.1) ?_
    rintro j ρ h3 ⟨hj,hw3,hle3,q0,q9,q39,q40,q41,q10,q11,q13,os,cc,q12,hcc,hs,hod,hol,hov⟩
    have hpv2:val 18446744073709551616 (ps.take j)≤x:=by rw[←hpv];exact val_mono_take
    refine seq_cut (fun ρ h4=>h4=h3∧(j<ps.length∨0<cc)∧ρ 0= .int .i64 (k:Int)∧ρ 9= .sl (some h'.next) 0 (n+2) (some (n+2))∧ρ 39= .sl (some ii) off xs.length c∧ρ 40= .int .i64 (xs.length:Int)∧ρ 41= .int .i64 (i:Int)∧ρ 10= .int .i64 (i:Int)∧ρ 11= .sl idp offp ps.length cp∧ρ 13= .int .i64 (j:Int)∧ρ 12= .int .u64 (cc:Nat)) ?_ ?_
    ·rcases Nat.lt_or_ge j ps.length with h5|h5
     ·simp only[go_sem,q0,q9,q39,q40,q41,q10,q11,q13,q12,ltT h5]
      exact⟨trivial, .inl h5,trivial,trivial,trivial,trivial,trivial,trivial,trivial,trivial,trivial⟩
     ·by_cases h6:0<cc
      ·simp only[go_sem,q0,q9,q39,q40,q41,q10,q11,q13,q12,ltF h5,show decide ((0:Int)<(cc:Int))=true from decide_eq_true (by omega)]
       exact⟨trivial, .inr h6,trivial,trivial,trivial,trivial,trivial,trivial,trivial,trivial,trivial⟩
      ·have:cc=0:=by omega
       subst this
       simp only[go_sem,q0,q9,q39,q40,q41,q10,q11,q13,q12,ltF h5,show decide ((0:Int)<((0:Nat):Int))=false from rfl]
       refine⟨hw3,hle3,by first|rfl|trivial|assumption,by first|rfl|trivial|assumption,by first|rfl|trivial|assumption,by first|rfl|trivial|assumption,by first|rfl|trivial|assumption,os,hs,hod,hol, ?_⟩
       rw[Nat.mul_zero,Nat.add_zero,List.take_of_length_le h5,hpv] at hov
       rw[hov,hsum]
    rintro ρ h4 ⟨rfl,hgo,q0,q9,q39,q40,q41,q10,q11,q13,q12⟩
    --one more word
    have hkj:k*i+j≤n:=by
     rcases hgo with h5|h5
     ·have:x≠0:=by rintro rfl;rw[hpl,wlen_zero] at h5;omega
      have:=hin this
      omega
     ·rcases Nat.lt_or_ge n (k*i+j) with h6|h6
      ·exfalso
       have h7:18446744073709551616^(n+1)≤18446744073709551616^(k*i+j):=Nat.pow_le_pow_right (by omega) h6
       have h8:18446744073709551616^(k*i+j)*1≤18446744073709551616^(k*i+j)*cc:=Nat.mul_le_mul_left _ h5
       have h9:18446744073709551616^(k*i)*val 18446744073709551616 (ps.take j)≤18446744073709551616^(k*i)*x:=Nat.mul_le_mul_left _ hpv2
       omega
      ·exact h6
    have hkN:k*i+j<os.length:=by omega
    have hob:=hod _ (List.getElem_mem hkN)
    have hset:=fun d=>valset (B:=18446744073709551616) (d:=d) hkN
    obtain⟨jo,eo,_,hgo2⟩:=hs.isN.at hkN
    injection eo with eo
    subst eo
    obtain⟨i2,r2,e2,hb2,hlt2,hr2,ho2,hf2,hp2⟩:=hs.put hw3 hkN
    injection e2 with e2
    subst e2
    generalize os[k*i+j]=o at*
    rw[Nat.zero_add] at hgo2
    have hyb:=getD_lt (B:=18446744073709551616) (by omega) hpd j
    have hvy:=val_take_get 18446744073709551616 ps j
    have a1:=mulI (a:=k) (b:=i) (by omega)
    have a2:=addI (a:=k*i) (b:=j) (by omega)
    simp only[go_sem,q0,q9,q39,q40,q41,q10,q11,q13,q12]
    refine cond_cut (fun ρ h5=>h5=h4∧ρ 0= .int .i64 (k:Int)∧ρ 9= .sl (some h'.next) 0 (n+2) (some (n+2))∧ρ 39= .sl (some ii) off xs.length c∧ρ 40= .int .i64 (xs.length:Int)∧ρ 41= .int .i64 (i:Int)∧ρ 10= .int .i64 (i:Int)∧ρ 11= .sl idp offp ps.length cp∧ρ 13= .int .i64 (j:Int)∧ρ 12= .int .u64 (cc:Nat)∧ρ 14= .int .u64 ((ps.getD j 0:Nat):Int)) ?_ ?_
    ·rcases Nat.lt_or_ge j ps.length with hyi|hyi
     ·have hp':=hp.mono hle3
      obtain⟨j',rfl,_,hg'⟩:=hp'.at hyi
      rw[getD_at hyi]
      simp only[go_sem,q0,q9,q39,q40,q41,q10,q11,q13,q12,ltT hyi]
      refine⟨by omega,by omega, ?_⟩
      simp only[go_sem,hg',q0,q9,q39,q40,q41,q10,q11,q13,q12]
      exact⟨trivial,trivial,trivial,trivial,trivial,trivial,trivial,trivial,trivial,trivial,trivial⟩
     ·rw[getD_ge hyi]
      simp only[go_sem,q0,q9,q39,q40,q41,q10,q11,q13,q12,ltF hyi]
      exact⟨trivial,trivial,trivial,trivial,trivial,trivial,trivial,trivial,trivial,trivial,rfl⟩
    rintro ρ h5 ⟨rfl,q0,q9,q39,q40,q41,q10,q11,q13,q12,q14⟩
    generalize ps.getD j 0=v at*
    simp only[go_sem,q0,q9,q39,q40,q41,q10,q11,q13,q12,q14,a1,a2]
    refine⟨by omega,by omega, ?_⟩
    simp only[go_sem,hgo2,q12,q14]
    refine Add64_calls hob hyb hcc ?_
    simp only[go_sem,q9,a2]
    refine⟨by omega,by omega, ?_⟩
    simp only[go_sem,hr2]
    refine⟨ho2,by omega, ?_⟩
    simp only[go_sem,q0,q9,q39,q40,q41,q10,q11,q13,incI (i:=j) (by omega)]
    refine⟨by omega,H.wf_set hw3 hlt2 _,H.le_set hw hle3 hb2 _,by first|rfl|trivial|assumption,by first|rfl|trivial|assumption,by first|rfl|trivial|assumption,by first|rfl|trivial|assumption,by first|rfl|trivial|assumption,by first|rfl|trivial|assumption,by first|rfl|trivial|assumption,by first|rfl|trivial|assumption,_,_,rfl,by omega,hp2 ((o+v+cc)%18446744073709551616),hod.set _ (Nat.mod_lt _ (by omega)),by rw[List.length_set];exact hol, ?_⟩
    rw[hvy]
    exact join_step hov (hset _) (by omega) rfl
   ·rintro ρ h3 ⟨hw3,hle3,q0,q9,q39,q40,q41,os,hs,hod,hol,hov⟩
    simp only[go_sem,q0,q9,q39,q40,q41,incI (i:=i) (by omega)]
    exact⟨by omega,hw3,hle3,by first|rfl|trivial|assumption,by first|rfl|trivial|assumption,by first|rfl|trivial|assumption,by first|rfl|trivial|assumption,by first|rfl|trivial|assumption,os,hs,hod,hol,hov⟩
  ·have:i=xs.length:=by omega
   subst this
   rw[List.take_length] at hov
   simp only[go_sem,q0,q9,q39,q40,q41,ltF (Nat.le_refl xs.length)]
   refine trimG_calls hs hod (by omega) fun r hr=> ?_
   rw[hov] at hr
   simp only[go_sem]
   exact fun _=>hk r h2 hw2 hle hr
def am1 (s d:Nat):Nat:=if s<d then d-s else s-d
theorem toom_am {s d s' d':Nat}:((decide (s<d) !=decide (s'<d'))=false→am1 s d*am1 s' d'+(s*d'+d*s')=s*s'+d*d')∧
  ((decide (s<d) !=decide (s'<d'))=true→am1 s d*am1 s' d'+(s*s'+d*d')=s*d'+d*s'):=by
 unfold am1
 rcases Nat.lt_or_ge s d with h|h<;>rcases Nat.lt_or_ge s' d' with h'|h'
 ·obtain⟨u,rfl⟩:∃u,d=s+u:=⟨d-s,by omega⟩
  obtain⟨v,rfl⟩:∃v,d'=s'+v:=⟨d'-s',by omega⟩
  rw[if_pos h,if_pos h',decide_eq_true h,decide_eq_true h',Nat.add_sub_cancel_left,Nat.add_sub_cancel_left]
  exact⟨fun _=>by grind,fun e=>by cases e⟩
 ·obtain⟨u,rfl⟩:∃u,d=s+u:=⟨d-s,by omega⟩
  obtain⟨v,rfl⟩:∃v,s'=d'+v:=⟨s'-d',by omega⟩
  rw[if_pos h,if_neg (by omega),decide_eq_true h,decide_eq_false (by omega),Nat.add_sub_cancel_left,Nat.add_sub_cancel_left]
  exact⟨fun e=>(by cases e),fun _=>by grind⟩
 ·obtain⟨u,rfl⟩:∃u,s=d+u:=⟨s-d,by omega⟩
  obtain⟨v,rfl⟩:∃v,d'=s'+v:=⟨d'-s',by omega⟩
  rw[if_neg (by omega),if_pos h',decide_eq_false (by omega),decide_eq_true h',Nat.add_sub_cancel_left,Nat.add_sub_cancel_left]
  exact⟨fun e=>(by cases e),fun _=>by grind⟩
 ·obtain⟨u,rfl⟩:∃u,s=d+u:=⟨s-d,by omega⟩
  obtain⟨v,rfl⟩:∃v,s'=d'+v:=⟨s'-d',by omega⟩
  rw[if_neg (by omega),if_neg (by omega),decide_eq_false (by omega),decide_eq_false (by omega),Nat.add_sub_cancel_left,Nat.add_sub_cancel_left]
  exact⟨fun _=>by grind,fun e=>by cases e⟩
structure FiveV (c0 c1 c2 c3 c4 r0 r1 rm r2 ri:Nat) (neg:Bool):Prop where
 h0:r0=c0
 h1:r1=c0+c1+c2+c3+c4
 hm:neg=false→rm+(c1+c3)=c0+c2+c4
 hn:neg=true→rm+(c0+c2+c4)=c1+c3
 h2:r2=c0+2*c1+4*c2+8*c3+16*c4
 hi:ri=c4
theorem five_of {a0 a1 a2 b0 b1 b2:Nat}:FiveV (a0*b0) (a0*b1+a1*b0) (a0*b2+a1*b1+a2*b0) (a1*b2+a2*b1) (a2*b2)
  (a0*b0) ((a0+a1+a2)*(b0+b1+b2)) (am1 (a0+a2) a1*am1 (b0+b2) b1) ((a0+2*a1+4*a2)*(b0+2*b1+4*b2)) (a2*b2) (decide (a0+a2<a1) !=decide (b0+b2<b1)):=by
 have h:=toom_am (s:=a0+a2) (d:=a1) (s':=b0+b2) (d':=b1)
 refine⟨rfl,by grind,fun e=> ?_,fun e=> ?_,by grind,rfl⟩
 ·have h1:=h.1 e
  generalize am1 (a0+a2) a1*am1 (b0+b2) b1=r at*
  grind
 ·have h1:=h.2 e
  generalize am1 (a0+a2) a1*am1 (b0+b2) b1=r at*
  grind
theorem toom_val {X a0 a1 a2 b0 b1 b2:Nat}:(a0+X*a1+X*X*a2)*(b0+X*b1+X*X*b2)=
  a0*b0+X*(a0*b1+a1*b0)+X*X*(a0*b2+a1*b1+a2*b0)+X*X*X*(a1*b2+a2*b1)+X*X*X*X*(a2*b2):=by grind
theorem kara_mid {a0 a1 b0 b1:Nat}:(a0+a1)*(b0+b1)-(a0*b0+a1*b1)=a0*b1+a1*b0∧a0*b0+a1*b1≤(a0+a1)*(b0+b1):=by
 have e:(a0+a1)*(b0+b1)=a0*b1+a1*b0+(a0*b0+a1*b1):=by grind
 rw[e]
 omega
theorem kara_val {X a0 a1 b0 b1:Nat}:(a0+X*a1)*(b0+X*b1)=a0*b0+X*(a0*b1+a1*b0)+X*X*(a1*b1):=by grind
end Ab
end Go.Proofs.YtkbglkjpdndkiaaGreatDoor
