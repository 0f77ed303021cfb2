/- Joined texts: Y18 Y19 Y20 Y24 Y25 Y28. No condition. -/
import Derived.Test.YtnlkbdmmoplkoaaGreatDoorZ15
namespace Go.Proofs.YtnlkbdmmoplkoaaGreatDoor
namespace Ab
open Go Go.RowKit
set_option linter.unusedSimpArgs false
set_option linter.unusedVariables false
attribute [local go_sem ↓] x_mv x_pick x_bin x_beq x_peq x_seq x_cat x_aeq x_idxS x_idxV x_un x_cvI x_bts x_idx x_idxA x_fld x_ld x_st x_nn x_prt x_slc x_mk x_bsl x_bld x_box x_alloc x_len x_capo x_mnx x_app x_cpy x_mkf x_ext x_call x_callV x_bad s_none s_some s_nil s_cons s_chks w_skip w_reg tP_fin tP_no tP_alt w_seq w_cond w_block w_exit w_ret t_normal t_exit t_ret b_normal b_ret b_exit n_normal n_exit n_ret p_normal p_ret f_nil f_t f_c k_ops k_chk k_fin
attribute [local go_sem] e_t e_c e_f u_some u_none u_at env_at k_v k_pick k_add k_sub k_mul k_quo k_rem k_and k_or k_xor k_shl k_shr k_eql k_neq k_lss k_leq k_gtr k_geq k_beq k_peqn k_peqs k_neg k_not k_com k_cvI k_idxS k_idxV1 k_idxVn k_idx k_idxA k_idxG k_ldG k_gld k_seq k_cat k_aeq k_eqs k_fld k_ld1 k_ldn k_get k_gets k_sti k_stb k_stp k_sts k_stf k_sta k_put k_nn k_prt1 k_prtn k_slc_a k_slc_b k_slc_c k_mk k_agg k_bsl k_box k_len k_lenS k_cap k_max k_min k_ext k_callV k_true k_false k_gtt k_gtf k_gft k_gsk k_gff k_lit1i k_lit2i k_lit3i k_c0 k_c1 k_ck List.getElem?_cons_zero List.getElem?_cons_succ List.getElem?_nil Option.getD_some Option.getD_none tupOf List.map_cons List.map_nil Option.map_some Option.map_none List.nil_append List.cons_append List.append_nil Nat.mul_one Int.toNat_natCast Nat.zero_add
attribute [local go_sem] e_t e_c e_f u_some u_none u_at env_at k_v k_pick k_add k_sub k_mul k_quo k_rem k_and k_or k_xor k_shl k_shr k_eql k_neq k_lss k_leq k_gtr k_geq k_beq k_peqn k_peqs k_neg k_not k_com k_cvI k_idxS k_idxV1 k_idxVn k_idx k_idxA k_idxG k_ldG k_gld k_seq k_cat k_aeq k_eqs k_fld k_ld1 k_ldn k_get k_gets k_sti k_stb k_stp k_sts k_stf k_sta k_put k_nn k_prt1 k_prtn k_slc_a k_slc_b k_slc_c k_mk k_agg k_bsl k_box k_len k_lenS k_cap k_max k_min k_ext k_callV k_true k_false k_gtt k_gtf k_gft k_gsk k_gff k_lit1i k_lit2i k_lit3i k_c0 k_c1 k_ck List.getElem?_cons_zero List.getElem?_cons_succ List.getElem?_nil Option.getD_some Option.getD_none tupOf List.map_cons List.map_nil Option.map_some Option.map_none List.nil_append List.cons_append List.append_nil Nat.mul_one Int.toNat_natCast Nat.zero_add
--what a store into a cell of two leaves
attribute [local go_sem_proc] Nat.reduceEqDiff Nat.reduceAdd Int.reduceToNat
attribute [local go_sem_proc ↓] reduceIte
attribute [local go_sem] Bool.false_eq_true
section
theorem short_step {B d a r V q r':Nat} (hs:r*B+a=d*q+r'):a+B*(d*V+r)=d*(q+B*V)+r':=by
 rw[Nat.mul_add,Nat.mul_add,Nat.mul_left_comm d B V,Nat.mul_comm B r]
 omega
def NumG (c:Nat) (h:H) (v:AV) (x:Nat):Prop:=∃ys,IsG c h v ys∧(∀y∈ys,y<4294967296)∧(∀y,ys.getLast? =some y→y≠0)∧val 4294967296 ys=x
theorem NumG.num {c:Nat} {h:H} {v:AV} {x:Nat} (hv:NumG c h v x):Num 4294967296 h v x:=by
 obtain⟨ys,h1,h2⟩:=hv
 exact⟨ys,h1.isN,h2⟩
theorem IsG.delN {b:Nat} {h:H} {v:AV} {io:Option Nat} {xs:List Nat} (hio:∀i,io=some i→i<b) (hv:IsG b h v xs):IsG b (h.del io) v xs:=by
 obtain⟨id,c,e,h1⟩:=hv
 refine⟨id,c,e, ?_⟩
 rcases h1 with h1|⟨i,r,rfl,hb,hr,h3⟩
 ·exact .inl h1
 ·refine .inr ⟨i,r,rfl,hb,H.del_put (fun e=> ?_) hr,h3⟩
  have:=hio i e.symm
  omega
theorem NumG.delN {c:Nat} {h:H} {v:AV} {x:Nat} {io:Option Nat} (hio:∀i,io=some i→i<c) (hv:NumG c h v x):NumG c (h.del io) v x:=by
 obtain⟨ys,h1,h2⟩:=hv
 exact⟨ys,h1.delN hio,h2⟩
theorem short_lt {r d a:Nat} (hr:r<d) (hd:d≤36) (ha:a<4294967296):r*4294967296<18446744073709551616∧r*4294967296+a<d*4294967296∧r*4294967296+a<18446744073709551616:=by omega
theorem shl32 {r:Nat} (h:r*4294967296<18446744073709551616):bShl .u64 (r:Int) 32=((r*4294967296:Nat):Int):=shlS (n:=32) oM h
section
variable {A d:Nat} {h:H} {v:AV} {K:AV→H→Prop}
set_option maxHeartbeats 1000000 in
theorem short_calls (nv:Num 4294967296 h v A) (bA:Big A) (hd:0<d) (hd36:d≤36) (hk:∀r h',h'.wf→h.le h'→NumG h.next h' r (A/d)→K (.tup [r, .int .u64 (A%d:Nat)]) h'):ACalls Tryz.prog 118 [v, .int .u64 (d:Int)] h K:=by
 obtain⟨xs,hv,hxd,hxt,rfl,hxl⟩:=nv.open bA
 obtain⟨id,off,c,rfl⟩:=hv.form
 refine in_ref17_short sM fun hw=> ?_
 unfold c_ref17_short
 have e0:IntKind.i64.wrap ((xs.length:Int)-1)=(xs.length:Int)-1:=wI oM oM
 have hd0:(d:Int)≠0:=by omega
 simp only[go_sem,e0]
 refine⟨oM,oM,oM, ?_⟩
 have hl2:=H.le_new hw (H.le_refl h) ⟨some 54,1,zs [AV.int .u64 0] xs.length⟩
 refine loop_cut (fun ρ h'=>h'.wf∧h.le h'∧ρ 6= .sl (some h.next) 0 xs.length (some xs.length)∧∃(os:List Nat) (r:Nat),r<d∧ρ 7= .int .u64 (r:Int)∧IsG h.next h' (.sl (some h.next) 0 xs.length (some xs.length)) os∧os.length=xs.length∧(∀o∈os,o<4294967296)∧val 4294967296 xs=d*val 4294967296 os+r) ?_ ?_
 ·refine for_rule (fun j ρ h'=>j≤xs.length∧h'.wf∧h.le h'∧ρ 0= .sl id off xs.length c∧ρ 1= .int .u64 (d:Int)∧ρ 6= .sl (some h.next) 0 xs.length (some xs.length)∧ρ 8= .int .i64 ((xs.length:Int)-1-(j:Int))∧∃(os:List Nat) (r:Nat),r<d∧ρ 7= .int .u64 (r:Int)∧IsG h.next h' (.sl (some h.next) 0 xs.length (some xs.length)) os∧os.length=xs.length∧(∀o∈os,o<4294967296)∧val 4294967296 (xs.drop (xs.length-j))=d*val 4294967296 (os.drop (xs.length-j))+r) xs.length
   ⟨oM,H.wf_new hw _,hl2,tR,tR,tR,by rw[show(xs.length:Int)-1-((0:Nat):Int)=(xs.length:Int)-1 by omega];rfl,_,0,hd,tR,IsG.made (Nat.le_refl _) _,sM,fun o ho=>by rw[List.eq_of_mem_replicate ho];omega,by simp[val]⟩ (fun i ρ h hI=>hI.1) ?_
  rintro j ρ h' ⟨hj,hw',hle,q0,q1,q6,q8,os,r,hr,q7,hs,hol,hob,hval⟩
  rcases Nat.lt_or_ge j xs.length with h3|h3
  ·obtain⟨i,hi⟩:∃i,i=xs.length-1-j:=⟨_,rfl⟩
   have ei:(xs.length:Int)-1-(j:Int)=(i:Int):=by omega
   rw[ei] at q8
   have hil:i<xs.length:=by omega
   obtain⟨ii,rfl,_,hg⟩:=(hv.mono hle).at hil
   have hxb:=hxd _ (List.getElem_mem hil)
   have hd1:xs.length-j=i+1:=by omega
   have hd2:xs.length-(j+1)=i:=by omega
   rw[hd1] at hval
   have hv1:=val_drop 4294967296 hil
   generalize xs[i]=a at*
   obtain⟨hrA,hrB,hrC⟩:=short_lt hr hd36 hxb
   have e1:=shl32 hrA
   have e2:IntKind.u64.wrap (((r*4294967296:Nat):Int)+(a:Int))=((r*4294967296+a:Nat):Int):=addU hrC
   obtain⟨s,hsd⟩:∃s,s=r*4294967296+a:=⟨_,rfl⟩
   have hq:s/d<4294967296:=(Nat.div_lt_iff_lt_mul hd).2 (by rw[hsd,Nat.mul_comm 4294967296 d];exact hrB)
   have hrd:=Nat.mod_lt s hd
   have hdm:=Nat.div_add_mod s d
   rw[←hsd] at e2
   have e3:(s:Int).tdiv (d:Int)=((s/d:Nat):Int):=tdivN
   have e4:(s:Int).tmod (d:Int)=((s%d:Nat):Int):=tmodN
   have e5:IntKind.u64.wrap ((s/d:Nat):Int)=((s/d:Nat):Int):=wUn (Nat.lt_trans hq dM)
   have e6:IntKind.i64.wrap ((i:Int)-1)=(xs.length:Int)-1-((j+1:Nat):Int):=by rw[wI]<;>omega
   obtain⟨io',rr,e0',hbi,_,hrr,ho,hcl,hput⟩:=hs.put hw' (j:=i) oM
   injection e0' with e0'
   subst e0'
   have hput:=hput (s/d)
   have hdr:(os.set i (s/d)).drop i=s/d::os.drop (i+1):=by
    rw[List.drop_eq_getElem_cons (by rw[List.length_set];omega),List.getElem_set_self,List.drop_set_of_lt oM]
   have hfin:val 4294967296 (xs.drop i)=d*val 4294967296 ((os.set i (s/d)).drop i)+s%d:=by
    rw[hdr,hv1,hval]
    exact short_step (by rw[hdm,hsd])
   simp only[go_sem,q0,q1,q6,q7,q8,show decide ((0:Int)≤(i:Int))=true from decide_eq_true oM,e1,show decide ((0:Int)≤32)=true from rfl]
   refine⟨dM,oM,oM, ?_⟩
   simp only[go_sem,hg,q0,q1,q6,q7,q8,e2,nz_and hd0,e3,e5]
   refine⟨oM,oM, ?_⟩
   simp only[go_sem,hrr]
   refine⟨ho,hcl, ?_⟩
   simp only[go_sem,q0,q1,q6,q7,q8,nz_and hd0,e4,e6]
   exact⟨oM,H.wf_set hw' (H.row_lt hw' hrr) _,H.le_set hw hle hbi _,tR,tR,tR,tR,_,_,hrd,tR,hput,by rw[List.length_set];exact hol,mem_set_lt hob hq,by rw[hd2];exact hfin⟩
  ·obtain rfl:j=xs.length:=by omega
   rw[Nat.sub_self,List.drop_zero,List.drop_zero] at hval
   simp only[go_sem,q8,show decide ((0:Int)≤(xs.length:Int)-1-(xs.length:Int))=false from decide_eq_false oM]
   exact⟨hw',hle,q6,os,r,hr,q7,hs,hol,hob,hval⟩
 rintro ρ h' ⟨hw',hle,q6,os,r,hr,q7,hs,hol,hob,hval⟩
 have hqd:val 4294967296 xs/d=val 4294967296 os:=by
  rw[hval,Nat.mul_add_div hd,Nat.div_eq_of_lt hr,Nat.add_zero]
 have hrd:val 4294967296 xs%d=r:=by
  rw[hval,Nat.mul_add_mod,Nat.mod_eq_of_lt hr]
 rw[hqd,hrd] at hk
 rw[←hol] at q6 hs
 generalize some os.length=cp at q6 hs
 simp only[go_sem]
 refine⟨fun k ρ h2=>h2=h'∧ρ 6= .sl (some h.next) 0 k cp∧ρ 7= .int .u64 (r:Int)∧k≤os.length∧(∀x∈os.drop k,x=0),os.length,⟨rfl,q6,q7,Nat.le_refl _,sM⟩, ?_⟩
 rintro k ρ h2 ⟨rfl,q6,q7,hk1,hz⟩
 have hvk:=hs.cutTop hk1
 have fin:(∀x,(os.take k).getLast? =some x→x≠0)→h2.wf→K (.tup [.sl (some h.next) 0 k cp, .int .u64 (r:Int)]) h2:=fun hl hw'=>hk _ h2 hw' hle ⟨os.take k,hvk,fun x hx=>hob x (List.mem_of_mem_take hx),hl,val_take 4294967296 os k hz⟩
 rcases Nat.eq_zero_or_pos k with h0|h0
 ·subst h0
  simp only[go_sem,q6,q7,show decide ((0:Int)<((0:Nat):Int))=false from rfl]
  exact fun hw'=>fin sM hw'
 ·obtain⟨i,e7,_,hg⟩:=hs.isN.at (j:=k-1) oM
  injection e7 with e7
  subst e7
  rw[Nat.zero_add] at hg
  have e1:IntKind.i64.wrap ((k:Int)-1)=((k-1:Nat):Int):=by rw[wI]<;>omega
  simp only[go_sem,q6,show decide ((0:Int)<(k:Int))=true from decide_eq_true oM,e1]
  refine⟨oM,oM, ?_⟩
  simp only[go_sem,hg]
  by_cases hx:os[k-1]=0
  ·simp only[go_sem,show(((os[k-1]:Nat):Int)==0)=true by simp[hx],q6,q7,e1]
   refine⟨oM, .inl oM,hvk.isN.row, ?_⟩
   refine⟨k-1,oM,tR,tR,tR,oM,fun x hm=> ?_⟩
   rw[List.drop_eq_getElem_cons oM] at hm
   rcases List.mem_cons.1 hm with rfl|hm
   ·exact hx
   ·exact hz x (by rwa[show k-1+1=k from by omega] at hm)
  ·simp only[go_sem,show(((os[k-1]:Nat):Int)==0)=false by simp;omega,q6,q7]
   refine fun hw'=>fin (fun x hl=> ?_) hw'
   rw[List.getLast?_eq_getElem?,List.length_take,Nat.min_eq_left hk1,List.getElem?_take,if_pos oM,List.getElem?_eq_getElem oM] at hl
   injection hl with hl
   omega
end
end
def swps (L:List Nat) (i:Nat):List Nat:=(List.range L.length).map fun k=>if k<i∨L.length-i≤k then L.getD (L.length-1-k) 0 else L.getD k 0
theorem swps_len (L:List Nat) (i:Nat):(swps L i).length=L.length:=by unfold swps;rw[List.length_map,List.length_range]
theorem swps_get {L:List Nat} {i k:Nat} (h:k<L.length):(swps L i)[k]? =some (if k<i∨L.length-i≤k then L.getD (L.length-1-k) 0 else L.getD k 0):=by
 unfold swps
 rw[List.getElem?_map,List.getElem?_range h]
 rfl
theorem swps_zero (L:List Nat):swps L 0=L:=by
 apply List.ext_getElem?
 intro k
 rcases Nat.lt_or_ge k L.length with h|h
 ·rw[swps_get h,if_neg oM,List.getD_eq_getElem?_getD,List.getElem?_eq_getElem h]
  rfl
 ·rw[List.getElem?_eq_none (by rw[swps_len];exact h),List.getElem?_eq_none h]
theorem swps_end {L:List Nat} {i:Nat} (hi:i=L.length/2):swps L i=L.reverse:=by
 apply List.ext_getElem?
 intro k
 rcases Nat.lt_or_ge k L.length with h|h
 ·rw[swps_get h,List.getElem?_reverse h]
  have e:(if k<i∨L.length-i≤k then L.getD (L.length-1-k) 0 else L.getD k 0)=L.getD (L.length-1-k) 0:=by
   split
   ·rfl
   ·rw[show L.length-1-k=k by omega]
  rw[e,List.getD_eq_getElem?_getD,List.getElem?_eq_getElem oM]
  rfl
 ·rw[List.getElem?_eq_none (by rw[swps_len];exact h),List.getElem?_eq_none (by rw[List.length_reverse];exact h)]
theorem swps_step {L:List Nat} {i a b:Nat} (hi:i<L.length/2) (ha:(swps L i)[i]? =some a) (hb:(swps L i)[L.length-1-i]? =some b):((swps L i).set i b).set (L.length-1-i) a=swps L (i+1):=by
 rw[swps_get oM,if_neg oM] at ha
 rw[swps_get oM,if_neg oM] at hb
 injection ha with ha
 injection hb with hb
 apply List.ext_getElem?
 intro k
 rw[List.getElem?_set,List.getElem?_set,List.length_set,swps_len]
 rcases Nat.lt_or_ge k L.length with h|h
 ·rw[swps_get h,swps_get h]
  by_cases h1:L.length-1-i=k
  ·rw[if_pos h1,if_pos oM,if_pos oM,←ha]
   congr 2
   omega
  ·rw[if_neg h1]
   by_cases h2:i=k
   ·rw[if_pos h2,if_pos oM,if_pos oM,←hb]
    congr 2
    omega
   ·rw[if_neg h2]
    by_cases h3:k<i∨L.length-i≤k
    ·rw[if_pos h3,if_pos oM]
    ·rw[if_neg h3,if_neg oM]
 ·rw[if_neg oM,if_neg oM,List.getElem?_eq_none (by rw[swps_len];exact h),List.getElem?_eq_none (by rw[swps_len];exact h)]
theorem IsB.form {b:Nat} {h:H} {v:AV} {xs:List Nat} (hv:IsB b h v xs):∃id c,v= .sl id 0 xs.length c:=by
 obtain⟨id,c,e,_⟩:=hv
 exact⟨id,c,by simpa using e⟩
theorem IsB.mono {b:Nat} {h h':H} {v:AV} {xs:List Nat} (hv:IsB b h v xs) (hl:h.le h'):IsB b h' v xs:=IsF.mono hv hl
theorem IsB.at {b:Nat} {h:H} {io c:Option Nat} {n:Nat} {xs:List Nat} (hv:IsB b h (.sl io 0 n c) xs) {j:Nat} (hj:j<xs.length):∃i,io=some i∧h.get i j=some (.int .u8 (xs[j]:Nat)):=by
 have h1:IsW .u8 h (.sl io 0 n c) (xs.map fun n:Nat=>(n:Int)):=IsF.isW hv
 obtain⟨i,e,_,hg⟩:=h1.at (j:=j) (by simpa using hj)
 rw[Nat.zero_add] at hg
 exact⟨i,e,by simpa using hg⟩
theorem H.le.app {a h h':H} {io:Option Nat} (ha:a.wf) (hl:a.le h) (hio:∀i,io=some i→a.next≤i) (h1:(h.del io).le h'):a.le h':=
 ⟨Nat.le_trans hl.1 h1.1,fun j r e=>h1.2 _ _ (H.del_put (fun ej=>by have:=hio j ej.symm;have:=H.row_lt ha e;omega) (hl.2 j r e))⟩
theorem IsB.io {b:Nat} {h:H} {xs:List Nat} {io:Option Nat} {n:Nat} {c:Option Nat} (hs:IsB b h (.sl io 0 n c) xs):∀i,io=some i→b≤i:=by
 rintro i rfl
 obtain⟨_,_,e,h1⟩:=hs
 injection e with e
 rcases h1 with⟨h2,_⟩|⟨i',_,h2,hb,_⟩
 ·rw[h2] at e;cases e
 ·rw[h2] at e
  injection e with e
  omega
theorem IsB.io_lt {b:Nat} {h:H} {xs:List Nat} {io:Option Nat} {n:Nat} {c:Option Nat} (hw:h.wf) (hs:IsB b h (.sl io 0 n c) xs):∀i,io=some i→i<h.next:=by
 rintro i rfl
 obtain⟨_,_,e,h1⟩:=hs
 injection e with e
 rcases h1 with⟨h5,_⟩|⟨i',_,h5,_,h6,_⟩
 ·rw[h5] at e;cases e
 ·rw[h5] at e
  injection e with e
  rw[e]
  exact H.row_lt hw h6
theorem app_byte2 {c:Nat} {h:H} {K:AV→H→Prop} {io co:Option Nat} {n:Nat} {xs:List Nat} {y:Nat} (hw:h.wf) (hs:IsB c h (.sl io 0 n co) xs) (hc:c≤h.next) (hl:xs.length+1≤17592186044416)
  (hk:∀v h',h'.wf→IsB c h' v (xs++[y])→(h.del io).le h'→K v h'):appK 5 1 1 (.sl io 0 n co) (.sl (some h.next) 0 1 (some 1)) (h.new ⟨some 5,1,[.int .u8 (y:Int)]⟩) K:=by
 have hle:=H.le_new hw (H.le_refl h) ⟨some 5,1,[.int .u8 (y:Int)]⟩
 have hnx:(h.new ⟨some 5,1,[.int .u8 (y:Int)]⟩).next=h.next+1:=rfl
 refine app_own2 (k:= .u8) (b:=c) (xs:=xs.map fun n:Nat=>(n:Int)) (ys:=[(y:Int)]) (H.wf_new hw _) (IsF.mono hs hle) (IsW.lit [(y:Int)]) sM (by rw[hnx];omega) (by simp;omega) (by simp;omega) fun v h' io' c' e hw' hv hv2 hle2=>hk v h' hw' ?_ ?_
 ·unfold IsB
  rw[List.map_append]
  exact hv2
 ·injection e with e1
  subst e1
  exact H.le_trans (H.del_mono hle io) hle2
section
theorem pow_len {b l A n:Nat} (hb:2≤b) (wA:wlen A≤n) (h:b^l≤A):l<64*n:=by
 have h1:=wlen_le.1 wA
 rw[two_B] at h1
 have h2:2^l≤b^l:=Nat.pow_le_pow_left hb l
 exact(Nat.pow_lt_pow_iff_right oM).1 (Nat.lt_of_le_of_lt (Nat.le_trans h2 h) h1)
theorem dig_step {b A a:Nat} {ds:List Nat} (h:val b ds+b^ds.length*a=A):val b (ds++[a%b])+b^(ds++[a%b]).length*(a/b)=A:=by
 rw[val_snoc,List.length_append,List.length_singleton,Nat.pow_succ,Nat.mul_assoc,Nat.add_assoc,←Nat.mul_add,Nat.mod_add_div,h]
section
variable {b A:Nat} {h:H} {v:AV} {K:AV→H→Prop}
set_option maxHeartbeats 1000000 in
theorem rText_calls (nv:Num 4294967296 h v A) (wA:wlen A≤128) (hb:2≤b) (hb36:b≤36) (hk:∀ds h',h'.wf→h.le h'→DgOf b A ds→K (.str (sb (txt ds))) h'):ACalls Tryz.prog 87 [v, .int .i64 (b:Int)] h K:=by
 refine in_ref17_Text sM fun hw=> ?_
 unfold c_ref17_Text
 have bA:Big A:=wbig wA oM
 have eb:IntKind.u64.wrap (b:Int)=(b:Int):=wUn oM
 simp only[go_sem]
 refine rZero_calls nv ?_
 by_cases h0:A=0
 ·simp only[go_sem,decide_eq_true h0]
  have hd0:DgOf b A []:=⟨fun y hy=>(by cases hy),fun y hy=>(by simp at hy),by rw[h0];rfl⟩
  exact fun hw'=>hk [] h hw' (H.le_refl h) hd0
 simp only[go_sem,decide_eq_false h0]
 refine loop_cut (fun ρ h'=>h'.wf∧h.le h'∧∃ds:List Nat,IsB h.next h' (ρ 5) (ds.map chr)∧DgOf b A ds) ?_ ?_
 ·refine⟨fun a ρ h'=>h'.wf∧h.le h'∧Num 4294967296 h' (ρ 0) a∧ρ 1= .int .i64 (b:Int)∧∃ds:List Nat,IsB h.next h' (ρ 5) (ds.map chr)∧(∀d∈ds,d<b)∧val b ds+b^ds.length*a=A∧(a=0→∀y,ds.getLast? =some y→y≠0),A,
   ⟨hw,H.le_refl h,nv,tR,[],IsF.nil _ _ _ _ _,fun d hd=>by(cases hd),by simp[val],fun _ y hy=>by simp at hy⟩, ?_⟩
  rintro a ρ h' ⟨hw',hle,na,q1,ds,hB,hds,hval,htop⟩
  have haA:b^ds.length*a≤A:=by omega
  have hpos:0<b^ds.length:=Nat.pow_pos oM
  have ha_le:a≤A:=Nat.le_trans (Nat.le_mul_of_pos_left a hpos) haA
  simp only[go_sem]
  refine rZero_calls na ?_
  rcases Nat.eq_zero_or_pos a with c1|c1
  ·simp only[go_sem,decide_eq_true c1,Bool.not_true]
   refine⟨hw',hle,ds,hB,hds,htop c1, ?_⟩
   rw[c1,Nat.mul_zero,Nat.add_zero] at hval
   exact hval
  have hlen:ds.length<64*128:=pow_len hb wA (Nat.le_trans (Nat.le_mul_of_pos_right _ c1) haA)
  simp only[go_sem,decide_eq_false (show¬a=0 by omega),Bool.not_false,q1,eb]
  refine short_calls na (bA.le ha_le) oM hb36 fun q h1 hw1 hl1 hq=> ?_
  have hmb:=Nat.mod_lt a (show 0<b by omega)
  have hst:=dig_step hval
  have hdl:=Nat.div_lt_self c1 hb
  have htop':a/b=0→∀y,(ds++[a%b]).getLast? =some y→y≠0:=by
   intro h0 y hy
   rw[List.getLast?_concat] at hy
   injection hy with hy
   have:=Nat.div_add_mod a b
   rw[h0,Nat.mul_zero,Nat.zero_add] at this
   have h2:y=a:=by rw[←this,←hy]
   omega
  have hds':∀d∈ds++[a%b],d<b:=mem_snoc_lt hds hmb
  have hB1:=hB.mono hl1
  have hn1:=hl1.1
  have hc1:h.next≤h1.next:=Nat.le_trans hle.1 hl1.1
  have hmap:(ds++[a%b]).map chr=ds.map chr++[chr (a%b)]:=by rw[List.map_append];rfl
  obtain⟨io,co,e5⟩:=hB.form
  rw[e5] at hB1 hB
  have hio:=hB.io
  have hnq:=(hq.delN (hB.io_lt hw')).num
  have hl01:=H.le_trans hle hl1
  generalize a%b=d at*
  rcases Nat.lt_or_ge 9 d with h9|h9
  ·have a1:IntKind.u64.wrap (48+(d:Int))=((48+d:Nat):Int):=addU (a:=48) (b:=d) oM
   have a2:IntKind.u64.wrap (97+(d:Int))=((97+d:Nat):Int):=addU (a:=97) (b:=d) oM
   have a3:IntKind.u64.wrap (((97+d:Nat):Int)-10)=((87+d:Nat):Int):=by rw[wU]<;>omega
   rw[chr_hi h9] at hmap
   simp only[go_sem,a1,a2,a3,w8 (show 48+d<256 by omega),w8 (show 87+d<256 by omega),q1,e5,show decide ((9:Int)<(d:Int))=true from decide_eq_true oM,k_lit1i]
   refine app_byte2 hw1 hB1 hc1 (by rw[List.length_map];omega) fun v2 h2 hw2 hB2 hl2=> ?_
   rw[←hmap] at hB2
   simp only[go_sem,q1]
   exact⟨a/b,hdl,hw2,hl01.app hw hio hl2,hnq.mono hl2,tR,_,hB2,hds',hst,htop'⟩
  ·have a1:IntKind.u64.wrap (48+(d:Int))=((48+d:Nat):Int):=addU (a:=48) (b:=d) oM
   rw[chr_lo (show d≤9 by omega)] at hmap
   simp only[go_sem,a1,w8 (show 48+d<256 by omega),q1,e5,show decide ((9:Int)<(d:Int))=false from decide_eq_false oM,k_lit1i]
   refine app_byte2 hw1 hB1 hc1 (by rw[List.length_map];omega) fun v2 h2 hw2 hB2 hl2=> ?_
   rw[←hmap] at hB2
   simp only[go_sem,q1]
   exact⟨a/b,hdl,hw2,hl01.app hw hio hl2,hnq.mono hl2,tR,_,hB2,hds',hst,htop'⟩
 rintro ρ h' ⟨hw',hle,ds,hB,hd⟩
 obtain⟨io,co,e5⟩:=hB.form
 rw[e5] at hB
 have hne:ds≠ []:=by
  rintro rfl
  exact h0 hd.2.2.symm
 have hlen:ds.length≤64*128:=hd.len hb wA
 have h0l:=List.length_pos_iff.2 hne
 have hml:(ds.map chr).length=ds.length:=List.length_map ..
 have e2:((ds.length:Nat):Int).tdiv 2=((ds.length/2:Nat):Int):=tdivN (b:=2)
 have e3:=wNI (n:=ds.length/2) oM
 have e4:IntKind.i64.wrap ((ds.length:Int)-1)=((ds.length-1:Nat):Int):=by rw[wI]<;>omega
 rw[hml] at e5 hB
 simp only[go_sem]
 refine for_rule (fun j ρ h'=>j≤ds.length/2∧h'.wf∧h.le h'∧ρ 5= .sl io 0 ds.length co∧ρ 9= .int .i64 (j:Int)∧IsB h.next h' (.sl io 0 ds.length co) (swps (ds.map chr) j)) (ds.length/2)
  ⟨oM,hw',hle,e5,tR,by rw[swps_zero];exact hB⟩ (fun i ρ h hI=>hI.1) ?_
 clear hw' hle hB
 rintro j ρ h' ⟨hj,hw',hle,q5,q9,hB⟩
 have hsl:=swps_len (ds.map chr) j
 rw[hml] at hsl
 rcases Nat.lt_or_ge j (ds.length/2) with h3|h3
 ·have e6:IntKind.i64.wrap (((ds.length-1:Nat):Int)-(j:Int))=((ds.length-1-j:Nat):Int):=subI oM oM
  obtain⟨i1,ei1,g1⟩:=hB.at (j:=j) oM
  subst ei1
  obtain⟨i2,ei2,g2⟩:=hB.at (j:=ds.length-1-j) oM
  injection ei2 with ei2
  subst ei2
  have s1:(swps (ds.map chr) j)[j]? =some (swps (ds.map chr) j)[j]:=List.getElem?_eq_getElem oM
  have s2:(swps (ds.map chr) j)[(ds.map chr).length-1-j]? =some (swps (ds.map chr) j)[ds.length-1-j]:=by
   rw[hml]
   exact List.getElem?_eq_getElem oM
  have hst:=swps_step (by rw[hml];exact h3) s1 s2
  rw[hml] at hst
  generalize (swps (ds.map chr) j)[j]=x at*
  generalize (swps (ds.map chr) j)[ds.length-1-j]=y at*
  obtain⟨i3,r3,ei3,hb3,_,hr3,ho3,hc3,hp3⟩:=hB.put hw' (j:=j) oM
  injection ei3 with ei3
  subst ei3
  have hB2:=hp3 y
  have hw2:=H.wf_set hw' (H.row_lt hw' hr3) {r3 with cells:=putAt r3.cells j [AV.int .u8 (y:Int)]}
  have hle2:=H.le_set hw hle hb3 {r3 with cells:=putAt r3.cells j [AV.int .u8 (y:Int)]}
  generalize hg:h'.set i1 {r3 with cells:=putAt r3.cells j [AV.int .u8 (y:Int)]}=h2 at*
  obtain⟨i4,r4,ei4,hb4,_,hr4,ho4,hc4,hp4⟩:=hB2.put hw2 (j:=ds.length-1-j) (by rw[List.length_set];omega)
  injection ei4 with ei4
  subst ei4
  have hB3:=hp4 x
  rw[hst] at hB3
  simp only[go_sem,q5,q9,e2,e3,ltT h3,two_and,e4,e6]
  refine⟨oM,oM, ?_⟩
  simp only[go_sem,g1,g2,q5,q9,e4,e6]
  refine⟨oM,oM, ?_⟩
  simp only[go_sem,hr3,e4,e6]
  refine⟨oM,oM,ho3,hc3,oM,oM, ?_⟩
  rw[hg]
  simp only[go_sem,hr4]
  refine⟨ho4,hc4, ?_⟩
  simp only[go_sem,q5,q9,incI (i:=j) oM]
  exact⟨oM,H.wf_set hw2 (H.row_lt hw2 hr4) _,H.le_set hw hle2 hb4 _,tR,tR,hB3⟩
 ·obtain rfl:j=ds.length/2:=by omega
  rw[swps_end (by rw[hml])] at hB
  have etx:txt ds=(ds.map chr).reverse:=by
   unfold txt
   rw[if_neg hne]
  rw[←etx] at hB
  have htl:txt ds≠ []:=by
   rw[etx]
   simp[hne]
  simp only[go_sem,q5,q9,e2,e3,ltF (Nat.le_refl (ds.length/2)),two_and]
  refine bts_F hB htl (txt_lt fun d h=>Nat.lt_of_lt_of_le (hd.1 d h) hb36) ?_
  simp only[go_sem]
  exact fun hw'=>hk ds h' hw' hle hd
end
end
section
section
variable {h:H} {K:AV→H→Prop}
theorem from17_calls {v:AV} {A:Nat} (nv:Nn h v A) (hk:∀r h',h'.wf→h.le h'→Num 4294967296 h' r A→K r h'):ACalls Tryz.prog 88 [v] h K:=by
 refine in_law17_from sM fun hw=> ?_
 unfold c_law17_from
 simp only[go_sem]
 refine fromN nv fun r h1 hw1 hl1 hr=> ?_
 simp only[go_sem]
 exact fun _=>hk r h1 hw1 hl1 hr
set_option maxHeartbeats 1000000 in
theorem wakes17_calls (hk:∀h',h'.wf→h.le h'→K (.bool true) h'):ACalls Tryz.prog 86 [] h K:=by
 refine in_law17_wakes sM fun hw=> ?_
 unfold c_law17_wakes
 simp only[go_sem]
 refine raNew_calls (t:=⟨0,0,0,0,0,0,0,0,0,0,0⟩) fun e u h1 hw1 hl1 hn1 hue he ht=> ?_
 simp only[go_sem,Option.isNone,Bool.false_bne]
 have hl2:=H.le_new hw1 (H.le_refl h1) ⟨some 54,1,[AV.int .u64 255]⟩
 have n255:Nn (h1.new ⟨some 54,1,[AV.int .u64 255]⟩) (.sl (some h1.next) 0 1 (some 1)) (val 18446744073709551616 [255]):=(IsN.lit [255] _ rfl rfl).nn (by intro x hx;rw[List.mem_singleton.1 hx];decide) sM
 have hw2:=H.wf_new hw1 ⟨some 54,1,[AV.int .u64 255]⟩
 have w255:wlen (val 18446744073709551616 [255])≤1:=by decide
 refine⟨trivial, ?_⟩
 refine Text_calls (base:=16) (clamp_ok _) (he.mono hl2) (ht.mono hl2) n255 oM oM (fun h0=>absurd h0 dM) fun b hb _ _ ds h3 m3 dp3 hw3 hl3 ht3 hds=> ?_
 obtain rfl:b=16:=by omega
 obtain rfl:ds=[15,15]:=hds.uniq oM ⟨dM,sM,dM⟩
 have l03:=le_over hw (H.le_trans hl1 hl2) hn1 hl3
 have he3:=(he.mono hl2).monoE (ht.mono hl2) hl3
 have e7:(⟨#[48,48,55]⟩:ByteArray)=sb [48,48,55]:=rfl
 have eff:(sb (txt [15,15])==⟨#[102,102]⟩)=true:=by decide
 simp only[go_sem]
 rw[e7]
 refine rParse_calls (base:=8) (clamp_ok _) he3 ht3 dM sM oM (fun h0=>absurd h0 dM) (fun _ h0=> ?_) fun b hb _ _ _ _ r h4 m4 dp4 hw4 hl4 ht4 hr=> ?_
 ·exact absurd h0 dM
 obtain rfl:b=8:=by omega
 have l04:=le_over hw l03 hn1 hl4
 have hr:Nf h3.next h4 r 7:=hr
 have hl5:=H.le_new hw4 (H.le_refl h4) ⟨some 54,1,[AV.int .u64 7]⟩
 have n7:Nt (h4.new ⟨some 54,1,[AV.int .u64 7]⟩) (.sl (some h4.next) 0 1 (some 1)) 7:=⟨[7],IsN.lit [7] _ rfl rfl,by intro x hx;rw[List.mem_singleton.1 hx];decide,by intro x hx;simp at hx;omega,rfl⟩
 simp only[go_sem,show((0:Int)==0)=true from rfl,eff,bneT]
 refine kSameT_calls (hr.nt.mono hl5) n7 (word_big dM) ?_
 simp only[go_sem]
 exact fun hw'=>hk _ hw' (H.le_trans l04 hl5)
end
end
section
theorem sb_self (a:ByteArray):(a==a)=true:=by rw[ba_beq];exact beq_self_eq_true _
theorem Lent.monoE {b u:Nat} {h h':H} {v:AV} {xs:List Nat} (hub:u<b) (hv:Lent b h v xs) (hl:H.lee u h h'):Lent b h' v xs:=by
 obtain⟨id,e,hg⟩:=hv
 exact⟨id,e,IsG.monoE hub hg hl⟩
section
variable {t:Tb} {va:AV} {xs0:List Nat} {h:H} {K:AV→H→Prop}
set_option maxHeartbeats 1000000 in
theorem RadixTexts_law {base:Int} (hv0:IsN h va xs0) (hx0:Dig xs0) (hk:∀h',h'.wf→K (.bool true) h'):ACalls Tryz.prog 16 [t.av,va, .int .i64 base] h K:=by
 refine in_law17_RadixTexts sM fun hw=> ?_
 unfold c_law17_RadixTexts
 have hl0:=H.le_new hw (H.le_refl h) ⟨some 23,11,t.cells⟩
 have hr0:=H.rows_new h ⟨some 23,11,t.cells⟩
 simp only[go_sem,av_held,av_cells,cells_len,true_and]
 generalize hg:h.new ⟨some 23,11,t.cells⟩=g0 at*
 refine Cut_calls (n:=24) (hv0.mono hl0) fun a ha=> ?_
 have hxd:Dig (xs0.take 24):=Dig.take hx0 24
 have hxl:(xs0.take 24).length≤24:=by simp;omega
 generalize xs0.take 24=xs at*
 simp only[go_sem,gsT hr0]
 refine raNew_calls fun e u g1 hw1 hl1 hn1 hue he ht=> ?_
 have ha1:=ha.mono hl1
 simp only[go_sem,Option.isNone,Bool.false_bne]
 refine Lend_calls ha1 oM fun x g2 hw2 hl2 lx=> ?_
 have ha2:=ha1.mono hl2
 have ht2:=ht.mono hl2
 have hut:=H.row_lt hw1 ht
 have wd:wlen (val 18446744073709551616 xs)≤24:=Nat.le_trans (wlen_len hxd) hxl
 have e0:((⟨#[]⟩:ByteArray)==⟨#[]⟩)=true:=sb_self _
 simp only[go_sem]
 refine Text_calls (clamp_ok _) (he.mono hl2) ht2 (lx.isN.nn hxd oM) oM oM (fun hb _=> ?_) fun b hb hb2 hb36 ds g3 m3 dp3 hw3 hl3 ht3 hds=> ?_
 ·rcases hb with hb|hb
  ·simp only[go_sem,decide_eq_true hb,show((1:Int)==1)=true from rfl,e0,bneT]
   refine wakes17_calls fun g9 hw9 hl9=> ?_
   simp only[go_sem]
   exact fun _=>hk g9 hw9
  ·simp only[go_sem,decide_eq_false (show¬base<2 by omega),decide_eq_true hb,show((1:Int)==1)=true from rfl,e0,bneT]
   refine wakes17_calls fun g9 hw9 hl9=> ?_
   simp only[go_sem]
   exact fun _=>hk g9 hw9
 ·subst hb
  have ha3:=ha2.monoE ht2 hl3
  have lx3:=lx.monoE hut hl3
  simp only[go_sem,decide_eq_false (show¬(b:Int)<2 by omega),decide_eq_false (show¬(36:Int)<(b:Int) by omega),show((0:Int)==0)=true from rfl]
  refine from17_calls (ha3.nn hxd oM) fun f1 g4 hw4 hl4 n1=> ?_
  simp only[go_sem]
  refine rText_calls n1 oM hb2 hb36 fun ds' g5 hw5 hl5 hds'=> ?_
  obtain rfl:=hds.uniq oM hds'
  simp only[go_sem,sb_self,bneT]
  refine Intact_calls (lx3.mono (H.le_trans hl4 hl5)) (ha3.mono (H.le_trans hl4 hl5)) oM ?_
  simp only[go_sem]
  refine wakes17_calls fun g9 hw9 hl9=> ?_
  simp only[go_sem]
  exact fun _=>hk g9 hw9
end
end
section
set_option maxRecDepth 100000
set_option maxRecDepth 100000 in
theorem RadixTexts_row (h:H) (avs:List AV) (_:h.wf) (r:ReadsAll Tryz.prog h [23,24,3] avs):ACalls Tryz.prog 16 avs h (fun r _=>r= .bool true):=by
 match avs,r with
 |[_,_,_],⟨r0,r1,r2,_⟩=>
  obtain⟨t0,rfl⟩:=reads_table r0
  obtain⟨xs,h1,hx,_⟩:=reads_words r1
  obtain⟨n,rfl,_,_⟩:=reads_i64 r2
  exact RadixTexts_law h1 hx fun _ _=>rfl
end
end Ab
end Go.Proofs.YtnlkbdmmoplkoaaGreatDoor
