/- Joined texts: Y18 Y19 Y20 Y21 Y23 Y24 Y25 Y28. No condition. -/
import Derived.Test.YtnlkbdmmoplkoaaGreatDoorZ15
namespace Go.Proofs.YtnlkbdmmoplkoaaGreatDoor
namespace Ab
open Go Go.RowKit
set_option linter.unusedSimpArgs false
set_option linter.unusedVariables false
attribute [local go_sem ↓] x_mv x_pick x_bin x_beq x_peq x_seq x_cat x_aeq x_idxS x_idxV x_un x_cvI x_bts x_idx x_idxA x_fld x_ld x_st x_nn x_prt x_slc x_mk x_bsl x_bld x_box x_alloc x_len x_capo x_mnx x_app x_cpy x_mkf x_ext x_call x_callV x_bad s_none s_some s_nil s_cons s_chks w_skip w_reg tP_fin tP_no tP_alt w_seq w_cond w_block w_exit w_ret t_normal t_exit t_ret b_normal b_ret b_exit n_normal n_exit n_ret p_normal p_ret f_nil f_t f_c k_ops k_chk k_fin
attribute [local go_sem] e_t e_c e_f u_some u_none u_at env_at k_v k_pick k_add k_sub k_mul k_quo k_rem k_and k_or k_xor k_shl k_shr k_eql k_neq k_lss k_leq k_gtr k_geq k_beq k_peqn k_peqs k_neg k_not k_com k_cvI k_idxS k_idxV1 k_idxVn k_idx k_idxA k_idxG k_ldG k_gld k_seq k_cat k_aeq k_eqs k_fld k_ld1 k_ldn k_get k_gets k_sti k_stb k_stp k_sts k_stf k_sta k_put k_nn k_prt1 k_prtn k_slc_a k_slc_b k_slc_c k_mk k_agg k_bsl k_box k_len k_lenS k_cap k_max k_min k_ext k_callV k_true k_false k_gtt k_gtf k_gft k_gsk k_gff k_lit1i k_lit2i k_lit3i k_c0 k_c1 k_ck List.getElem?_cons_zero List.getElem?_cons_succ List.getElem?_nil Option.getD_some Option.getD_none tupOf List.map_cons List.map_nil Option.map_some Option.map_none List.nil_append List.cons_append List.append_nil Nat.mul_one Int.toNat_natCast Nat.zero_add
attribute [local go_sem] e_t e_c e_f u_some u_none u_at env_at k_v k_pick k_add k_sub k_mul k_quo k_rem k_and k_or k_xor k_shl k_shr k_eql k_neq k_lss k_leq k_gtr k_geq k_beq k_peqn k_peqs k_neg k_not k_com k_cvI k_idxS k_idxV1 k_idxVn k_idx k_idxA k_idxG k_ldG k_gld k_seq k_cat k_aeq k_eqs k_fld k_ld1 k_ldn k_get k_gets k_sti k_stb k_stp k_sts k_stf k_sta k_put k_nn k_prt1 k_prtn k_slc_a k_slc_b k_slc_c k_mk k_agg k_bsl k_box k_len k_lenS k_cap k_max k_min k_ext k_callV k_true k_false k_gtt k_gtf k_gft k_gsk k_gff k_lit1i k_lit2i k_lit3i k_c0 k_c1 k_ck List.getElem?_cons_zero List.getElem?_cons_succ List.getElem?_nil Option.getD_some Option.getD_none tupOf List.map_cons List.map_nil Option.map_some Option.map_none List.nil_append List.cons_append List.append_nil Nat.mul_one Int.toNat_natCast Nat.zero_add
--what a store into a cell of two leaves
attribute [local go_sem_proc] Nat.reduceEqDiff Nat.reduceAdd Int.reduceToNat
attribute [local go_sem_proc ↓] reduceIte
attribute [local go_sem] Bool.false_eq_true
def NumG (c:Nat) (h:H) (v:AV) (x:Nat):Prop:=∃ys,IsG c h v ys∧(∀y∈ys,y<4294967296)∧(∀y,ys.getLast? =some y→y≠0)∧val 4294967296 ys=x
theorem NumG.num {c:Nat} {h:H} {v:AV} {x:Nat} (hv:NumG c h v x):Num 4294967296 h v x:=by
 obtain⟨ys,h1,h2⟩:=hv
 exact⟨ys,h1.isN,h2⟩
theorem IsG.delN {b:Nat} {h:H} {v:AV} {io:Option Nat} {xs:List Nat} (hio:∀i,io=some i→i<b) (hv:IsG b h v xs):IsG b (h.del io) v xs:=by
 obtain⟨id,c,e,h1⟩:=hv
 refine⟨id,c,e, ?_⟩
 rcases h1 with h1|⟨i,r,rfl,hb,hr,h3⟩
 ·exact .inl h1
 ·refine .inr ⟨i,r,rfl,hb,H.del_put (fun e=> ?_) hr,h3⟩
  have:=hio i e.symm
  omega
theorem NumG.delN {c:Nat} {h:H} {v:AV} {x:Nat} {io:Option Nat} (hio:∀i,io=some i→i<c) (hv:NumG c h v x):NumG c (h.del io) v x:=by
 obtain⟨ys,h1,h2⟩:=hv
 exact⟨ys,h1.delN hio,h2⟩
theorem H.le.app {a h h':H} {io:Option Nat} (ha:a.wf) (hl:a.le h) (hio:∀i,io=some i→a.next≤i) (h1:(h.del io).le h'):a.le h':=
 ⟨Nat.le_trans hl.1 h1.1,fun j r e=>h1.2 _ _ (H.del_put (fun ej=>by have:=hio j ej.symm;have:=H.row_lt ha e;omega) (hl.2 j r e))⟩
theorem pow_len {b l A n:Nat} (hb:2≤b) (wA:wlen A≤n) (h:b^l≤A):l<64*n:=by
 have h1:=wlen_le.1 wA
 rw[two_B] at h1
 have h2:2^l≤b^l:=Nat.pow_le_pow_left hb l
 exact(Nat.pow_lt_pow_iff_right oM).1 (Nat.lt_of_le_of_lt (Nat.le_trans h2 h) h1)
theorem dig_step {b A a:Nat} {ds:List Nat} (h:val b ds+b^ds.length*a=A):val b (ds++[a%b])+b^(ds++[a%b]).length*(a/b)=A:=by
 rw[val_snoc,List.length_append,List.length_singleton,Nat.pow_succ,Nat.mul_assoc,Nat.add_assoc,←Nat.mul_add,Nat.mod_add_div,h]
theorem norm_callsG {bb:Nat} {v:AV} {xs:List Nat} {h:H} {K:AV→H→Prop} (hvG:IsG bb h v xs) (hlen:xs.length<4611686018427387904)
  (hk:∀r k,k≤xs.length→IsG bb h r (xs.take k)→(∀x∈xs.drop k,x=0)→(∀x,(xs.take k).getLast? =some x→x≠0)→K r h):ACalls Tryz.prog 102 [v] h K:=by
 obtain⟨id,c,rfl⟩:=hvG.form
 have hv:=hvG.isN
 refine in_ref02_norm sM fun hw=> ?_
 unfold c_ref02_norm
 simp only[go_sem]
 refine⟨fun n ρ h'=>h'=h∧ρ 0= .sl id 0 xs.length c∧ρ 3= .int .i64 (n:Int)∧n≤xs.length∧(∀x∈xs.drop n,x=0),xs.length,⟨rfl,rfl,rfl,Nat.le_refl _,sM⟩, ?_⟩
 rintro k ρ h' ⟨rfl,h0,h3,hk1,hz⟩
 have fin:(∀x,(xs.take k).getLast? =some x→x≠0)→K (.sl id 0 k c) h':=fun hl=>hk _ k hk1 (hvG.cutTop hk1) hz hl
 rcases Nat.eq_zero_or_pos k with rfl|hp
 ·have hd:decide ((0:Int)<((0:Nat):Int))=false:=by decide
  simp only[go_sem,h0,h3,hd]
  refine⟨oM,oM,hv.row, ?_⟩
  intro _
  exact fin sM
 ·have hd:decide ((0:Int)<(k:Int))=true:=by simp;omega
  obtain⟨i,rfl,_,hg⟩:=hv.at (j:=k-1) oM
  have hw1:IntKind.i64.wrap ((k:Int)-1)=((k-1:Nat):Int):=by rw[wI]<;>omega
  simp only[go_sem,h0,h3,hd,hw1]
  refine⟨oM,oM, ?_⟩
  rw[Nat.zero_add] at hg
  simp only[go_sem,Int.toNat_natCast,Nat.mul_one,hg]
  by_cases hx:xs[k-1]=0
  ·have he:(((xs[k-1]:Nat):Int)==0)=true:=by simp[hx]
   simp only[go_sem,h0,h3,he,hw1]
   refine⟨k-1,oM,sM,sM,sM,oM,fun x hm=> ?_⟩
   rw[List.drop_eq_getElem_cons oM] at hm
   rcases List.mem_cons.1 hm with rfl|hm
   ·exact hx
   ·exact hz x (by rwa[show k-1+1=k from by omega] at hm)
  ·have he:(((xs[k-1]:Nat):Int)==0)=false:=by simp;omega
   simp only[go_sem,h0,h3,he]
   refine⟨oM,oM,hv.row, ?_⟩
   intro _
   refine fin fun x hl=> ?_
   rw[List.getLast?_eq_getElem?,List.length_take,Nat.min_eq_left hk1,List.getElem?_take,if_pos oM,List.getElem?_eq_getElem oM] at hl
   injection hl with hl
   omega
theorem norm_numG {b:Nat} {v:AV} {xs:List Nat} {h:H} {K:AV→H→Prop} (hv:IsG b h v xs) (hd:∀x∈xs,x<4294967296) (hlen:xs.length<4611686018427387904)
  (hk:∀r,NumG b h r (val 4294967296 xs)→K r h):ACalls Tryz.prog 102 [v] h K:=
 norm_callsG hv hlen fun r k _ hr hz ht=>hk r ⟨_,hr,fun x hx=>hd x (List.mem_of_mem_take hx),ht,val_take 4294967296 xs k hz⟩
theorem DivModG_calls {v u:AV} {x y:Nat} {h:H} {K:AV→H→Prop} (nv:Num 4294967296 h v x) (nu:Num 4294967296 h u y) (hx:Big x) (hy:Big y) (hy0:0<y)
  (hk:∀q r h',h'.wf→h.le h'→NumG h.next h' q (x/y)→Num 4294967296 h' r (x%y)→K (.tup [q,r]) h'):ACalls Tryz.prog 110 [v,u] h K:=by
 refine in_ref02_DivMod sM fun hw=> ?_
 unfold c_ref02_DivMod
 simp only[go_sem]
 refine Cmp_calls nv nu hx hy ?_
 rcases Nat.lt_or_ge x y with hlt|hge
 ·have d1:decide (cmpI x y<0)=true:=by simp[cmpI,hlt]
  simp only[go_sem,d1]
  intro _
  refine hk _ v h hw (H.le_refl h) ?_ ?_
  ·rw[Nat.div_eq_of_lt hlt]
   exact⟨[],IsG.nil' _ _ _,sM,sM,rfl⟩
  ·rw[Nat.mod_eq_of_lt hlt]
   exact nv
 have d1:decide (cmpI x y<0)=false:=by
  unfold cmpI
  rw[if_neg oM]
  split<;>rfl
 have nv0:=nv
 obtain⟨xs,hv,hxd,hxt,hxv,hxl⟩:=nv.open hx
 obtain⟨ys,hu,hyd,hyt,hyv,hyl⟩:=nu.open hy
 obtain⟨id,off,c,rfl⟩:=hv.form
 obtain⟨id',off',c',rfl⟩:=hu.form
 have e1:=incI (i:=ys.length) oM
 simp only[go_sem,d1,e1]
 refine⟨oM,oM,oM,oM,oM,oM, ?_⟩
 have le1:h.le ((h.new ⟨some 54,1,zs [AV.int .u64 0] (ys.length+1)⟩).new ⟨some 54,1,zs [AV.int .u64 0] xs.length⟩):=H.le_new (H.wf_new hw _) (H.le_new hw (H.le_refl h) _) _
 have hr0:IsG h.next ((h.new ⟨some 54,1,zs [AV.int .u64 0] (ys.length+1)⟩).new ⟨some 54,1,zs [AV.int .u64 0] xs.length⟩) (.sl (some h.next) 0 (ys.length+1) (some (ys.length+1))) (List.replicate (ys.length+1) 0):=
  (IsG.made (Nat.le_refl _) _).mono (H.le_new (H.wf_new hw _) (H.le_refl _) _)
 have hq0:IsG h.next ((h.new ⟨some 54,1,zs [AV.int .u64 0] (ys.length+1)⟩).new ⟨some 54,1,zs [AV.int .u64 0] xs.length⟩) (.sl (some (h.next+1)) 0 xs.length (some xs.length)) (List.replicate xs.length 0):=
  IsG.made (by rw[H.next_new];omega) _
 have wf1:=H.wf_new (H.wf_new hw ⟨some 54,1,zs [AV.int .u64 0] (ys.length+1)⟩) ⟨some 54,1,zs [AV.int .u64 0] xs.length⟩
 simp only[H.next_new]
 generalize ((h.new ⟨some 54,1,zs [AV.int .u64 0] (ys.length+1)⟩).new ⟨some 54,1,zs [AV.int .u64 0] xs.length⟩)=h1 at*
 refine Bits_calls (nv0.mono le1) hx fun L hL hB=> ?_
 have hx0:0<x:=by omega
 have hL0:=hB.pos hx0
 have hLl:L≤32*xs.length:=by
  have a1:=val_lt 4294967296 dM xs hxd
  rw[hxv,pow32] at a1
  have a2:=hB.2.resolve_left hL0
  have:=(Nat.pow_lt_pow_iff_right (by decide:1<2)).1 (Nat.lt_of_le_of_lt a2 a1)
  omega
 have e2:=decI (i:=L) oM oM
 simp only[go_sem,e2]
 have hyb:y<4294967296^ys.length:=by rw[←hyv];exact val_lt 4294967296 dM ys hyd
 refine⟨fun n ρ h'=>h'.wf∧h.le h'∧ρ 0= .sl id off xs.length c∧ρ 1= .sl id' off' ys.length c'∧ρ 6= .sl (some h.next) 0 (ys.length+1) (some (ys.length+1))∧ρ 7= .sl (some (h.next+1)) 0 xs.length (some xs.length)∧ρ 8= .int .i64 ((n:Int)-1)∧n≤L∧
  ∃rs qs,IsG h.next h' (.sl (some h.next) 0 (ys.length+1) (some (ys.length+1))) rs∧(∀a∈rs,a<4294967296)∧rs.length=ys.length+1∧val 4294967296 rs=x/2^n%y∧
   IsG h.next h' (.sl (some (h.next+1)) 0 xs.length (some xs.length)) qs∧(∀a∈qs,a<4294967296)∧qs.length=xs.length∧val 4294967296 qs=2^n*(x/2^n/y),L,
  ⟨wf1,le1,tR,tR,tR,tR, ?_,oM,_,_,hr0, ?_,sM, ?_,hq0, ?_,sM, ?_⟩, ?_⟩
 ·simp only[go_sem]
  congr 1
  omega
 ·intro a ha;rw[(List.mem_replicate.1 ha).2];decide
 ·rw[val_zero 4294967296 _ (fun a ha=>(List.mem_replicate.1 ha).2),Nat.div_eq_of_lt hB.1,Nat.zero_mod]
 ·intro a ha;rw[(List.mem_replicate.1 ha).2];decide
 ·rw[val_zero 4294967296 _ (fun a ha=>(List.mem_replicate.1 ha).2),Nat.div_eq_of_lt hB.1,Nat.zero_div,Nat.mul_zero]
 rintro n ρ h' ⟨hw',hle,g0,g1,g6,g7,g8,hn,rs,qs,hr,hrd,hrl,hrv,hq,hqd,hql,hqv⟩
 rcases Nat.eq_zero_or_pos n with rfl|hp
 ·have d2:decide ((0:Int)≤((0:Nat):Int)-1)=false:=by decide
  simp only[go_sem,g0,g1,g6,g7,g8,d2]
  refine norm_numG hq hqd oM fun q1 nq=> ?_
  simp only[go_sem,g0,g1,g6,g7,g8]
  refine norm_num hr.isN hrd oM fun r1 nr=> ?_
  simp only[go_sem]
  intro _
  rw[hqv] at nq
  rw[hrv] at nr
  simp only[Nat.pow_zero,Nat.div_one,Nat.one_mul] at nq nr
  exact hk q1 r1 h' hw' hle nq nr
 obtain⟨i,rfl⟩:∃i,n=i+1:=⟨n-1,oM⟩
 have e5:((i+1:Nat):Int)-1=(i:Int):=by omega
 have d2:decide ((0:Int)≤(i:Int))=true:=by simp
 rw[e5] at g8
 simp only[go_sem,g0,g1,g6,g7,g8,d2]
 have hi32:i/32<xs.length:=by omega
 refine bit_calls (hv.mono hle) hxd oM hi32 ?_
 simp only[go_sem,g0,g1,g6,g7,g8]
 rw[hxv]
 have hb1:x/2^i%2≤1:=by omega
 have hvy:val 4294967296 rs<y:=by rw[hrv];exact Nat.mod_lt _ hy0
 have hX:x/2^i=2*(x/2^(i+1))+x/2^i%2:=by
  rw[Nat.pow_succ,←Nat.div_div_eq_div_mul]
  omega
 obtain⟨hD1,hD2⟩:=div_double (X:=x/2^(i+1)) hb1 hy0
 rw[←hX,←hrv] at hD1 hD2
 have hfit:2*val 4294967296 rs+x/2^i%2<4294967296^(ys.length+1):=by rw[Nat.pow_succ];omega
 refine twice_calls hw hle hr hrd hu hyd hrl oM oM hb1 hfit fun h2 rs' hw2 hbt hr2 hrd2 hrl2 t ht hrv2=> ?_
 rw[hyv] at ht hrv2
 have hle2:=hbt.le hw hle (Nat.le_refl _)
 have hq2:=hq.but hbt oM
 have e6:IntKind.i64.wrap ((i:Int)-1)=(i:Int)-1:=by rw[wI]<;>omega
 cases t with
 |false=>
  have hc:¬y≤2*val 4294967296 rs+x/2^i%2:=by simpa using ht.symm
  rw[if_neg sM] at hrv2
  rw[if_neg hc] at hD1 hD2
  simp only[go_sem,g0,g1,g6,g7,g8,e6]
  refine⟨i,oM,hw2,hle2,tR,tR,tR,tR,tR,oM,rs',qs,hr2,hrd2,hrl2, ?_,hq2,hqd,hql, ?_⟩
  ·rw[hrv2,hD2]
  ·rw[hqv,hD1,Nat.pow_succ,Nat.mul_assoc,Nat.add_zero]
 |true=>
  have hc:y≤2*val 4294967296 rs+x/2^i%2:=by simpa using ht.symm
  rw[if_pos rfl] at hrv2
  rw[if_pos hc] at hD1 hD2
  have hjq:i/32<qs.length:=by omega
  obtain⟨j,e1,_,hg⟩:=hq2.isN.at hjq
  obtain⟨j',r,e1',hbj,hnj,hrj,ho,hc1,hput⟩:=hq2.put hw2 hjq
  injection e1 with e1
  subst e1
  injection e1' with e1'
  subst e1'
  rw[Nat.zero_add] at hg
  have hqb:=hqd _ (List.getElem_mem hjq)
  have hr32:i%32<32:=Nat.mod_lt _ dM
  obtain⟨o1,o2⟩:=or_bit hqb hr32 (digit_mult hqd hjq hqv)
  have hset:=val_set 4294967296 qs (i/32) (qs[i/32]+2^(i%32)) hjq
  generalize qs[i/32]=w at*
  have e7:IntKind.i64.wrap (((i:Int)).tdiv 32)=((i/32:Nat):Int):=by
   rw[show((i:Int)).tdiv 32=((i/32:Nat):Int) from tdivN (b:=32)]
   rw[wI]<;>omega
  have e8:((i:Int)).tmod 32=((i%32:Nat):Int):=tmodN (b:=32)
  simp only[go_sem,g0,g1,g6,g7,g8,e6,e7,e8,hg,hrj,wUn (x:=i%32) oM,shl1 (n:=i%32) oM,o1]
  refine⟨oM,oM,oM,oM,oM,oM,oM,ho,hc1, ?_⟩
  refine⟨i,oM,H.wf_set hw2 hnj _,H.le_set hw hle2 hbj _,tR,tR,tR,tR,tR,oM,rs',_,hr2.but (But.set _ _ _) oM,hrd2,hrl2, ?_,hput _,mem_set_lt hqd o2,by simp;omega, ?_⟩
  ·rw[hrv2,hD2]
  ·rw[hD1]
   have e9:4294967296^(i/32)*2^(i%32)=2^i:=by rw[pow32,←Nat.pow_add,Nat.div_add_mod]
   rw[Nat.mul_add,e9,hqv] at hset
   generalize x/2^(i+1)/y=Z at*
   rw[Nat.pow_succ] at hset
   rw[Nat.mul_add,Nat.mul_one,←Nat.mul_assoc]
   omega
section
theorem word_list {x:Nat} {zs:List Nat} (hd:Dig zs) (ht:Top zs) (hv:val 18446744073709551616 zs=x) (hx:x<18446744073709551616):(x=0∧zs=[])∨(0<x∧zs=[x]):=by
 have hl:=digits_le 18446744073709551616 dM ht (k:=1) (by rw[hv,Nat.pow_one];exact hx)
 match zs,hl with
 |[],_=>exact .inl ⟨hv.symm,rfl⟩
 |[z],_=>
  have h1:z=x:=by simpa [val] using hv
  have h2:=ht z rfl
  subst h1
  exact .inr ⟨Nat.pos_of_ne_zero h2,rfl⟩
section
variable {b A:Nat} {h:H} {v:AV} {K:AV→H→Prop}
set_option maxHeartbeats 1000000 in
theorem refDigits_calls (nv:Num 4294967296 h v A) (wA:wlen A≤128) (hb:2≤b) (hb64:b<18446744073709551616) (hk:∀r ds h',h'.wf→h.le h'→IsG h.next h' r ds→DgOf b A ds→K r h'):ACalls Tryz.prog 92 [v, .int .u64 (b:Int)] h K:=by
 refine in_ref17_Digits sM fun hw=> ?_
 unfold c_ref17_Digits
 have bA:Big A:=wbig wA oM
 simp only[go_sem]
 refine Small_calls hb64 fun sb0 a0 hwa hla hsb=> ?_
 simp only[go_sem]
 refine⟨fun a ρ h'=>h'.wf∧a0.le h'∧Num 4294967296 h' (ρ 0) a∧ρ 6=sb0∧∃(ds:List Nat) (io co:Option Nat),ρ 5= .sl io 0 ds.length co∧IsG a0.next h' (.sl io 0 ds.length co) ds∧(∀d∈ds,d<b)∧val b ds+b^ds.length*a=A∧(a=0→∀y,ds.getLast? =some y→y≠0),A,
  ⟨hwa,H.le_refl a0,nv.mono hla,tR,[],none,none,tR,IsG.nil' _ _ _,fun d hd=>by(cases hd),by simp[val],fun _ y hy=>by simp at hy⟩, ?_⟩
 rintro a ρ h' ⟨hw',hle,na,q6,ds,io,co,q5,hB,hds,hval,htop⟩
 have haA:b^ds.length*a≤A:=by omega
 have hpos:0<b^ds.length:=Nat.pow_pos oM
 have ha_le:a≤A:=Nat.le_trans (Nat.le_mul_of_pos_left a hpos) haA
 simp only[go_sem]
 refine rZero_calls na ?_
 rcases Nat.eq_zero_or_pos a with c1|c1
 ·simp only[go_sem,decide_eq_true c1,Bool.not_true,q5]
  rw[c1,Nat.mul_zero,Nat.add_zero] at hval
  exact fun hw'=>hk _ ds h' hw' (H.le_trans hla hle) (hB.base hla.1) ⟨hds,htop c1,hval⟩
 have hlen:ds.length<64*128:=pow_len hb wA (Nat.le_trans (Nat.le_mul_of_pos_right _ c1) haA)
 simp only[go_sem,decide_eq_false (show¬a=0 by omega),Bool.not_false,q6]
 refine DivModG_calls na (hsb.mono hle) (bA.le ha_le) (word_big hb64) oM fun q r h1 hw1 hl1 hq hr=> ?_
 have hmb:=Nat.mod_lt a (show 0<b by omega)
 have hst:=dig_step hval
 have hdl:=Nat.div_lt_self c1 hb
 have htop':a/b=0→∀y,(ds++[a%b]).getLast? =some y→y≠0:=by
  intro h0 y hy
  rw[List.getLast?_concat] at hy
  injection hy with hy
  have:=Nat.div_add_mod a b
  rw[h0,Nat.mul_zero,Nat.zero_add] at this
  have h2:y=a:=by rw[←this,←hy]
  omega
 have hds':∀d∈ds++[a%b],d<b:=mem_snoc_lt hds hmb
 have hio:=hB.io
 have hnq:=(hq.delN (hB.io_lt hw'))
 have hmB:a%b<18446744073709551616:=Nat.lt_trans hmb hb64
 generalize a%b=d at*
 simp only[go_sem]
 refine To_calls hr (word_big hmB) fun n h2 hw2 hl2 hn=> ?_
 obtain⟨zs,hz1,hz2,hz3,hz4⟩:=hn
 have hzw:=word_list hz2 hz3 hz4 hmB
 obtain⟨iz,cz,rfl⟩:=hz1.form
 have hle2:=H.le_trans hle (H.le_trans hl1 hl2)
 have hB2:=(hB.mono hl1).mono hl2
 have hc2:a0.next≤h2.next:=hle2.1
 have nq2:Num 4294967296 (h2.del io) q (a/b):=hnq.num.mono (H.del_mono hl2 io)
 simp only[go_sem]
 refine cond_cut (fun ρ' g=>g=h2∧ρ' 5= .sl io 0 ds.length co∧ρ' 6=sb0∧ρ' 7=q∧ρ' 9= .int .u64 (d:Int)) ?_ ?_
 ·rcases hzw with⟨h0,rfl⟩|⟨h0,rfl⟩
  ·subst h0
   simp only[go_sem,show decide ((0:Int)<((([]:List Nat).length:Nat):Int))=false from rfl]
   exact⟨tR,q5,q6,tR,tR⟩
  ·obtain⟨i1,rfl,_,hg⟩:=hz1.isN.at (j:=0) sM
   rw[Nat.zero_add] at hg
   simp only[go_sem,show decide ((0:Int)<((([d]:List Nat).length:Nat):Int))=true from rfl]
   refine⟨sM,sM, ?_⟩
   simp only[go_sem,hg]
   exact⟨tR,q5,q6,tR,tR⟩
 rintro ρ' g ⟨rfl,p5,p6,p7,p9⟩
 simp only[go_sem,p5,p6,p7,p9,k_lit1i]
 refine dig_app hw2 hB2 hc2 oM fun v3 h3 hw3 hv3 hg3=> ?_
 obtain⟨io3,co3,rfl⟩:=hv3.form
 have hdl3:=hg3.dle hw2
 simp only[go_sem,p6,p7]
 exact⟨a/b,hdl,hw3,hle2.app hwa hio (H.le_trans hdl3 (H.del_le _)),(nq2.mono hdl3).mono (H.del_le _),tR,_,io3,co3,tR,hv3,hds',hst,htop'⟩
end
end
section
section
variable {h:H} {K:AV→H→Prop}
theorem from17_calls {v:AV} {A:Nat} (nv:Nn h v A) (hk:∀r h',h'.wf→h.le h'→Num 4294967296 h' r A→K r h'):ACalls Tryz.prog 88 [v] h K:=by
 refine in_law17_from sM fun hw=> ?_
 unfold c_law17_from
 simp only[go_sem]
 refine fromN nv fun r h1 hw1 hl1 hr=> ?_
 simp only[go_sem]
 exact fun _=>hk r h1 hw1 hl1 hr
set_option maxHeartbeats 1000000 in
theorem wakes17_calls (hk:∀h',h'.wf→h.le h'→K (.bool true) h'):ACalls Tryz.prog 86 [] h K:=by
 refine in_law17_wakes sM fun hw=> ?_
 unfold c_law17_wakes
 simp only[go_sem]
 refine raNew_calls (t:=⟨0,0,0,0,0,0,0,0,0,0,0⟩) fun e u h1 hw1 hl1 hn1 hue he ht=> ?_
 simp only[go_sem,Option.isNone,Bool.false_bne]
 have hl2:=H.le_new hw1 (H.le_refl h1) ⟨some 54,1,[AV.int .u64 255]⟩
 have n255:Nn (h1.new ⟨some 54,1,[AV.int .u64 255]⟩) (.sl (some h1.next) 0 1 (some 1)) (val 18446744073709551616 [255]):=(IsN.lit [255] _ rfl rfl).nn (by intro x hx;rw[List.mem_singleton.1 hx];decide) sM
 have hw2:=H.wf_new hw1 ⟨some 54,1,[AV.int .u64 255]⟩
 have w255:wlen (val 18446744073709551616 [255])≤1:=by decide
 refine⟨trivial, ?_⟩
 refine Text_calls (base:=16) (clamp_ok _) (he.mono hl2) (ht.mono hl2) n255 oM oM (fun h0=>absurd h0 dM) fun b hb _ _ ds h3 m3 dp3 hw3 hl3 ht3 hds=> ?_
 obtain rfl:b=16:=by omega
 obtain rfl:ds=[15,15]:=hds.uniq oM ⟨dM,sM,dM⟩
 have l03:=le_over hw (H.le_trans hl1 hl2) hn1 hl3
 have he3:=(he.mono hl2).monoE (ht.mono hl2) hl3
 have e7:(⟨#[48,48,55]⟩:ByteArray)=sb [48,48,55]:=rfl
 have eff:(sb (txt [15,15])==⟨#[102,102]⟩)=true:=by decide
 simp only[go_sem]
 rw[e7]
 refine rParse_calls (base:=8) (clamp_ok _) he3 ht3 dM sM oM (fun h0=>absurd h0 dM) (fun _ h0=> ?_) fun b hb _ _ _ _ r h4 m4 dp4 hw4 hl4 ht4 hr=> ?_
 ·exact absurd h0 dM
 obtain rfl:b=8:=by omega
 have l04:=le_over hw l03 hn1 hl4
 have hr:Nf h3.next h4 r 7:=hr
 have hl5:=H.le_new hw4 (H.le_refl h4) ⟨some 54,1,[AV.int .u64 7]⟩
 have n7:Nt (h4.new ⟨some 54,1,[AV.int .u64 7]⟩) (.sl (some h4.next) 0 1 (some 1)) 7:=⟨[7],IsN.lit [7] _ rfl rfl,by intro x hx;rw[List.mem_singleton.1 hx];decide,by intro x hx;simp at hx;omega,rfl⟩
 simp only[go_sem,show((0:Int)==0)=true from rfl,eff,bneT]
 refine kSameT_calls (hr.nt.mono hl5) n7 (word_big dM) ?_
 simp only[go_sem]
 exact fun hw'=>hk _ hw' (H.le_trans l04 hl5)
end
end
section
section
variable {t:Tb} {va:AV} {xs0:List Nat} {h:H} {K:AV→H→Prop}
set_option maxHeartbeats 1000000 in
theorem RadixDigits_law {b:Nat} (hb64:b<18446744073709551616) (hv0:IsN h va xs0) (hx0:Dig xs0) (hk:∀h',h'.wf→K (.bool true) h'):ACalls Tryz.prog 19 [t.av,va, .int .u64 (b:Int)] h K:=by
 refine in_law17_RadixDigits sM fun hw=> ?_
 unfold c_law17_RadixDigits
 have hl0:=H.le_new hw (H.le_refl h) ⟨some 23,11,t.cells⟩
 have hr0:=H.rows_new h ⟨some 23,11,t.cells⟩
 simp only[go_sem,av_held,av_cells,cells_len,true_and]
 have hwg:=H.wf_new hw ⟨some 23,11,t.cells⟩
 generalize hg:h.new ⟨some 23,11,t.cells⟩=g0 at*
 refine Cut_calls (n:=10) (hv0.mono hl0) fun a ha=> ?_
 have hxd:Dig (xs0.take 10):=Dig.take hx0 10
 have hxl:(xs0.take 10).length≤10:=by simp;omega
 generalize xs0.take 10=xs at*
 simp only[go_sem]
 refine grd_sym (.int .u64 (b:Int)) (fun _ _=>by simp only[go_sem]) ?_
 simp only[go_sem]
 refine grd_sym (.bool (decide ((b:Int)<16))) (fun hb _=>by simp only[go_sem,hb]) ?_
 simp only[go_sem]
 refine cond_cut (fun ρ' g=>g=g0∧ρ' 2= .int .u64 (b:Int)∧ρ' 3= .ptr (some (h.next,0))∧∃ys,IsN g0 (ρ' 1) ys∧Dig ys∧ys.length≤10) ?_ ?_
 ·by_cases c1:1<b
  ·by_cases c2:b<16
   ·simp only[go_sem,show decide ((1:Int)<(b:Int))=true from decide_eq_true oM,show decide ((b:Int)<16)=true from decide_eq_true oM]
    refine Cut_calls (n:=3) ha fun a2 ha2=> ?_
    simp only[go_sem]
    exact⟨tR,tR,tR,_,ha2,Dig.take hxd 3,by simp;omega⟩
   ·simp only[go_sem,show decide ((1:Int)<(b:Int))=true from decide_eq_true oM,show decide ((b:Int)<16)=false from decide_eq_false oM]
    exact⟨tR,tR,tR,_,ha,hxd,hxl⟩
  ·simp only[go_sem,show decide ((1:Int)<(b:Int))=false from decide_eq_false oM]
   exact⟨tR,tR,tR,_,ha,hxd,hxl⟩
 clear ha hxd hxl
 rintro ρ' g ⟨rfl,q2,q3,ys,ha,hxd,hxl⟩
 simp only[go_sem,q2,q3,gsT hr0]
 refine raNew_calls fun e u g1 hw1 hl1 hn1 hue he ht=> ?_
 have ha1:=ha.mono hl1
 have wd:wlen (val 18446744073709551616 ys)≤10:=Nat.le_trans (wlen_len hxd) hxl
 simp only[go_sem,Option.isNone,Bool.false_bne,q2]
 refine Digits_calls (clamp_ok _) he ht hb64 (ha1.nn hxd oM) oM oM (fun hb _=> ?_) fun hb2 v ds g2 m2 dp2 hw2 hl2 ht2 hv hds=> ?_
 ·simp only[go_sem,q2,show decide ((b:Int)<2)=true from decide_eq_true oM,show((1:Int)==1)=true from rfl,show((0:Int)==0)=true from rfl,eqT (show((0:Nat):Int)=0 from rfl)]
  refine wakes17_calls fun g9 hw9 hl9=> ?_
  simp only[go_sem]
  exact fun _=>hk g9 hw9
 ·have ha2:=ha1.monoE ht hl2
  simp only[go_sem,q2,show decide ((b:Int)<2)=false from decide_eq_false oM,show((0:Int)==0)=true from rfl]
  refine from17_calls (ha2.nn hxd oM) fun f1 g4 hw4 hl4 n1=> ?_
  simp only[go_sem,q2]
  refine refDigits_calls n1 oM hb2 hb64 fun r ds' g5 hw5 hl5 hr hds'=> ?_
  obtain rfl:=hds.uniq oM hds'
  have hdl:=hds.len hb2 wd
  simp only[go_sem]
  refine kSame_calls (hv.isN.mono (H.le_trans hl4 hl5)) hr.isN oM ?_
  simp only[go_sem]
  refine wakes17_calls fun g9 hw9 hl9=> ?_
  simp only[go_sem]
  exact fun _=>hk g9 hw9
end
end
section
set_option maxRecDepth 100000
set_option maxRecDepth 100000 in
theorem RadixDigits_row (h:H) (avs:List AV) (_:h.wf) (r:ReadsAll Tryz.prog h [23,24,54] avs):ACalls Tryz.prog 19 avs h (fun r _=>r= .bool true):=by
 match avs,r with
 |[_,_,_],⟨r0,r1,r2,_⟩=>
  obtain⟨t0,rfl⟩:=reads_table r0
  obtain⟨xs,h1,hx,_⟩:=reads_words r1
  obtain⟨b,rfl,hb⟩:=reads_u64 r2
  exact RadixDigits_law hb h1 hx fun _ _=>rfl
end
end Ab
end Go.Proofs.YtnlkbdmmoplkoaaGreatDoor
