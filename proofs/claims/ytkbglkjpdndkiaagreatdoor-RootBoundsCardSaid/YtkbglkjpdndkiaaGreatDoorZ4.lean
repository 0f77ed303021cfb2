/- Joined texts: E1 E2 E3 E4 E5 F1 F2 F3 F4 K1 E9 M1 M2 M3. No condition. -/
import Derived.Test.YtkbglkjpdndkiaaGreatDoorZ3
import Derived.Laws.BitsLemmas
import Derived.Laws.Bits64
import Derived.Laws.Externs
import Derived.Lib.Mul64
namespace Go.Proofs.YtkbglkjpdndkiaaGreatDoor
namespace Ab
open Go Go.RowKit
set_option linter.unusedSimpArgs false
set_option linter.unusedVariables false
attribute [local go_sem ↓] x_mv x_pick x_bin x_beq x_peq x_seq x_cat x_aeq x_idxS x_idxV x_un x_cvI x_bts x_idx x_idxA x_fld x_ld x_st x_nn x_prt x_slc x_mk x_bsl x_bld x_box x_alloc x_len x_capo x_mnx x_app x_cpy x_mkf x_ext x_call x_callV x_bad s_none s_some s_nil s_cons s_chks w_skip w_reg tP_fin tP_no tP_alt w_seq w_cond w_block w_exit w_ret t_normal t_exit t_ret b_normal b_ret b_exit n_normal n_exit n_ret p_normal p_ret f_nil f_t f_c k_ops k_chk k_fin
attribute [local go_sem] e_t e_c e_f u_some u_none u_at env_at k_v k_pick k_add k_sub k_mul k_quo k_rem k_and k_or k_xor k_shl k_shr k_eql k_neq k_lss k_leq k_gtr k_geq k_beq k_peqn k_peqs k_neg k_not k_com k_cvI k_idxS k_idxV1 k_idxVn k_idx k_idxA k_idxG k_ldG k_gld k_seq k_cat k_aeq k_eqs k_fld k_ld1 k_ldn k_get k_gets k_sti k_stb k_stp k_sts k_stf k_sta k_put k_nn k_prt1 k_prtn k_slc_a k_slc_b k_slc_c k_mk k_agg k_bsl k_box k_len k_lenS k_cap k_max k_min k_ext k_callV k_true k_false k_gtt k_gtf k_gft k_gsk k_gff k_lit1i k_lit2i k_lit3i k_c0 k_c1 k_ck List.getElem?_cons_zero List.getElem?_cons_succ List.getElem?_nil Option.getD_some Option.getD_none tupOf List.map_cons List.map_nil Option.map_some Option.map_none List.nil_append List.cons_append List.append_nil Nat.mul_one Int.toNat_natCast Nat.zero_add
attribute [local go_sem] e_t e_c e_f u_some u_none u_at env_at k_v k_pick k_add k_sub k_mul k_quo k_rem k_and k_or k_xor k_shl k_shr k_eql k_neq k_lss k_leq k_gtr k_geq k_beq k_peqn k_peqs k_neg k_not k_com k_cvI k_idxS k_idxV1 k_idxVn k_idx k_idxA k_idxG k_ldG k_gld k_seq k_cat k_aeq k_eqs k_fld k_ld1 k_ldn k_get k_gets k_sti k_stb k_stp k_sts k_stf k_sta k_put k_nn k_prt1 k_prtn k_slc_a k_slc_b k_slc_c k_mk k_agg k_bsl k_box k_len k_lenS k_cap k_max k_min k_ext k_callV k_true k_false k_gtt k_gtf k_gft k_gsk k_gff k_lit1i k_lit2i k_lit3i k_c0 k_c1 k_ck List.getElem?_cons_zero List.getElem?_cons_succ List.getElem?_nil Option.getD_some Option.getD_none tupOf List.map_cons List.map_nil Option.map_some Option.map_none List.nil_append List.cons_append List.append_nil Nat.mul_one Int.toNat_natCast Nat.zero_add
--what a store into a cell of two leaves
attribute [local go_sem_proc] Nat.reduceEqDiff Nat.reduceAdd Int.reduceToNat
attribute [local go_sem_proc ↓] reduceIte
attribute [local go_sem] Bool.false_eq_true
theorem norm_calls {v:AV} {xs:List Nat} {h:H} {K:AV→H→Prop} (hv:IsN h v xs) (hlen:xs.length<4611686018427387904)
  (hk:∀r k,k≤xs.length→IsN h r (xs.take k)→(∀x∈xs.drop k,x=0)→(∀x,(xs.take k).getLast? =some x→x≠0)→K r h):ACalls Tryz.prog 61 [v] h K:=by
 obtain⟨id,off,c,rfl⟩:=hv.form
 refine in_ref02_norm (by simp) fun hw=> ?_
 unfold c_ref02_norm
 simp only[go_sem]
 refine⟨fun n ρ h'=>h'=h∧ρ 0= .sl id off xs.length c∧ρ 3= .int .i64 (n:Int)∧n≤xs.length∧(∀x∈xs.drop n,x=0),xs.length,⟨rfl,rfl,rfl,Nat.le_refl _,by simp⟩, ?_⟩
 rintro k ρ h' ⟨rfl,h0,h3,hk1,hz⟩
 have fin:(∀x,(xs.take k).getLast? =some x→x≠0)→K (.sl id off k c) h':=fun hl=>hk _ k hk1 (hv.take hk1) hz hl
 rcases Nat.eq_zero_or_pos k with rfl|hp
 ·have hd:decide ((0:Int)<((0:Nat):Int))=false:=by decide
  simp only[go_sem,h0,h3,hd]
  refine⟨by omega,by omega,hv.row, ?_⟩
  intro _
  exact fin (by simp)
 ·have hd:decide ((0:Int)<(k:Int))=true:=by simp;omega
  obtain⟨i,rfl,_,hg⟩:=hv.at (j:=k-1) (by omega)
  have hw1:IntKind.i64.wrap ((k:Int)-1)=((k-1:Nat):Int):=by rw[wI]<;>omega
  simp only[go_sem,h0,h3,hd,hw1]
  refine⟨by omega,by omega, ?_⟩
  simp only[go_sem,Int.toNat_natCast,Nat.mul_one,hg]
  by_cases hx:xs[k-1]=0
  ·have he:(((xs[k-1]:Nat):Int)==0)=true:=by simp[hx]
   simp only[go_sem,h0,h3,he,hw1]
   refine⟨k-1,by omega,by simp,by simp,by simp,by omega,fun x hm=> ?_⟩
   rw[List.drop_eq_getElem_cons (by omega)] at hm
   rcases List.mem_cons.1 hm with rfl|hm
   ·exact hx
   ·exact hz x (by rwa[show k-1+1=k from by omega] at hm)
  ·have he:(((xs[k-1]:Nat):Int)==0)=false:=by simp;omega
   simp only[go_sem,h0,h3,he]
   refine⟨by omega,by omega,hv.row, ?_⟩
   intro _
   refine fin fun x hl=> ?_
   rw[List.getLast?_eq_getElem?,List.length_take,Nat.min_eq_left hk1,List.getElem?_take,if_pos (by omega),List.getElem?_eq_getElem (by omega)] at hl
   injection hl with hl
   omega
theorem rem32 {x:Nat}:((x:Int)).tmod 4294967296=((x%4294967296:Nat):Int):=tmodN (b:=4294967296)
theorem quo32 {x:Nat} (hx:x<18446744073709551616):IntKind.u64.wrap (((x:Int)).tdiv 4294967296)=((x/4294967296:Nat):Int):=by
 rw[show((x:Int)).tdiv 4294967296=((x/4294967296:Nat):Int) from tdivN (b:=4294967296)]
 rw[wU]<;>omega
theorem incI {i:Nat} (hi:i<9223372036854775807):IntKind.i64.wrap ((i:Int)+1)=((i+1:Nat):Int):=by rw[wI]<;>omega
theorem decI {i:Nat} (hi:0<i) (hi2:i<9223372036854775807):IntKind.i64.wrap ((i:Int)-1)=((i-1:Nat):Int):=by rw[wI]<;>omega
theorem addU {a b:Nat} (h:a+b<18446744073709551616):IntKind.u64.wrap ((a:Int)+(b:Int))=((a+b:Nat):Int):=by rw[wU]<;>omega
theorem mulU {a b:Nat} (h:a*b<18446744073709551616):IntKind.u64.wrap ((a:Int)*(b:Int))=((a*b:Nat):Int):=by
 rw[←Int.natCast_mul,wU]<;>omega
theorem ltT {a b:Nat} (h:a<b):decide ((a:Int)<(b:Int))=true:=by simp;omega
theorem ltF {a b:Nat} (h:b≤a):decide ((a:Int)<(b:Int))=false:=by simp;omega
theorem norm_num {v:AV} {xs:List Nat} {h:H} {K:AV→H→Prop} (hv:IsN h v xs) (hd:∀x∈xs,x<4294967296) (hlen:xs.length<4611686018427387904)
  (hk:∀r,Num 4294967296 h r (val 4294967296 xs)→K r h):ACalls Tryz.prog 61 [v] h K:=
 norm_calls hv hlen fun r k _ hr hz ht=>hk r ⟨xs.take k,hr,fun x hx=>hd x (List.mem_of_mem_take hx),ht,val_take 4294967296 xs k hz⟩
theorem From_calls {v:AV} {ws:List Nat} {h:H} {K:AV→H→Prop} (hv:IsN h v ws) (hd:∀x∈ws,x<18446744073709551616) (hlen:ws.length≤1099511627776)
  (hk:∀r h',h'.wf→h.le h'→Num 4294967296 h' r (val 18446744073709551616 ws)→K r h'):ACalls Tryz.prog 53 [v] h K:=by
 obtain⟨id,off,c,rfl⟩:=hv.form
 refine in_ref02_From (by simp) fun hw=> ?_
 unfold c_ref02_From
 have hw0:IntKind.i64.wrap (2*(ws.length:Int))=((2*ws.length:Nat):Int):=by rw[wI]<;>omega
 simp only[go_sem,hw0]
 refine⟨by omega,by omega,by omega, ?_⟩
 refine⟨fun n ρ h'=>h'.wf∧h.le h'∧ρ 0= .sl id off ws.length c∧∃i out s,n=ws.length-i∧i≤ws.length∧ρ 4= .int .i64 (i:Nat)∧ρ 3=s∧IsG h.next h' s out∧(∀x∈out,x<4294967296)∧out.length=2*i∧val 4294967296 out=val 18446744073709551616 (ws.take i),ws.length,
  ⟨H.wf_new hw _,H.le_new hw (H.le_refl h) _,rfl,0,[],_,by omega,by omega,rfl,rfl,IsG.made0 (Nat.le_refl _) _,by simp,rfl,rfl⟩, ?_⟩
 rintro n ρ h' ⟨hw',hle,h0,i,out,s,rfl,hi,h4,h3,hs,hod,hol,hov⟩
 rcases Nat.lt_or_ge i ws.length with hlt|hge
 ·have hc:decide ((i:Int)<(ws.length:Int))=true:=by simp;omega
  obtain⟨j,rfl,_,hg⟩:=(hv.mono hle).at hlt
  have hwd:=hd _ (List.getElem_mem hlt)
  generalize hx:ws[i]=x at hg hwd
  have e2:=quo32 hwd
  simp only[go_sem,h0,h3,h4,hc]
  refine⟨by omega,by omega, ?_⟩
  simp only[go_sem,h0,h4,hg]
  refine⟨by omega,by omega,by omega, ?_⟩
  simp only[go_sem,hg,rem32,e2]
  refine⟨by omega, ?_⟩
  refine app_lit [x%4294967296,x/4294967296] hw hw' hle hs rfl rfl (by simp;omega) fun v' h2 hw2 hle2 hv2=> ?_
  have e3:IntKind.i64.wrap ((i:Int)+1)=((i+1:Nat):Int):=by rw[wI]<;>omega
  simp only[go_sem,h0,h4,e3]
  refine⟨_, ?_,hw2,hle2,by trivial,i+1,_,v',rfl,by omega,rfl,rfl,hv2, ?_,by simp;omega, ?_⟩
  ·omega
  ·intro y hy
   rcases List.mem_append.1 hy with hy|hy
   ·exact hod y hy
   ·simp only[List.mem_cons,List.not_mem_nil,or_false] at hy
    omega
  ·rw[val_append,hov,hol,val_take_succ 18446744073709551616 ws i hlt,hx,show 4294967296^(2*i)=18446744073709551616^i from by rw[Nat.pow_mul]]
   simp only[val]
   congr 2
   omega
 ·have hc:decide ((i:Int)<(ws.length:Int))=false:=by simp;omega
  simp only[go_sem,h0,h3,h4,hc]
  refine norm_num hs.isN hod (by omega) fun r hr=> ?_
  simp only[go_sem]
  intro _
  refine hk r h' hw' hle ?_
  rw[hov,List.take_of_length_le hge] at hr
  exact hr
theorem Small_calls {x:Nat} {h:H} {K:AV→H→Prop} (hx:x<18446744073709551616)
  (hk:∀r h',h'.wf→h.le h'→Num 4294967296 h' r x→K r h'):ACalls Tryz.prog 35 [.int .u64 (x:Int)] h K:=by
 refine in_ref02_Small (by simp) fun hw=> ?_
 unfold c_ref02_Small
 simp only[go_sem]
 refine From_calls (IsN.lit [x] _ rfl rfl) (by simpa using hx) (by simp) fun r h' hw' hle hr=> ?_
 simp only[go_sem]
 intro _
 refine hk r h' hw' (H.le_trans (H.le_new hw (H.le_refl h) _) hle) ?_
 simpa [val] using hr
def bigL:Nat:=1000000
structure Big (x:Nat):Prop where
 lt:x<4294967296^bigL
theorem Big.le {x y:Nat} (h:Big y) (hx:x≤y):Big x:=⟨Nat.lt_of_le_of_lt hx h.lt⟩
theorem lt_big {x k:Nat} (h:x<4294967296^k) (hk:k≤1000000):Big x:=⟨Nat.lt_of_lt_of_le h (Nat.pow_le_pow_right (by omega) (show k≤bigL from hk))⟩
theorem lt_big64 {x k:Nat} (h:x<18446744073709551616^k) (hk:k≤500000):Big x:=by
 refine lt_big (k:=2*k) ?_ (by omega)
 rw[Nat.pow_mul]
 exact h
theorem word_big {x:Nat} (h:x<18446744073709551616):Big x:=lt_big64 (k:=1) (by omega) (by omega)
theorem Num.open {h:H} {v:AV} {x:Nat} (hv:Num 4294967296 h v x) (hx:Big x):∃xs:List Nat,IsN h v xs∧(∀a∈xs,a<4294967296)∧(∀a,xs.getLast? =some a→a≠0)∧val 4294967296 xs=x∧xs.length≤1000000:=by
 obtain⟨xs,h1,h2,h3,h4⟩:=hv
 exact⟨xs,h1,h2,h3,h4,show xs.length≤bigL from digits_le 4294967296 (by omega) h3 (by rw[h4];exact hx.lt)⟩
def cmpI (x y:Nat):Int:=if x<y then-1 else if x=y then 0 else 1
theorem val_split (B:Nat) (xs:List Nat) (k:Nat) (h:k<xs.length):val B xs=val B (xs.take k)+B^k*(xs[k]+B*val B (xs.drop (k+1))):=by
 rw[val_cut B xs k (Nat.le_of_lt h)]
 rw[List.drop_eq_getElem_cons h]
 rfl
theorem val_lt_at (B:Nat) (hB:0<B) {xs ys:List Nat} (hx:∀a∈xs,a<B) (k:Nat) (h1:k<xs.length) (h2:k<ys.length) (hd:xs.drop (k+1)=ys.drop (k+1)) (hl:xs[k]<ys[k]):val B xs<val B ys:=by
 rw[val_split B xs k h1,val_split B ys k h2,hd]
 have:=val_lt_take B hB xs hx k
 generalize B*val B (ys.drop (k+1))=d
 have h3:B^k*(xs[k]+1+d)≤B^k*(ys[k]+d):=Nat.mul_le_mul_left _ (by omega)
 have h4:B^k*(xs[k]+1+d)=B^k*(xs[k]+d)+B^k:=by rw[←Nat.mul_succ];congr 1;omega
 omega
theorem Cmp_calls {v u:AV} {x y:Nat} {h:H} {K:AV→H→Prop} (nv:Num 4294967296 h v x) (nu:Num 4294967296 h u y) (hx:Big x) (hy:Big y)
  (hk:K (.int .i64 (cmpI x y)) h):ACalls Tryz.prog 31 [v,u] h K:=by
 obtain⟨xs,hv,hxd,hxt,rfl,hxl⟩:=nv.open hx
 obtain⟨ys,hu,hyd,hyt,rfl,hyl⟩:=nu.open hy
 obtain⟨id,off,c,rfl⟩:=hv.form
 obtain⟨id',off',c',rfl⟩:=hu.form
 refine in_ref02_Cmp (by simp) fun hw=> ?_
 unfold c_ref02_Cmp
 simp only[go_sem]
 refine cond_split (fun hc=> ?_) (fun hc=> ?_)
 ·have hne:xs.length≠ys.length:=by intro e;simp[e] at hc
  simp only[go_sem]
  refine cond_split (fun hc=> ?_) (fun hc=> ?_)
  ·have hlt:xs.length<ys.length:=by simp at hc;omega
   simp only[go_sem]
   intro _
   have:=digits_lt_iff 4294967296 (by omega) hxd hyt hlt
   simpa [cmpI,this] using hk
  ·have hlt:ys.length<xs.length:=by simp at hc;omega
   simp only[go_sem]
   intro _
   have:=digits_lt_iff 4294967296 (by omega) hyd hxt hlt
   have e:cmpI (val 4294967296 xs) (val 4294967296 ys)=1:=by unfold cmpI;rw[if_neg (by omega),if_neg (by omega)]
   simpa [e] using hk
 ·have heq:xs.length=ys.length:=by simp at hc;omega
  simp only[go_sem]
  refine⟨fun n ρ h'=>h'=h∧ρ 0= .sl id off xs.length c∧ρ 1= .sl id' off' ys.length c'∧ρ 5= .int .i64 ((n:Int)-1)∧n≤xs.length∧xs.drop n=ys.drop n,xs.length,
   ⟨rfl,rfl,rfl, ?_,Nat.le_refl _,by rw[List.drop_length,heq,List.drop_length]⟩, ?_⟩
  ·simp only[go_sem]
   rw[wI]<;>omega
  rintro n ρ h' ⟨rfl,h0,h1,h5,hn,hd⟩
  rcases Nat.eq_zero_or_pos n with rfl|hp
  ·have hc:decide ((0:Int)≤((0:Nat):Int)-1)=false:=by decide
   simp only[go_sem,h0,h1,h5,hc]
   intro _
   have:xs=ys:=by simpa using hd
   subst this
   simpa [cmpI] using hk
  ·have hc:decide ((0:Int)≤(n:Int)-1)=true:=by simp;omega
   have e5:(n:Int)-1=((n-1:Nat):Int):=by omega
   obtain⟨i,rfl,_,hg⟩:=hv.at (j:=n-1) (by omega)
   obtain⟨i',rfl,_,hg'⟩:=hu.at (j:=n-1) (by omega)
   rw[e5] at h5 hc
   have hd':xs.drop (n-1+1)=ys.drop (n-1+1):=by rw[show n-1+1=n from by omega];exact hd
   simp only[go_sem,h0,h1,h5,hc]
   refine⟨by omega,by omega, ?_⟩
   simp only[go_sem,h0,h1,h5,hg]
   refine⟨by omega,by omega, ?_⟩
   simp only[go_sem,h0,h1,h5,hg,hg']
   refine cond_split (fun hc=> ?_) (fun hc=> ?_)
   ·simp only[go_sem]
    intro _
    have:=val_lt_at 4294967296 (by omega) hxd (n-1) (by omega) (by omega) hd' (by simp at hc;omega)
    simpa [cmpI,this] using hk
   ·have hc1:ys[n-1]≤xs[n-1]:=by simp at hc;omega
    simp only[go_sem,h0,h1,h5,hg,hg']
    refine⟨by omega,by omega,by omega,by omega, ?_⟩
    refine cond_split (fun hc=> ?_) (fun hc=> ?_)
    ·simp only[go_sem]
     intro _
     have:=val_lt_at 4294967296 (by omega) hyd (n-1) (by omega) (by omega) hd'.symm (by simp at hc;omega)
     have e:cmpI (val 4294967296 xs) (val 4294967296 ys)=1:=by unfold cmpI;rw[if_neg (by omega),if_neg (by omega)]
     simpa [e] using hk
    ·have e:xs[n-1]=ys[n-1]:=by simp at hc;omega
     have e6:IntKind.i64.wrap (((n-1:Nat):Int)-1)=((n-1:Nat):Int)-1:=by rw[wI]<;>omega
     simp only[go_sem,h0,h1,h5,e6]
     refine⟨n-1,by omega,by trivial,by trivial,by trivial,by first|rfl|trivial|assumption,by omega, ?_⟩
     rw[List.drop_eq_getElem_cons (by omega),List.drop_eq_getElem_cons (l:=ys) (by omega),e,hd']
theorem val_take_get (B:Nat) (xs:List Nat) (k:Nat):val B (xs.take (k+1))=val B (xs.take k)+B^k*xs.getD k 0:=by
 rcases Nat.lt_or_ge k xs.length with h|h
 ·rw[val_take_succ B xs k h,List.getD_eq_getElem?_getD,List.getElem?_eq_getElem h]
  rfl
 ·rw[List.take_of_length_le (by omega),List.take_of_length_le h,List.getD_eq_getElem?_getD,List.getElem?_eq_none h]
  simp
theorem digit_snoc {B q s:Nat} (hB:0<B):q*(s%B)+q*B*(s/B)=q*s:=by
 rw[Nat.mul_assoc,←Nat.mul_add,Nat.mod_add_div]
theorem Add_calls {v u:AV} {x y:Nat} {h:H} {K:AV→H→Prop} (nv:Num 4294967296 h v x) (nu:Num 4294967296 h u y) (hx:Big x) (hy:Big y)
  (hk:∀r h',h'.wf→h.le h'→Num 4294967296 h' r (x+y)→K r h'):ACalls Tryz.prog 32 [v,u] h K:=by
 obtain⟨xs,hv,hxd,hxt,rfl,hxl⟩:=nv.open hx
 obtain⟨ys,hu,hyd,hyt,rfl,hyl⟩:=nu.open hy
 obtain⟨id,off,c,rfl⟩:=hv.form
 obtain⟨id',off',c',rfl⟩:=hu.form
 refine in_ref02_Add (by simp) fun hw=> ?_
 unfold c_ref02_Add
 have e0:IntKind.i64.wrap (max (xs.length:Int) (ys.length:Int)+1)=((max xs.length ys.length+1:Nat):Int):=by rw[wI]<;>omega
 simp only[go_sem,e0]
 refine⟨by omega,by omega,by omega, ?_⟩
 generalize hm:max xs.length ys.length=m
 refine⟨fun n ρ h'=>h'.wf∧h.le h'∧ρ 0= .sl id off xs.length c∧ρ 1= .sl id' off' ys.length c'∧∃i out s a,n=m+1-i∧i≤m+1∧ρ 7= .int .i64 (i:Nat)∧ρ 6= .int .u64 (a:Nat)∧a≤1∧(i=m+1→a=0)∧ρ 5=s∧IsG h.next h' s out∧(∀x∈out,x<4294967296)∧out.length=i∧
   val 4294967296 out+4294967296^i*a=val 4294967296 (xs.take i)+val 4294967296 (ys.take i),m+1,
  ⟨H.wf_new hw _,H.le_new hw (H.le_refl h) _,rfl,rfl,0,[],_,0,by omega,by omega,rfl,rfl,by omega,by omega,rfl,IsG.made0 (Nat.le_refl _) _,by simp,rfl,rfl⟩, ?_⟩
 rintro n ρ h' ⟨hw',hle,h0,h1,i,out,s,a,rfl,hi,h7,h6,ha,hae,h5,hs,hod,hol,hov⟩
 have e7:=incI (i:=i) (by omega)
 --what a round leaves
 have round:∀(t:Nat),t=a+xs.getD i 0+ys.getD i 0→i≤m→(∀v' h2,h2.wf→h.le h2→IsG h.next h2 v' (out++[t%4294967296])→∃k,k<m+1-i∧h2.wf∧h.le h2∧True∧True∧∃i' out' s' a',k=m+1-i'∧i'≤m+1∧AV.int .i64 ((i+1:Nat):Int)= .int .i64 (i':Nat)∧AV.int .u64 ((t/4294967296:Nat):Int)= .int .u64 (a':Nat)∧a'≤1∧(i'=m+1→a'=0)∧v'=s'∧IsG h.next h2 s' out'∧(∀x∈out',x<4294967296)∧out'.length=i'∧
   val 4294967296 out'+4294967296^i'*a'=val 4294967296 (xs.take i')+val 4294967296 (ys.take i')):=by
  intro t ht him v' h2 hw2 hle2 hv2
  have hxi:xs.getD i 0<4294967296:=by
   rcases Nat.lt_or_ge i xs.length with hh|hh
   ·rw[List.getD_eq_getElem?_getD,List.getElem?_eq_getElem hh];exact hxd _ (List.getElem_mem hh)
   ·rw[List.getD_eq_getElem?_getD,List.getElem?_eq_none hh];decide
  have hyi:ys.getD i 0<4294967296:=by
   rcases Nat.lt_or_ge i ys.length with hh|hh
   ·rw[List.getD_eq_getElem?_getD,List.getElem?_eq_getElem hh];exact hyd _ (List.getElem_mem hh)
   ·rw[List.getD_eq_getElem?_getD,List.getElem?_eq_none hh];decide
  refine⟨m+1-(i+1),by omega,hw2,hle2,True.intro,True.intro,i+1,_,v',t/4294967296,rfl,by omega,rfl,rfl,by omega, ?_,rfl,hv2, ?_,by simp;omega, ?_⟩
  ·intro e
   have e1:xs.getD i 0=0:=by rw[List.getD_eq_getElem?_getD,List.getElem?_eq_none (by omega)];rfl
   have e2:ys.getD i 0=0:=by rw[List.getD_eq_getElem?_getD,List.getElem?_eq_none (by omega)];rfl
   omega
  ·intro z hz
   rcases List.mem_append.1 hz with hz|hz
   ·exact hod z hz
   ·simp only[List.mem_cons,List.not_mem_nil,or_false] at hz
    omega
  ·rw[val_snoc,hol,val_take_get,val_take_get,Nat.pow_succ,Nat.add_assoc,digit_snoc (by omega),ht,Nat.mul_add,Nat.mul_add]
   omega
 rcases Nat.lt_or_ge i xs.length with hxi|hxi<;>rcases Nat.lt_or_ge i ys.length with hyi|hyi
 ·obtain⟨j,rfl,_,hg⟩:=(hv.mono hle).at hxi
  have hxb:=hxd _ (List.getElem_mem hxi)
  have ex:xs.getD i 0=xs[i]:=by rw[List.getD_eq_getElem?_getD,List.getElem?_eq_getElem hxi];rfl
  obtain⟨j',rfl,_,hg'⟩:=(hu.mono hle).at hyi
  have hyb:=hyd _ (List.getElem_mem hyi)
  have ey:ys.getD i 0=ys[i]:=by rw[List.getD_eq_getElem?_getD,List.getElem?_eq_getElem hyi];rfl
  rw[ex,ey] at round
  generalize xs[i]=p at*
  generalize ys[i]=q at*
  have r:=round (a+p+q) (by omega) (by omega)
  simp only[go_sem,h0,h1,h5,h6,h7,ltT hxi,ltT hyi,hg,addU (a:=a) (b:=p) (by omega),hg',addU (a:=a+p) (b:=q) (by omega),rem32]
  refine⟨by omega,by omega,by omega,by omega, ?_⟩
  try simp only[go_sem,h0,h1,h5,h6,h7,ltT hxi,ltT hyi,hg,addU (a:=a) (b:=p) (by omega),hg',addU (a:=a+p) (b:=q) (by omega),rem32]
  refine⟨by omega, ?_⟩
  refine app_lit [(a+p+q)%4294967296] hw hw' hle hs rfl rfl (by simp;omega) fun v' h2 hw2 hle2 hv2=> ?_
  simp only[go_sem,h0,h1,h6,h7,e7,quo32 (x:=a+p+q) (by omega)]
  refine⟨by omega, ?_⟩
  exact r v' h2 hw2 hle2 hv2
 ·obtain⟨j,rfl,_,hg⟩:=(hv.mono hle).at hxi
  have hxb:=hxd _ (List.getElem_mem hxi)
  have ex:xs.getD i 0=xs[i]:=by rw[List.getD_eq_getElem?_getD,List.getElem?_eq_getElem hxi];rfl
  have ey:ys.getD i 0=0:=by rw[List.getD_eq_getElem?_getD,List.getElem?_eq_none hyi];rfl
  rw[ex,ey] at round
  generalize xs[i]=p at*
  have r:=round (a+p) (by omega) (by omega)
  simp only[go_sem,h0,h1,h5,h6,h7,ltT hxi,ltF hyi,hg,addU (a:=a) (b:=p) (by omega),rem32]
  refine⟨by omega,by omega, ?_⟩
  try simp only[go_sem,h0,h1,h5,h6,h7,ltT hxi,ltF hyi,hg,addU (a:=a) (b:=p) (by omega),rem32]
  refine⟨by omega, ?_⟩
  refine app_lit [(a+p)%4294967296] hw hw' hle hs rfl rfl (by simp;omega) fun v' h2 hw2 hle2 hv2=> ?_
  simp only[go_sem,h0,h1,h6,h7,e7,quo32 (x:=a+p) (by omega)]
  refine⟨by omega, ?_⟩
  exact r v' h2 hw2 hle2 hv2
 ·have ex:xs.getD i 0=0:=by rw[List.getD_eq_getElem?_getD,List.getElem?_eq_none hxi];rfl
  obtain⟨j',rfl,_,hg'⟩:=(hu.mono hle).at hyi
  have hyb:=hyd _ (List.getElem_mem hyi)
  have ey:ys.getD i 0=ys[i]:=by rw[List.getD_eq_getElem?_getD,List.getElem?_eq_getElem hyi];rfl
  rw[ex,ey] at round
  generalize ys[i]=q at*
  have r:=round (a+q) (by omega) (by omega)
  simp only[go_sem,h0,h1,h5,h6,h7,ltF hxi,ltT hyi,hg',addU (a:=a) (b:=q) (by omega),rem32]
  refine⟨by omega,by omega, ?_⟩
  try simp only[go_sem,h0,h1,h5,h6,h7,ltF hxi,ltT hyi,hg',addU (a:=a) (b:=q) (by omega),rem32]
  refine⟨by omega, ?_⟩
  refine app_lit [(a+q)%4294967296] hw hw' hle hs rfl rfl (by simp;omega) fun v' h2 hw2 hle2 hv2=> ?_
  simp only[go_sem,h0,h1,h6,h7,e7,quo32 (x:=a+q) (by omega)]
  refine⟨by omega, ?_⟩
  exact r v' h2 hw2 hle2 hv2
 ·have ex:=ltF hxi
  have ey:=ltF hyi
  rcases Nat.eq_zero_or_pos a with ha|ha
  ·have ha0:decide ((0:Int)<(a:Int))=false:=by simp;omega
   simp only[go_sem,h0,h1,h5,h6,h7,ex,ey,ha0]
   refine norm_num hs.isN hod (by omega) fun r hr=> ?_
   simp only[go_sem]
   intro _
   refine hk r h' hw' hle ?_
   rw[List.take_of_length_le hxi,List.take_of_length_le hyi,ha] at hov
   simp only[Nat.mul_zero,Nat.add_zero] at hov
   rw[hov] at hr
   exact hr
  ·have ex1:=ltF hxi
   have ey1:=ltF hyi
   have ex:xs.getD i 0=0:=by rw[List.getD_eq_getElem?_getD,List.getElem?_eq_none hxi];rfl
   have ey:ys.getD i 0=0:=by rw[List.getD_eq_getElem?_getD,List.getElem?_eq_none hyi];rfl
   rw[ex,ey] at round
   have r:=round (a) (by omega) (by omega)
   have ha0:decide ((0:Int)<(a:Int))=true:=by simp;omega
   simp only[go_sem,h0,h1,h5,h6,h7,ex1,ey1,rem32,ha0]
   refine⟨by omega, ?_⟩
   refine app_lit [(a)%4294967296] hw hw' hle hs rfl rfl (by simp;omega) fun v' h2 hw2 hle2 hv2=> ?_
   simp only[go_sem,h0,h1,h6,h7,e7,quo32 (x:=a) (by omega)]
   refine⟨by omega, ?_⟩
   exact r v' h2 hw2 hle2 hv2
theorem val_set (B:Nat) (xs:List Nat) (k v:Nat) (h:k<xs.length):val B (xs.set k v)+B^k*xs[k]=val B xs+B^k*v:=by
 have h2:k<(xs.set k v).length:=by simpa using h
 rw[val_split B xs k h,val_split B (xs.set k v) k h2]
 simp only[List.getElem_set_self,List.take_set,List.drop_set,Nat.mul_add]
 rw[if_pos (by omega),List.set_eq_of_length_le (by simp;omega)]
 omega
theorem getD_set {xs:List Nat} {k j v:Nat}:(xs.set k v).getD j 0=if j=k∧k<xs.length then v else xs.getD j 0:=by
 rw[List.getD_eq_getElem?_getD,List.getD_eq_getElem?_getD,List.getElem?_set]
 by_cases h:k=j
 ·subst h
  by_cases h2:k<xs.length
  ·simp[h2]
  ·simp[h2]
 ·rw[if_neg h,if_neg (fun e=>h e.1.symm)]
theorem getD_at {xs:List Nat} {k:Nat} (h:k<xs.length):xs.getD k 0=xs[k]:=by rw[List.getD_eq_getElem?_getD,List.getElem?_eq_getElem h];rfl
theorem mem_set_lt {B:Nat} {xs:List Nat} {k v:Nat} (h:∀x∈xs,x<B) (hv:v<B):∀x∈xs.set k v,x<B:=by
 intro x hx
 rcases List.mem_or_eq_of_mem_set hx with h1|h1
 ·exact h x h1
 ·exact h1▸hv
theorem fit32 {o x y c:Nat} (ho:o<4294967296) (hx:x<4294967296) (hy:y<4294967296) (hc:c<4294967296):o+x*y+c<18446744073709551616∧(o+x*y+c)/4294967296<4294967296:=by
 have h1:x*y≤4294967295*4294967295:=Nat.mul_le_mul (by omega) (by omega)
 constructor<;>omega
theorem Mul_calls {v u:AV} {x y:Nat} {h:H} {K:AV→H→Prop} (nv:Num 4294967296 h v x) (nu:Num 4294967296 h u y) (hx:Big x) (hy:Big y)
  (hk:∀r h',h'.wf→h.le h'→Num 4294967296 h' r (x*y)→K r h'):ACalls Tryz.prog 29 [v,u] h K:=by
 obtain⟨xs,hv,hxd,hxt,rfl,hxl⟩:=nv.open hx
 obtain⟨ys,hu,hyd,hyt,rfl,hyl⟩:=nu.open hy
 obtain⟨id,off,c,rfl⟩:=hv.form
 obtain⟨id',off',c',rfl⟩:=hu.form
 refine in_ref02_Mul (by simp) fun hw=> ?_
 unfold c_ref02_Mul
 have e0:IntKind.i64.wrap ((xs.length:Int)+(ys.length:Int))=((xs.length+ys.length:Nat):Int):=by rw[wI]<;>omega
 simp only[go_sem,e0]
 refine⟨by omega,by omega,by omega, ?_⟩
 refine⟨fun n ρ h'=>h'.wf∧h.le h'∧ρ 0= .sl id off xs.length c∧ρ 1= .sl id' off' ys.length c'∧∃i out o c2,n=xs.length-i∧i≤xs.length∧ρ 6= .int .i64 (i:Nat)∧ρ 5= .sl o 0 (xs.length+ys.length) c2∧IsG h.next h' (.sl o 0 (xs.length+ys.length) c2) out∧(∀x∈out,x<4294967296)∧out.length=xs.length+ys.length∧
   (∀k,i+ys.length≤k→out.getD k 0=0)∧val 4294967296 out=val 4294967296 (xs.take i)*val 4294967296 ys,xs.length,
  ⟨H.wf_new hw _,H.le_new hw (H.le_refl h) _,rfl,rfl,0,List.replicate (xs.length+ys.length) 0,_,_,by omega,by omega,rfl,rfl,IsG.made (Nat.le_refl _) _, ?_,by simp, ?_, ?_⟩, ?_⟩
 ·intro z hz
  rw[List.mem_replicate] at hz
  omega
 ·intro k _
  simp[List.getD_eq_getElem?_getD,List.getElem?_replicate]
  split<;>rfl
 ·rw[val_zero 4294967296 _ (fun z hz=>(List.mem_replicate.1 hz).2)]
  simp[val]
 rintro n ρ h' ⟨hw',hle,h0,h1,i,out,o,c2,rfl,hi,h6,h5,hs,hod,hol,hoz,hov⟩
 rcases Nat.lt_or_ge i xs.length with hxi|hxi
 ·simp only[go_sem,h0,h1,h5,h6,ltT hxi]
  have hxb:=hxd _ (List.getElem_mem hxi)
  refine⟨fun n ρ h'=>h'.wf∧h.le h'∧ρ 0= .sl id off xs.length c∧ρ 1= .sl id' off' ys.length c'∧ρ 6= .int .i64 (i:Nat)∧ρ 5= .sl o 0 (xs.length+ys.length) c2∧∃j out a,n=ys.length-j∧j≤ys.length∧ρ 8= .int .i64 (j:Nat)∧ρ 7= .int .u64 (a:Nat)∧a<4294967296∧IsG h.next h' (.sl o 0 (xs.length+ys.length) c2) out∧(∀x∈out,x<4294967296)∧out.length=xs.length+ys.length∧
   (∀k,i+ys.length≤k→out.getD k 0=0)∧val 4294967296 out+4294967296^(i+j)*a=val 4294967296 (xs.take i)*val 4294967296 ys+4294967296^i*(xs[i]*val 4294967296 (ys.take j)),ys.length,
   ⟨hw',hle,by first|rfl|trivial|assumption,by first|rfl|trivial|assumption,by first|rfl|trivial|assumption,by first|rfl|trivial|assumption,0,out,0,by omega,by omega,rfl,rfl,by omega,hs,hod,hol,hoz, ?_⟩, ?_⟩
  ·rw[hov];simp[val]
  rintro n ρ h' ⟨hw',hle,h0,h1,h6,h5,j,out,a,rfl,hj,h8,h7,ha,hs,hod,hol,hoz,hov⟩
  have eij:IntKind.i64.wrap ((i:Int)+(j:Int))=((i+j:Nat):Int):=by rw[wI]<;>omega
  rcases Nat.lt_or_ge j ys.length with hyj|hyj
  ·have hyb:=hyd _ (List.getElem_mem hyj)
   obtain⟨i1,rfl,_,hg⟩:=(hv.mono hle).at hxi
   obtain⟨i2,rfl,_,hg'⟩:=(hu.mono hle).at hyj
   have hjo:i+j<out.length:=by omega
   obtain⟨i3,rfl,_,hgo⟩:=hs.isN.at hjo
   obtain⟨i3',r,e3,hb3,hn3,hr3,ho3,hc3,hput⟩:=hs.put hw' hjo
   injection e3 with e3
   subst e3
   have hob:=hod _ (List.getElem_mem hjo)
   have hset:=val_set 4294967296 out (i+j)
   rw[Nat.zero_add] at hgo
   obtain⟨f1,f2⟩:=fit32 hob hxb hyb ha
   have htk:=val_take_succ 4294967296 ys j hyj
   have hsz:=getD_at hjo
   generalize hx1:xs[i]=p at*
   generalize hy1:ys[j]=q at*
   generalize ho1:out[i+j]=w at*
   simp only[go_sem,h0,h1,h5,h6,h7,h8,ltT hyj,eij,hg,hg',hgo,mulU (a:=p) (b:=q) (by omega),addU (a:=w) (b:=p*q) (by omega),addU (a:=w+p*q) (b:=a) (by omega),rem32,quo32 f1]
   refine⟨by omega,by omega,by omega,by omega,by omega,by omega,by omega,by omega,by omega, ?_⟩
   have ej:=incI (i:=j) (by omega)
   simp only[go_sem,hr3,h0,h1,h5,h6,h8,ej,quo32 f1]
   refine⟨ho3,hc3,by omega, ?_⟩
   refine⟨ys.length-(j+1),by omega,H.wf_set hw' hn3 _,H.le_set hw hle hb3 _,by first|rfl|trivial|assumption,by first|rfl|trivial|assumption,by first|rfl|trivial|assumption,by first|rfl|trivial|assumption,j+1,_,_,rfl,by omega,rfl,rfl,f2,hput _,mem_set_lt hod (by omega),by simp;omega,fun k hk=> ?_, ?_⟩
   ·rw[getD_set,if_neg (by omega)]
    exact hoz k hk
   ·have e1:=hset ((w+p*q+a)%4294967296) hjo
    rw[ho1] at e1
    have e2:=digit_snoc (B:=4294967296) (q:=4294967296^(i+j)) (s:=w+p*q+a) (by omega)
    rw[show i+(j+1)=i+j+1 from rfl,Nat.pow_succ,htk]
    rw[Nat.mul_add,Nat.mul_add] at e2
    have e3:4294967296^i*(p*(val 4294967296 (ys.take j)+4294967296^j*q))=4294967296^i*(p*val 4294967296 (ys.take j))+4294967296^(i+j)*(p*q):=by
     rw[Nat.mul_add,Nat.mul_add,Nat.pow_add,Nat.mul_left_comm p,Nat.mul_assoc]
    rw[e3]
    omega
  ·have hjo:i+ys.length<out.length:=by omega
   obtain⟨i3',r,e3,hb3,hn3,hr3,ho3,hc3,hput⟩:=hs.put hw' hjo
   subst e3
   have eil:IntKind.i64.wrap ((i:Int)+(ys.length:Int))=((i+ys.length:Nat):Int):=by rw[wI]<;>omega
   have ei:=incI (i:=i) (by omega)
   have hj':j=ys.length:=by omega
   subst hj'
   simp only[go_sem,h0,h1,h5,h6,h7,h8,ltF hyj,eil,hr3,ei]
   refine⟨by omega,by omega,ho3,hc3, ?_⟩
   refine⟨xs.length-(i+1),by omega,H.wf_set hw' hn3 _,H.le_set hw hle hb3 _,by first|rfl|trivial|assumption,by first|rfl|trivial|assumption,i+1,_,_,_,rfl,by omega,rfl,rfl,hput a,mem_set_lt hod ha,by simp;omega,fun k hk=> ?_, ?_⟩
   ·rw[getD_set,if_neg (by omega)]
    exact hoz k (by omega)
   ·have e1:=val_set 4294967296 out (i+ys.length) a hjo
    rw[←getD_at hjo,hoz _ (Nat.le_refl _),Nat.mul_zero,Nat.add_zero,hov,List.take_length] at e1
    rw[e1,val_take_succ 4294967296 xs i hxi,Nat.add_mul,Nat.mul_assoc]
 ·simp only[go_sem,h0,h1,h5,h6,ltF hxi]
  refine norm_num hs.isN hod (by omega) fun r hr=> ?_
  simp only[go_sem]
  intro _
  refine hk r h' hw' hle ?_
  rw[List.take_of_length_le hxi] at hov
  rw[hov] at hr
  exact hr
theorem mask32 {x:Nat} (hx:x<18446744073709551616):bAnd .u64 (x:Int) 4294967295=((x%4294967296:Nat):Int):=by
 have:=bandN (a:=x) (b:=4294967295) hx (by omega)
 rw[show 4294967295=2^32-1 from rfl,Nat.and_two_pow_sub_one_eq_mod] at this
 exact this
theorem shrU {x n:Nat} (hn:n≤64):bShr .u64 (x:Int) n=((x/2^n:Nat):Int):=by
 unfold bShr
 rw[show IntKind.u64.bits=64 from rfl,Nat.min_eq_left hn,Int.fdiv_eq_ediv_of_nonneg _ (Int.le_of_lt (Int.pow_pos (by decide)))]
 simp
theorem shr32 {x:Nat}:bShr .u64 (x:Int) 32=((x/4294967296:Nat):Int):=shrU (n:=32) (by omega)
theorem wUn {x:Nat} (h:x<18446744073709551616):IntKind.u64.wrap (x:Int)=(x:Int):=by rw[wU]<;>omega
theorem Add64_calls {x y c:Nat} {h:H} {K:AV→H→Prop} (hx:x<18446744073709551616) (hy:y<18446744073709551616) (hc:c≤1)
  (hk:K (.tup [.int .u64 ((x+y+c)%18446744073709551616:Nat), .int .u64 ((x+y+c)/18446744073709551616:Nat)]) h):ACalls Tryz.prog 91 [.int .u64 (x:Int), .int .u64 (y:Int), .int .u64 (c:Int)] h K:=by
 intro base w0 μ w vs R hr
 obtain⟨v1,vs,rfl,r1,hr⟩:=hr.inv
 obtain⟨v2,vs,rfl,r2,hr⟩:=hr.inv
 obtain⟨v3,vs,rfl,r3,hr⟩:=hr.inv
 obtain rfl:=hr.inv_nil
 cases r1;cases r2;cases r3
 refine .inr ⟨.tuple #[.int .u64 ((x+y+c)%18446744073709551616:Nat), .int .u64 ((x+y+c)/18446744073709551616:Nat)], ?_,μ,_,h,μ.le_refl, ?_,R,hk⟩
 ·rw[run_callFunc_extern Tryz.func91 (by kernel_rfl) (by kernel_rfl) (by kernel_rfl) (e:=add64Entry) (by kernel_rfl)]
  show((add64Entry #[.int .u64 x, .int .u64 y, .int .u64 c]).run Tryz.prog w).andThen _=_
  rw[run_add64 (x:Int) y c (by omega) (by omega) (by omega) (by omega)]
  rfl
 ·exact((RelA.nil μ).cons (Rel.int _ _)).cons (Rel.int _ _)|>.tup
def sub64E:Array Value→Sem Value:=fun args=>do
 let (x,y,b)←Extern.MathBitsCarry.three "Sub64" args
 pure (Extern.MathBitsCarry.pair ((x+Extern.MathBitsCarry.m64-y-b)%Extern.MathBitsCarry.m64) (if x<y+b then 1 else 0))
theorem run_sub64E {P:Program} (x y b:Nat) (hb:b≤1) (w:World):
  (sub64E #[.int .u64 x, .int .u64 y, .int .u64 b]).run P w=
   .ok (.tuple #[.int .u64 (((x+18446744073709551616-y-b)%18446744073709551616:Nat):Int), .int .u64 ((if x<y+b then 1 else 0:Nat):Int)]) w:=by
 have:b=0∨b=1:=by omega
 rcases this with rfl|rfl<;>rfl
theorem Sub64_calls {x y c:Nat} {h:H} {K:AV→H→Prop} (hc:c≤1)
  (hk:K (.tup [.int .u64 ((x+18446744073709551616-y-c)%18446744073709551616:Nat), .int .u64 (if x<y+c then 1 else 0:Nat)]) h):ACalls Tryz.prog 81 [.int .u64 (x:Int), .int .u64 (y:Int), .int .u64 (c:Int)] h K:=by
 intro base w0 μ w vs R hr
 obtain⟨v1,vs,rfl,r1,hr⟩:=hr.inv
 obtain⟨v2,vs,rfl,r2,hr⟩:=hr.inv
 obtain⟨v3,vs,rfl,r3,hr⟩:=hr.inv
 obtain rfl:=hr.inv_nil
 cases r1;cases r2;cases r3
 refine .inr ⟨.tuple #[.int .u64 ((x+18446744073709551616-y-c)%18446744073709551616:Nat), .int .u64 (if x<y+c then 1 else 0:Nat)], ?_,μ,_,h,μ.le_refl, ?_,R,hk⟩
 ·rw[run_callFunc_extern Tryz.func81 (by kernel_rfl) (by kernel_rfl) (by kernel_rfl) (e:=sub64E) (by kernel_rfl)]
  show((sub64E #[.int .u64 x, .int .u64 y, .int .u64 c]).run Tryz.prog w).andThen _=_
  rw[run_sub64E x y c hc]
  rfl
 ·exact((RelA.nil μ).cons (Rel.int _ _)).cons (Rel.int _ _)|>.tup
theorem Mul64_calls {x y:Nat} {h:H} {K:AV→H→Prop} (hx:x<18446744073709551616) (hy:y<18446744073709551616)
  (hk:K (.tup [.int .u64 (x*y/18446744073709551616:Nat), .int .u64 (x*y%18446744073709551616:Nat)]) h):ACalls Tryz.prog 90 [.int .u64 (x:Int), .int .u64 (y:Int)] h K:=by
 refine in_bits_Mul64 (by simp) fun hw=> ?_
 unfold c_bits_Mul64
 obtain⟨m1,m2,m3,m4⟩:=Lib.mul64_hi x y hx hy
 have m5:IntKind.u64.wrap ((x:Int)*(y:Int))=((x*y%18446744073709551616:Nat):Int):=by rw[wUm,←Int.natCast_mul];rfl
 have hm:x*y/18446744073709551616<18446744073709551616:=by
  have:=Nat.mul_lt_mul'' hx hy
  omega
 rw[←m4] at hk hm
 have hm2:x/4294967296*(y/4294967296)<18446744073709551616:=by
  have:=Nat.mul_le_mul (show x/4294967296≤4294967295 by omega) (show y/4294967296≤4294967295 by omega)
  omega
 simp only[go_sem]
 simp only[mask32 hx,mask32 hy,shr32]
 have f1:x/4294967296*(y%4294967296)<18446744073709551616:=by omega
 have f2:x%4294967296*(y/4294967296)<18446744073709551616:=by omega
 generalize x%4294967296=x0 at*
 generalize y%4294967296=y0 at*
 generalize x/4294967296=x1 at*
 generalize y/4294967296=y1 at*
 simp only[mulU m1,mulU f1,mulU f2,mulU hm2,shr32,addU m2,mask32 m2,addU m3]
 rw[addU (a:=x1*y1) (by omega),addU hm,m5]
 exact⟨by omega,by omega,by omega,by omega,by omega,fun _=>hk⟩
def tabok (s:ByteArray):Bool:=(List.range 256).all fun y=>match s[y]? with
 |some b=>decide (b.toNat≤8∧y<2^b.toNat∧(b.toNat=0∨2^(b.toNat-1)≤y))
 |none=>false
theorem tab_use {s:ByteArray} {y:Nat} {K:AV→H→Prop} {h:H} (hs:tabok s=true) (hy:y<256) (hk:∀b:Nat,b≤8→y<2^b→(b=0∨2^(b-1)≤y)→K (.int .u8 (b:Int)) h):∃b,s[y]? =some b∧K (.int .u8 b.toNat) h:=by
 have:=(List.all_eq_true.1 hs) y (by simpa using hy)
 split at this
 ·rename_i b hb
  have:=of_decide_eq_true this
  exact⟨b,hb,hk b.toNat this.1 this.2.1 this.2.2⟩
 ·cases this
def BL (x L:Nat):Prop:=x<2^L∧(L=0∨2^(L-1)≤x)
theorem BL.up {x k L:Nat} (h:BL (x/2^k) L) (hL:L≠0):BL x (k+L):=by
 have hp:0<2^k:=Nat.pow_pos (by decide)
 refine⟨?_, .inr ?_⟩
 ·have:=(Nat.div_lt_iff_lt_mul hp).1 h.1
  rw[Nat.pow_add,Nat.mul_comm]
  exact this
 ·have h1:2^(L-1)≤x/2^k:=h.2.resolve_left hL
  have:=(Nat.le_div_iff_mul_le hp).1 h1
  rw[show k+L-1=(L-1)+k from by omega,Nat.pow_add]
  exact this
theorem BL.pos {x L:Nat} (h:BL x L) (hx:0<x):L≠0:=by
 rintro rfl
 have:=h.1
 omega
theorem Len64_calls {x:Nat} {h:H} {K:AV→H→Prop} (hx:x<18446744073709551616)
  (hk:∀L:Nat,L≤64→BL x L→K (.int .i64 (L:Int)) h):ACalls Tryz.prog 84 [.int .u64 (x:Int)] h K:=by
 refine in_bits_Len64 (by simp) fun hw=> ?_
 unfold c_bits_Len64
 have fin:∀(y k:Nat),y<256→k≤56→(∀b:Nat,b≤8→BL y b→K (.int .i64 ((k+b:Nat):Int)) h)→∀(s:ByteArray),tabok s=true→(0≤IntKind.u8.wrap (y:Int)∧∃b,s[(IntKind.u8.wrap (y:Int)).toNat]? =some b∧K (.int .i64 (IntKind.i64.wrap ((k:Int)+IntKind.i64.wrap ((b.toNat:Nat):Int)))) h):=by
  intro y k hy hk1 hf s hs
  have e:IntKind.u8.wrap (y:Int)=(y:Int):=by rw[IntKind.wrap_u8];omega
  rw[e,Int.toNat_natCast]
  refine⟨by omega, ?_⟩
  obtain⟨b,hb,hq⟩:=tab_use (K:=fun v h=>∀n:Int,v= .int .u8 n→K (.int .i64 (IntKind.i64.wrap ((k:Int)+IntKind.i64.wrap n))) h) (h:=h) hs hy (fun b h1 h2 h3 n en=>by
   injection en with _ en
   subst en
   rw[wI (n:=(b:Int)) (by omega) (by omega),wI (by omega) (by omega),←Int.natCast_add]
   exact hf b h1 ⟨h2,h3⟩)
  exact⟨b,hb,hq _ rfl⟩
 have w1:IntKind.i64.wrap (0+16)=16:=by decide
 have w2:IntKind.i64.wrap (32+16)=48:=by decide
 have w3:IntKind.i64.wrap (0+8)=8:=by decide
 have w4:IntKind.i64.wrap (16+8)=24:=by decide
 have w5:IntKind.i64.wrap (32+8)=40:=by decide
 have w6:IntKind.i64.wrap (48+8)=56:=by decide
 have s16:∀y:Nat,bShr .u64 (y:Int) 16=((y/2^16:Nat):Int):=fun y=>shrU (n:=16) (by omega)
 have s8:∀y:Nat,bShr .u64 (y:Int) 8=((y/2^8:Nat):Int):=fun y=>shrU (n:=8) (by omega)
 have s32:∀y:Nat,bShr .u64 (y:Int) 32=((y/2^32:Nat):Int):=fun y=>shrU (n:=32) (by omega)
 have up2:∀(a b c L:Nat),BL (x/2^a/2^b/2^c) L→0<x/2^a/2^b/2^c→BL x (a+b+c+L):=by
  intro a b c L hL h0
  rw[Nat.add_assoc,Nat.add_assoc]
  have n1:=hL.pos h0
  exact BL.up (BL.up (BL.up hL n1) (by omega)) (by omega)
 have dT:∀(t a:Nat),t≤a→decide ((t:Int)≤(a:Int))=true:=fun t a h=>by simp;omega
 have dF:∀(t a:Nat),a<t→decide ((t:Int)≤(a:Int))=false:=fun t a h=>by simp;omega
 rcases Nat.lt_or_ge x 4294967296 with c1|c1
 ·have d1:decide ((4294967296:Int)≤(x:Int))=false:=dF 4294967296 _ c1
  rcases Nat.lt_or_ge (x) 65536 with c2|c2
  ·have d2:decide ((65536:Int)≤((x:Nat):Int))=false:=dF 65536 _ c2
   rcases Nat.lt_or_ge (x) 256 with c3|c3
   ·have d3:decide ((256:Int)≤((x:Nat):Int))=false:=dF 256 _ c3
    simp only[go_sem,d1,d2,d3,s32,s16,s8,w1,w2,w3,w4,w5,w6]
    obtain⟨q1,b,q2,q3⟩:=fin (x) 0 (by omega) (by omega) (fun b hb hB=>hk (0+b) (by omega) (by simpa using hB)) s_bits_Len64_0 (by decide+kernel)
    exact⟨q1,b,q2,fun _=>q3⟩
   ·have d3:decide ((256:Int)≤((x:Nat):Int))=true:=dT 256 _ c3
    simp only[go_sem,d1,d2,d3,s32,s16,s8,w1,w2,w3,w4,w5,w6]
    refine⟨by omega, ?_⟩
    obtain⟨q1,b,q2,q3⟩:=fin ((x)/2^8) 8 (by omega) (by omega) (fun b hb hB=>hk (8+b) (by omega) (by have:=up2 0 0 8 b (by simpa using hB) (by simp;omega);simpa using this)) s_bits_Len64_0 (by decide+kernel)
    exact⟨q1,b,q2,fun _=>q3⟩
  ·have d2:decide ((65536:Int)≤((x:Nat):Int))=true:=dT 65536 _ c2
   rcases Nat.lt_or_ge ((x)/2^16) 256 with c3|c3
   ·have d3:decide ((256:Int)≤(((x)/2^16:Nat):Int))=false:=dF 256 _ c3
    simp only[go_sem,d1,d2,d3,s32,s16,s8,w1,w2,w3,w4,w5,w6]
    refine⟨by omega, ?_⟩
    obtain⟨q1,b,q2,q3⟩:=fin ((x)/2^16) 16 (by omega) (by omega) (fun b hb hB=>hk (16+b) (by omega) (by have:=up2 0 16 0 b (by simpa using hB) (by simp;omega);simpa using this)) s_bits_Len64_0 (by decide+kernel)
    exact⟨q1,b,q2,fun _=>q3⟩
   ·have d3:decide ((256:Int)≤(((x)/2^16:Nat):Int))=true:=dT 256 _ c3
    simp only[go_sem,d1,d2,d3,s32,s16,s8,w1,w2,w3,w4,w5,w6]
    refine⟨by omega,by omega, ?_⟩
    obtain⟨q1,b,q2,q3⟩:=fin (((x)/2^16)/2^8) 24 (by omega) (by omega) (fun b hb hB=>hk (24+b) (by omega) (by have:=up2 0 16 8 b (by simpa using hB) (by simp;omega);simpa using this)) s_bits_Len64_0 (by decide+kernel)
    exact⟨q1,b,q2,fun _=>q3⟩
 ·have d1:decide ((4294967296:Int)≤(x:Int))=true:=dT 4294967296 _ c1
  rcases Nat.lt_or_ge (x/2^32) 65536 with c2|c2
  ·have d2:decide ((65536:Int)≤((x/2^32:Nat):Int))=false:=dF 65536 _ c2
   rcases Nat.lt_or_ge (x/2^32) 256 with c3|c3
   ·have d3:decide ((256:Int)≤((x/2^32:Nat):Int))=false:=dF 256 _ c3
    simp only[go_sem,d1,d2,d3,s32,s16,s8,w1,w2,w3,w4,w5,w6]
    refine⟨by omega, ?_⟩
    obtain⟨q1,b,q2,q3⟩:=fin (x/2^32) 32 (by omega) (by omega) (fun b hb hB=>hk (32+b) (by omega) (by have:=up2 32 0 0 b (by simpa using hB) (by simp;omega);simpa using this)) s_bits_Len64_0 (by decide+kernel)
    exact⟨q1,b,q2,fun _=>q3⟩
   ·have d3:decide ((256:Int)≤((x/2^32:Nat):Int))=true:=dT 256 _ c3
    simp only[go_sem,d1,d2,d3,s32,s16,s8,w1,w2,w3,w4,w5,w6]
    refine⟨by omega,by omega, ?_⟩
    obtain⟨q1,b,q2,q3⟩:=fin ((x/2^32)/2^8) 40 (by omega) (by omega) (fun b hb hB=>hk (40+b) (by omega) (by have:=up2 32 0 8 b (by simpa using hB) (by simp;omega);simpa using this)) s_bits_Len64_0 (by decide+kernel)
    exact⟨q1,b,q2,fun _=>q3⟩
  ·have d2:decide ((65536:Int)≤((x/2^32:Nat):Int))=true:=dT 65536 _ c2
   rcases Nat.lt_or_ge ((x/2^32)/2^16) 256 with c3|c3
   ·have d3:decide ((256:Int)≤(((x/2^32)/2^16:Nat):Int))=false:=dF 256 _ c3
    simp only[go_sem,d1,d2,d3,s32,s16,s8,w1,w2,w3,w4,w5,w6]
    refine⟨by omega,by omega, ?_⟩
    obtain⟨q1,b,q2,q3⟩:=fin ((x/2^32)/2^16) 48 (by omega) (by omega) (fun b hb hB=>hk (48+b) (by omega) (by have:=up2 32 16 0 b (by simpa using hB) (by simp;omega);simpa using this)) s_bits_Len64_0 (by decide+kernel)
    exact⟨q1,b,q2,fun _=>q3⟩
   ·have d3:decide ((256:Int)≤(((x/2^32)/2^16:Nat):Int))=true:=dT 256 _ c3
    simp only[go_sem,d1,d2,d3,s32,s16,s8,w1,w2,w3,w4,w5,w6]
    refine⟨by omega,by omega,by omega, ?_⟩
    obtain⟨q1,b,q2,q3⟩:=fin (((x/2^32)/2^16)/2^8) 56 (by omega) (by omega) (fun b hb hB=>hk (56+b) (by omega) (by have:=up2 32 16 8 b (by simpa using hB) (by simp;omega);simpa using this)) s_bits_Len64_0 (by decide+kernel)
    exact⟨q1,b,q2,fun _=>q3⟩
theorem LeadingZeros64_calls {x:Nat} {h:H} {K:AV→H→Prop} (hx:x<18446744073709551616) (h0:0<x)
  (hk:∀s:Nat,s≤63→9223372036854775808≤x*2^s→x*2^s<18446744073709551616→K (.int .i64 (s:Int)) h):ACalls Tryz.prog 102 [.int .u64 (x:Int)] h K:=by
 refine in_bits_LeadingZeros64 (by simp) fun hw=> ?_
 unfold c_bits_LeadingZeros64
 simp only[go_sem]
 refine Len64_calls hx fun L hL hB=> ?_
 have n0:=hB.pos h0
 have e:IntKind.i64.wrap (64-(L:Int))=((64-L:Nat):Int):=by rw[wI]<;>omega
 simp only[go_sem,e]
 intro _
 have h1:=hB.2.resolve_left n0
 refine hk (64-L) (by omega) ?_ ?_
 ·have:=Nat.mul_le_mul_right (2^(64-L)) h1
  rw[←Nat.pow_add,show L-1+(64-L)=63 from by omega] at this
  exact this
 ·have:=Nat.mul_lt_mul_of_pos_right hB.1 (Nat.pow_pos (n:=64-L) (show 0<2 by decide))
  rw[←Nat.pow_add,show L+(64-L)=64 from by omega] at this
  exact this
theorem dig_le {U Y a b c W q r:Nat} (hY:Y=a*W+b) (hq:q*a+r=U) (hc:q*b≤W*r+c):q*Y≤U*W+c:=by
 have e1:q*(a*W+b)=q*a*W+q*b:=by rw[Nat.mul_add,Nat.mul_assoc]
 have e2:U*W=q*a*W+W*r:=by rw[←hq,Nat.add_mul,Nat.mul_comm r W]
 rw[hY,e1,e2]
 omega
theorem dig_lt {U Y a b c W q r:Nat} (hY:Y=a*W+b) (hq:q*a+r=U) (hc:W*r+c<q*b):U*W+c<q*Y:=by
 have e1:q*(a*W+b)=q*a*W+q*b:=by rw[Nat.mul_add,Nat.mul_assoc]
 have e2:U*W=q*a*W+W*r:=by rw[←hq,Nat.add_mul,Nat.mul_comm r W]
 rw[hY,e1,e2]
 omega
theorem dig_full {U Y c W:Nat} (hU:U<Y) (hc:c<W):(U*W+c)/Y<W:=by
 rw[Nat.div_lt_iff_lt_mul (by omega)]
 have:=Nat.mul_le_mul_right W (show U+1≤Y from hU)
 rw[Nat.add_mul] at this
 rw[Nat.mul_comm W Y]
 omega
structure Srch (U Y a b c Q q r:Nat):Prop where
 hY:Y=a*4294967296+b
 hU:U<Y
 ha:a<4294967296
 ha2:2147483648≤a
 hb:b<4294967296
 hc:c<4294967296
 hQ:Q=(U*4294967296+c)/Y
 hq:q*a+r=U
 hr:r<4294967296
 hle:Q≤q
 hq1:q≤4294967297
theorem Srch.start {U Y a b c Q:Nat} (hQ:Q=(U*4294967296+c)/Y) (hY:Y=a*4294967296+b) (hU:U<Y) (ha:a<4294967296) (ha2:2147483648≤a) (hb:b<4294967296) (hc:c<4294967296):Srch U Y a b c Q (U/a) (U%a):=by
 subst hQ
 have h0:U/a≤4294967297:=by
  have:U<(4294967297+1)*a:=by rw[hY] at hU;omega
  have:=(Nat.div_lt_iff_lt_mul (by omega:0<a)).2 this
  omega
 have h1:U%a<a:=Nat.mod_lt _ (by omega)
 refine⟨hY,hU,ha,ha2,hb,hc,rfl,Nat.div_add_mod' U a,by omega, ?_,h0⟩
 refine Nat.le_of_lt_succ ((Nat.div_lt_iff_lt_mul (by omega)).2 ?_)
 have e:U<(U/a+1)*a:=Nat.lt_mul_of_div_lt (Nat.lt_succ_self _) (by omega)
 have e2:U+1≤(U/a+1)*a:=e
 have e3:=Nat.mul_le_mul_right 4294967296 e2
 have e4:(U/a).succ*Y=(U/a+1)*a*4294967296+(U/a+1)*b:=by
  rw[hY,Nat.succ_eq_add_one,Nat.mul_add,Nat.mul_assoc]
 rw[e4]
 rw[Nat.add_mul] at e3
 omega
theorem Srch.done {U Y a b c Q q r:Nat} (s:Srch U Y a b c Q q r) (hc:q*b≤4294967296*r+c):q=Q:=by
 have h1:=dig_le (W:=4294967296) (c:=c) s.hY s.hq hc
 have h2:q≤Q:=by rw[s.hQ];exact(Nat.le_div_iff_mul_le (by have:=s.hU;omega)).2 h1
 have:=s.hle
 omega
theorem Srch.lt {U Y a b c Q q r:Nat} (s:Srch U Y a b c Q q r) (hc:4294967296≤q∨4294967296*r+c<q*b):Q<q:=by
 rcases hc with h|h
 ·have:=dig_full s.hU s.hc
  rw[←s.hQ] at this
  omega
 ·have h1:=dig_lt (W:=4294967296) (c:=c) s.hY s.hq h
  rw[s.hQ]
  exact(Nat.div_lt_iff_lt_mul (by have:=s.hU;omega)).2 h1
theorem Srch.next {U Y a b c Q q r:Nat} (s:Srch U Y a b c Q q r) (hc:Q<q) (hr:r+a<4294967296):Srch U Y a b c Q (q-1) (r+a):=by
 refine⟨s.hY,s.hU,s.ha,s.ha2,s.hb,s.hc,s.hQ, ?_,hr,by omega,by have:=s.hq1;omega⟩
 rw[←s.hq,Nat.sub_mul]
 have:1*a≤q*a:=Nat.mul_le_mul_right a (by omega)
 omega
theorem Srch.out {U Y a b c Q q r:Nat} (s:Srch U Y a b c Q q r) (hc:Q<q) (hr:4294967296≤r+a):q-1=Q:=by
 have e:(q-1)*a+(r+a)=U:=by
  rw[←s.hq,Nat.sub_mul]
  have:1*a≤q*a:=Nat.mul_le_mul_right a (by omega)
  omega
 have h0:(q-1)*b≤4294967296*(r+a)+c:=by
  have:=Nat.mul_le_mul (show q-1≤4294967296 by have:=s.hq1;omega) (Nat.le_of_lt s.hb)
  omega
 have h1:=dig_le (W:=4294967296) (c:=c) s.hY e h0
 have h2:q-1≤Q:=by rw[s.hQ];exact(Nat.le_div_iff_mul_le (by have:=s.hU;omega)).2 h1
 omega
theorem two_digits {U Y c1 c0 Q1 R Q0:Nat} (hQ1:Q1=(U*4294967296+c1)/Y) (hR:R=(U*4294967296+c1)%Y) (hQ0:Q0=(R*4294967296+c0)/Y) (hY:0<Y):
  (U*18446744073709551616+(c1*4294967296+c0))/Y=Q1*4294967296+Q0∧(U*18446744073709551616+(c1*4294967296+c0))%Y=(R*4294967296+c0)%Y:=by
 have e1:U*4294967296+c1=Y*Q1+R:=by rw[hQ1,hR,Nat.div_add_mod]
 have e2:R*4294967296+c0=Y*Q0+(R*4294967296+c0)%Y:=by rw[hQ0,Nat.div_add_mod]
 have e3:U*18446744073709551616+(c1*4294967296+c0)=Y*(Q1*4294967296+Q0)+(R*4294967296+c0)%Y:=by
  have e4:(U*4294967296+c1)*4294967296=(Y*Q1+R)*4294967296:=by rw[e1]
  rw[Nat.mul_add,←Nat.mul_assoc]
  revert e1 e2 e4
  generalize (R*4294967296+c0)%Y=rr
  generalize Y*Q1=t
  generalize Y*Q0=t0
  clear hQ1 hR hQ0 hY
  omega
 have hlt:(R*4294967296+c0)%Y<Y:=Nat.mod_lt _ hY
 rw[e3]
 constructor
 ·rw[Nat.mul_add_div hY,Nat.div_eq_of_lt hlt,Nat.add_zero]
 ·rw[Nat.mul_add_mod,Nat.mod_eq_of_lt hlt]
theorem shlU {x n:Nat} (hn:n≤64):bShl .u64 (x:Int) n=((x*2^n%18446744073709551616:Nat):Int):=by
 unfold bShl
 rw[show IntKind.u64.bits=64 from rfl,Nat.min_eq_left hn,wUm]
 have:((x:Int)*2^n)=((x*2^n:Nat):Int):=by simp
 rw[this]
 omega
theorem orU {a b s:Nat} (ha:a*2^s<18446744073709551616) (hb:b<2^s) (hs:s≤64):bOr .u64 ((a*2^s:Nat):Int) (b:Int)=((a*2^s+b:Nat):Int):=by
 have h2:b<18446744073709551616:=Nat.lt_of_lt_of_le hb (Nat.pow_le_pow_right (by decide) hs:2^s≤2^64)
 have:=borN ha h2
 rw[←Nat.shiftLeft_eq,←Nat.shiftLeft_add_eq_or_of_lt hb] at this
 rw[←Nat.shiftLeft_eq]
 exact this
theorem mulL {a:Nat} (h:4294967296*a<18446744073709551616):IntKind.u64.wrap (4294967296*(a:Int))=((4294967296*a:Nat):Int):=by rw[wU]<;>omega
theorem shift_split {hi lo y s:Nat} (hh:hi<y) (hl:lo<18446744073709551616) (hs:s≤63) (hY:y*2^s<18446744073709551616):
  hi*2^s<18446744073709551616∧lo/2^(64-s)<2^s∧(hi*2^s+lo/2^(64-s))*18446744073709551616+lo*2^s%18446744073709551616=(hi*18446744073709551616+lo)*2^s∧hi*2^s+lo/2^(64-s)<y*2^s:=by
 have hp:0<2^s:=Nat.pow_pos (by decide)
 have e64:2^(64-s)*2^s=18446744073709551616:=by rw[←Nat.pow_add,show 64-s+s=64 from by omega]
 have h2:lo/2^(64-s)<2^s:=by
  rw[Nat.div_lt_iff_lt_mul (Nat.pow_pos (by decide)),Nat.mul_comm,e64]
  exact hl
 have h1:hi*2^s+2^s≤y*2^s:=by
  have:=Nat.mul_le_mul_right (2^s) (show hi+1≤y from hh)
  rw[Nat.add_mul,Nat.one_mul] at this
  exact this
 have h3:lo*2^s/18446744073709551616=lo/2^(64-s):=by rw[←e64,Nat.mul_div_mul_right _ _ hp]
 refine⟨by omega,h2, ?_,by omega⟩
 rw[←h3]
 have e5:(hi*18446744073709551616+lo)*2^s=hi*2^s*18446744073709551616+lo*2^s:=by rw[Nat.add_mul,Nat.mul_assoc,Nat.mul_comm 18446744073709551616,←Nat.mul_assoc]
 rw[e5]
 generalize lo*2^s=t
 generalize hi*2^s=t2
 omega
theorem sub_back {U Y c Q:Nat} (hY:0<Y) (hY2:Y<18446744073709551616) (hQ:Q=(U*4294967296+c)/Y) (hc:c<4294967296):
  IntKind.u64.wrap (IntKind.u64.wrap (IntKind.u64.wrap ((U:Int)*4294967296)+(c:Int))-IntKind.u64.wrap ((Q:Int)*(Y:Int)))=(((U*4294967296+c)%Y:Nat):Int):=by
 have e1:U*4294967296+c=Q*Y+(U*4294967296+c)%Y:=by rw[hQ,Nat.div_add_mod']
 have hlt:(U*4294967296+c)%Y<Y:=Nat.mod_lt _ hY
 simp only[wUm]
 rw[←Int.natCast_mul]
 revert e1 hlt
 generalize (U*4294967296+c)%Y=R
 generalize Q*Y=t
 intro e1 hlt
 omega
theorem remU {U a:Nat} (hU:U<18446744073709551616):IntKind.u64.wrap ((U:Int)-IntKind.u64.wrap (((U/a:Nat):Int)*(a:Int)))=((U%a:Nat):Int):=by
 have h1:=Nat.div_add_mod' U a
 have h2:U/a*a≤U:=Nat.div_mul_le_self U a
 rw[mulU (by omega),wU (by omega) (by omega)]
 omega
theorem subN {a b:Nat} (h:b≤a) (ha:a<18446744073709551616):IntKind.u64.wrap ((a:Int)-(b:Int))=((a-b:Nat):Int):=by rw[wU]<;>omega
theorem subN1 {a:Nat} (h:1≤a) (ha:a<18446744073709551616):IntKind.u64.wrap ((a:Int)-1)=((a-1:Nat):Int):=subN (b:=1) h ha
theorem Div64_calls {hi lo y:Nat} {h:H} {K:AV→H→Prop} (hh:hi<y) (hl:lo<18446744073709551616) (hy:y<18446744073709551616)
  (hk:K (.tup [.int .u64 ((hi*18446744073709551616+lo)/y:Nat), .int .u64 ((hi*18446744073709551616+lo)%y:Nat)]) h):ACalls Tryz.prog 89 [.int .u64 (hi:Int), .int .u64 (lo:Int), .int .u64 (y:Int)] h K:=by
 refine in_bits_Div64 (by simp) fun hw=> ?_
 unfold c_bits_Div64
 have d1:((y:Int)==0)=false:=by simp;omega
 have d2:decide ((y:Int)≤(hi:Int))=false:=by simp;omega
 rcases Nat.eq_zero_or_pos hi with rfl|hp
 ·have d3:(((0:Nat):Int)==0)=true:=by decide
  have hq:lo/y≤lo:=Nat.div_le_self _ _
  simp only[go_sem,d1,d2,d3,tdivN,tmodN,wUn (x:=lo/y) (by omega)]
  rw[Nat.zero_mul,Nat.zero_add] at hk
  exact⟨by omega,by omega,fun _=>hk⟩
 ·have d3:((hi:Int)==0)=false:=by simp;omega
  simp only[go_sem,d1,d2,d3]
  refine LeadingZeros64_calls hy (by omega) fun s hs h63 h64=> ?_
  have e64:IntKind.u64.wrap (64-(s:Int))=((64-s:Nat):Int):=by rw[wU]<;>omega
  obtain⟨f1,f2,f3,f4⟩:=shift_split hh hl hs h64
  have hN:(hi*18446744073709551616+lo)/y=(hi*18446744073709551616+lo)*2^s/(y*2^s):=(Nat.mul_div_mul_right _ _ (Nat.pow_pos (by decide))).symm
  have hM:(hi*18446744073709551616+lo)%y=(hi*18446744073709551616+lo)*2^s%(y*2^s)/2^s:=by rw[Nat.mul_mod_mul_right,Nat.mul_div_cancel _ (Nat.pow_pos (by decide))]
  rw[hN,hM,←f3] at hk
  have s1:=shlU (x:=y) (n:=s) (by omega)
  have s2:=shlU (x:=hi) (n:=s) (by omega)
  have s3:=shrU (x:=lo) (n:=64-s) (by omega)
  have s4:=shlU (x:=lo) (n:=s) (by omega)
  rw[Nat.mod_eq_of_lt h64] at s1
  rw[Nat.mod_eq_of_lt f1] at s2
  have s5:=orU (b:=lo/2^(64-s)) f1 f2 (by omega)
  have k1:=mask32 (x:=y*2^s) h64
  have k2:=mask32 (x:=lo*2^s%18446744073709551616) (Nat.mod_lt _ (by decide))
  have hUb:hi*2^s+lo/2^(64-s)<18446744073709551616:=by omega
  have hya:0<y*2^s/4294967296:=by omega
  simp only[go_sem,wUn (x:=s) (by omega),e64,s1,s2,s3,s4,s5,shr32,k1,k2,tdivN,wUn (Nat.lt_of_le_of_lt (Nat.div_le_self (hi*2^s+lo/2^(64-s)) _) hUb),remU hUb]
  have hm:lo*2^s%18446744073709551616<18446744073709551616:=Nat.mod_lt _ (by decide)
  have hsh:∀x:Nat,bShr .u64 (x:Int) s=((x/2^s:Nat):Int):=fun x=>shrU (by omega)
  clear hN hM f3 f1 f2 s1 s2 s3 s4 s5 k1 k2
  generalize lo*2^s%18446744073709551616=un at*
  generalize hi*2^s+lo/2^(64-s)=U at*
  generalize y*2^s=Y at*
  refine⟨by omega,by omega,by omega,by omega,by omega,by omega,by omega, ?_⟩
  have hY:Y=Y/4294967296*4294967296+Y%4294967296:=by omega
  have hun:un=un/4294967296*4294967296+un%4294967296:=by omega
  have ha:Y/4294967296<4294967296:=by omega
  have ha2:2147483648≤Y/4294967296:=by omega
  have hb:Y%4294967296<4294967296:=by omega
  have hc1:un/4294967296<4294967296:=by omega
  have hc0:un%4294967296<4294967296:=by omega
  generalize Y/4294967296=a at*
  generalize Y%4294967296=b at*
  generalize un/4294967296=c1 at*
  generalize un%4294967296=c0 at*
  obtain⟨Q1,hQ1⟩:∃Q1,Q1=(U*4294967296+c1)/Y:=⟨_,rfl⟩
  obtain⟨R,hR⟩:∃R,R=(U*4294967296+c1)%Y:=⟨_,rfl⟩
  obtain⟨Q0,hQ0⟩:∃Q0,Q0=(R*4294967296+c0)/Y:=⟨_,rfl⟩
  obtain⟨t1,t2⟩:=two_digits hQ1 hR hQ0 (by omega)
  rw[←hun] at t1 t2
  rw[t1,t2] at hk
  have hRl:R<Y:=by rw[hR];exact Nat.mod_lt _ (by omega)
  have hQl:Q1<4294967296:=by rw[hQ1];exact dig_full f4 hc1
  have hQl0:Q0<4294967296:=by rw[hQ0];exact dig_full hRl hc0
  clear t1 t2 hun
  refine loop_cut (fun ρ' h'=>h'=h∧ρ' 2= .int .u64 ((Y:Nat):Int)∧ρ' 8= .int .u64 ((s:Nat):Int)∧ρ' 9= .int .u64 ((a:Nat):Int)∧ρ' 10= .int .u64 ((b:Nat):Int)∧ρ' 11= .int .u64 ((U:Nat):Int)∧ρ' 13= .int .u64 ((c1:Nat):Int)∧ρ' 14= .int .u64 ((c0:Nat):Int)∧ρ' 15= .int .u64 (Q1:Int)) ?_ ?_
  ·refine⟨fun n ρ h'=>h'=h∧ρ 2= .int .u64 ((Y:Nat):Int)∧ρ 8= .int .u64 ((s:Nat):Int)∧ρ 9= .int .u64 ((a:Nat):Int)∧ρ 10= .int .u64 ((b:Nat):Int)∧ρ 11= .int .u64 ((U:Nat):Int)∧ρ 13= .int .u64 ((c1:Nat):Int)∧ρ 14= .int .u64 ((c0:Nat):Int)∧∃q r,n=q∧ρ 15= .int .u64 (q:Nat)∧ρ 16= .int .u64 (r:Nat)∧Srch U Y a b c1 Q1 q r,_,⟨rfl,by first|rfl|trivial|assumption,by first|rfl|trivial|assumption,by first|rfl|trivial|assumption,by first|rfl|trivial|assumption,by first|rfl|trivial|assumption,by first|rfl|trivial|assumption,by first|rfl|trivial|assumption,_,_,rfl,by first|rfl|trivial|assumption,by first|rfl|trivial|assumption,Srch.start hQ1 hY f4 ha ha2 hb hc1⟩, ?_⟩
   rintro n ρ h' ⟨rfl,g2,g8,g9,g10,g11,g13,g14,q,r,rfl,hq,h16,hs⟩
   have hr:=hs.hr
   have hc:=hs.hc
   have hq1:=hs.hq1
   have wr:4294967296*r+c1<18446744073709551616:=by omega
   have again:Q1<n→decide ((4294967296:Int)≤((r+a:Nat):Int))=false→Srch U Y a b c1 Q1 (n-1) (r+a):=fun h1 h2=>hs.next h1 (by simp at h2;omega)
   have stop:Q1<n→decide ((4294967296:Int)≤((r+a:Nat):Int))=true→n-1=Q1:=fun h1 h2=>hs.out h1 (by simp at h2;omega)
   rcases Nat.lt_or_ge n 4294967296 with i1|i1
   ·have d1:decide ((4294967296:Int)≤(n:Int))=false:=by simp;omega
    have hqb:n*b<18446744073709551616:=by
     have h3:n*b≤4294967295*4294967295:=Nat.mul_le_mul (by omega) (by omega)
     omega
    rcases Nat.lt_or_ge (4294967296*r+c1) (n*b) with c2|c2
    ·have d2:=ltT c2
     have hlt:=hs.lt (.inr c2)
     have hn1:0<n:=Nat.lt_of_le_of_lt (Nat.zero_le _) hlt
     simp only[go_sem,hq,h16,g2,g8,g9,g10,g11,g13,g14,d1,mulU hqb,mulL (a:=r) (by omega),addU wr,d2,subN1 (a:=n) (by omega) (by omega),addU (a:=r) (b:=a) (by omega)]
     refine cond_split (fun c3=> ?_) (fun c3=> ?_)
     ·simp only[go_sem,g2,g8,g9,g10,g11,g13,g14]
      rw[stop hlt c3]
      exact⟨by first|rfl|trivial|assumption,by first|rfl|trivial|assumption,by first|rfl|trivial|assumption,by first|rfl|trivial|assumption,by first|rfl|trivial|assumption,by first|rfl|trivial|assumption,by first|rfl|trivial|assumption,by first|rfl|trivial|assumption,by first|rfl|trivial|assumption⟩
     ·simp only[go_sem,g2,g8,g9,g10,g11,g13,g14]
      exact⟨n-1,by omega,by first|rfl|trivial|assumption,by first|rfl|trivial|assumption,by first|rfl|trivial|assumption,by first|rfl|trivial|assumption,by first|rfl|trivial|assumption,by first|rfl|trivial|assumption,by first|rfl|trivial|assumption,by first|rfl|trivial|assumption,_,_,rfl,rfl,rfl,again hlt c3⟩
    ·have d2:=ltF c2
     simp only[go_sem,hq,h16,g2,g8,g9,g10,g11,g13,g14,d1,mulU hqb,mulL (a:=r) (by omega),addU wr,d2]
     rw[hs.done c2]
     exact⟨by first|rfl|trivial|assumption,by first|rfl|trivial|assumption,by first|rfl|trivial|assumption,by first|rfl|trivial|assumption,by first|rfl|trivial|assumption,by first|rfl|trivial|assumption,by first|rfl|trivial|assumption,by first|rfl|trivial|assumption,by first|rfl|trivial|assumption⟩
   ·have d1:decide ((4294967296:Int)≤(n:Int))=true:=by simp;omega
    have hlt:=hs.lt (.inl i1)
    have hn1:0<n:=Nat.lt_of_le_of_lt (Nat.zero_le _) hlt
    simp only[go_sem,hq,h16,g2,g8,g9,g10,g11,g13,g14,d1,subN1 (a:=n) (by omega) (by omega),addU (a:=r) (b:=a) (by omega)]
    refine cond_split (fun c3=> ?_) (fun c3=> ?_)
    ·simp only[go_sem,g2,g8,g9,g10,g11,g13,g14]
     rw[stop hlt c3]
     exact⟨by first|rfl|trivial|assumption,by first|rfl|trivial|assumption,by first|rfl|trivial|assumption,by first|rfl|trivial|assumption,by first|rfl|trivial|assumption,by first|rfl|trivial|assumption,by first|rfl|trivial|assumption,by first|rfl|trivial|assumption,by first|rfl|trivial|assumption⟩
    ·simp only[go_sem,g2,g8,g9,g10,g11,g13,g14]
     exact⟨n-1,by omega,by first|rfl|trivial|assumption,by first|rfl|trivial|assumption,by first|rfl|trivial|assumption,by first|rfl|trivial|assumption,by first|rfl|trivial|assumption,by first|rfl|trivial|assumption,by first|rfl|trivial|assumption,by first|rfl|trivial|assumption,_,_,rfl,rfl,rfl,again hlt c3⟩
  ·rintro ρ h1 ⟨rfl,g2,g8,g9,g10,g11,g13,g14,g15⟩
   have hb1:=sub_back (U:=U) (c:=c1) (by omega) h64 hQ1 hc1
   rw[←hR] at hb1
   have hRb:R<18446744073709551616:=by omega
   simp only[go_sem,g2,g8,g9,g10,g11,g13,g14,g15,hb1,tdivN,wUn (Nat.lt_of_le_of_lt (Nat.div_le_self R a) hRb),remU hRb]
   refine⟨by omega, ?_⟩
   refine loop_cut (fun ρ' h'=>h'=h1∧ρ' 2= .int .u64 ((Y:Nat):Int)∧ρ' 8= .int .u64 ((s:Nat):Int)∧ρ' 9= .int .u64 ((a:Nat):Int)∧ρ' 10= .int .u64 ((b:Nat):Int)∧ρ' 14= .int .u64 ((c0:Nat):Int)∧ρ' 15= .int .u64 ((Q1:Nat):Int)∧ρ' 17= .int .u64 ((R:Nat):Int)∧ρ' 18= .int .u64 (Q0:Int)) ?_ ?_
   ·refine⟨fun n ρ h'=>h'=h1∧ρ 2= .int .u64 ((Y:Nat):Int)∧ρ 8= .int .u64 ((s:Nat):Int)∧ρ 9= .int .u64 ((a:Nat):Int)∧ρ 10= .int .u64 ((b:Nat):Int)∧ρ 14= .int .u64 ((c0:Nat):Int)∧ρ 15= .int .u64 ((Q1:Nat):Int)∧ρ 17= .int .u64 ((R:Nat):Int)∧∃q r,n=q∧ρ 18= .int .u64 (q:Nat)∧ρ 16= .int .u64 (r:Nat)∧Srch R Y a b c0 Q0 q r,_,⟨rfl,by first|rfl|trivial|assumption,by first|rfl|trivial|assumption,by first|rfl|trivial|assumption,by first|rfl|trivial|assumption,by first|rfl|trivial|assumption,by first|rfl|trivial|assumption,by first|rfl|trivial|assumption,_,_,rfl,by first|rfl|trivial|assumption,by first|rfl|trivial|assumption,Srch.start hQ0 hY hRl ha ha2 hb hc0⟩, ?_⟩
    rintro n ρ h' ⟨rfl,g2,g8,g9,g10,g14,g15,g17,q,r,rfl,hq,h16,hs⟩
    have hr:=hs.hr
    have hc:=hs.hc
    have hq1:=hs.hq1
    have wr:4294967296*r+c0<18446744073709551616:=by omega
    have again:Q0<n→decide ((4294967296:Int)≤((r+a:Nat):Int))=false→Srch R Y a b c0 Q0 (n-1) (r+a):=fun h1 h2=>hs.next h1 (by simp at h2;omega)
    have stop:Q0<n→decide ((4294967296:Int)≤((r+a:Nat):Int))=true→n-1=Q0:=fun h1 h2=>hs.out h1 (by simp at h2;omega)
    rcases Nat.lt_or_ge n 4294967296 with i1|i1
    ·have d1:decide ((4294967296:Int)≤(n:Int))=false:=by simp;omega
     have hqb:n*b<18446744073709551616:=by
      have h3:n*b≤4294967295*4294967295:=Nat.mul_le_mul (by omega) (by omega)
      omega
     rcases Nat.lt_or_ge (4294967296*r+c0) (n*b) with c2|c2
     ·have d2:=ltT c2
      have hlt:=hs.lt (.inr c2)
      have hn1:0<n:=Nat.lt_of_le_of_lt (Nat.zero_le _) hlt
      simp only[go_sem,hq,h16,g2,g8,g9,g10,g14,g15,g17,d1,mulU hqb,mulL (a:=r) (by omega),addU wr,d2,subN1 (a:=n) (by omega) (by omega),addU (a:=r) (b:=a) (by omega)]
      refine cond_split (fun c3=> ?_) (fun c3=> ?_)
      ·simp only[go_sem,g2,g8,g9,g10,g14,g15,g17]
       rw[stop hlt c3]
       exact⟨by first|rfl|trivial|assumption,by first|rfl|trivial|assumption,by first|rfl|trivial|assumption,by first|rfl|trivial|assumption,by first|rfl|trivial|assumption,by first|rfl|trivial|assumption,by first|rfl|trivial|assumption,by first|rfl|trivial|assumption,by first|rfl|trivial|assumption⟩
      ·simp only[go_sem,g2,g8,g9,g10,g14,g15,g17]
       exact⟨n-1,by omega,by first|rfl|trivial|assumption,by first|rfl|trivial|assumption,by first|rfl|trivial|assumption,by first|rfl|trivial|assumption,by first|rfl|trivial|assumption,by first|rfl|trivial|assumption,by first|rfl|trivial|assumption,by first|rfl|trivial|assumption,_,_,rfl,rfl,rfl,again hlt c3⟩
     ·have d2:=ltF c2
      simp only[go_sem,hq,h16,g2,g8,g9,g10,g14,g15,g17,d1,mulU hqb,mulL (a:=r) (by omega),addU wr,d2]
      rw[hs.done c2]
      exact⟨by first|rfl|trivial|assumption,by first|rfl|trivial|assumption,by first|rfl|trivial|assumption,by first|rfl|trivial|assumption,by first|rfl|trivial|assumption,by first|rfl|trivial|assumption,by first|rfl|trivial|assumption,by first|rfl|trivial|assumption,by first|rfl|trivial|assumption⟩
    ·have d1:decide ((4294967296:Int)≤(n:Int))=true:=by simp;omega
     have hlt:=hs.lt (.inl i1)
     have hn1:0<n:=Nat.lt_of_le_of_lt (Nat.zero_le _) hlt
     simp only[go_sem,hq,h16,g2,g8,g9,g10,g14,g15,g17,d1,subN1 (a:=n) (by omega) (by omega),addU (a:=r) (b:=a) (by omega)]
     refine cond_split (fun c3=> ?_) (fun c3=> ?_)
     ·simp only[go_sem,g2,g8,g9,g10,g14,g15,g17]
      rw[stop hlt c3]
      exact⟨by first|rfl|trivial|assumption,by first|rfl|trivial|assumption,by first|rfl|trivial|assumption,by first|rfl|trivial|assumption,by first|rfl|trivial|assumption,by first|rfl|trivial|assumption,by first|rfl|trivial|assumption,by first|rfl|trivial|assumption,by first|rfl|trivial|assumption⟩
     ·simp only[go_sem,g2,g8,g9,g10,g14,g15,g17]
      exact⟨n-1,by omega,by first|rfl|trivial|assumption,by first|rfl|trivial|assumption,by first|rfl|trivial|assumption,by first|rfl|trivial|assumption,by first|rfl|trivial|assumption,by first|rfl|trivial|assumption,by first|rfl|trivial|assumption,by first|rfl|trivial|assumption,_,_,rfl,rfl,rfl,again hlt c3⟩
   ·rintro ρ h' ⟨rfl,g2,g8,g9,g10,g14,g15,g17,g18⟩
    have hb0:=sub_back (U:=R) (c:=c0) (by omega) h64 hQ0 hc0
    have e1:IntKind.u64.wrap (IntKind.u64.wrap ((Q1:Int)*4294967296)+(Q0:Int))=((Q1*4294967296+Q0:Nat):Int):=by
     rw[wUm,wUm]
     omega
    simp only[go_sem,g2,g8,g9,g10,g14,g15,g17,g18,hb0,e1,hsh]
    exact⟨by omega,fun _=>hk⟩
theorem for_rule {P:Program} {c:AC} {Q:Post} {ρ:Env} {h:H} (I:Nat→Env→H→Prop) (N:Nat) (h0:I 0 ρ h) (hN:∀i ρ h,I i ρ h→i≤N) (hs:∀i ρ h,I i ρ h→awp P c (athen (fun ρ' h'=>I (i+1) ρ' h') Q) ρ h):awp P (.loop c) Q ρ h:=by
 refine⟨fun n ρ h=>∃i,n=N-i∧I i ρ h,N,⟨0,by omega,h0⟩, ?_⟩
 rintro n ρ h ⟨i,rfl,hI⟩
 refine awp_mono (fun e ρ' h' hh=> ?_) (hs i ρ h hI)
 cases e with
 |normal=>
  have h1:=hN _ _ _ hh
  exact⟨N-(i+1),by omega,i+1,rfl,hh⟩
 |_=>exact hh
theorem eqF {a b:Int} (h:a≠b):(a==b)=false:=beq_eq_false_iff_ne.2 h
theorem eqT {a b:Int} (h:a=b):(a==b)=true:=beq_iff_eq.2 h
theorem neT {a b:Int} (h:a≠b):(a !=b)=true:=bne_iff_ne.2 h
theorem neF {a b:Int} (h:a=b):(a !=b)=false:=by rw[h];exact bne_self_eq_false b
theorem leT {a b:Nat} (h:a≤b):decide ((a:Int)≤(b:Int))=true:=by simp;omega
theorem leF {a b:Nat} (h:b<a):decide ((a:Int)≤(b:Int))=false:=by simp;omega
theorem minN {a b:Nat}:min (a:Int) (b:Int)=((min a b:Nat):Int):=by omega
theorem maxN {a b:Nat}:max (a:Int) (b:Int)=((max a b:Nat):Int):=by omega
theorem take_min {α:Type} {l:List α} {n:Nat}:l.take (min l.length n)=l.take n:=by
 rw[List.take_eq_take_iff]
 omega
theorem Cut_calls {v:AV} {xs:List Nat} {n:Nat} {h:H} {K:AV→H→Prop} (hv:IsN h v xs) (hk:∀r,IsN h r (xs.take n)→K r h):ACalls Tryz.prog 26 [v, .int .i64 (n:Int)] h K:=by
 obtain⟨id,off,c,rfl⟩:=hv.form
 refine in_keep_Cut (by simp) fun hw=> ?_
 unfold c_keep_Cut
 simp only[go_sem,minN]
 refine⟨by omega,by omega,hv.row,fun _=> ?_⟩
 have:=hv.take (b:=min xs.length n) (c':=c) (by omega)
 rw[take_min] at this
 exact hk _ this
theorem putAt_zero {l m:List AV}:putAt l 0 m=m++l.drop m.length:=by simp[putAt]
theorem getD_lt {B:Nat} (hB:0<B) {xs:List Nat} (hx:∀x∈xs,x<B) (i:Nat):xs.getD i 0<B:=by
 rcases Nat.lt_or_ge i xs.length with hh|hh
 ·rw[List.getD_eq_getElem?_getD,List.getElem?_eq_getElem hh];exact hx _ (List.getElem_mem hh)
 ·rw[List.getD_eq_getElem?_getD,List.getElem?_eq_none hh];exact hB
theorem getD_ge {xs:List Nat} {i:Nat} (h:xs.length≤i):xs.getD i 0=0:=by
 rw[List.getD_eq_getElem?_getD,List.getElem?_eq_none h];rfl
theorem sub_end {B:Nat} (hB:0<B) {out xs ys:List Nat} {c:Nat} (ho:∀x∈out,x<B) (hl:out.length=xs.length) (hy:val B ys≤val B xs) (hv:val B out+val B (ys.take xs.length)=val B xs+B^xs.length*c) (hyl:ys.length≤xs.length):val B out=val B xs-val B ys:=by
 rw[List.take_of_length_le hyl] at hv
 have h1:=val_lt B hB out ho
 rw[hl] at h1
 rcases Nat.eq_zero_or_pos c with h0|h0
 ·subst h0;omega
 ·have:B^xs.length*1≤B^xs.length*c:=Nat.mul_le_mul_left _ h0
  omega
def Dig (xs:List Nat):Prop:=∀x∈xs,x<18446744073709551616
def Top (xs:List Nat):Prop:=∀x,xs.getLast? =some x→x≠0
def wlen (x:Nat):Nat:=if x=0 then 0 else Nat.log2 x/64+1
theorem pow64 (k:Nat):18446744073709551616^k=2^(64*k):=by rw[Nat.pow_mul]
theorem wlen_le {x k:Nat}:wlen x≤k↔x<18446744073709551616^k:=by
 unfold wlen
 split
 ·rename_i h
  subst h
  exact⟨fun _=>Nat.pow_pos (by omega),fun _=>Nat.zero_le k⟩
 ·rename_i h
  rw[pow64,←Nat.log2_lt h]
  omega
theorem lt_wlen {x k:Nat}:k<wlen x↔18446744073709551616^k≤x:=by
 have:=wlen_le (x:=x) (k:=k)
 omega
theorem wlen_lt (x:Nat):x<18446744073709551616^wlen x:=wlen_le.1 (Nat.le_refl _)
theorem wlen_zero:wlen 0=0:=rfl
theorem wlen_eq_zero {x:Nat}:wlen x=0↔x=0:=by
 have:=wlen_le (x:=x) (k:=0)
 rw[Nat.pow_zero] at this
 omega
theorem wlen_mono {x y:Nat} (h:x≤y):wlen x≤wlen y:=wlen_le.2 (Nat.lt_of_le_of_lt h (wlen_lt y))
def wordL:Nat:=500000
theorem wordL_eq:wordL=500000:=rfl
theorem wlen_big {x:Nat} (h:Big x):wlen x≤wordL:=wlen_le.2 (by
 have h1:=h.lt
 have e:bigL=2*wordL:=rfl
 have e2:4294967296^2=18446744073709551616:=by decide
 rw[e,Nat.pow_mul,e2] at h1
 exact h1)
theorem IsG.lit {b:Nat} {h:H} (hb:b≤h.next) {l:List AV} (ys:List Nat) {n:Nat} (hn:n=ys.length) (hl:l=W .u64 (ys.map fun n:Nat=>(n:Int))):IsG b (h.new ⟨some 73,1,l⟩) (.sl (some h.next) 0 n (some n)) ys:=by
 subst hn
 refine⟨some h.next,some ys.length,by simp, .inr ⟨h.next,_,rfl,hb,H.rows_new _ _,rfl,rfl, ?_, ?_⟩⟩
 ·rw[hl];simp[W]
 ·rw[hl];exact W_all _ _
theorem top_len {xs:List Nat} (hd:Dig xs) (ht:Top xs):xs.length=wlen (val 18446744073709551616 xs):=by
 have h1:wlen (val 18446744073709551616 xs)≤xs.length:=wlen_le.2 (val_lt 18446744073709551616 (by omega) xs hd)
 rcases List.eq_nil_or_concat xs with rfl|⟨ys,y,e⟩
 ·rfl
 ·have h2:=val_ge 18446744073709551616 xs ht (by rw[e];simp)
  have h3:=lt_wlen.2 h2
  have:0<xs.length:=by rw[e];simp
  omega
theorem top_inj {xs ys:List Nat} (hx:Dig xs) (hy:Dig ys) (tx:Top xs) (ty:Top ys) (h:val 18446744073709551616 xs=val 18446744073709551616 ys):xs=ys:=val_inj 18446744073709551616 (by omega) xs ys (by rw[top_len hx tx,top_len hy ty,h]) hx hy h
def Nn (h:H) (v:AV) (x:Nat):Prop:=∃xs,IsN h v xs∧Dig xs∧xs.length≤1099511627776∧val 18446744073709551616 xs=x
def Nf (b:Nat) (h:H) (v:AV) (x:Nat):Prop:=∃xs,IsG b h v xs∧Dig xs∧Top xs∧val 18446744073709551616 xs=x
def Nt (h:H) (v:AV) (x:Nat):Prop:=∃xs,IsN h v xs∧Dig xs∧Top xs∧val 18446744073709551616 xs=x
theorem Nn.mono {h h':H} {v:AV} {x:Nat} (hv:Nn h v x) (hl:h.le h'):Nn h' v x:=by
 obtain⟨xs,h1,h2⟩:=hv
 exact⟨xs,h1.mono hl,h2⟩
theorem Nf.mono {b:Nat} {h h':H} {v:AV} {x:Nat} (hv:Nf b h v x) (hl:h.le h'):Nf b h' v x:=by
 obtain⟨xs,h1,h2⟩:=hv
 exact⟨xs,h1.mono hl,h2⟩
theorem Nt.mono {h h':H} {v:AV} {x:Nat} (hv:Nt h v x) (hl:h.le h'):Nt h' v x:=by
 obtain⟨xs,h1,h2⟩:=hv
 exact⟨xs,h1.mono hl,h2⟩
theorem Nf.base {b b':Nat} {h:H} {v:AV} {x:Nat} (hv:Nf b h v x) (hb:b'≤b):Nf b' h v x:=by
 obtain⟨xs,h1,h2⟩:=hv
 exact⟨xs,IsF.base h1 hb,h2⟩
theorem Nf.nt {b:Nat} {h:H} {v:AV} {x:Nat} (hv:Nf b h v x):Nt h v x:=by
 obtain⟨xs,h1,h2⟩:=hv
 exact⟨xs,h1.isN,h2⟩
theorem Nt.nn {h:H} {v:AV} {x:Nat} (hv:Nt h v x) (hx:Big x):Nn h v x:=by
 obtain⟨xs,h1,h2,h3,h4⟩:=hv
 refine⟨xs,h1,h2, ?_,h4⟩
 rw[top_len h2 h3,h4]
 have:=wlen_big hx
 have:=wordL_eq
 omega
theorem Nf.nn {b:Nat} {h:H} {v:AV} {x:Nat} (hv:Nf b h v x) (hx:Big x):Nn h v x:=hv.nt.nn hx
theorem Nf.nil (b:Nat) (h:H) (c:Option Nat):Nf b h (.sl none 0 0 c) 0:=⟨[],IsF.nil _ _ _ _ _,by simp[Dig],by simp[Top],rfl⟩
theorem IsN.nn {h:H} {v:AV} {xs:List Nat} (hv:IsN h v xs) (hd:Dig xs) (hl:xs.length≤1099511627776):Nn h v (val 18446744073709551616 xs):=⟨xs,hv,hd,hl,rfl⟩
theorem Dig.take {xs:List Nat} (h:Dig xs) (n:Nat):Dig (xs.take n):=fun x hx=>h x (List.mem_of_mem_take hx)
theorem Dig.drop {xs:List Nat} (h:Dig xs) (n:Nat):Dig (xs.drop n):=fun x hx=>h x (List.mem_of_mem_drop hx)
theorem Dig.append {xs ys:List Nat} (h:Dig xs) (h':Dig ys):Dig (xs++ys):=fun x hx=>by
 rcases List.mem_append.1 hx with hx|hx
 ·exact h x hx
 ·exact h' x hx
theorem Dig.nil:Dig []:=fun x hx=>by simp at hx
theorem Dig.one {x:Nat} (h:x<18446744073709551616):Dig [x]:=fun y hy=>by simp at hy;omega
theorem Dig.zeros (n:Nat):Dig (List.replicate n 0):=fun x hx=>by rw[List.eq_of_mem_replicate hx];omega
theorem Dig.set {xs:List Nat} (h:Dig xs) (i:Nat) {x:Nat} (hx:x<18446744073709551616):Dig (xs.set i x):=fun y hy=>by
 rcases List.mem_or_eq_of_mem_set hy with hy|hy
 ·exact h y hy
 ·omega
theorem Len_calls {v:AV} {xs:List Nat} {h:H} {K:AV→H→Prop} (hv:IsN h v xs) (hd:Dig xs) (hlen:xs.length<4611686018427387904) (hk:K (.int .i64 (wlen (val 18446744073709551616 xs):Nat)) h):ACalls Tryz.prog 62 [v] h K:=by
 obtain⟨id,off,c,rfl⟩:=hv.form
 refine in_api_Nat_Len (by simp) fun hw=> ?_
 unfold c_api_Nat_Len
 simp only[go_sem]
 refine⟨fun n ρ h'=>h'=h∧ρ 0= .sl id off xs.length c∧ρ 3= .int .i64 (n:Int)∧n≤xs.length∧(∀x∈xs.drop n,x=0),xs.length,⟨rfl,rfl,rfl,Nat.le_refl _,by simp⟩, ?_⟩
 rintro k ρ h' ⟨rfl,h0,h3,hk1,hz⟩
 have fin:Top (xs.take k)→K (.int .i64 (k:Int)) h':=fun hl=>by
  have e:=top_len (hd.take k) hl
  rw[val_take 18446744073709551616 xs k hz,List.length_take,Nat.min_eq_left hk1] at e
  rw[e]
  exact hk
 rcases Nat.eq_zero_or_pos k with rfl|hp
 ·have hd:decide ((0:Int)<((0:Nat):Int))=false:=by decide
  simp only[go_sem,h0,h3,hd]
  exact fun _=>fin (by simp[Top])
 ·have hd:decide ((0:Int)<(k:Int))=true:=by simp;omega
  obtain⟨i,rfl,_,hg⟩:=hv.at (j:=k-1) (by omega)
  have hw1:IntKind.i64.wrap ((k:Int)-1)=((k-1:Nat):Int):=by rw[wI]<;>omega
  simp only[go_sem,h0,h3,hd,hw1]
  refine⟨by omega,by omega, ?_⟩
  simp only[go_sem,Int.toNat_natCast,Nat.mul_one,hg]
  by_cases hx:xs[k-1]=0
  ·have he:(((xs[k-1]:Nat):Int)==0)=true:=by simp[hx]
   simp only[go_sem,h0,h3,he,hw1]
   refine⟨k-1,by omega,by simp,by simp,by simp,by omega,fun x hm=> ?_⟩
   rw[List.drop_eq_getElem_cons (by omega)] at hm
   rcases List.mem_cons.1 hm with rfl|hm
   ·exact hx
   ·exact hz x (by rwa[show k-1+1=k from by omega] at hm)
  ·have he:(((xs[k-1]:Nat):Int)==0)=false:=by simp;omega
   simp only[go_sem,h0,h3,he]
   intro _
   refine fin fun x hl=> ?_
   rw[List.getLast?_eq_getElem?,List.length_take,Nat.min_eq_left hk1,List.getElem?_take,if_pos (by omega),List.getElem?_eq_getElem (by omega)] at hl
   injection hl with hl
   omega
theorem top_cut {xs:List Nat} (hd:Dig xs):Top (xs.take (wlen (val 18446744073709551616 xs)))∧val 18446744073709551616 (xs.take (wlen (val 18446744073709551616 xs)))=val 18446744073709551616 xs:=by
 generalize hn:wlen (val 18446744073709551616 xs)=n
 have h1:=wlen_lt (val 18446744073709551616 xs)
 rw[hn] at h1
 have hle:n≤xs.length:=by rw[←hn];exact wlen_le.2 (val_lt 18446744073709551616 (by omega) xs hd)
 have h2:=val_cut 18446744073709551616 xs n hle
 have h3:val 18446744073709551616 (xs.drop n)=0:=by
  rcases Nat.eq_zero_or_pos (val 18446744073709551616 (xs.drop n)) with h0|h0
  ·exact h0
  ·have:18446744073709551616^n*1≤18446744073709551616^n*val 18446744073709551616 (xs.drop n):=Nat.mul_le_mul_left _ h0
   omega
 have h4:val 18446744073709551616 (xs.take n)=val 18446744073709551616 xs:=by rw[h2,h3];simp
 refine⟨fun x hx h0=> ?_,h4⟩
 subst h0
 rw[List.getLast?_eq_getElem?,List.length_take,Nat.min_eq_left hle] at hx
 have hn0:0<n:=by
  rcases Nat.eq_zero_or_pos n with h0|h0
  ·subst h0;simp at hx
  ·exact h0
 have h5:=lt_wlen (x:=val 18446744073709551616 xs) (k:=n-1)|>.1 (by omega)
 have h6:(xs.take n).take (n-1)=xs.take (n-1):=by rw[List.take_take,Nat.min_eq_left (by omega)]
 have h7:=val_take 18446744073709551616 (xs.take n) (n-1) (fun x hm=>by
  rw[List.drop_eq_getElem_cons (by simp;omega)] at hm
  rcases List.mem_cons.1 hm with rfl|hm
  ·have:=(List.getElem?_eq_some_iff.1 hx).2
   exact this
  ·rw[List.drop_of_length_le (by simp;omega)] at hm
   simp at hm)
 rw[h6,h4] at h7
 have h8:=val_lt 18446744073709551616 (by omega) (xs.take (n-1)) (hd.take _)
 rw[List.length_take,Nat.min_eq_left (by omega)] at h8
 omega
theorem wlen_len {xs:List Nat} (hd:Dig xs):wlen (val 18446744073709551616 xs)≤xs.length:=wlen_le.2 (val_lt 18446744073709551616 (by omega) xs hd)
theorem trim_calls {v:AV} {xs:List Nat} {h:H} {K:AV→H→Prop} (hv:IsN h v xs) (hd:Dig xs) (hlen:xs.length<4611686018427387904) (hk:∀r,IsN h r (xs.take (wlen (val 18446744073709551616 xs)))→K r h):ACalls Tryz.prog 80 [v] h K:=by
 obtain⟨id,off,c,rfl⟩:=hv.form
 refine in_limb_trim (by simp) fun hw=> ?_
 unfold c_limb_trim
 simp only[go_sem]
 refine Len_calls hv hd hlen ?_
 have:=wlen_len hd
 simp only[go_sem]
 exact⟨by omega,by omega,hv.row,fun _=>hk _ (hv.take (by omega))⟩
theorem trimT_calls {v:AV} {x:Nat} {h:H} {K:AV→H→Prop} (hv:Nn h v x) (hk:∀r xs,IsN h r xs→Dig xs→Top xs→val 18446744073709551616 xs=x→xs.length=wlen x→xs.length≤1099511627776→K r h):ACalls Tryz.prog 80 [v] h K:=by
 obtain⟨xs,h1,h2,h3,rfl⟩:=hv
 refine trim_calls h1 h2 (by omega) fun r hr=> ?_
 have e:=top_cut h2
 have hl:=wlen_len h2
 exact hk r _ hr (h2.take _) e.1 e.2 (by rw[List.length_take];omega) (by rw[List.length_take];omega)
theorem trimG_calls {b:Nat} {v:AV} {xs:List Nat} {h:H} {K:AV→H→Prop} (hv:IsG b h v xs) (hd:Dig xs) (hlen:xs.length<4611686018427387904) (hk:∀r,Nf b h r (val 18446744073709551616 xs)→K r h):ACalls Tryz.prog 80 [v] h K:=by
 obtain⟨id,c,rfl⟩:=hv.form
 refine in_limb_trim (by simp) fun hw=> ?_
 unfold c_limb_trim
 simp only[go_sem]
 refine Len_calls hv.isN hd hlen ?_
 have:=wlen_len hd
 have e:=top_cut hd
 simp only[go_sem]
 refine⟨by omega,by omega,hv.isN.row,fun _=>hk _ ⟨xs.take (wlen (val 18446744073709551616 xs)), ?_,hd.take _,e.1,e.2⟩⟩
 have:=IsF.cut (c':=c) hv (m:=wlen (val 18446744073709551616 xs)) (by simpa using wlen_len hd)
 unfold IsG
 rw[List.map_take]
 exact this
theorem Zero_calls {v:AV} {x:Nat} {h:H} {K:AV→H→Prop} (hv:Nn h v x) (hk:K (.bool (decide (x=0))) h):ACalls Tryz.prog 54 [v] h K:=by
 obtain⟨xs,h1,h2,h3,rfl⟩:=hv
 refine in_api_Nat_Zero (by simp) fun hw=> ?_
 unfold c_api_Nat_Zero
 simp only[go_sem]
 refine Len_calls h1 h2 (by omega) ?_
 have e:(((wlen (val 18446744073709551616 xs):Nat):Int)==0)=decide (val 18446744073709551616 xs=0):=by
  by_cases h0:val 18446744073709551616 xs=0
  ·rw[decide_eq_true h0,h0];rfl
  ·rw[decide_eq_false h0]
   have:=mt wlen_eq_zero.1 h0
   exact eqF (by omega)
 simp only[go_sem,e]
 exact fun _=>hk
theorem Norm_calls {v:AV} {x:Nat} {h:H} {K:AV→H→Prop} (hv:Nn h v x) (hk:∀r h',h'.wf→h.le h'→Nf h.next h' r x→K r h'):ACalls Tryz.prog 63 [v] h K:=by
 refine in_limb_Norm (by simp) fun hw=> ?_
 unfold c_limb_Norm
 simp only[go_sem]
 refine trimT_calls hv fun r xs hr hd ht hx hl hb=> ?_
 obtain⟨id,off,c,rfl⟩:=hr.form
 simp only[go_sem]
 refine app_num (xs:=[]) hw hw (H.le_refl h) (IsF.nil _ _ _ _ _) hr (by rw[List.length_nil];omega) fun s h' hw' hl' hs=> ?_
 simp only[go_sem]
 exact fun _=>hk _ _ hw' hl' ⟨xs,by simpa using hs,hd,ht,hx⟩
theorem One_calls {x:Nat} {h:H} {K:AV→H→Prop} (hx:x<18446744073709551616) (hk:∀r h',h'.wf→h.le h'→Nf h.next h' r x→K r h'):ACalls Tryz.prog 65 [.int .u64 (x:Int)] h K:=by
 refine in_limb_One (by simp) fun hw=> ?_
 unfold c_limb_One
 rcases Nat.eq_zero_or_pos x with h0|h0
 ·subst h0
  simp only[go_sem,eqT (show((0:Nat):Int)=0 from rfl)]
  exact fun _=>hk _ h hw (H.le_refl h) (Nf.nil _ _ _)
 ·simp only[go_sem,eqF (show(x:Int)≠0 by omega)]
  exact fun hw'=>hk _ _ hw' (H.le_new hw (H.le_refl h) _) ⟨[x],IsG.lit (Nat.le_refl _) [x] rfl rfl,Dig.one hx,fun y hy=>by simp at hy;omega,by simp[val]⟩
theorem within_limb {n:Nat} {m:Int} {h:H} {K:AV→H→Prop} (hn:(n:Int)≤m) (hk:K (.int .i64 (n:Int)) h):ACalls Tryz.prog 85 [.int .i64 (n:Int), .int .i64 m] h K:=by
 refine in_limb_within (by simp) fun hw=> ?_
 unfold c_limb_within
 simp only[go_sem]
 have e:max (0:Int) (min (n:Int) m)=(n:Int):=by omega
 rw[e]
 exact fun _=>hk
theorem put_next {ys:List Nat} {n d:Nat}:(ys++List.replicate (n+1) 0).set ys.length d=(ys++[d])++List.replicate n 0:=by
 rw[List.set_append_right _ _ (Nat.le_refl _),Nat.sub_self,List.replicate_succ,List.set_cons_zero,List.append_assoc]
 rfl
theorem IsG.step {b:Nat} {h:H} {id:Option Nat} {n m:Nat} {ck:Option Nat} {out:List Nat} (hw:h.wf) (hs:IsG b h (.sl id 0 n ck) (out++List.replicate (m+1) 0)):∃i r,id=some i∧b≤i∧i<h.next∧h.rows i=some r∧r.own≠none∧out.length+1≤r.cells.length∧
  ∀d:Nat,IsG b (h.set i {r with cells:=putAt r.cells out.length [AV.int .u64 d]}) (.sl id 0 n ck) ((out++[d])++List.replicate m 0):=by
 obtain⟨i,r,h1,h2,h3,h4,h5,h6,h7⟩:=hs.put hw (j:=out.length) (by simp)
 exact⟨i,r,h1,h2,h3,h4,h5,h6,fun d=>by rw[←put_next];exact h7 d⟩
theorem val_zeros {B:Nat} {ys:List Nat} {n:Nat}:val B (ys++List.replicate n 0)=val B ys:=by
 rw[val_append,val_zero B (List.replicate n 0) (fun x hx=>List.eq_of_mem_replicate hx)]
 simp
theorem cut_open {xs0:List Nat} (hd:Dig xs0):∃xs:List Nat,Dig xs∧Top xs∧val 18446744073709551616 xs=val 18446744073709551616 xs0∧wlen (val 18446744073709551616 xs0)=xs.length∧xs.length≤xs0.length∧∀j (_:j<xs.length) (_:j<xs0.length),xs0[j]=xs[j]:=by
 have hl:=wlen_len hd
 exact⟨xs0.take (wlen (val 18446744073709551616 xs0)),hd.take _,(top_cut hd).1,(top_cut hd).2,by rw[List.length_take];omega,by rw[List.length_take];omega,fun j h1 h2=>by rw[List.getElem_take]⟩
theorem lCmp_calls {v u:AV} {x y:Nat} {h:H} {K:AV→H→Prop} (nv:Nn h v x) (nu:Nn h u y)
  (hk:K (.int .i64 (cmpI x y)) h):ACalls Tryz.prog 71 [v,u] h K:=by
 obtain⟨xs0,hv,hxd0,hxl0,rfl⟩:=nv
 obtain⟨ys0,hu,hyd0,hyl0,rfl⟩:=nu
 obtain⟨xs,hxd,hxt,hxv,hxn,hxl,hxs⟩:=cut_open hxd0
 obtain⟨ys,hyd,hyt,hyv,hyn,hyl,hys⟩:=cut_open hyd0
 obtain⟨id,off,c,rfl⟩:=hv.form
 obtain⟨id',off',c',rfl⟩:=hu.form
 refine in_limb_Cmp (by simp) fun hw=> ?_
 unfold c_limb_Cmp
 simp only[go_sem]
 refine Len_calls hv hxd0 (by omega) ?_
 simp only[go_sem]
 refine Len_calls hu hyd0 (by omega) ?_
 rw[hxn,hyn]
 rw[←hxv,←hyv] at hk
 obtain⟨n,hn0⟩:∃n,n=xs.length:=⟨_,rfl⟩
 obtain⟨m,hm0⟩:∃m,m=ys.length:=⟨_,rfl⟩
 rw[←hn0,←hm0]
 by_cases hnm:n=m
 ·subst hnm
  simp only[go_sem,neF (show(n:Int)=n from rfl)]
  refine⟨fun k ρ h'=>h'=h∧ρ 0= .sl id off xs0.length c∧ρ 1= .sl id' off' ys0.length c'∧ρ 7= .int .i64 ((k:Int)-1)∧k≤n∧xs.drop k=ys.drop k,n,
   ⟨rfl,rfl,rfl, ?_,Nat.le_refl _,by rw[List.drop_of_length_le (by omega),List.drop_of_length_le (by omega)]⟩, ?_⟩
  ·simp only[go_sem]
   rw[wI]<;>omega
  rintro k ρ h' ⟨rfl,h0,h1,h5,hn,hd⟩
  rcases Nat.eq_zero_or_pos k with rfl|hp
  ·have hc:decide ((0:Int)≤((0:Nat):Int)-1)=false:=by decide
   simp only[go_sem,h0,h1,h5,hc]
   intro _
   have:xs=ys:=by simpa using hd
   subst this
   simpa [cmpI] using hk
  ·have hc:decide ((0:Int)≤(k:Int)-1)=true:=by simp;omega
   have e5:(k:Int)-1=((k-1:Nat):Int):=by omega
   obtain⟨i,rfl,_,hg⟩:=hv.at (j:=k-1) (by omega)
   obtain⟨i',rfl,_,hg'⟩:=hu.at (j:=k-1) (by omega)
   rw[hxs (k-1) (by omega) (by omega)] at hg
   rw[hys (k-1) (by omega) (by omega)] at hg'
   rw[e5] at h5 hc
   have hd':xs.drop (k-1+1)=ys.drop (k-1+1):=by rw[show k-1+1=k from by omega];exact hd
   simp only[go_sem,h0,h1,h5,hc]
   refine⟨by omega,by omega, ?_⟩
   simp only[go_sem,h0,h1,h5,hg]
   refine⟨by omega,by omega, ?_⟩
   simp only[go_sem,h0,h1,h5,hg,hg']
   have p1:k-1<xs.length:=by omega
   have p2:k-1<ys.length:=by omega
   rcases Nat.lt_trichotomy (xs[k-1]'p1) (ys[k-1]'p2) with hlt|he|hlt
   ·have:=val_lt_at 18446744073709551616 (by omega) hxd (k-1) p1 p2 hd' hlt
    simp only[go_sem,neT (show((xs[k-1]'p1:Nat):Int)≠(ys[k-1]'p2:Nat) by omega),h0,h1,h5,hg,hg']
    refine⟨by omega,by omega,by omega,by omega, ?_⟩
    simp only[go_sem,hg,hg',ltT hlt]
    intro _
    simpa [cmpI,this] using hk
   ·have e6:IntKind.i64.wrap (((k-1:Nat):Int)-1)=((k-1:Nat):Int)-1:=by rw[wI]<;>omega
    simp only[go_sem,neF (show((xs[k-1]'p1:Nat):Int)=(ys[k-1]'p2:Nat) by omega),h0,h1,h5,e6]
    refine⟨k-1,by omega,by trivial,by trivial,by trivial,by first|rfl|trivial|assumption,by omega, ?_⟩
    rw[List.drop_eq_getElem_cons p1,List.drop_eq_getElem_cons p2,he,hd']
   ·have:=val_lt_at 18446744073709551616 (by omega) hyd (k-1) p2 p1 hd'.symm hlt
    have e:cmpI (val 18446744073709551616 xs) (val 18446744073709551616 ys)=1:=by unfold cmpI;rw[if_neg (by omega),if_neg (by omega)]
    simp only[go_sem,neT (show((xs[k-1]'p1:Nat):Int)≠(ys[k-1]'p2:Nat) by omega),h0,h1,h5,hg,hg']
    refine⟨by omega,by omega,by omega,by omega, ?_⟩
    simp only[go_sem,hg,hg',ltF (Nat.le_of_lt hlt)]
    intro _
    simpa [e] using hk
 ·simp only[go_sem,neT (show(n:Int)≠(m:Int) by omega)]
  rcases Nat.lt_or_ge n m with hlt|hge
  ·have:=digits_lt_iff 18446744073709551616 (by omega) hxd hyt (by omega)
   simp only[go_sem,ltT hlt]
   intro _
   simpa [cmpI,this] using hk
  ·have:=digits_lt_iff 18446744073709551616 (by omega) hyd hxt (by omega)
   have e:cmpI (val 18446744073709551616 xs) (val 18446744073709551616 ys)=1:=by unfold cmpI;rw[if_neg (by omega),if_neg (by omega)]
   simp only[go_sem,ltF hge]
   intro _
   simpa [e] using hk
theorem lAdd_calls {v u:AV} {x y:Nat} {h:H} {K:AV→H→Prop} (nv:Nn h v x) (nu:Nn h u y)
  (hk:∀r h',h'.wf→h.le h'→Nf h.next h' r (x+y)→K r h'):ACalls Tryz.prog 75 [v,u] h K:=by
 refine in_limb_Add (by simp) fun hw=> ?_
 unfold c_limb_Add
 simp only[go_sem]
 refine trimT_calls nv fun r1 xs h1 hxd _ hxv _ hxl=> ?_
 simp only[go_sem]
 refine trimT_calls nu fun r2 ys h2 hyd _ hyv _ hyl=> ?_
 obtain⟨id,off,c,rfl⟩:=h1.form
 obtain⟨id',off',c',rfl⟩:=h2.form
 simp only[go_sem]
 refine cond_cut (fun ρ' h3=>h3=h∧∃ps qs id off c id' off' c',ρ' 0= .sl id off ps.length c∧ρ' 1= .sl id' off' qs.length c'∧IsN h (.sl id off ps.length c) ps∧IsN h (.sl id' off' qs.length c') qs∧Dig ps∧Dig qs∧qs.length≤ps.length∧ps.length≤1099511627776∧val 18446744073709551616 ps+val 18446744073709551616 qs=x+y) ?_ ?_
 ·rcases Nat.lt_or_ge xs.length ys.length with hlt|hge
  ·simp only[go_sem,ltT hlt]
   exact⟨trivial,ys,xs,_,_,_,_,_,_,rfl,rfl,h2,h1,hyd,hxd,by omega,hyl,by omega⟩
  ·simp only[go_sem,ltF hge]
   exact⟨trivial,xs,ys,_,_,_,_,_,_,rfl,rfl,h1,h2,hxd,hyd,by omega,hxl,by omega⟩
 clear h1 h2 hxd hxv hxl hyd hyv hyl nv nu
 rintro ρ h3 ⟨rfl,xs,ys,id,off,c,id',off',c',q0,q1,hv,hu,hxd,hyd,hyx,hxl,hxy⟩
 simp only[go_sem,q0,q1,incI (i:=xs.length) (by omega)]
 refine⟨by omega,by omega,by omega, ?_⟩
 refine for_rule (fun i ρ h'=>i≤xs.length∧h'.wf∧h3.le h'∧ρ 0= .sl id off xs.length c∧ρ 1= .sl id' off' ys.length c'∧ρ 25= .int .i64 (xs.length:Int)∧ρ 26= .int .i64 (i:Int)∧∃out cc,ρ 6= .int .u64 (cc:Nat)∧cc≤1∧IsG h3.next h' (ρ 5) (out++List.replicate (xs.length+1-i) 0)∧Dig out∧out.length=i∧
  val 18446744073709551616 out+18446744073709551616^i*cc=val 18446744073709551616 (xs.take i)+val 18446744073709551616 (ys.take i)) xs.length ⟨by omega,H.wf_new hw _,H.le_new hw (H.le_refl h3) _,by first|rfl|trivial|assumption,by first|rfl|trivial|assumption,rfl,rfl,[],0,rfl,by omega,IsG.made (Nat.le_refl _) _,Dig.nil,rfl,rfl⟩ (fun i ρ h hI=>hI.1) ?_
 rintro i ρ h' ⟨hi,hw',hle,h0,h1,h25,h26,out,cc,h6,hcc,hs,hod,hol,hov⟩
 obtain⟨k,ck,h5⟩:=hs.form
 rcases Nat.lt_or_ge i xs.length with hxi|hxi
 ·simp only[go_sem,h0,h1,h25,h26,ltT hxi]
  refine cond_cut (fun ρ' h2=>h2=h'∧ρ' 0= .sl id off xs.length c∧ρ' 1= .sl id' off' ys.length c'∧ρ' 25= .int .i64 (xs.length:Int)∧ρ' 26= .int .i64 (i:Int)∧ρ' 7= .int .i64 (i:Int)∧ρ' 5=ρ 5∧ρ' 6= .int .u64 (cc:Nat)∧ρ' 8= .int .u64 ((ys.getD i 0:Nat):Int)) ?_ ?_
  ·rcases Nat.lt_or_ge i ys.length with hyi|hyi
   ·obtain⟨j',rfl,_,hg'⟩:=(hu.mono hle).at hyi
    rw[getD_at hyi]
    simp only[go_sem,h0,h1,h25,h26,h6,ltT hyi]
    refine⟨by omega,by omega, ?_⟩
    simp only[go_sem,hg',h0,h1,h25,h26,h6]
    exact⟨trivial,trivial,trivial,trivial,trivial,trivial,trivial,trivial,trivial⟩
   ·rw[getD_ge hyi]
    simp only[go_sem,h0,h1,h25,h26,h6,ltF hyi]
    exact⟨trivial,trivial,trivial,trivial,trivial,trivial,trivial,trivial,rfl⟩
  rintro ρ' h2 ⟨rfl,h0,h1,h25,h26,h7,h5',h6,h8⟩
  have hyb:=getD_lt (B:=18446744073709551616) (by omega) hyd i
  have hxb:=hxd _ (List.getElem_mem hxi)
  have hvx:=val_take_succ 18446744073709551616 xs i hxi
  have hvy:=val_take_get 18446744073709551616 ys i
  obtain⟨j,rfl,_,hg⟩:=(hv.mono hle).at hxi
  generalize ys.getD i 0=q at*
  generalize xs[i]=p at*
  rw[←h5'] at hs h5
  have fin:∀d c2:Nat,p+q+cc=d+18446744073709551616*c2→val 18446744073709551616 (out++[d])+18446744073709551616^(i+1)*c2=val 18446744073709551616 (xs.take (i+1))+val 18446744073709551616 (ys.take (i+1)):=by
   intro d c2 e
   rw[val_snoc,hvx,hvy,hol,Nat.pow_succ,Nat.mul_assoc]
   have e2:=congrArg (fun z=>18446744073709551616^i*z) e
   simp only[Nat.mul_add] at e2
   omega
  rw[h5] at hs
  simp only[go_sem,h0,h1,h7,h8,h6,h5]
  refine⟨by omega,by omega, ?_⟩
  simp only[go_sem,hg,h6,h8,h5,h7]
  refine Add64_calls hxb hyb hcc ?_
  have f1:=fin ((p+q+cc)%18446744073709551616) ((p+q+cc)/18446744073709551616) (by omega)
  have f2:(p+q+cc)/18446744073709551616≤1:=by omega
  have f3:(p+q+cc)%18446744073709551616<18446744073709551616:=by omega
  generalize (p+q+cc)%18446744073709551616=d at*
  generalize (p+q+cc)/18446744073709551616=c2 at*
  subst hol
  simp only[go_sem,h5,h7]
  rw[show xs.length+1-out.length=(xs.length-out.length)+1 by omega] at hs
  obtain⟨i2,r2,rfl,hb2,hl2,hr2,ho2,hf2,hp2⟩:=hs.step hw'
  simp only[go_sem]
  refine⟨by omega,by simp;omega, ?_⟩
  simp only[go_sem,hr2]
  refine⟨ho2,by omega, ?_⟩
  simp only[go_sem,h0,h1,h25,h26,h5,incI (i:=out.length) (by omega)]
  refine⟨by omega,H.wf_set hw' hl2 _,H.le_set hw hle hb2 _,by first|rfl|trivial|assumption,by first|rfl|trivial|assumption,by first|rfl|trivial|assumption,by first|rfl|trivial|assumption,out++[d],c2,rfl,f2, ?_,hod.append (Dig.one f3),by simp,f1⟩
  rw[show xs.length+1-(out.length+1)=xs.length-out.length by omega,show xs.length+1-out.length=xs.length-out.length+1 by omega]
  exact hp2 d
 ·have:i=xs.length:=by omega
  subst this
  rw[List.take_length,List.take_of_length_le (by omega),hxy] at hov
  rw[h5] at hs
  rw[show xs.length+1-xs.length=0+1 by omega] at hs h5
  obtain⟨i2,r2,rfl,hb2,hl2,hr2,ho2,hf2,hp2⟩:=hs.step hw'
  rw[hol] at hf2 hp2
  simp only[go_sem,h0,h5,h6,h25,h26,ltF (Nat.le_refl xs.length)]
  refine⟨by omega,by simp;omega, ?_⟩
  simp only[go_sem,hr2]
  refine⟨ho2,by omega, ?_⟩
  simp only[go_sem,h5]
  have hG:=hp2 cc
  rw[List.replicate_zero,List.append_nil] at hG
  have e:val 18446744073709551616 (out++[cc])=x+y:=by rw[val_snoc,hol];exact hov
  refine trimG_calls hG (hod.append (Dig.one (x:=cc) (by omega))) (by simp;omega) fun r hr=> ?_
  rw[e] at hr
  simp only[go_sem]
  exact fun _=>hk r _ (H.wf_set hw' hl2 _) (H.le_set hw hle hb2 _) hr
theorem lSub_calls {v u:AV} {x y:Nat} {h:H} {K:AV→H→Prop} (nv:Nn h v x) (nu:Nn h u y)
  (hlt:x<y→h.wf→K (.tup [.sl none 0 0 none, .bool false]) h) (hk:y≤x→∀r h',h'.wf→h.le h'→Nf h.next h' r (x-y)→K (.tup [r, .bool true]) h'):ACalls Tryz.prog 59 [v,u] h K:=by
 refine in_limb_Sub (by simp) fun hw=> ?_
 unfold c_limb_Sub
 simp only[go_sem]
 refine trimT_calls nv fun r1 xs hv hxd hxt hxv hxn hxl=> ?_
 simp only[go_sem]
 refine trimT_calls nu fun r2 ys hu hyd hyt hyv hyn hyl=> ?_
 simp only[go_sem]
 refine lCmp_calls ⟨xs,hv,hxd,hxl,hxv⟩ ⟨ys,hu,hyd,hyl,hyv⟩ ?_
 rcases Nat.lt_or_ge x y with hc|hc
 ·have e:decide (cmpI x y<0)=true:=by simp[cmpI,hc]
  simp only[go_sem,e]
  exact hlt hc
 have e:decide (cmpI x y<0)=false:=by
  unfold cmpI
  rw[if_neg (by omega)]
  split<;>decide
 obtain⟨id,off,c,rfl⟩:=hv.form
 obtain⟨id',off',c',rfl⟩:=hu.form
 have hyx:ys.length≤xs.length:=by rw[hxn,hyn];exact wlen_mono hc
 simp only[go_sem,e]
 refine⟨by omega,by omega,by omega, ?_⟩
 refine for_rule (fun i ρ h'=>i≤xs.length∧h'.wf∧h.le h'∧ρ 0= .sl id off xs.length c∧ρ 1= .sl id' off' ys.length c'∧ρ 22= .int .i64 (xs.length:Int)∧ρ 23= .int .i64 (i:Int)∧∃out cc,ρ 7= .int .u64 (cc:Nat)∧cc≤1∧IsG h.next h' (ρ 6) (out++List.replicate (xs.length-i) 0)∧Dig out∧out.length=i∧
  val 18446744073709551616 out+val 18446744073709551616 (ys.take i)=val 18446744073709551616 (xs.take i)+18446744073709551616^i*cc) xs.length ⟨by omega,H.wf_new hw _,H.le_new hw (H.le_refl h) _,by first|rfl|trivial|assumption,by first|rfl|trivial|assumption,rfl,rfl,[],0,rfl,by omega,IsG.made (Nat.le_refl _) _,Dig.nil,rfl,rfl⟩ (fun i ρ h hI=>hI.1) ?_
 rintro i ρ h' ⟨hi,hw',hle,h0,h1,h25,h26,out,cc,h6,hcc,hs,hod,hol,hov⟩
 obtain⟨k,ck,h5⟩:=hs.form
 rcases Nat.lt_or_ge i xs.length with hxi|hxi
 ·simp only[go_sem,h0,h1,h25,h26,ltT hxi]
  refine cond_cut (fun ρ' h2=>h2=h'∧ρ' 0= .sl id off xs.length c∧ρ' 1= .sl id' off' ys.length c'∧ρ' 22= .int .i64 (xs.length:Int)∧ρ' 23= .int .i64 (i:Int)∧ρ' 8= .int .i64 (i:Int)∧ρ' 6=ρ 6∧ρ' 7= .int .u64 (cc:Nat)∧ρ' 9= .int .u64 ((ys.getD i 0:Nat):Int)) ?_ ?_
  ·rcases Nat.lt_or_ge i ys.length with hyi|hyi
   ·obtain⟨j',rfl,_,hg'⟩:=(hu.mono hle).at hyi
    rw[getD_at hyi]
    simp only[go_sem,h0,h1,h25,h26,h6,ltT hyi]
    refine⟨by omega,by omega, ?_⟩
    simp only[go_sem,hg',h0,h1,h25,h26,h6]
    exact⟨trivial,trivial,trivial,trivial,trivial,trivial,trivial,trivial,trivial⟩
   ·rw[getD_ge hyi]
    simp only[go_sem,h0,h1,h25,h26,h6,ltF hyi]
    exact⟨trivial,trivial,trivial,trivial,trivial,trivial,trivial,trivial,rfl⟩
  rintro ρ' h2 ⟨rfl,h0,h1,h25,h26,h7,h5',h6,h8⟩
  have hyb:=getD_lt (B:=18446744073709551616) (by omega) hyd i
  have hxb:=hxd _ (List.getElem_mem hxi)
  have hvx:=val_take_succ 18446744073709551616 xs i hxi
  have hvy:=val_take_get 18446744073709551616 ys i
  obtain⟨j,rfl,_,hg⟩:=(hv.mono hle).at hxi
  generalize ys.getD i 0=q at*
  generalize xs[i]=p at*
  rw[←h5'] at hs h5
  have fin:∀d c2:Nat,p+18446744073709551616*c2=d+q+cc→val 18446744073709551616 (out++[d])+val 18446744073709551616 (ys.take (i+1))=val 18446744073709551616 (xs.take (i+1))+18446744073709551616^(i+1)*c2:=by
   intro d c2 e
   rw[val_snoc,hvx,hvy,hol,Nat.pow_succ,Nat.mul_assoc]
   have e2:=congrArg (fun z=>18446744073709551616^i*z) e
   simp only[Nat.mul_add] at e2
   omega
  rw[h5] at hs
  simp only[go_sem,h0,h1,h7,h8,h6,h5]
  refine⟨by omega,by omega, ?_⟩
  simp only[go_sem,hg,h6,h8,h5,h7]
  refine Sub64_calls hcc ?_
  have f3:(p+18446744073709551616-q-cc)%18446744073709551616<18446744073709551616:=by omega
  have f2:(if p<q+cc then 1 else 0)≤1:=by split<;>omega
  have f1:=fin ((p+18446744073709551616-q-cc)%18446744073709551616) (if p<q+cc then 1 else 0) (by split<;>omega)
  generalize (p+18446744073709551616-q-cc)%18446744073709551616=d at*
  generalize (if p<q+cc then 1 else 0)=c2 at*
  subst hol
  simp only[go_sem,h5,h7]
  rw[show xs.length-out.length=(xs.length-(out.length+1))+1 by omega] at hs
  obtain⟨i2,r2,rfl,hb2,hl2,hr2,ho2,hf2,hp2⟩:=hs.step hw'
  simp only[go_sem]
  refine⟨by omega,by simp;omega, ?_⟩
  simp only[go_sem,hr2]
  refine⟨ho2,by omega, ?_⟩
  simp only[go_sem,h0,h1,h25,h26,h5,incI (i:=out.length) (by omega)]
  refine⟨by omega,H.wf_set hw' hl2 _,H.le_set hw hle hb2 _,by first|rfl|trivial|assumption,by first|rfl|trivial|assumption,by first|rfl|trivial|assumption,by first|rfl|trivial|assumption,out++[d],c2,rfl,f2, ?_,hod.append (Dig.one f3),by simp,f1⟩
  rw[show xs.length-out.length=(xs.length-(out.length+1))+1 by omega]
  exact hp2 d
 ·have:i=xs.length:=by omega
  subst this
  rw[List.take_length] at hov
  rw[h5] at hs
  rw[show xs.length-xs.length=0 by omega,List.replicate_zero,List.append_nil] at hs h5
  simp only[go_sem,h0,h5,h6,h25,h26,ltF (Nat.le_refl xs.length)]
  refine trimG_calls hs hod (by omega) fun r hr=> ?_
  rw[sub_end (by omega) hod hol (by rw[hxv,hyv];exact hc) hov hyx,hxv,hyv] at hr
  simp only[go_sem]
  exact fun _=>hk hc r _ hw' hle hr
theorem addmul_step {b w c a:Nat} (hb:b<18446744073709551616) (hw:w<18446744073709551616) (hc:c<18446744073709551616) (ha:a<18446744073709551616):
  (a+(b*w%18446744073709551616+c)%18446744073709551616)%18446744073709551616+18446744073709551616*(b*w/18446744073709551616+(b*w%18446744073709551616+c)/18446744073709551616+(a+(b*w%18446744073709551616+c)%18446744073709551616)/18446744073709551616)=a+b*w+c∧
  b*w/18446744073709551616+(b*w%18446744073709551616+c)/18446744073709551616+(a+(b*w%18446744073709551616+c)%18446744073709551616)/18446744073709551616<18446744073709551616:=by
 have h1:b*w≤18446744073709551615*18446744073709551615:=Nat.mul_le_mul (by omega) (by omega)
 generalize b*w=p at*
 omega
theorem cpy_num {b:Nat} {h:H} {K:AV→H→Prop} {d s:AV} {zs xs:List Nat} (hw:h.wf) (hs:IsG b h d zs) (hx:IsN h s xs) (hl:xs.length≤zs.length)
  (hk:∀h',h'.wf→h'.next=h.next→(∀a:H,a.wf→a.le h→a.next≤b→a.le h')→IsG b h' d (xs++zs.drop xs.length)→K (.int .i64 (xs.length:Int)) h'):cpyK 1 d s h K:=by
 have hs0:=hs
 have hx0:=hx
 obtain⟨idd,cd,rfl⟩:=hs.form
 obtain⟨ids,offs,cs,rfl⟩:=hx.form
 have hmin:min xs.length zs.length=xs.length:=Nat.min_eq_left hl
 simp only[cpyK,hmin]
 refine⟨fun h0=> ?_,fun h0=> ?_⟩
 ·have:xs=[]:=List.eq_nil_of_length_eq_zero h0
  subst this
  exact hk h hw rfl (fun _ _ k _=>k) (by simpa using hs0)
 ·obtain⟨id',c',e1,h1⟩:=hs
  obtain⟨rfl,rfl⟩:idd=id'∧cd=c':=by injection e1 with a1 a2 a3 a4;exact⟨a1,a4⟩
  rcases h1 with⟨_,e⟩|⟨i,q,rfl,hb,hq,ho,hz,hlq,htq⟩
  ·have e':zs=[]:=by simpa using e
   rw[e'] at hl
   exact absurd (Nat.le_zero.1 hl) h0
  obtain⟨id2,off2,c2,e2,h2⟩:=hx
  obtain⟨rfl,rfl,rfl⟩:ids=id2∧offs=off2∧cs=c2:=by injection e2 with a1 a2 a3 a4;exact⟨a1,a2,a4⟩
  rcases h2 with⟨_,e,_⟩|⟨j,r,rfl,hr,hor,hlr,htr⟩
  ·have e':xs=[]:=by simpa using e
   exact absurd (by rw[e'];rfl) h0
  simp only[List.length_map] at hlq htq hlr htr
  have hi:=H.row_lt hw hq
  refine⟨i,q,j,r,rfl,hq,by rw[ho];simp,rfl,hr,by omega,by omega, ?_, ?_⟩
  ·rw[Nat.mul_one,htr];exact W_one _ _
  rw[Nat.mul_one,htr,show(min (xs.length:Int) (zs.length:Int))=(xs.length:Int) by omega]
  refine hk _ (H.wf_set hw hi _) rfl (fun a ha k hab=>H.le_set ha k (by omega) _) ?_
  have hlen:(xs++zs.drop xs.length).length=zs.length:=by simp;omega
  refine⟨some i,cd,by simp;omega, .inr ⟨i,_,rfl,hb,H.rows_set _ _ _,ho,hz, ?_, ?_⟩⟩
  ·have:(putAt q.cells 0 (W IntKind.u64 (xs.map fun n:Nat=>(n:Int)))).length=q.cells.length:=putAt_length (by rw[W_length];simp;omega)
   show((xs++zs.drop xs.length).map fun n:Nat=>(n:Int)).length≤(putAt q.cells 0 (W IntKind.u64 (xs.map fun n:Nat=>(n:Int)))).length
   rw[this,List.length_map,hlen]
   exact hlq
  ·show((putAt q.cells 0 (W IntKind.u64 (xs.map fun n:Nat=>(n:Int)))).take ((xs++zs.drop xs.length).map fun n:Nat=>(n:Int)).length)=_
   rw[putAt_zero,List.length_map,hlen,W_length,List.length_map]
   rw[List.take_append,W_length,List.length_map,List.take_of_length_le (by rw[W_length,List.length_map];exact hl)]
   rw[List.map_append,W_append]
   congr 1
   rw[List.take_drop,show xs.length+(zs.length-xs.length)=zs.length by omega,htq,W_drop,List.map_drop]
theorem put_mid {ys rest:List Nat} {a d:Nat}:(ys++a::rest).set ys.length d=(ys++[d])++rest:=by
 rw[List.set_append_right _ _ (Nat.le_refl _),Nat.sub_self,List.set_cons_zero,List.append_assoc]
 rfl
theorem IsG.over {b:Nat} {h:H} {id:Option Nat} {n:Nat} {ck:Option Nat} {out zs:List Nat} (hw:h.wf) (hl:out.length<zs.length) (hs:IsG b h (.sl id 0 n ck) (out++zs.drop out.length)):∃i r,id=some i∧b≤i∧i<h.next∧h.rows i=some r∧r.own≠none∧out.length+1≤r.cells.length∧
  h.get i out.length=some (.int .u64 (zs[out.length]:Nat))∧n=zs.length∧
  ∀d:Nat,IsG b (h.set i {r with cells:=putAt r.cells out.length [AV.int .u64 d]}) (.sl id 0 n ck) ((out++[d])++zs.drop (out.length+1)):=by
 have hln:(out++zs.drop out.length).length=zs.length:=by simp;omega
 obtain⟨i,r,h1,h2,h3,h4,h5,h6,h7⟩:=hs.put hw (j:=out.length) (by omega)
 obtain⟨i',e1,e2,e3⟩:=hs.isN.at (j:=out.length) (by omega)
 rw[h1] at e1
 injection e1 with e1
 subst e1
 have e4:(out++zs.drop out.length)[out.length]'(by omega)=zs[out.length]:=by
  rw[List.getElem_append_right (Nat.le_refl _)]
  simp
 rw[e4,Nat.zero_add] at e3
 refine⟨i,r,h1,h2,h3,h4,h5,h6,e3,by omega,fun d=> ?_⟩
 have:=h7 d
 rw[List.drop_eq_getElem_cons hl,put_mid] at this
 exact this
theorem addmul_end {x y w n m N:Nat} (hx:x<18446744073709551616^n) (hy:y<18446744073709551616^m) (hw:w<18446744073709551616) (hN:N=max n (m+1)+1):x+y*w<18446744073709551616^N:=by
 have h1:18446744073709551616^n≤18446744073709551616^(max n (m+1)):=Nat.pow_le_pow_right (by omega) (by omega)
 have h2:18446744073709551616^(m+1)≤18446744073709551616^(max n (m+1)):=Nat.pow_le_pow_right (by omega) (by omega)
 have h3:y*w≤18446744073709551616^m*18446744073709551616:=Nat.mul_le_mul (by omega) (by omega)
 rw[hN,Nat.pow_succ]
 rw[Nat.pow_succ] at h2
 omega
theorem no_carry {B N a c s:Nat} (h:a+B^N*c=s) (hs:s<B^N):c=0:=by
 rcases Nat.eq_zero_or_pos c with h0|h0
 ·exact h0
 ·have:B^N*1≤B^N*c:=Nat.mul_le_mul_left _ h0
  omega
theorem addmul_fin {xs ys out zs:List Nat} {i w:Nat} (hi:i≤zs.length) (ho:out.length=i) (hv:val 18446744073709551616 out=val 18446744073709551616 (zs.take i)+val 18446744073709551616 ys*w) (hz:val 18446744073709551616 zs=val 18446744073709551616 xs):val 18446744073709551616 (out++zs.drop i)=val 18446744073709551616 xs+val 18446744073709551616 ys*w:=by
 rw[val_append,ho,hv,←hz]
 have:=val_cut 18446744073709551616 zs i hi
 omega
theorem lAddMul_calls {v u:AV} {x y w:Nat} {h:H} {K:AV→H→Prop} (nv:Nn h v x) (nu:Nn h u y) (hw64:w<18446744073709551616)
  (hk:∀r h',h'.wf→h.le h'→Nf h.next h' r (x+y*w)→K r h'):ACalls Tryz.prog 70 [v,u, .int .u64 (w:Int)] h K:=by
 refine in_limb_AddMul (by simp) fun hw=> ?_
 unfold c_limb_AddMul
 simp only[go_sem]
 refine trimT_calls nv fun r1 xs hv hxd hxt hxv hxn hxl=> ?_
 simp only[go_sem]
 refine trimT_calls nu fun r2 ys hu hyd hyt hyv hyn hyl=> ?_
 obtain⟨id,off,c,rfl⟩:=hv.form
 obtain⟨id',off',c',rfl⟩:=hu.form
 have e1:=incI (i:=ys.length) (by omega)
 have e2:max (xs.length:Int) ((ys.length+1:Nat):Int)=((max xs.length (ys.length+1):Nat):Int):=by omega
 have e3:=incI (i:=max xs.length (ys.length+1)) (by omega)
 simp only[go_sem,e1,e2,e3]
 refine⟨by omega,by omega,by omega, ?_⟩
 obtain⟨N,hN⟩:∃N,N=max xs.length (ys.length+1)+1:=⟨_,rfl⟩
 rw[←hN]
 refine cpy_num (b:=h.next) (H.wf_new hw _) (IsG.made (Nat.le_refl _) _) (hv.mono (H.le_new hw (H.le_refl h) _)) (by rw[List.length_replicate];omega) fun h1 hw1 hn1 hle1 hs1=> ?_
 have hl1:=hle1 h hw (H.le_new hw (H.le_refl h) _) (Nat.le_refl _)
 rw[List.drop_replicate] at hs1
 obtain⟨zs,hzs⟩:∃zs,zs=xs++List.replicate (N-xs.length) 0:=⟨_,rfl⟩
 rw[←hzs] at hs1
 have hzl:zs.length=N:=by rw[hzs];simp;omega
 have hzd:Dig zs:=by rw[hzs];exact hxd.append (Dig.zeros _)
 have hzv:val 18446744073709551616 zs=val 18446744073709551616 xs:=by rw[hzs];exact val_zeros
 have hend:x+y*w<18446744073709551616^N:=addmul_end (n:=xs.length) (m:=ys.length) (by rw[hxn];exact wlen_lt x) (by rw[hyn];exact wlen_lt y) hw64 hN
 simp only[go_sem]
 refine for_rule (fun i ρ h'=>i≤N∧h'.wf∧h.le h'∧ρ 1= .sl id' off' ys.length c'∧ρ 2= .int .u64 (w:Int)∧ρ 7= .sl (some h.next) 0 N (some N)∧ρ 30= .int .i64 (N:Int)∧ρ 31= .int .i64 (i:Int)∧∃out cc,ρ 8= .int .u64 (cc:Nat)∧cc<18446744073709551616∧IsG h.next h' (.sl (some h.next) 0 N (some N)) (out++zs.drop i)∧Dig out∧out.length=i∧
  val 18446744073709551616 out+18446744073709551616^i*cc=val 18446744073709551616 (zs.take i)+val 18446744073709551616 (ys.take i)*w) N ⟨by omega,hw1,hl1,by first|rfl|trivial|assumption,by first|rfl|trivial|assumption,by first|rfl|trivial|assumption,rfl,rfl,[],0,rfl,by omega,by simpa using hs1,Dig.nil,rfl,by simp[val]⟩ (fun i ρ h hI=>hI.1) ?_
 rintro i ρ h' ⟨hi,hw',hle,h1,h2,h7,h30,h31,out,cc,h8,hcc,hs,hod,hol,hov⟩
 rcases Nat.lt_or_ge i N with hiN|hiN
 ·by_cases hbr:ys.length≤i∧cc=0
  ·obtain⟨hmi,rfl⟩:=hbr
   simp only[go_sem,h1,h2,h7,h8,h30,h31,ltT hiN,leT hmi,eqT (show((0:Nat):Int)=0 from rfl)]
   rw[List.take_of_length_le hmi] at hov
   have hv':=addmul_fin (xs:=xs) (ys:=ys) (w:=w) (by omega) hol (by omega) hzv
   rw[hxv,hyv] at hv'
   refine trimG_calls hs (hod.append (hzd.drop _)) (by simp;omega) fun r hr=> ?_
   rw[hv'] at hr
   simp only[go_sem]
   exact fun _=>hk r _ hw' hle hr
  ·have hyb:=getD_lt (B:=18446744073709551616) (by omega) hyd i
   have hvy:=val_take_get 18446744073709551616 ys i
   have hvz:=val_take_succ 18446744073709551616 zs i (by omega)
   have hzb:=hzd _ (List.getElem_mem (show i<zs.length by omega))
   have pre:(decide ((ys.length:Int)≤(i:Int))=true∧((cc:Int)==0)=false)∨decide ((ys.length:Int)≤(i:Int))=false:=by
    rcases Nat.lt_or_ge i ys.length with hl|hl
    ·exact .inr (leF hl)
    ·exact .inl ⟨leT hl,eqF (by omega)⟩
   rcases pre with⟨p1,p2⟩|p1
   ·simp only[go_sem,h1,h2,h7,h8,h30,h31,ltT hiN,p1,p2]
    refine cond_cut (fun ρ' h3=>h3=h'∧ρ' 1= .sl id' off' ys.length c'∧ρ' 2= .int .u64 (w:Int)∧ρ' 7= .sl (some h.next) 0 N (some N)∧ρ' 30= .int .i64 (N:Int)∧ρ' 31= .int .i64 (i:Int)∧ρ' 8= .int .u64 (cc:Nat)∧ρ' 9= .int .i64 (i:Int)∧ρ' 10= .int .u64 ((ys.getD i 0*w/18446744073709551616:Nat):Int)∧ρ' 11= .int .u64 ((ys.getD i 0*w%18446744073709551616:Nat):Int)) ?_ ?_
    ·rcases Nat.lt_or_ge i ys.length with hyi|hyi
     ·obtain⟨j',rfl,_,hg'⟩:=(hu.mono hle).at hyi
      rw[getD_at hyi] at hyb⊢
      simp only[go_sem,h1,h2,h7,h8,h30,h31,ltT hyi]
      refine⟨by omega,by omega, ?_⟩
      simp only[go_sem,hg',h2]
      refine Mul64_calls hyb hw64 ?_
      simp only[go_sem,h1,h2,h7,h8,h30,h31]
      exact⟨trivial,trivial,trivial,trivial,trivial,trivial,trivial,trivial,trivial,trivial⟩
     ·rw[getD_ge hyi,Nat.zero_mul]
      simp only[go_sem,h1,h2,h7,h8,h30,h31,ltF hyi]
      exact⟨trivial,trivial,trivial,trivial,trivial,trivial,trivial,trivial,rfl,rfl⟩
    rintro ρ' h3 ⟨rfl,h1,h2,h7,h30,h31,h8,h9,h10,h11⟩
    subst hol
    obtain⟨i2,r2,e2',hb2,hl2,hr2,ho2,hf2,hg2,_,hp2⟩:=hs.over hw' (by omega)
    injection e2' with e2'
    subst e2'
    obtain⟨s1,s2⟩:=addmul_step hyb hw64 hcc hzb
    have b1:ys.getD out.length 0*w%18446744073709551616<18446744073709551616:=Nat.mod_lt _ (by omega)
    have b2:(ys.getD out.length 0*w%18446744073709551616+cc)%18446744073709551616<18446744073709551616:=Nat.mod_lt _ (by omega)
    have b3:(zs[out.length]'(by omega)+(ys.getD out.length 0*w%18446744073709551616+cc)%18446744073709551616)%18446744073709551616<18446744073709551616:=Nat.mod_lt _ (by omega)
    have fin:∀d c2:Nat,d+18446744073709551616*c2=zs[out.length]'(by omega)+ys.getD out.length 0*w+cc→val 18446744073709551616 (out++[d])+18446744073709551616^(out.length+1)*c2=val 18446744073709551616 (zs.take (out.length+1))+val 18446744073709551616 (ys.take (out.length+1))*w:=by
     intro d c2 e
     rw[val_snoc,hvz,hvy,Nat.pow_succ,Nat.mul_assoc]
     have e2:=congrArg (fun z=>18446744073709551616^out.length*z) e
     simp only[Nat.mul_add,Nat.add_mul,Nat.mul_assoc] at e2 hov⊢
     omega
    simp only[go_sem,h7,h8,h9,h10,h11]
    refine Add64_calls (c:=0) b1 hcc (by omega) ?_
    have a1:IntKind.u64.wrap (((ys.getD out.length 0*w/18446744073709551616:Nat):Int)+(((ys.getD out.length 0*w%18446744073709551616+cc)/18446744073709551616:Nat):Int))=((ys.getD out.length 0*w/18446744073709551616+(ys.getD out.length 0*w%18446744073709551616+cc)/18446744073709551616:Nat):Int):=addU (by omega)
    simp only[go_sem,Nat.add_zero,h7,h8,h9,h10,h11,a1]
    refine⟨by omega,by omega, ?_⟩
    simp only[go_sem,hg2]
    refine Add64_calls (c:=0) hzb b2 (by omega) ?_
    have f1:=fin _ _ s1
    have a2:=addU (a:=ys.getD out.length 0*w/18446744073709551616+(ys.getD out.length 0*w%18446744073709551616+cc)/18446744073709551616) (b:=(zs[out.length]'(by omega)+(ys.getD out.length 0*w%18446744073709551616+cc)%18446744073709551616)/18446744073709551616) s2
    simp only[go_sem,Nat.add_zero,h7,h9]
    refine⟨by omega,by omega, ?_⟩
    simp only[go_sem,hr2]
    refine⟨ho2,by omega, ?_⟩
    simp only[go_sem,h1,h2,h7,h30,h31,a2,incI (i:=out.length) (by omega)]
    exact⟨by omega,H.wf_set hw' hl2 _,H.le_set hw hle hb2 _,by first|rfl|trivial|assumption,by first|rfl|trivial|assumption,by first|rfl|trivial|assumption,by first|rfl|trivial|assumption,by first|rfl|trivial|assumption,out++[_],_,rfl,s2,hp2 _,hod.append (Dig.one b3),by simp,f1⟩
   ·simp only[go_sem,h1,h2,h7,h8,h30,h31,ltT hiN,p1]
    refine cond_cut (fun ρ' h3=>h3=h'∧ρ' 1= .sl id' off' ys.length c'∧ρ' 2= .int .u64 (w:Int)∧ρ' 7= .sl (some h.next) 0 N (some N)∧ρ' 30= .int .i64 (N:Int)∧ρ' 31= .int .i64 (i:Int)∧ρ' 8= .int .u64 (cc:Nat)∧ρ' 9= .int .i64 (i:Int)∧ρ' 10= .int .u64 ((ys.getD i 0*w/18446744073709551616:Nat):Int)∧ρ' 11= .int .u64 ((ys.getD i 0*w%18446744073709551616:Nat):Int)) ?_ ?_
    ·rcases Nat.lt_or_ge i ys.length with hyi|hyi
     ·obtain⟨j',rfl,_,hg'⟩:=(hu.mono hle).at hyi
      rw[getD_at hyi] at hyb⊢
      simp only[go_sem,h1,h2,h7,h8,h30,h31,ltT hyi]
      refine⟨by omega,by omega, ?_⟩
      simp only[go_sem,hg',h2]
      refine Mul64_calls hyb hw64 ?_
      simp only[go_sem,h1,h2,h7,h8,h30,h31]
      exact⟨trivial,trivial,trivial,trivial,trivial,trivial,trivial,trivial,trivial,trivial⟩
     ·rw[getD_ge hyi,Nat.zero_mul]
      simp only[go_sem,h1,h2,h7,h8,h30,h31,ltF hyi]
      exact⟨trivial,trivial,trivial,trivial,trivial,trivial,trivial,trivial,rfl,rfl⟩
    rintro ρ' h3 ⟨rfl,h1,h2,h7,h30,h31,h8,h9,h10,h11⟩
    subst hol
    obtain⟨i2,r2,e2',hb2,hl2,hr2,ho2,hf2,hg2,_,hp2⟩:=hs.over hw' (by omega)
    injection e2' with e2'
    subst e2'
    obtain⟨s1,s2⟩:=addmul_step hyb hw64 hcc hzb
    have b1:ys.getD out.length 0*w%18446744073709551616<18446744073709551616:=Nat.mod_lt _ (by omega)
    have b2:(ys.getD out.length 0*w%18446744073709551616+cc)%18446744073709551616<18446744073709551616:=Nat.mod_lt _ (by omega)
    have b3:(zs[out.length]'(by omega)+(ys.getD out.length 0*w%18446744073709551616+cc)%18446744073709551616)%18446744073709551616<18446744073709551616:=Nat.mod_lt _ (by omega)
    have fin:∀d c2:Nat,d+18446744073709551616*c2=zs[out.length]'(by omega)+ys.getD out.length 0*w+cc→val 18446744073709551616 (out++[d])+18446744073709551616^(out.length+1)*c2=val 18446744073709551616 (zs.take (out.length+1))+val 18446744073709551616 (ys.take (out.length+1))*w:=by
     intro d c2 e
     rw[val_snoc,hvz,hvy,Nat.pow_succ,Nat.mul_assoc]
     have e2:=congrArg (fun z=>18446744073709551616^out.length*z) e
     simp only[Nat.mul_add,Nat.add_mul,Nat.mul_assoc] at e2 hov⊢
     omega
    simp only[go_sem,h7,h8,h9,h10,h11]
    refine Add64_calls (c:=0) b1 hcc (by omega) ?_
    have a1:IntKind.u64.wrap (((ys.getD out.length 0*w/18446744073709551616:Nat):Int)+(((ys.getD out.length 0*w%18446744073709551616+cc)/18446744073709551616:Nat):Int))=((ys.getD out.length 0*w/18446744073709551616+(ys.getD out.length 0*w%18446744073709551616+cc)/18446744073709551616:Nat):Int):=addU (by omega)
    simp only[go_sem,Nat.add_zero,h7,h8,h9,h10,h11,a1]
    refine⟨by omega,by omega, ?_⟩
    simp only[go_sem,hg2]
    refine Add64_calls (c:=0) hzb b2 (by omega) ?_
    have f1:=fin _ _ s1
    have a2:=addU (a:=ys.getD out.length 0*w/18446744073709551616+(ys.getD out.length 0*w%18446744073709551616+cc)/18446744073709551616) (b:=(zs[out.length]'(by omega)+(ys.getD out.length 0*w%18446744073709551616+cc)%18446744073709551616)/18446744073709551616) s2
    simp only[go_sem,Nat.add_zero,h7,h9]
    refine⟨by omega,by omega, ?_⟩
    simp only[go_sem,hr2]
    refine⟨ho2,by omega, ?_⟩
    simp only[go_sem,h1,h2,h7,h30,h31,a2,incI (i:=out.length) (by omega)]
    exact⟨by omega,H.wf_set hw' hl2 _,H.le_set hw hle hb2 _,by first|rfl|trivial|assumption,by first|rfl|trivial|assumption,by first|rfl|trivial|assumption,by first|rfl|trivial|assumption,by first|rfl|trivial|assumption,out++[_],_,rfl,s2,hp2 _,hod.append (Dig.one b3),by simp,f1⟩
 ·have:i=N:=by omega
  subst this
  rw[List.take_of_length_le (by omega),List.take_of_length_le (l:=ys) (by omega),hzv,hxv,hyv] at hov
  have hc0:=no_carry hov hend
  subst hc0
  rw[List.drop_of_length_le (by omega),List.append_nil] at hs
  simp only[go_sem,h1,h2,h7,h8,h30,h31,ltF (Nat.le_refl i)]
  refine trimG_calls hs hod (by omega) fun r hr=> ?_
  rw[show val 18446744073709551616 out=x+y*w by omega] at hr
  simp only[go_sem]
  exact fun _=>hk r _ hw' hle hr
end Ab
end Go.Proofs.YtkbglkjpdndkiaaGreatDoor
