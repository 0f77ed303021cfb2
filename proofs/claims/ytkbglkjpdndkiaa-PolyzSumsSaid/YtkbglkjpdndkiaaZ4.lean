/- Joined texts: E1 E2 E3 E4 E5 F1 F2 F3 F4 E6 E7 E8 K1 E9 M1. No condition. -/
import Derived.Test.YtkbglkjpdndkiaaZ3
import Derived.Laws.BitsLemmas
import Derived.Laws.Bits64
import Derived.Laws.Externs
import Derived.Lib.Mul64
namespace Go.Proofs.Ytkbglkjpdndkiaa
namespace Ab
open Go Go.RowKit
set_option linter.unusedSimpArgs false
set_option linter.unusedVariables false
attribute [local go_sem ↓] x_mv x_pick x_bin x_beq x_peq x_seq x_cat x_aeq x_idxS x_idxV x_un x_cvI x_bts x_idx x_idxA x_fld x_ld x_st x_nn x_prt x_slc x_mk x_bsl x_bld x_box x_alloc x_len x_capo x_mnx x_app x_cpy x_mkf x_ext x_call x_callV x_bad s_none s_some s_nil s_cons s_chks w_skip w_reg tP_fin tP_no tP_alt w_seq w_cond w_block w_exit w_ret t_normal t_exit t_ret b_normal b_ret b_exit n_normal n_exit n_ret p_normal p_ret f_nil f_t f_c k_ops k_chk k_fin
attribute [local go_sem] e_t e_c e_f u_some u_none u_at env_at k_v k_pick k_add k_sub k_mul k_quo k_rem k_and k_or k_xor k_shl k_shr k_eql k_neq k_lss k_leq k_gtr k_geq k_beq k_peqn k_peqs k_neg k_not k_com k_cvI k_idxS k_idxV1 k_idxVn k_idx k_idxA k_idxG k_ldG k_gld k_seq k_cat k_aeq k_eqs k_fld k_ld1 k_ldn k_get k_gets k_sti k_stb k_stp k_sts k_stf k_sta k_put k_nn k_prt1 k_prtn k_slc_a k_slc_b k_slc_c k_mk k_agg k_bsl k_box k_len k_lenS k_cap k_max k_min k_ext k_callV k_true k_false k_gtt k_gtf k_gft k_gsk k_gff k_lit1i k_lit2i k_lit3i k_c0 k_c1 k_ck List.getElem?_cons_zero List.getElem?_cons_succ List.getElem?_nil Option.getD_some Option.getD_none tupOf List.map_cons List.map_nil Option.map_some Option.map_none List.nil_append List.cons_append List.append_nil Nat.mul_one Int.toNat_natCast Nat.zero_add
attribute [local go_sem] e_t e_c e_f u_some u_none u_at env_at k_v k_pick k_add k_sub k_mul k_quo k_rem k_and k_or k_xor k_shl k_shr k_eql k_neq k_lss k_leq k_gtr k_geq k_beq k_peqn k_peqs k_neg k_not k_com k_cvI k_idxS k_idxV1 k_idxVn k_idx k_idxA k_idxG k_ldG k_gld k_seq k_cat k_aeq k_eqs k_fld k_ld1 k_ldn k_get k_gets k_sti k_stb k_stp k_sts k_stf k_sta k_put k_nn k_prt1 k_prtn k_slc_a k_slc_b k_slc_c k_mk k_agg k_bsl k_box k_len k_lenS k_cap k_max k_min k_ext k_callV k_true k_false k_gtt k_gtf k_gft k_gsk k_gff k_lit1i k_lit2i k_lit3i k_c0 k_c1 k_ck List.getElem?_cons_zero List.getElem?_cons_succ List.getElem?_nil Option.getD_some Option.getD_none tupOf List.map_cons List.map_nil Option.map_some Option.map_none List.nil_append List.cons_append List.append_nil Nat.mul_one Int.toNat_natCast Nat.zero_add
--what a store into a cell of two leaves
attribute [local go_sem_proc] Nat.reduceEqDiff Nat.reduceAdd Int.reduceToNat
attribute [local go_sem_proc ↓] reduceIte
attribute [local go_sem] Bool.false_eq_true
theorem norm_calls {v:AV} {xs:List Nat} {h:H} {K:AV→H→Prop} (hv:IsN h v xs) (hlen:xs.length<4611686018427387904)
  (hk:∀r k,k≤xs.length→IsN h r (xs.take k)→(∀x∈xs.drop k,x=0)→(∀x,(xs.take k).getLast? =some x→x≠0)→K r h):ACalls Try.prog 84 [v] h K:=by
 obtain⟨id,off,c,rfl⟩:=hv.form
 refine in_ref02_norm (by simp) fun hw=> ?_
 unfold c_ref02_norm
 simp only[go_sem]
 refine⟨fun n ρ h'=>h'=h∧ρ 0= .sl id off xs.length c∧ρ 3= .int .i64 (n:Int)∧n≤xs.length∧(∀x∈xs.drop n,x=0),xs.length,⟨rfl,rfl,rfl,Nat.le_refl _,by simp⟩, ?_⟩
 rintro k ρ h' ⟨rfl,h0,h3,hk1,hz⟩
 have fin:(∀x,(xs.take k).getLast? =some x→x≠0)→K (.sl id off k c) h':=fun hl=>hk _ k hk1 (hv.take hk1) hz hl
 rcases Nat.eq_zero_or_pos k with rfl|hp
 ·have hd:decide ((0:Int)<((0:Nat):Int))=false:=by decide
  simp only[go_sem,h0,h3,hd]
  refine⟨by omega,by omega,hv.row, ?_⟩
  intro _
  exact fin (by simp)
 ·have hd:decide ((0:Int)<(k:Int))=true:=by simp;omega
  obtain⟨i,rfl,_,hg⟩:=hv.at (j:=k-1) (by omega)
  have hw1:IntKind.i64.wrap ((k:Int)-1)=((k-1:Nat):Int):=by rw[wI]<;>omega
  simp only[go_sem,h0,h3,hd,hw1]
  refine⟨by omega,by omega, ?_⟩
  simp only[go_sem,Int.toNat_natCast,Nat.mul_one,hg]
  by_cases hx:xs[k-1]=0
  ·have he:(((xs[k-1]:Nat):Int)==0)=true:=by simp[hx]
   simp only[go_sem,h0,h3,he,hw1]
   refine⟨k-1,by omega,by simp,by simp,by simp,by omega,fun x hm=> ?_⟩
   rw[List.drop_eq_getElem_cons (by omega)] at hm
   rcases List.mem_cons.1 hm with rfl|hm
   ·exact hx
   ·exact hz x (by rwa[show k-1+1=k from by omega] at hm)
  ·have he:(((xs[k-1]:Nat):Int)==0)=false:=by simp;omega
   simp only[go_sem,h0,h3,he]
   refine⟨by omega,by omega,hv.row, ?_⟩
   intro _
   refine fin fun x hl=> ?_
   rw[List.getLast?_eq_getElem?,List.length_take,Nat.min_eq_left hk1,List.getElem?_take,if_pos (by omega),List.getElem?_eq_getElem (by omega)] at hl
   injection hl with hl
   omega
theorem rem32 {x:Nat}:((x:Int)).tmod 4294967296=((x%4294967296:Nat):Int):=tmodN (b:=4294967296)
theorem quo32 {x:Nat} (hx:x<18446744073709551616):IntKind.u64.wrap (((x:Int)).tdiv 4294967296)=((x/4294967296:Nat):Int):=by
 rw[show((x:Int)).tdiv 4294967296=((x/4294967296:Nat):Int) from tdivN (b:=4294967296)]
 rw[wU]<;>omega
theorem incI {i:Nat} (hi:i<9223372036854775807):IntKind.i64.wrap ((i:Int)+1)=((i+1:Nat):Int):=by rw[wI]<;>omega
theorem decI {i:Nat} (hi:0<i) (hi2:i<9223372036854775807):IntKind.i64.wrap ((i:Int)-1)=((i-1:Nat):Int):=by rw[wI]<;>omega
theorem addU {a b:Nat} (h:a+b<18446744073709551616):IntKind.u64.wrap ((a:Int)+(b:Int))=((a+b:Nat):Int):=by rw[wU]<;>omega
theorem mulU {a b:Nat} (h:a*b<18446744073709551616):IntKind.u64.wrap ((a:Int)*(b:Int))=((a*b:Nat):Int):=by
 rw[←Int.natCast_mul,wU]<;>omega
theorem ltT {a b:Nat} (h:a<b):decide ((a:Int)<(b:Int))=true:=by simp;omega
theorem ltF {a b:Nat} (h:b≤a):decide ((a:Int)<(b:Int))=false:=by simp;omega
theorem norm_num {v:AV} {xs:List Nat} {h:H} {K:AV→H→Prop} (hv:IsN h v xs) (hd:∀x∈xs,x<4294967296) (hlen:xs.length<4611686018427387904)
  (hk:∀r,Num 4294967296 h r (val 4294967296 xs)→K r h):ACalls Try.prog 84 [v] h K:=
 norm_calls hv hlen fun r k _ hr hz ht=>hk r ⟨xs.take k,hr,fun x hx=>hd x (List.mem_of_mem_take hx),ht,val_take 4294967296 xs k hz⟩
theorem From_calls {v:AV} {ws:List Nat} {h:H} {K:AV→H→Prop} (hv:IsN h v ws) (hd:∀x∈ws,x<18446744073709551616) (hlen:ws.length≤1099511627776)
  (hk:∀r h',h'.wf→h.le h'→Num 4294967296 h' r (val 18446744073709551616 ws)→K r h'):ACalls Try.prog 60 [v] h K:=by
 obtain⟨id,off,c,rfl⟩:=hv.form
 refine in_ref02_From (by simp) fun hw=> ?_
 unfold c_ref02_From
 have hw0:IntKind.i64.wrap (2*(ws.length:Int))=((2*ws.length:Nat):Int):=by rw[wI]<;>omega
 simp only[go_sem,hw0]
 refine⟨by omega,by omega,by omega, ?_⟩
 refine⟨fun n ρ h'=>h'.wf∧h.le h'∧ρ 0= .sl id off ws.length c∧∃i out s,n=ws.length-i∧i≤ws.length∧ρ 4= .int .i64 (i:Nat)∧ρ 3=s∧IsG h.next h' s out∧(∀x∈out,x<4294967296)∧out.length=2*i∧val 4294967296 out=val 18446744073709551616 (ws.take i),ws.length,
  ⟨H.wf_new hw _,H.le_new hw (H.le_refl h) _,rfl,0,[],_,by omega,by omega,rfl,rfl,IsG.made0 (Nat.le_refl _) _,by simp,rfl,rfl⟩, ?_⟩
 rintro n ρ h' ⟨hw',hle,h0,i,out,s,rfl,hi,h4,h3,hs,hod,hol,hov⟩
 rcases Nat.lt_or_ge i ws.length with hlt|hge
 ·have hc:decide ((i:Int)<(ws.length:Int))=true:=by simp;omega
  obtain⟨j,rfl,_,hg⟩:=(hv.mono hle).at hlt
  have hwd:=hd _ (List.getElem_mem hlt)
  generalize hx:ws[i]=x at hg hwd
  have e2:=quo32 hwd
  simp only[go_sem,h0,h3,h4,hc]
  refine⟨by omega,by omega, ?_⟩
  simp only[go_sem,h0,h4,hg]
  refine⟨by omega,by omega,by omega, ?_⟩
  simp only[go_sem,hg,rem32,e2]
  refine⟨by omega, ?_⟩
  refine app_lit [x%4294967296,x/4294967296] hw hw' hle hs rfl rfl (by simp;omega) fun v' h2 hw2 hle2 hv2=> ?_
  have e3:IntKind.i64.wrap ((i:Int)+1)=((i+1:Nat):Int):=by rw[wI]<;>omega
  simp only[go_sem,h0,h4,e3]
  refine⟨_, ?_,hw2,hle2,by trivial,i+1,_,v',rfl,by omega,rfl,rfl,hv2, ?_,by simp;omega, ?_⟩
  ·omega
  ·intro y hy
   rcases List.mem_append.1 hy with hy|hy
   ·exact hod y hy
   ·simp only[List.mem_cons,List.not_mem_nil,or_false] at hy
    omega
  ·rw[val_append,hov,hol,val_take_succ 18446744073709551616 ws i hlt,hx,show 4294967296^(2*i)=18446744073709551616^i from by rw[Nat.pow_mul]]
   simp only[val]
   congr 2
   omega
 ·have hc:decide ((i:Int)<(ws.length:Int))=false:=by simp;omega
  simp only[go_sem,h0,h3,h4,hc]
  refine norm_num hs.isN hod (by omega) fun r hr=> ?_
  simp only[go_sem]
  intro _
  refine hk r h' hw' hle ?_
  rw[hov,List.take_of_length_le hge] at hr
  exact hr
theorem Small_calls {x:Nat} {h:H} {K:AV→H→Prop} (hx:x<18446744073709551616)
  (hk:∀r h',h'.wf→h.le h'→Num 4294967296 h' r x→K r h'):ACalls Try.prog 32 [.int .u64 (x:Int)] h K:=by
 refine in_ref02_Small (by simp) fun hw=> ?_
 unfold c_ref02_Small
 simp only[go_sem]
 refine From_calls (IsN.lit [x] _ rfl rfl) (by simpa using hx) (by simp) fun r h' hw' hle hr=> ?_
 simp only[go_sem]
 intro _
 refine hk r h' hw' (H.le_trans (H.le_new hw (H.le_refl h) _) hle) ?_
 simpa [val] using hr
def bigL:Nat:=1000000
structure Big (x:Nat):Prop where
 lt:x<4294967296^bigL
theorem Big.le {x y:Nat} (h:Big y) (hx:x≤y):Big x:=⟨Nat.lt_of_le_of_lt hx h.lt⟩
theorem lt_big {x k:Nat} (h:x<4294967296^k) (hk:k≤1000000):Big x:=⟨Nat.lt_of_lt_of_le h (Nat.pow_le_pow_right (by omega) (show k≤bigL from hk))⟩
theorem lt_big64 {x k:Nat} (h:x<18446744073709551616^k) (hk:k≤500000):Big x:=by
 refine lt_big (k:=2*k) ?_ (by omega)
 rw[Nat.pow_mul]
 exact h
theorem word_big {x:Nat} (h:x<18446744073709551616):Big x:=lt_big64 (k:=1) (by omega) (by omega)
theorem Num.open {h:H} {v:AV} {x:Nat} (hv:Num 4294967296 h v x) (hx:Big x):∃xs:List Nat,IsN h v xs∧(∀a∈xs,a<4294967296)∧(∀a,xs.getLast? =some a→a≠0)∧val 4294967296 xs=x∧xs.length≤1000000:=by
 obtain⟨xs,h1,h2,h3,h4⟩:=hv
 exact⟨xs,h1,h2,h3,h4,show xs.length≤bigL from digits_le 4294967296 (by omega) h3 (by rw[h4];exact hx.lt)⟩
def cmpI (x y:Nat):Int:=if x<y then-1 else if x=y then 0 else 1
theorem val_split (B:Nat) (xs:List Nat) (k:Nat) (h:k<xs.length):val B xs=val B (xs.take k)+B^k*(xs[k]+B*val B (xs.drop (k+1))):=by
 rw[val_cut B xs k (Nat.le_of_lt h)]
 rw[List.drop_eq_getElem_cons h]
 rfl
theorem val_lt_at (B:Nat) (hB:0<B) {xs ys:List Nat} (hx:∀a∈xs,a<B) (k:Nat) (h1:k<xs.length) (h2:k<ys.length) (hd:xs.drop (k+1)=ys.drop (k+1)) (hl:xs[k]<ys[k]):val B xs<val B ys:=by
 rw[val_split B xs k h1,val_split B ys k h2,hd]
 have:=val_lt_take B hB xs hx k
 generalize B*val B (ys.drop (k+1))=d
 have h3:B^k*(xs[k]+1+d)≤B^k*(ys[k]+d):=Nat.mul_le_mul_left _ (by omega)
 have h4:B^k*(xs[k]+1+d)=B^k*(xs[k]+d)+B^k:=by rw[←Nat.mul_succ];congr 1;omega
 omega
theorem Cmp_calls {v u:AV} {x y:Nat} {h:H} {K:AV→H→Prop} (nv:Num 4294967296 h v x) (nu:Num 4294967296 h u y) (hx:Big x) (hy:Big y)
  (hk:K (.int .i64 (cmpI x y)) h):ACalls Try.prog 68 [v,u] h K:=by
 obtain⟨xs,hv,hxd,hxt,rfl,hxl⟩:=nv.open hx
 obtain⟨ys,hu,hyd,hyt,rfl,hyl⟩:=nu.open hy
 obtain⟨id,off,c,rfl⟩:=hv.form
 obtain⟨id',off',c',rfl⟩:=hu.form
 refine in_ref02_Cmp (by simp) fun hw=> ?_
 unfold c_ref02_Cmp
 simp only[go_sem]
 refine cond_split (fun hc=> ?_) (fun hc=> ?_)
 ·have hne:xs.length≠ys.length:=by intro e;simp[e] at hc
  simp only[go_sem]
  refine cond_split (fun hc=> ?_) (fun hc=> ?_)
  ·have hlt:xs.length<ys.length:=by simp at hc;omega
   simp only[go_sem]
   intro _
   have:=digits_lt_iff 4294967296 (by omega) hxd hyt hlt
   simpa [cmpI,this] using hk
  ·have hlt:ys.length<xs.length:=by simp at hc;omega
   simp only[go_sem]
   intro _
   have:=digits_lt_iff 4294967296 (by omega) hyd hxt hlt
   have e:cmpI (val 4294967296 xs) (val 4294967296 ys)=1:=by unfold cmpI;rw[if_neg (by omega),if_neg (by omega)]
   simpa [e] using hk
 ·have heq:xs.length=ys.length:=by simp at hc;omega
  simp only[go_sem]
  refine⟨fun n ρ h'=>h'=h∧ρ 0= .sl id off xs.length c∧ρ 1= .sl id' off' ys.length c'∧ρ 5= .int .i64 ((n:Int)-1)∧n≤xs.length∧xs.drop n=ys.drop n,xs.length,
   ⟨rfl,rfl,rfl, ?_,Nat.le_refl _,by rw[List.drop_length,heq,List.drop_length]⟩, ?_⟩
  ·simp only[go_sem]
   rw[wI]<;>omega
  rintro n ρ h' ⟨rfl,h0,h1,h5,hn,hd⟩
  rcases Nat.eq_zero_or_pos n with rfl|hp
  ·have hc:decide ((0:Int)≤((0:Nat):Int)-1)=false:=by decide
   simp only[go_sem,h0,h1,h5,hc]
   intro _
   have:xs=ys:=by simpa using hd
   subst this
   simpa [cmpI] using hk
  ·have hc:decide ((0:Int)≤(n:Int)-1)=true:=by simp;omega
   have e5:(n:Int)-1=((n-1:Nat):Int):=by omega
   obtain⟨i,rfl,_,hg⟩:=hv.at (j:=n-1) (by omega)
   obtain⟨i',rfl,_,hg'⟩:=hu.at (j:=n-1) (by omega)
   rw[e5] at h5 hc
   have hd':xs.drop (n-1+1)=ys.drop (n-1+1):=by rw[show n-1+1=n from by omega];exact hd
   simp only[go_sem,h0,h1,h5,hc]
   refine⟨by omega,by omega, ?_⟩
   simp only[go_sem,h0,h1,h5,hg]
   refine⟨by omega,by omega, ?_⟩
   simp only[go_sem,h0,h1,h5,hg,hg']
   refine cond_split (fun hc=> ?_) (fun hc=> ?_)
   ·simp only[go_sem]
    intro _
    have:=val_lt_at 4294967296 (by omega) hxd (n-1) (by omega) (by omega) hd' (by simp at hc;omega)
    simpa [cmpI,this] using hk
   ·have hc1:ys[n-1]≤xs[n-1]:=by simp at hc;omega
    simp only[go_sem,h0,h1,h5,hg,hg']
    refine⟨by omega,by omega,by omega,by omega, ?_⟩
    refine cond_split (fun hc=> ?_) (fun hc=> ?_)
    ·simp only[go_sem]
     intro _
     have:=val_lt_at 4294967296 (by omega) hyd (n-1) (by omega) (by omega) hd'.symm (by simp at hc;omega)
     have e:cmpI (val 4294967296 xs) (val 4294967296 ys)=1:=by unfold cmpI;rw[if_neg (by omega),if_neg (by omega)]
     simpa [e] using hk
    ·have e:xs[n-1]=ys[n-1]:=by simp at hc;omega
     have e6:IntKind.i64.wrap (((n-1:Nat):Int)-1)=((n-1:Nat):Int)-1:=by rw[wI]<;>omega
     simp only[go_sem,h0,h1,h5,e6]
     refine⟨n-1,by omega,by trivial,by trivial,by trivial,by first|rfl|trivial|assumption,by omega, ?_⟩
     rw[List.drop_eq_getElem_cons (by omega),List.drop_eq_getElem_cons (l:=ys) (by omega),e,hd']
theorem val_take_get (B:Nat) (xs:List Nat) (k:Nat):val B (xs.take (k+1))=val B (xs.take k)+B^k*xs.getD k 0:=by
 rcases Nat.lt_or_ge k xs.length with h|h
 ·rw[val_take_succ B xs k h,List.getD_eq_getElem?_getD,List.getElem?_eq_getElem h]
  rfl
 ·rw[List.take_of_length_le (by omega),List.take_of_length_le h,List.getD_eq_getElem?_getD,List.getElem?_eq_none h]
  simp
theorem digit_snoc {B q s:Nat} (hB:0<B):q*(s%B)+q*B*(s/B)=q*s:=by
 rw[Nat.mul_assoc,←Nat.mul_add,Nat.mod_add_div]
theorem Add_calls {v u:AV} {x y:Nat} {h:H} {K:AV→H→Prop} (nv:Num 4294967296 h v x) (nu:Num 4294967296 h u y) (hx:Big x) (hy:Big y)
  (hk:∀r h',h'.wf→h.le h'→Num 4294967296 h' r (x+y)→K r h'):ACalls Try.prog 67 [v,u] h K:=by
 obtain⟨xs,hv,hxd,hxt,rfl,hxl⟩:=nv.open hx
 obtain⟨ys,hu,hyd,hyt,rfl,hyl⟩:=nu.open hy
 obtain⟨id,off,c,rfl⟩:=hv.form
 obtain⟨id',off',c',rfl⟩:=hu.form
 refine in_ref02_Add (by simp) fun hw=> ?_
 unfold c_ref02_Add
 have e0:IntKind.i64.wrap (max (xs.length:Int) (ys.length:Int)+1)=((max xs.length ys.length+1:Nat):Int):=by rw[wI]<;>omega
 simp only[go_sem,e0]
 refine⟨by omega,by omega,by omega, ?_⟩
 generalize hm:max xs.length ys.length=m
 refine⟨fun n ρ h'=>h'.wf∧h.le h'∧ρ 0= .sl id off xs.length c∧ρ 1= .sl id' off' ys.length c'∧∃i out s a,n=m+1-i∧i≤m+1∧ρ 7= .int .i64 (i:Nat)∧ρ 6= .int .u64 (a:Nat)∧a≤1∧(i=m+1→a=0)∧ρ 5=s∧IsG h.next h' s out∧(∀x∈out,x<4294967296)∧out.length=i∧
   val 4294967296 out+4294967296^i*a=val 4294967296 (xs.take i)+val 4294967296 (ys.take i),m+1,
  ⟨H.wf_new hw _,H.le_new hw (H.le_refl h) _,rfl,rfl,0,[],_,0,by omega,by omega,rfl,rfl,by omega,by omega,rfl,IsG.made0 (Nat.le_refl _) _,by simp,rfl,rfl⟩, ?_⟩
 rintro n ρ h' ⟨hw',hle,h0,h1,i,out,s,a,rfl,hi,h7,h6,ha,hae,h5,hs,hod,hol,hov⟩
 have e7:=incI (i:=i) (by omega)
 --what a round leaves
 have round:∀(t:Nat),t=a+xs.getD i 0+ys.getD i 0→i≤m→(∀v' h2,h2.wf→h.le h2→IsG h.next h2 v' (out++[t%4294967296])→∃k,k<m+1-i∧h2.wf∧h.le h2∧True∧True∧∃i' out' s' a',k=m+1-i'∧i'≤m+1∧AV.int .i64 ((i+1:Nat):Int)= .int .i64 (i':Nat)∧AV.int .u64 ((t/4294967296:Nat):Int)= .int .u64 (a':Nat)∧a'≤1∧(i'=m+1→a'=0)∧v'=s'∧IsG h.next h2 s' out'∧(∀x∈out',x<4294967296)∧out'.length=i'∧
   val 4294967296 out'+4294967296^i'*a'=val 4294967296 (xs.take i')+val 4294967296 (ys.take i')):=by
  intro t ht him v' h2 hw2 hle2 hv2
  have hxi:xs.getD i 0<4294967296:=by
   rcases Nat.lt_or_ge i xs.length with hh|hh
   ·rw[List.getD_eq_getElem?_getD,List.getElem?_eq_getElem hh];exact hxd _ (List.getElem_mem hh)
   ·rw[List.getD_eq_getElem?_getD,List.getElem?_eq_none hh];decide
  have hyi:ys.getD i 0<4294967296:=by
   rcases Nat.lt_or_ge i ys.length with hh|hh
   ·rw[List.getD_eq_getElem?_getD,List.getElem?_eq_getElem hh];exact hyd _ (List.getElem_mem hh)
   ·rw[List.getD_eq_getElem?_getD,List.getElem?_eq_none hh];decide
  refine⟨m+1-(i+1),by omega,hw2,hle2,True.intro,True.intro,i+1,_,v',t/4294967296,rfl,by omega,rfl,rfl,by omega, ?_,rfl,hv2, ?_,by simp;omega, ?_⟩
  ·intro e
   have e1:xs.getD i 0=0:=by rw[List.getD_eq_getElem?_getD,List.getElem?_eq_none (by omega)];rfl
   have e2:ys.getD i 0=0:=by rw[List.getD_eq_getElem?_getD,List.getElem?_eq_none (by omega)];rfl
   omega
  ·intro z hz
   rcases List.mem_append.1 hz with hz|hz
   ·exact hod z hz
   ·simp only[List.mem_cons,List.not_mem_nil,or_false] at hz
    omega
  ·rw[val_snoc,hol,val_take_get,val_take_get,Nat.pow_succ,Nat.add_assoc,digit_snoc (by omega),ht,Nat.mul_add,Nat.mul_add]
   omega
 rcases Nat.lt_or_ge i xs.length with hxi|hxi<;>rcases Nat.lt_or_ge i ys.length with hyi|hyi
 ·obtain⟨j,rfl,_,hg⟩:=(hv.mono hle).at hxi
  have hxb:=hxd _ (List.getElem_mem hxi)
  have ex:xs.getD i 0=xs[i]:=by rw[List.getD_eq_getElem?_getD,List.getElem?_eq_getElem hxi];rfl
  obtain⟨j',rfl,_,hg'⟩:=(hu.mono hle).at hyi
  have hyb:=hyd _ (List.getElem_mem hyi)
  have ey:ys.getD i 0=ys[i]:=by rw[List.getD_eq_getElem?_getD,List.getElem?_eq_getElem hyi];rfl
  rw[ex,ey] at round
  generalize xs[i]=p at*
  generalize ys[i]=q at*
  have r:=round (a+p+q) (by omega) (by omega)
  simp only[go_sem,h0,h1,h5,h6,h7,ltT hxi,ltT hyi,hg,addU (a:=a) (b:=p) (by omega),hg',addU (a:=a+p) (b:=q) (by omega),rem32]
  refine⟨by omega,by omega,by omega,by omega, ?_⟩
  try simp only[go_sem,h0,h1,h5,h6,h7,ltT hxi,ltT hyi,hg,addU (a:=a) (b:=p) (by omega),hg',addU (a:=a+p) (b:=q) (by omega),rem32]
  refine⟨by omega, ?_⟩
  refine app_lit [(a+p+q)%4294967296] hw hw' hle hs rfl rfl (by simp;omega) fun v' h2 hw2 hle2 hv2=> ?_
  simp only[go_sem,h0,h1,h6,h7,e7,quo32 (x:=a+p+q) (by omega)]
  refine⟨by omega, ?_⟩
  exact r v' h2 hw2 hle2 hv2
 ·obtain⟨j,rfl,_,hg⟩:=(hv.mono hle).at hxi
  have hxb:=hxd _ (List.getElem_mem hxi)
  have ex:xs.getD i 0=xs[i]:=by rw[List.getD_eq_getElem?_getD,List.getElem?_eq_getElem hxi];rfl
  have ey:ys.getD i 0=0:=by rw[List.getD_eq_getElem?_getD,List.getElem?_eq_none hyi];rfl
  rw[ex,ey] at round
  generalize xs[i]=p at*
  have r:=round (a+p) (by omega) (by omega)
  simp only[go_sem,h0,h1,h5,h6,h7,ltT hxi,ltF hyi,hg,addU (a:=a) (b:=p) (by omega),rem32]
  refine⟨by omega,by omega, ?_⟩
  try simp only[go_sem,h0,h1,h5,h6,h7,ltT hxi,ltF hyi,hg,addU (a:=a) (b:=p) (by omega),rem32]
  refine⟨by omega, ?_⟩
  refine app_lit [(a+p)%4294967296] hw hw' hle hs rfl rfl (by simp;omega) fun v' h2 hw2 hle2 hv2=> ?_
  simp only[go_sem,h0,h1,h6,h7,e7,quo32 (x:=a+p) (by omega)]
  refine⟨by omega, ?_⟩
  exact r v' h2 hw2 hle2 hv2
 ·have ex:xs.getD i 0=0:=by rw[List.getD_eq_getElem?_getD,List.getElem?_eq_none hxi];rfl
  obtain⟨j',rfl,_,hg'⟩:=(hu.mono hle).at hyi
  have hyb:=hyd _ (List.getElem_mem hyi)
  have ey:ys.getD i 0=ys[i]:=by rw[List.getD_eq_getElem?_getD,List.getElem?_eq_getElem hyi];rfl
  rw[ex,ey] at round
  generalize ys[i]=q at*
  have r:=round (a+q) (by omega) (by omega)
  simp only[go_sem,h0,h1,h5,h6,h7,ltF hxi,ltT hyi,hg',addU (a:=a) (b:=q) (by omega),rem32]
  refine⟨by omega,by omega, ?_⟩
  try simp only[go_sem,h0,h1,h5,h6,h7,ltF hxi,ltT hyi,hg',addU (a:=a) (b:=q) (by omega),rem32]
  refine⟨by omega, ?_⟩
  refine app_lit [(a+q)%4294967296] hw hw' hle hs rfl rfl (by simp;omega) fun v' h2 hw2 hle2 hv2=> ?_
  simp only[go_sem,h0,h1,h6,h7,e7,quo32 (x:=a+q) (by omega)]
  refine⟨by omega, ?_⟩
  exact r v' h2 hw2 hle2 hv2
 ·have ex:=ltF hxi
  have ey:=ltF hyi
  rcases Nat.eq_zero_or_pos a with ha|ha
  ·have ha0:decide ((0:Int)<(a:Int))=false:=by simp;omega
   simp only[go_sem,h0,h1,h5,h6,h7,ex,ey,ha0]
   refine norm_num hs.isN hod (by omega) fun r hr=> ?_
   simp only[go_sem]
   intro _
   refine hk r h' hw' hle ?_
   rw[List.take_of_length_le hxi,List.take_of_length_le hyi,ha] at hov
   simp only[Nat.mul_zero,Nat.add_zero] at hov
   rw[hov] at hr
   exact hr
  ·have ex1:=ltF hxi
   have ey1:=ltF hyi
   have ex:xs.getD i 0=0:=by rw[List.getD_eq_getElem?_getD,List.getElem?_eq_none hxi];rfl
   have ey:ys.getD i 0=0:=by rw[List.getD_eq_getElem?_getD,List.getElem?_eq_none hyi];rfl
   rw[ex,ey] at round
   have r:=round (a) (by omega) (by omega)
   have ha0:decide ((0:Int)<(a:Int))=true:=by simp;omega
   simp only[go_sem,h0,h1,h5,h6,h7,ex1,ey1,rem32,ha0]
   refine⟨by omega, ?_⟩
   refine app_lit [(a)%4294967296] hw hw' hle hs rfl rfl (by simp;omega) fun v' h2 hw2 hle2 hv2=> ?_
   simp only[go_sem,h0,h1,h6,h7,e7,quo32 (x:=a) (by omega)]
   refine⟨by omega, ?_⟩
   exact r v' h2 hw2 hle2 hv2
theorem val_set (B:Nat) (xs:List Nat) (k v:Nat) (h:k<xs.length):val B (xs.set k v)+B^k*xs[k]=val B xs+B^k*v:=by
 have h2:k<(xs.set k v).length:=by simpa using h
 rw[val_split B xs k h,val_split B (xs.set k v) k h2]
 simp only[List.getElem_set_self,List.take_set,List.drop_set,Nat.mul_add]
 rw[if_pos (by omega),List.set_eq_of_length_le (by simp;omega)]
 omega
theorem getD_set {xs:List Nat} {k j v:Nat}:(xs.set k v).getD j 0=if j=k∧k<xs.length then v else xs.getD j 0:=by
 rw[List.getD_eq_getElem?_getD,List.getD_eq_getElem?_getD,List.getElem?_set]
 by_cases h:k=j
 ·subst h
  by_cases h2:k<xs.length
  ·simp[h2]
  ·simp[h2]
 ·rw[if_neg h,if_neg (fun e=>h e.1.symm)]
theorem getD_at {xs:List Nat} {k:Nat} (h:k<xs.length):xs.getD k 0=xs[k]:=by rw[List.getD_eq_getElem?_getD,List.getElem?_eq_getElem h];rfl
theorem mem_set_lt {B:Nat} {xs:List Nat} {k v:Nat} (h:∀x∈xs,x<B) (hv:v<B):∀x∈xs.set k v,x<B:=by
 intro x hx
 rcases List.mem_or_eq_of_mem_set hx with h1|h1
 ·exact h x h1
 ·exact h1▸hv
theorem fit32 {o x y c:Nat} (ho:o<4294967296) (hx:x<4294967296) (hy:y<4294967296) (hc:c<4294967296):o+x*y+c<18446744073709551616∧(o+x*y+c)/4294967296<4294967296:=by
 have h1:x*y≤4294967295*4294967295:=Nat.mul_le_mul (by omega) (by omega)
 constructor<;>omega
theorem Mul_calls {v u:AV} {x y:Nat} {h:H} {K:AV→H→Prop} (nv:Num 4294967296 h v x) (nu:Num 4294967296 h u y) (hx:Big x) (hy:Big y)
  (hk:∀r h',h'.wf→h.le h'→Num 4294967296 h' r (x*y)→K r h'):ACalls Try.prog 73 [v,u] h K:=by
 obtain⟨xs,hv,hxd,hxt,rfl,hxl⟩:=nv.open hx
 obtain⟨ys,hu,hyd,hyt,rfl,hyl⟩:=nu.open hy
 obtain⟨id,off,c,rfl⟩:=hv.form
 obtain⟨id',off',c',rfl⟩:=hu.form
 refine in_ref02_Mul (by simp) fun hw=> ?_
 unfold c_ref02_Mul
 have e0:IntKind.i64.wrap ((xs.length:Int)+(ys.length:Int))=((xs.length+ys.length:Nat):Int):=by rw[wI]<;>omega
 simp only[go_sem,e0]
 refine⟨by omega,by omega,by omega, ?_⟩
 refine⟨fun n ρ h'=>h'.wf∧h.le h'∧ρ 0= .sl id off xs.length c∧ρ 1= .sl id' off' ys.length c'∧∃i out o c2,n=xs.length-i∧i≤xs.length∧ρ 6= .int .i64 (i:Nat)∧ρ 5= .sl o 0 (xs.length+ys.length) c2∧IsG h.next h' (.sl o 0 (xs.length+ys.length) c2) out∧(∀x∈out,x<4294967296)∧out.length=xs.length+ys.length∧
   (∀k,i+ys.length≤k→out.getD k 0=0)∧val 4294967296 out=val 4294967296 (xs.take i)*val 4294967296 ys,xs.length,
  ⟨H.wf_new hw _,H.le_new hw (H.le_refl h) _,rfl,rfl,0,List.replicate (xs.length+ys.length) 0,_,_,by omega,by omega,rfl,rfl,IsG.made (Nat.le_refl _) _, ?_,by simp, ?_, ?_⟩, ?_⟩
 ·intro z hz
  rw[List.mem_replicate] at hz
  omega
 ·intro k _
  simp[List.getD_eq_getElem?_getD,List.getElem?_replicate]
  split<;>rfl
 ·rw[val_zero 4294967296 _ (fun z hz=>(List.mem_replicate.1 hz).2)]
  simp[val]
 rintro n ρ h' ⟨hw',hle,h0,h1,i,out,o,c2,rfl,hi,h6,h5,hs,hod,hol,hoz,hov⟩
 rcases Nat.lt_or_ge i xs.length with hxi|hxi
 ·simp only[go_sem,h0,h1,h5,h6,ltT hxi]
  have hxb:=hxd _ (List.getElem_mem hxi)
  refine⟨fun n ρ h'=>h'.wf∧h.le h'∧ρ 0= .sl id off xs.length c∧ρ 1= .sl id' off' ys.length c'∧ρ 6= .int .i64 (i:Nat)∧ρ 5= .sl o 0 (xs.length+ys.length) c2∧∃j out a,n=ys.length-j∧j≤ys.length∧ρ 8= .int .i64 (j:Nat)∧ρ 7= .int .u64 (a:Nat)∧a<4294967296∧IsG h.next h' (.sl o 0 (xs.length+ys.length) c2) out∧(∀x∈out,x<4294967296)∧out.length=xs.length+ys.length∧
   (∀k,i+ys.length≤k→out.getD k 0=0)∧val 4294967296 out+4294967296^(i+j)*a=val 4294967296 (xs.take i)*val 4294967296 ys+4294967296^i*(xs[i]*val 4294967296 (ys.take j)),ys.length,
   ⟨hw',hle,by first|rfl|trivial|assumption,by first|rfl|trivial|assumption,by first|rfl|trivial|assumption,by first|rfl|trivial|assumption,0,out,0,by omega,by omega,rfl,rfl,by omega,hs,hod,hol,hoz, ?_⟩, ?_⟩
  ·rw[hov];simp[val]
  rintro n ρ h' ⟨hw',hle,h0,h1,h6,h5,j,out,a,rfl,hj,h8,h7,ha,hs,hod,hol,hoz,hov⟩
  have eij:IntKind.i64.wrap ((i:Int)+(j:Int))=((i+j:Nat):Int):=by rw[wI]<;>omega
  rcases Nat.lt_or_ge j ys.length with hyj|hyj
  ·have hyb:=hyd _ (List.getElem_mem hyj)
   obtain⟨i1,rfl,_,hg⟩:=(hv.mono hle).at hxi
   obtain⟨i2,rfl,_,hg'⟩:=(hu.mono hle).at hyj
   have hjo:i+j<out.length:=by omega
   obtain⟨i3,rfl,_,hgo⟩:=hs.isN.at hjo
   obtain⟨i3',r,e3,hb3,hn3,hr3,ho3,hc3,hput⟩:=hs.put hw' hjo
   injection e3 with e3
   subst e3
   have hob:=hod _ (List.getElem_mem hjo)
   have hset:=val_set 4294967296 out (i+j)
   rw[Nat.zero_add] at hgo
   obtain⟨f1,f2⟩:=fit32 hob hxb hyb ha
   have htk:=val_take_succ 4294967296 ys j hyj
   have hsz:=getD_at hjo
   generalize hx1:xs[i]=p at*
   generalize hy1:ys[j]=q at*
   generalize ho1:out[i+j]=w at*
   simp only[go_sem,h0,h1,h5,h6,h7,h8,ltT hyj,eij,hg,hg',hgo,mulU (a:=p) (b:=q) (by omega),addU (a:=w) (b:=p*q) (by omega),addU (a:=w+p*q) (b:=a) (by omega),rem32,quo32 f1]
   refine⟨by omega,by omega,by omega,by omega,by omega,by omega,by omega,by omega,by omega, ?_⟩
   have ej:=incI (i:=j) (by omega)
   simp only[go_sem,hr3,h0,h1,h5,h6,h8,ej,quo32 f1]
   refine⟨ho3,hc3,by omega, ?_⟩
   refine⟨ys.length-(j+1),by omega,H.wf_set hw' hn3 _,H.le_set hw hle hb3 _,by first|rfl|trivial|assumption,by first|rfl|trivial|assumption,by first|rfl|trivial|assumption,by first|rfl|trivial|assumption,j+1,_,_,rfl,by omega,rfl,rfl,f2,hput _,mem_set_lt hod (by omega),by simp;omega,fun k hk=> ?_, ?_⟩
   ·rw[getD_set,if_neg (by omega)]
    exact hoz k hk
   ·have e1:=hset ((w+p*q+a)%4294967296) hjo
    rw[ho1] at e1
    have e2:=digit_snoc (B:=4294967296) (q:=4294967296^(i+j)) (s:=w+p*q+a) (by omega)
    rw[show i+(j+1)=i+j+1 from rfl,Nat.pow_succ,htk]
    rw[Nat.mul_add,Nat.mul_add] at e2
    have e3:4294967296^i*(p*(val 4294967296 (ys.take j)+4294967296^j*q))=4294967296^i*(p*val 4294967296 (ys.take j))+4294967296^(i+j)*(p*q):=by
     rw[Nat.mul_add,Nat.mul_add,Nat.pow_add,Nat.mul_left_comm p,Nat.mul_assoc]
    rw[e3]
    omega
  ·have hjo:i+ys.length<out.length:=by omega
   obtain⟨i3',r,e3,hb3,hn3,hr3,ho3,hc3,hput⟩:=hs.put hw' hjo
   subst e3
   have eil:IntKind.i64.wrap ((i:Int)+(ys.length:Int))=((i+ys.length:Nat):Int):=by rw[wI]<;>omega
   have ei:=incI (i:=i) (by omega)
   have hj':j=ys.length:=by omega
   subst hj'
   simp only[go_sem,h0,h1,h5,h6,h7,h8,ltF hyj,eil,hr3,ei]
   refine⟨by omega,by omega,ho3,hc3, ?_⟩
   refine⟨xs.length-(i+1),by omega,H.wf_set hw' hn3 _,H.le_set hw hle hb3 _,by first|rfl|trivial|assumption,by first|rfl|trivial|assumption,i+1,_,_,_,rfl,by omega,rfl,rfl,hput a,mem_set_lt hod ha,by simp;omega,fun k hk=> ?_, ?_⟩
   ·rw[getD_set,if_neg (by omega)]
    exact hoz k (by omega)
   ·have e1:=val_set 4294967296 out (i+ys.length) a hjo
    rw[←getD_at hjo,hoz _ (Nat.le_refl _),Nat.mul_zero,Nat.add_zero,hov,List.take_length] at e1
    rw[e1,val_take_succ 4294967296 xs i hxi,Nat.add_mul,Nat.mul_assoc]
 ·simp only[go_sem,h0,h1,h5,h6,ltF hxi]
  refine norm_num hs.isN hod (by omega) fun r hr=> ?_
  simp only[go_sem]
  intro _
  refine hk r h' hw' hle ?_
  rw[List.take_of_length_le hxi] at hov
  rw[hov] at hr
  exact hr
theorem mask32 {x:Nat} (hx:x<18446744073709551616):bAnd .u64 (x:Int) 4294967295=((x%4294967296:Nat):Int):=by
 have:=bandN (a:=x) (b:=4294967295) hx (by omega)
 rw[show 4294967295=2^32-1 from rfl,Nat.and_two_pow_sub_one_eq_mod] at this
 exact this
theorem shrU {x n:Nat} (hn:n≤64):bShr .u64 (x:Int) n=((x/2^n:Nat):Int):=by
 unfold bShr
 rw[show IntKind.u64.bits=64 from rfl,Nat.min_eq_left hn,Int.fdiv_eq_ediv_of_nonneg _ (Int.le_of_lt (Int.pow_pos (by decide)))]
 simp
theorem shr32 {x:Nat}:bShr .u64 (x:Int) 32=((x/4294967296:Nat):Int):=shrU (n:=32) (by omega)
theorem wUn {x:Nat} (h:x<18446744073709551616):IntKind.u64.wrap (x:Int)=(x:Int):=by rw[wU]<;>omega
theorem Add64_calls {x y c:Nat} {h:H} {K:AV→H→Prop} (hx:x<18446744073709551616) (hy:y<18446744073709551616) (hc:c≤1)
  (hk:K (.tup [.int .u64 ((x+y+c)%18446744073709551616:Nat), .int .u64 ((x+y+c)/18446744073709551616:Nat)]) h):ACalls Try.prog 85 [.int .u64 (x:Int), .int .u64 (y:Int), .int .u64 (c:Int)] h K:=by
 intro base w0 μ w vs R hr
 obtain⟨v1,vs,rfl,r1,hr⟩:=hr.inv
 obtain⟨v2,vs,rfl,r2,hr⟩:=hr.inv
 obtain⟨v3,vs,rfl,r3,hr⟩:=hr.inv
 obtain rfl:=hr.inv_nil
 cases r1;cases r2;cases r3
 refine .inr ⟨.tuple #[.int .u64 ((x+y+c)%18446744073709551616:Nat), .int .u64 ((x+y+c)/18446744073709551616:Nat)], ?_,μ,_,h,μ.le_refl, ?_,R,hk⟩
 ·rw[run_callFunc_extern Try.func85 (by kernel_rfl) (by kernel_rfl) (by kernel_rfl) (e:=add64Entry) (by kernel_rfl)]
  show((add64Entry #[.int .u64 x, .int .u64 y, .int .u64 c]).run Try.prog w).andThen _=_
  rw[run_add64 (x:Int) y c (by omega) (by omega) (by omega) (by omega)]
  rfl
 ·exact((RelA.nil μ).cons (Rel.int _ _)).cons (Rel.int _ _)|>.tup
def sub64E:Array Value→Sem Value:=fun args=>do
 let (x,y,b)←Extern.MathBitsCarry.three "Sub64" args
 pure (Extern.MathBitsCarry.pair ((x+Extern.MathBitsCarry.m64-y-b)%Extern.MathBitsCarry.m64) (if x<y+b then 1 else 0))
theorem run_sub64E {P:Program} (x y b:Nat) (hb:b≤1) (w:World):
  (sub64E #[.int .u64 x, .int .u64 y, .int .u64 b]).run P w=
   .ok (.tuple #[.int .u64 (((x+18446744073709551616-y-b)%18446744073709551616:Nat):Int), .int .u64 ((if x<y+b then 1 else 0:Nat):Int)]) w:=by
 have:b=0∨b=1:=by omega
 rcases this with rfl|rfl<;>rfl
theorem Sub64_calls {x y c:Nat} {h:H} {K:AV→H→Prop} (hc:c≤1)
  (hk:K (.tup [.int .u64 ((x+18446744073709551616-y-c)%18446744073709551616:Nat), .int .u64 (if x<y+c then 1 else 0:Nat)]) h):ACalls Try.prog 86 [.int .u64 (x:Int), .int .u64 (y:Int), .int .u64 (c:Int)] h K:=by
 intro base w0 μ w vs R hr
 obtain⟨v1,vs,rfl,r1,hr⟩:=hr.inv
 obtain⟨v2,vs,rfl,r2,hr⟩:=hr.inv
 obtain⟨v3,vs,rfl,r3,hr⟩:=hr.inv
 obtain rfl:=hr.inv_nil
 cases r1;cases r2;cases r3
 refine .inr ⟨.tuple #[.int .u64 ((x+18446744073709551616-y-c)%18446744073709551616:Nat), .int .u64 (if x<y+c then 1 else 0:Nat)], ?_,μ,_,h,μ.le_refl, ?_,R,hk⟩
 ·rw[run_callFunc_extern Try.func86 (by kernel_rfl) (by kernel_rfl) (by kernel_rfl) (e:=sub64E) (by kernel_rfl)]
  show((sub64E #[.int .u64 x, .int .u64 y, .int .u64 c]).run Try.prog w).andThen _=_
  rw[run_sub64E x y c hc]
  rfl
 ·exact((RelA.nil μ).cons (Rel.int _ _)).cons (Rel.int _ _)|>.tup
theorem Mul64_calls {x y:Nat} {h:H} {K:AV→H→Prop} (hx:x<18446744073709551616) (hy:y<18446744073709551616)
  (hk:K (.tup [.int .u64 (x*y/18446744073709551616:Nat), .int .u64 (x*y%18446744073709551616:Nat)]) h):ACalls Try.prog 92 [.int .u64 (x:Int), .int .u64 (y:Int)] h K:=by
 refine in_bits_Mul64 (by simp) fun hw=> ?_
 unfold c_bits_Mul64
 obtain⟨m1,m2,m3,m4⟩:=Lib.mul64_hi x y hx hy
 have m5:IntKind.u64.wrap ((x:Int)*(y:Int))=((x*y%18446744073709551616:Nat):Int):=by rw[wUm,←Int.natCast_mul];rfl
 have hm:x*y/18446744073709551616<18446744073709551616:=by
  have:=Nat.mul_lt_mul'' hx hy
  omega
 rw[←m4] at hk hm
 have hm2:x/4294967296*(y/4294967296)<18446744073709551616:=by
  have:=Nat.mul_le_mul (show x/4294967296≤4294967295 by omega) (show y/4294967296≤4294967295 by omega)
  omega
 simp only[go_sem]
 simp only[mask32 hx,mask32 hy,shr32]
 have f1:x/4294967296*(y%4294967296)<18446744073709551616:=by omega
 have f2:x%4294967296*(y/4294967296)<18446744073709551616:=by omega
 generalize x%4294967296=x0 at*
 generalize y%4294967296=y0 at*
 generalize x/4294967296=x1 at*
 generalize y/4294967296=y1 at*
 simp only[mulU m1,mulU f1,mulU f2,mulU hm2,shr32,addU m2,mask32 m2,addU m3]
 rw[addU (a:=x1*y1) (by omega),addU hm,m5]
 exact⟨by omega,by omega,by omega,by omega,by omega,fun _=>hk⟩
def tabok (s:ByteArray):Bool:=(List.range 256).all fun y=>match s[y]? with
 |some b=>decide (b.toNat≤8∧y<2^b.toNat∧(b.toNat=0∨2^(b.toNat-1)≤y))
 |none=>false
theorem tab_use {s:ByteArray} {y:Nat} {K:AV→H→Prop} {h:H} (hs:tabok s=true) (hy:y<256) (hk:∀b:Nat,b≤8→y<2^b→(b=0∨2^(b-1)≤y)→K (.int .u8 (b:Int)) h):∃b,s[y]? =some b∧K (.int .u8 b.toNat) h:=by
 have:=(List.all_eq_true.1 hs) y (by simpa using hy)
 split at this
 ·rename_i b hb
  have:=of_decide_eq_true this
  exact⟨b,hb,hk b.toNat this.1 this.2.1 this.2.2⟩
 ·cases this
def BL (x L:Nat):Prop:=x<2^L∧(L=0∨2^(L-1)≤x)
theorem BL.up {x k L:Nat} (h:BL (x/2^k) L) (hL:L≠0):BL x (k+L):=by
 have hp:0<2^k:=Nat.pow_pos (by decide)
 refine⟨?_, .inr ?_⟩
 ·have:=(Nat.div_lt_iff_lt_mul hp).1 h.1
  rw[Nat.pow_add,Nat.mul_comm]
  exact this
 ·have h1:2^(L-1)≤x/2^k:=h.2.resolve_left hL
  have:=(Nat.le_div_iff_mul_le hp).1 h1
  rw[show k+L-1=(L-1)+k from by omega,Nat.pow_add]
  exact this
theorem BL.pos {x L:Nat} (h:BL x L) (hx:0<x):L≠0:=by
 rintro rfl
 have:=h.1
 omega
theorem Len64_calls {x:Nat} {h:H} {K:AV→H→Prop} (hx:x<18446744073709551616)
  (hk:∀L:Nat,L≤64→BL x L→K (.int .i64 (L:Int)) h):ACalls Try.prog 78 [.int .u64 (x:Int)] h K:=by
 refine in_bits_Len64 (by simp) fun hw=> ?_
 unfold c_bits_Len64
 have fin:∀(y k:Nat),y<256→k≤56→(∀b:Nat,b≤8→BL y b→K (.int .i64 ((k+b:Nat):Int)) h)→∀(s:ByteArray),tabok s=true→(0≤IntKind.u8.wrap (y:Int)∧∃b,s[(IntKind.u8.wrap (y:Int)).toNat]? =some b∧K (.int .i64 (IntKind.i64.wrap ((k:Int)+IntKind.i64.wrap ((b.toNat:Nat):Int)))) h):=by
  intro y k hy hk1 hf s hs
  have e:IntKind.u8.wrap (y:Int)=(y:Int):=by rw[IntKind.wrap_u8];omega
  rw[e,Int.toNat_natCast]
  refine⟨by omega, ?_⟩
  obtain⟨b,hb,hq⟩:=tab_use (K:=fun v h=>∀n:Int,v= .int .u8 n→K (.int .i64 (IntKind.i64.wrap ((k:Int)+IntKind.i64.wrap n))) h) (h:=h) hs hy (fun b h1 h2 h3 n en=>by
   injection en with _ en
   subst en
   rw[wI (n:=(b:Int)) (by omega) (by omega),wI (by omega) (by omega),←Int.natCast_add]
   exact hf b h1 ⟨h2,h3⟩)
  exact⟨b,hb,hq _ rfl⟩
 have w1:IntKind.i64.wrap (0+16)=16:=by decide
 have w2:IntKind.i64.wrap (32+16)=48:=by decide
 have w3:IntKind.i64.wrap (0+8)=8:=by decide
 have w4:IntKind.i64.wrap (16+8)=24:=by decide
 have w5:IntKind.i64.wrap (32+8)=40:=by decide
 have w6:IntKind.i64.wrap (48+8)=56:=by decide
 have s16:∀y:Nat,bShr .u64 (y:Int) 16=((y/2^16:Nat):Int):=fun y=>shrU (n:=16) (by omega)
 have s8:∀y:Nat,bShr .u64 (y:Int) 8=((y/2^8:Nat):Int):=fun y=>shrU (n:=8) (by omega)
 have s32:∀y:Nat,bShr .u64 (y:Int) 32=((y/2^32:Nat):Int):=fun y=>shrU (n:=32) (by omega)
 have up2:∀(a b c L:Nat),BL (x/2^a/2^b/2^c) L→0<x/2^a/2^b/2^c→BL x (a+b+c+L):=by
  intro a b c L hL h0
  rw[Nat.add_assoc,Nat.add_assoc]
  have n1:=hL.pos h0
  exact BL.up (BL.up (BL.up hL n1) (by omega)) (by omega)
 have dT:∀(t a:Nat),t≤a→decide ((t:Int)≤(a:Int))=true:=fun t a h=>by simp;omega
 have dF:∀(t a:Nat),a<t→decide ((t:Int)≤(a:Int))=false:=fun t a h=>by simp;omega
 rcases Nat.lt_or_ge x 4294967296 with c1|c1
 ·have d1:decide ((4294967296:Int)≤(x:Int))=false:=dF 4294967296 _ c1
  rcases Nat.lt_or_ge (x) 65536 with c2|c2
  ·have d2:decide ((65536:Int)≤((x:Nat):Int))=false:=dF 65536 _ c2
   rcases Nat.lt_or_ge (x) 256 with c3|c3
   ·have d3:decide ((256:Int)≤((x:Nat):Int))=false:=dF 256 _ c3
    simp only[go_sem,d1,d2,d3,s32,s16,s8,w1,w2,w3,w4,w5,w6]
    obtain⟨q1,b,q2,q3⟩:=fin (x) 0 (by omega) (by omega) (fun b hb hB=>hk (0+b) (by omega) (by simpa using hB)) s_bits_Len64_0 (by decide+kernel)
    exact⟨q1,b,q2,fun _=>q3⟩
   ·have d3:decide ((256:Int)≤((x:Nat):Int))=true:=dT 256 _ c3
    simp only[go_sem,d1,d2,d3,s32,s16,s8,w1,w2,w3,w4,w5,w6]
    refine⟨by omega, ?_⟩
    obtain⟨q1,b,q2,q3⟩:=fin ((x)/2^8) 8 (by omega) (by omega) (fun b hb hB=>hk (8+b) (by omega) (by have:=up2 0 0 8 b (by simpa using hB) (by simp;omega);simpa using this)) s_bits_Len64_0 (by decide+kernel)
    exact⟨q1,b,q2,fun _=>q3⟩
  ·have d2:decide ((65536:Int)≤((x:Nat):Int))=true:=dT 65536 _ c2
   rcases Nat.lt_or_ge ((x)/2^16) 256 with c3|c3
   ·have d3:decide ((256:Int)≤(((x)/2^16:Nat):Int))=false:=dF 256 _ c3
    simp only[go_sem,d1,d2,d3,s32,s16,s8,w1,w2,w3,w4,w5,w6]
    refine⟨by omega, ?_⟩
    obtain⟨q1,b,q2,q3⟩:=fin ((x)/2^16) 16 (by omega) (by omega) (fun b hb hB=>hk (16+b) (by omega) (by have:=up2 0 16 0 b (by simpa using hB) (by simp;omega);simpa using this)) s_bits_Len64_0 (by decide+kernel)
    exact⟨q1,b,q2,fun _=>q3⟩
   ·have d3:decide ((256:Int)≤(((x)/2^16:Nat):Int))=true:=dT 256 _ c3
    simp only[go_sem,d1,d2,d3,s32,s16,s8,w1,w2,w3,w4,w5,w6]
    refine⟨by omega,by omega, ?_⟩
    obtain⟨q1,b,q2,q3⟩:=fin (((x)/2^16)/2^8) 24 (by omega) (by omega) (fun b hb hB=>hk (24+b) (by omega) (by have:=up2 0 16 8 b (by simpa using hB) (by simp;omega);simpa using this)) s_bits_Len64_0 (by decide+kernel)
    exact⟨q1,b,q2,fun _=>q3⟩
 ·have d1:decide ((4294967296:Int)≤(x:Int))=true:=dT 4294967296 _ c1
  rcases Nat.lt_or_ge (x/2^32) 65536 with c2|c2
  ·have d2:decide ((65536:Int)≤((x/2^32:Nat):Int))=false:=dF 65536 _ c2
   rcases Nat.lt_or_ge (x/2^32) 256 with c3|c3
   ·have d3:decide ((256:Int)≤((x/2^32:Nat):Int))=false:=dF 256 _ c3
    simp only[go_sem,d1,d2,d3,s32,s16,s8,w1,w2,w3,w4,w5,w6]
    refine⟨by omega, ?_⟩
    obtain⟨q1,b,q2,q3⟩:=fin (x/2^32) 32 (by omega) (by omega) (fun b hb hB=>hk (32+b) (by omega) (by have:=up2 32 0 0 b (by simpa using hB) (by simp;omega);simpa using this)) s_bits_Len64_0 (by decide+kernel)
    exact⟨q1,b,q2,fun _=>q3⟩
   ·have d3:decide ((256:Int)≤((x/2^32:Nat):Int))=true:=dT 256 _ c3
    simp only[go_sem,d1,d2,d3,s32,s16,s8,w1,w2,w3,w4,w5,w6]
    refine⟨by omega,by omega, ?_⟩
    obtain⟨q1,b,q2,q3⟩:=fin ((x/2^32)/2^8) 40 (by omega) (by omega) (fun b hb hB=>hk (40+b) (by omega) (by have:=up2 32 0 8 b (by simpa using hB) (by simp;omega);simpa using this)) s_bits_Len64_0 (by decide+kernel)
    exact⟨q1,b,q2,fun _=>q3⟩
  ·have d2:decide ((65536:Int)≤((x/2^32:Nat):Int))=true:=dT 65536 _ c2
   rcases Nat.lt_or_ge ((x/2^32)/2^16) 256 with c3|c3
   ·have d3:decide ((256:Int)≤(((x/2^32)/2^16:Nat):Int))=false:=dF 256 _ c3
    simp only[go_sem,d1,d2,d3,s32,s16,s8,w1,w2,w3,w4,w5,w6]
    refine⟨by omega,by omega, ?_⟩
    obtain⟨q1,b,q2,q3⟩:=fin ((x/2^32)/2^16) 48 (by omega) (by omega) (fun b hb hB=>hk (48+b) (by omega) (by have:=up2 32 16 0 b (by simpa using hB) (by simp;omega);simpa using this)) s_bits_Len64_0 (by decide+kernel)
    exact⟨q1,b,q2,fun _=>q3⟩
   ·have d3:decide ((256:Int)≤(((x/2^32)/2^16:Nat):Int))=true:=dT 256 _ c3
    simp only[go_sem,d1,d2,d3,s32,s16,s8,w1,w2,w3,w4,w5,w6]
    refine⟨by omega,by omega,by omega, ?_⟩
    obtain⟨q1,b,q2,q3⟩:=fin (((x/2^32)/2^16)/2^8) 56 (by omega) (by omega) (fun b hb hB=>hk (56+b) (by omega) (by have:=up2 32 16 8 b (by simpa using hB) (by simp;omega);simpa using this)) s_bits_Len64_0 (by decide+kernel)
    exact⟨q1,b,q2,fun _=>q3⟩
theorem LeadingZeros64_calls {x:Nat} {h:H} {K:AV→H→Prop} (hx:x<18446744073709551616) (h0:0<x)
  (hk:∀s:Nat,s≤63→9223372036854775808≤x*2^s→x*2^s<18446744073709551616→K (.int .i64 (s:Int)) h):ACalls Try.prog 89 [.int .u64 (x:Int)] h K:=by
 refine in_bits_LeadingZeros64 (by simp) fun hw=> ?_
 unfold c_bits_LeadingZeros64
 simp only[go_sem]
 refine Len64_calls hx fun L hL hB=> ?_
 have n0:=hB.pos h0
 have e:IntKind.i64.wrap (64-(L:Int))=((64-L:Nat):Int):=by rw[wI]<;>omega
 simp only[go_sem,e]
 intro _
 have h1:=hB.2.resolve_left n0
 refine hk (64-L) (by omega) ?_ ?_
 ·have:=Nat.mul_le_mul_right (2^(64-L)) h1
  rw[←Nat.pow_add,show L-1+(64-L)=63 from by omega] at this
  exact this
 ·have:=Nat.mul_lt_mul_of_pos_right hB.1 (Nat.pow_pos (n:=64-L) (show 0<2 by decide))
  rw[←Nat.pow_add,show L+(64-L)=64 from by omega] at this
  exact this
theorem dig_le {U Y a b c W q r:Nat} (hY:Y=a*W+b) (hq:q*a+r=U) (hc:q*b≤W*r+c):q*Y≤U*W+c:=by
 have e1:q*(a*W+b)=q*a*W+q*b:=by rw[Nat.mul_add,Nat.mul_assoc]
 have e2:U*W=q*a*W+W*r:=by rw[←hq,Nat.add_mul,Nat.mul_comm r W]
 rw[hY,e1,e2]
 omega
theorem dig_lt {U Y a b c W q r:Nat} (hY:Y=a*W+b) (hq:q*a+r=U) (hc:W*r+c<q*b):U*W+c<q*Y:=by
 have e1:q*(a*W+b)=q*a*W+q*b:=by rw[Nat.mul_add,Nat.mul_assoc]
 have e2:U*W=q*a*W+W*r:=by rw[←hq,Nat.add_mul,Nat.mul_comm r W]
 rw[hY,e1,e2]
 omega
theorem dig_full {U Y c W:Nat} (hU:U<Y) (hc:c<W):(U*W+c)/Y<W:=by
 rw[Nat.div_lt_iff_lt_mul (by omega)]
 have:=Nat.mul_le_mul_right W (show U+1≤Y from hU)
 rw[Nat.add_mul] at this
 rw[Nat.mul_comm W Y]
 omega
structure Srch (U Y a b c Q q r:Nat):Prop where
 hY:Y=a*4294967296+b
 hU:U<Y
 ha:a<4294967296
 ha2:2147483648≤a
 hb:b<4294967296
 hc:c<4294967296
 hQ:Q=(U*4294967296+c)/Y
 hq:q*a+r=U
 hr:r<4294967296
 hle:Q≤q
 hq1:q≤4294967297
theorem Srch.start {U Y a b c Q:Nat} (hQ:Q=(U*4294967296+c)/Y) (hY:Y=a*4294967296+b) (hU:U<Y) (ha:a<4294967296) (ha2:2147483648≤a) (hb:b<4294967296) (hc:c<4294967296):Srch U Y a b c Q (U/a) (U%a):=by
 subst hQ
 have h0:U/a≤4294967297:=by
  have:U<(4294967297+1)*a:=by rw[hY] at hU;omega
  have:=(Nat.div_lt_iff_lt_mul (by omega:0<a)).2 this
  omega
 have h1:U%a<a:=Nat.mod_lt _ (by omega)
 refine⟨hY,hU,ha,ha2,hb,hc,rfl,Nat.div_add_mod' U a,by omega, ?_,h0⟩
 refine Nat.le_of_lt_succ ((Nat.div_lt_iff_lt_mul (by omega)).2 ?_)
 have e:U<(U/a+1)*a:=Nat.lt_mul_of_div_lt (Nat.lt_succ_self _) (by omega)
 have e2:U+1≤(U/a+1)*a:=e
 have e3:=Nat.mul_le_mul_right 4294967296 e2
 have e4:(U/a).succ*Y=(U/a+1)*a*4294967296+(U/a+1)*b:=by
  rw[hY,Nat.succ_eq_add_one,Nat.mul_add,Nat.mul_assoc]
 rw[e4]
 rw[Nat.add_mul] at e3
 omega
theorem Srch.done {U Y a b c Q q r:Nat} (s:Srch U Y a b c Q q r) (hc:q*b≤4294967296*r+c):q=Q:=by
 have h1:=dig_le (W:=4294967296) (c:=c) s.hY s.hq hc
 have h2:q≤Q:=by rw[s.hQ];exact(Nat.le_div_iff_mul_le (by have:=s.hU;omega)).2 h1
 have:=s.hle
 omega
theorem Srch.lt {U Y a b c Q q r:Nat} (s:Srch U Y a b c Q q r) (hc:4294967296≤q∨4294967296*r+c<q*b):Q<q:=by
 rcases hc with h|h
 ·have:=dig_full s.hU s.hc
  rw[←s.hQ] at this
  omega
 ·have h1:=dig_lt (W:=4294967296) (c:=c) s.hY s.hq h
  rw[s.hQ]
  exact(Nat.div_lt_iff_lt_mul (by have:=s.hU;omega)).2 h1
theorem Srch.next {U Y a b c Q q r:Nat} (s:Srch U Y a b c Q q r) (hc:Q<q) (hr:r+a<4294967296):Srch U Y a b c Q (q-1) (r+a):=by
 refine⟨s.hY,s.hU,s.ha,s.ha2,s.hb,s.hc,s.hQ, ?_,hr,by omega,by have:=s.hq1;omega⟩
 rw[←s.hq,Nat.sub_mul]
 have:1*a≤q*a:=Nat.mul_le_mul_right a (by omega)
 omega
theorem Srch.out {U Y a b c Q q r:Nat} (s:Srch U Y a b c Q q r) (hc:Q<q) (hr:4294967296≤r+a):q-1=Q:=by
 have e:(q-1)*a+(r+a)=U:=by
  rw[←s.hq,Nat.sub_mul]
  have:1*a≤q*a:=Nat.mul_le_mul_right a (by omega)
  omega
 have h0:(q-1)*b≤4294967296*(r+a)+c:=by
  have:=Nat.mul_le_mul (show q-1≤4294967296 by have:=s.hq1;omega) (Nat.le_of_lt s.hb)
  omega
 have h1:=dig_le (W:=4294967296) (c:=c) s.hY e h0
 have h2:q-1≤Q:=by rw[s.hQ];exact(Nat.le_div_iff_mul_le (by have:=s.hU;omega)).2 h1
 omega
theorem two_digits {U Y c1 c0 Q1 R Q0:Nat} (hQ1:Q1=(U*4294967296+c1)/Y) (hR:R=(U*4294967296+c1)%Y) (hQ0:Q0=(R*4294967296+c0)/Y) (hY:0<Y):
  (U*18446744073709551616+(c1*4294967296+c0))/Y=Q1*4294967296+Q0∧(U*18446744073709551616+(c1*4294967296+c0))%Y=(R*4294967296+c0)%Y:=by
 have e1:U*4294967296+c1=Y*Q1+R:=by rw[hQ1,hR,Nat.div_add_mod]
 have e2:R*4294967296+c0=Y*Q0+(R*4294967296+c0)%Y:=by rw[hQ0,Nat.div_add_mod]
 have e3:U*18446744073709551616+(c1*4294967296+c0)=Y*(Q1*4294967296+Q0)+(R*4294967296+c0)%Y:=by
  have e4:(U*4294967296+c1)*4294967296=(Y*Q1+R)*4294967296:=by rw[e1]
  rw[Nat.mul_add,←Nat.mul_assoc]
  revert e1 e2 e4
  generalize (R*4294967296+c0)%Y=rr
  generalize Y*Q1=t
  generalize Y*Q0=t0
  clear hQ1 hR hQ0 hY
  omega
 have hlt:(R*4294967296+c0)%Y<Y:=Nat.mod_lt _ hY
 rw[e3]
 constructor
 ·rw[Nat.mul_add_div hY,Nat.div_eq_of_lt hlt,Nat.add_zero]
 ·rw[Nat.mul_add_mod,Nat.mod_eq_of_lt hlt]
theorem shlU {x n:Nat} (hn:n≤64):bShl .u64 (x:Int) n=((x*2^n%18446744073709551616:Nat):Int):=by
 unfold bShl
 rw[show IntKind.u64.bits=64 from rfl,Nat.min_eq_left hn,wUm]
 have:((x:Int)*2^n)=((x*2^n:Nat):Int):=by simp
 rw[this]
 omega
theorem orU {a b s:Nat} (ha:a*2^s<18446744073709551616) (hb:b<2^s) (hs:s≤64):bOr .u64 ((a*2^s:Nat):Int) (b:Int)=((a*2^s+b:Nat):Int):=by
 have h2:b<18446744073709551616:=Nat.lt_of_lt_of_le hb (Nat.pow_le_pow_right (by decide) hs:2^s≤2^64)
 have:=borN ha h2
 rw[←Nat.shiftLeft_eq,←Nat.shiftLeft_add_eq_or_of_lt hb] at this
 rw[←Nat.shiftLeft_eq]
 exact this
theorem mulL {a:Nat} (h:4294967296*a<18446744073709551616):IntKind.u64.wrap (4294967296*(a:Int))=((4294967296*a:Nat):Int):=by rw[wU]<;>omega
theorem shift_split {hi lo y s:Nat} (hh:hi<y) (hl:lo<18446744073709551616) (hs:s≤63) (hY:y*2^s<18446744073709551616):
  hi*2^s<18446744073709551616∧lo/2^(64-s)<2^s∧(hi*2^s+lo/2^(64-s))*18446744073709551616+lo*2^s%18446744073709551616=(hi*18446744073709551616+lo)*2^s∧hi*2^s+lo/2^(64-s)<y*2^s:=by
 have hp:0<2^s:=Nat.pow_pos (by decide)
 have e64:2^(64-s)*2^s=18446744073709551616:=by rw[←Nat.pow_add,show 64-s+s=64 from by omega]
 have h2:lo/2^(64-s)<2^s:=by
  rw[Nat.div_lt_iff_lt_mul (Nat.pow_pos (by decide)),Nat.mul_comm,e64]
  exact hl
 have h1:hi*2^s+2^s≤y*2^s:=by
  have:=Nat.mul_le_mul_right (2^s) (show hi+1≤y from hh)
  rw[Nat.add_mul,Nat.one_mul] at this
  exact this
 have h3:lo*2^s/18446744073709551616=lo/2^(64-s):=by rw[←e64,Nat.mul_div_mul_right _ _ hp]
 refine⟨by omega,h2, ?_,by omega⟩
 rw[←h3]
 have e5:(hi*18446744073709551616+lo)*2^s=hi*2^s*18446744073709551616+lo*2^s:=by rw[Nat.add_mul,Nat.mul_assoc,Nat.mul_comm 18446744073709551616,←Nat.mul_assoc]
 rw[e5]
 generalize lo*2^s=t
 generalize hi*2^s=t2
 omega
theorem sub_back {U Y c Q:Nat} (hY:0<Y) (hY2:Y<18446744073709551616) (hQ:Q=(U*4294967296+c)/Y) (hc:c<4294967296):
  IntKind.u64.wrap (IntKind.u64.wrap (IntKind.u64.wrap ((U:Int)*4294967296)+(c:Int))-IntKind.u64.wrap ((Q:Int)*(Y:Int)))=(((U*4294967296+c)%Y:Nat):Int):=by
 have e1:U*4294967296+c=Q*Y+(U*4294967296+c)%Y:=by rw[hQ,Nat.div_add_mod']
 have hlt:(U*4294967296+c)%Y<Y:=Nat.mod_lt _ hY
 simp only[wUm]
 rw[←Int.natCast_mul]
 revert e1 hlt
 generalize (U*4294967296+c)%Y=R
 generalize Q*Y=t
 intro e1 hlt
 omega
theorem remU {U a:Nat} (hU:U<18446744073709551616):IntKind.u64.wrap ((U:Int)-IntKind.u64.wrap (((U/a:Nat):Int)*(a:Int)))=((U%a:Nat):Int):=by
 have h1:=Nat.div_add_mod' U a
 have h2:U/a*a≤U:=Nat.div_mul_le_self U a
 rw[mulU (by omega),wU (by omega) (by omega)]
 omega
theorem subN {a b:Nat} (h:b≤a) (ha:a<18446744073709551616):IntKind.u64.wrap ((a:Int)-(b:Int))=((a-b:Nat):Int):=by rw[wU]<;>omega
theorem subN1 {a:Nat} (h:1≤a) (ha:a<18446744073709551616):IntKind.u64.wrap ((a:Int)-1)=((a-1:Nat):Int):=subN (b:=1) h ha
theorem Div64_calls {hi lo y:Nat} {h:H} {K:AV→H→Prop} (hh:hi<y) (hl:lo<18446744073709551616) (hy:y<18446744073709551616)
  (hk:K (.tup [.int .u64 ((hi*18446744073709551616+lo)/y:Nat), .int .u64 ((hi*18446744073709551616+lo)%y:Nat)]) h):ACalls Try.prog 81 [.int .u64 (hi:Int), .int .u64 (lo:Int), .int .u64 (y:Int)] h K:=by
 refine in_bits_Div64 (by simp) fun hw=> ?_
 unfold c_bits_Div64
 have d1:((y:Int)==0)=false:=by simp;omega
 have d2:decide ((y:Int)≤(hi:Int))=false:=by simp;omega
 rcases Nat.eq_zero_or_pos hi with rfl|hp
 ·have d3:(((0:Nat):Int)==0)=true:=by decide
  have hq:lo/y≤lo:=Nat.div_le_self _ _
  simp only[go_sem,d1,d2,d3,tdivN,tmodN,wUn (x:=lo/y) (by omega)]
  rw[Nat.zero_mul,Nat.zero_add] at hk
  exact⟨by omega,by omega,fun _=>hk⟩
 ·have d3:((hi:Int)==0)=false:=by simp;omega
  simp only[go_sem,d1,d2,d3]
  refine LeadingZeros64_calls hy (by omega) fun s hs h63 h64=> ?_
  have e64:IntKind.u64.wrap (64-(s:Int))=((64-s:Nat):Int):=by rw[wU]<;>omega
  obtain⟨f1,f2,f3,f4⟩:=shift_split hh hl hs h64
  have hN:(hi*18446744073709551616+lo)/y=(hi*18446744073709551616+lo)*2^s/(y*2^s):=(Nat.mul_div_mul_right _ _ (Nat.pow_pos (by decide))).symm
  have hM:(hi*18446744073709551616+lo)%y=(hi*18446744073709551616+lo)*2^s%(y*2^s)/2^s:=by rw[Nat.mul_mod_mul_right,Nat.mul_div_cancel _ (Nat.pow_pos (by decide))]
  rw[hN,hM,←f3] at hk
  have s1:=shlU (x:=y) (n:=s) (by omega)
  have s2:=shlU (x:=hi) (n:=s) (by omega)
  have s3:=shrU (x:=lo) (n:=64-s) (by omega)
  have s4:=shlU (x:=lo) (n:=s) (by omega)
  rw[Nat.mod_eq_of_lt h64] at s1
  rw[Nat.mod_eq_of_lt f1] at s2
  have s5:=orU (b:=lo/2^(64-s)) f1 f2 (by omega)
  have k1:=mask32 (x:=y*2^s) h64
  have k2:=mask32 (x:=lo*2^s%18446744073709551616) (Nat.mod_lt _ (by decide))
  have hUb:hi*2^s+lo/2^(64-s)<18446744073709551616:=by omega
  have hya:0<y*2^s/4294967296:=by omega
  simp only[go_sem,wUn (x:=s) (by omega),e64,s1,s2,s3,s4,s5,shr32,k1,k2,tdivN,wUn (Nat.lt_of_le_of_lt (Nat.div_le_self (hi*2^s+lo/2^(64-s)) _) hUb),remU hUb]
  have hm:lo*2^s%18446744073709551616<18446744073709551616:=Nat.mod_lt _ (by decide)
  have hsh:∀x:Nat,bShr .u64 (x:Int) s=((x/2^s:Nat):Int):=fun x=>shrU (by omega)
  clear hN hM f3 f1 f2 s1 s2 s3 s4 s5 k1 k2
  generalize lo*2^s%18446744073709551616=un at*
  generalize hi*2^s+lo/2^(64-s)=U at*
  generalize y*2^s=Y at*
  refine⟨by omega,by omega,by omega,by omega,by omega,by omega,by omega, ?_⟩
  have hY:Y=Y/4294967296*4294967296+Y%4294967296:=by omega
  have hun:un=un/4294967296*4294967296+un%4294967296:=by omega
  have ha:Y/4294967296<4294967296:=by omega
  have ha2:2147483648≤Y/4294967296:=by omega
  have hb:Y%4294967296<4294967296:=by omega
  have hc1:un/4294967296<4294967296:=by omega
  have hc0:un%4294967296<4294967296:=by omega
  generalize Y/4294967296=a at*
  generalize Y%4294967296=b at*
  generalize un/4294967296=c1 at*
  generalize un%4294967296=c0 at*
  obtain⟨Q1,hQ1⟩:∃Q1,Q1=(U*4294967296+c1)/Y:=⟨_,rfl⟩
  obtain⟨R,hR⟩:∃R,R=(U*4294967296+c1)%Y:=⟨_,rfl⟩
  obtain⟨Q0,hQ0⟩:∃Q0,Q0=(R*4294967296+c0)/Y:=⟨_,rfl⟩
  obtain⟨t1,t2⟩:=two_digits hQ1 hR hQ0 (by omega)
  rw[←hun] at t1 t2
  rw[t1,t2] at hk
  have hRl:R<Y:=by rw[hR];exact Nat.mod_lt _ (by omega)
  have hQl:Q1<4294967296:=by rw[hQ1];exact dig_full f4 hc1
  have hQl0:Q0<4294967296:=by rw[hQ0];exact dig_full hRl hc0
  clear t1 t2 hun
  refine loop_cut (fun ρ' h'=>h'=h∧ρ' 2= .int .u64 ((Y:Nat):Int)∧ρ' 8= .int .u64 ((s:Nat):Int)∧ρ' 9= .int .u64 ((a:Nat):Int)∧ρ' 10= .int .u64 ((b:Nat):Int)∧ρ' 11= .int .u64 ((U:Nat):Int)∧ρ' 13= .int .u64 ((c1:Nat):Int)∧ρ' 14= .int .u64 ((c0:Nat):Int)∧ρ' 15= .int .u64 (Q1:Int)) ?_ ?_
  ·refine⟨fun n ρ h'=>h'=h∧ρ 2= .int .u64 ((Y:Nat):Int)∧ρ 8= .int .u64 ((s:Nat):Int)∧ρ 9= .int .u64 ((a:Nat):Int)∧ρ 10= .int .u64 ((b:Nat):Int)∧ρ 11= .int .u64 ((U:Nat):Int)∧ρ 13= .int .u64 ((c1:Nat):Int)∧ρ 14= .int .u64 ((c0:Nat):Int)∧∃q r,n=q∧ρ 15= .int .u64 (q:Nat)∧ρ 16= .int .u64 (r:Nat)∧Srch U Y a b c1 Q1 q r,_,⟨rfl,by first|rfl|trivial|assumption,by first|rfl|trivial|assumption,by first|rfl|trivial|assumption,by first|rfl|trivial|assumption,by first|rfl|trivial|assumption,by first|rfl|trivial|assumption,by first|rfl|trivial|assumption,_,_,rfl,by first|rfl|trivial|assumption,by first|rfl|trivial|assumption,Srch.start hQ1 hY f4 ha ha2 hb hc1⟩, ?_⟩
   rintro n ρ h' ⟨rfl,g2,g8,g9,g10,g11,g13,g14,q,r,rfl,hq,h16,hs⟩
   have hr:=hs.hr
   have hc:=hs.hc
   have hq1:=hs.hq1
   have wr:4294967296*r+c1<18446744073709551616:=by omega
   have again:Q1<n→decide ((4294967296:Int)≤((r+a:Nat):Int))=false→Srch U Y a b c1 Q1 (n-1) (r+a):=fun h1 h2=>hs.next h1 (by simp at h2;omega)
   have stop:Q1<n→decide ((4294967296:Int)≤((r+a:Nat):Int))=true→n-1=Q1:=fun h1 h2=>hs.out h1 (by simp at h2;omega)
   rcases Nat.lt_or_ge n 4294967296 with i1|i1
   ·have d1:decide ((4294967296:Int)≤(n:Int))=false:=by simp;omega
    have hqb:n*b<18446744073709551616:=by
     have h3:n*b≤4294967295*4294967295:=Nat.mul_le_mul (by omega) (by omega)
     omega
    rcases Nat.lt_or_ge (4294967296*r+c1) (n*b) with c2|c2
    ·have d2:=ltT c2
     have hlt:=hs.lt (.inr c2)
     have hn1:0<n:=Nat.lt_of_le_of_lt (Nat.zero_le _) hlt
     simp only[go_sem,hq,h16,g2,g8,g9,g10,g11,g13,g14,d1,mulU hqb,mulL (a:=r) (by omega),addU wr,d2,subN1 (a:=n) (by omega) (by omega),addU (a:=r) (b:=a) (by omega)]
     refine cond_split (fun c3=> ?_) (fun c3=> ?_)
     ·simp only[go_sem,g2,g8,g9,g10,g11,g13,g14]
      rw[stop hlt c3]
      exact⟨by first|rfl|trivial|assumption,by first|rfl|trivial|assumption,by first|rfl|trivial|assumption,by first|rfl|trivial|assumption,by first|rfl|trivial|assumption,by first|rfl|trivial|assumption,by first|rfl|trivial|assumption,by first|rfl|trivial|assumption,by first|rfl|trivial|assumption⟩
     ·simp only[go_sem,g2,g8,g9,g10,g11,g13,g14]
      exact⟨n-1,by omega,by first|rfl|trivial|assumption,by first|rfl|trivial|assumption,by first|rfl|trivial|assumption,by first|rfl|trivial|assumption,by first|rfl|trivial|assumption,by first|rfl|trivial|assumption,by first|rfl|trivial|assumption,by first|rfl|trivial|assumption,_,_,rfl,rfl,rfl,again hlt c3⟩
    ·have d2:=ltF c2
     simp only[go_sem,hq,h16,g2,g8,g9,g10,g11,g13,g14,d1,mulU hqb,mulL (a:=r) (by omega),addU wr,d2]
     rw[hs.done c2]
     exact⟨by first|rfl|trivial|assumption,by first|rfl|trivial|assumption,by first|rfl|trivial|assumption,by first|rfl|trivial|assumption,by first|rfl|trivial|assumption,by first|rfl|trivial|assumption,by first|rfl|trivial|assumption,by first|rfl|trivial|assumption,by first|rfl|trivial|assumption⟩
   ·have d1:decide ((4294967296:Int)≤(n:Int))=true:=by simp;omega
    have hlt:=hs.lt (.inl i1)
    have hn1:0<n:=Nat.lt_of_le_of_lt (Nat.zero_le _) hlt
    simp only[go_sem,hq,h16,g2,g8,g9,g10,g11,g13,g14,d1,subN1 (a:=n) (by omega) (by omega),addU (a:=r) (b:=a) (by omega)]
    refine cond_split (fun c3=> ?_) (fun c3=> ?_)
    ·simp only[go_sem,g2,g8,g9,g10,g11,g13,g14]
     rw[stop hlt c3]
     exact⟨by first|rfl|trivial|assumption,by first|rfl|trivial|assumption,by first|rfl|trivial|assumption,by first|rfl|trivial|assumption,by first|rfl|trivial|assumption,by first|rfl|trivial|assumption,by first|rfl|trivial|assumption,by first|rfl|trivial|assumption,by first|rfl|trivial|assumption⟩
    ·simp only[go_sem,g2,g8,g9,g10,g11,g13,g14]
     exact⟨n-1,by omega,by first|rfl|trivial|assumption,by first|rfl|trivial|assumption,by first|rfl|trivial|assumption,by first|rfl|trivial|assumption,by first|rfl|trivial|assumption,by first|rfl|trivial|assumption,by first|rfl|trivial|assumption,by first|rfl|trivial|assumption,_,_,rfl,rfl,rfl,again hlt c3⟩
  ·rintro ρ h1 ⟨rfl,g2,g8,g9,g10,g11,g13,g14,g15⟩
   have hb1:=sub_back (U:=U) (c:=c1) (by omega) h64 hQ1 hc1
   rw[←hR] at hb1
   have hRb:R<18446744073709551616:=by omega
   simp only[go_sem,g2,g8,g9,g10,g11,g13,g14,g15,hb1,tdivN,wUn (Nat.lt_of_le_of_lt (Nat.div_le_self R a) hRb),remU hRb]
   refine⟨by omega, ?_⟩
   refine loop_cut (fun ρ' h'=>h'=h1∧ρ' 2= .int .u64 ((Y:Nat):Int)∧ρ' 8= .int .u64 ((s:Nat):Int)∧ρ' 9= .int .u64 ((a:Nat):Int)∧ρ' 10= .int .u64 ((b:Nat):Int)∧ρ' 14= .int .u64 ((c0:Nat):Int)∧ρ' 15= .int .u64 ((Q1:Nat):Int)∧ρ' 17= .int .u64 ((R:Nat):Int)∧ρ' 18= .int .u64 (Q0:Int)) ?_ ?_
   ·refine⟨fun n ρ h'=>h'=h1∧ρ 2= .int .u64 ((Y:Nat):Int)∧ρ 8= .int .u64 ((s:Nat):Int)∧ρ 9= .int .u64 ((a:Nat):Int)∧ρ 10= .int .u64 ((b:Nat):Int)∧ρ 14= .int .u64 ((c0:Nat):Int)∧ρ 15= .int .u64 ((Q1:Nat):Int)∧ρ 17= .int .u64 ((R:Nat):Int)∧∃q r,n=q∧ρ 18= .int .u64 (q:Nat)∧ρ 16= .int .u64 (r:Nat)∧Srch R Y a b c0 Q0 q r,_,⟨rfl,by first|rfl|trivial|assumption,by first|rfl|trivial|assumption,by first|rfl|trivial|assumption,by first|rfl|trivial|assumption,by first|rfl|trivial|assumption,by first|rfl|trivial|assumption,by first|rfl|trivial|assumption,_,_,rfl,by first|rfl|trivial|assumption,by first|rfl|trivial|assumption,Srch.start hQ0 hY hRl ha ha2 hb hc0⟩, ?_⟩
    rintro n ρ h' ⟨rfl,g2,g8,g9,g10,g14,g15,g17,q,r,rfl,hq,h16,hs⟩
    have hr:=hs.hr
    have hc:=hs.hc
    have hq1:=hs.hq1
    have wr:4294967296*r+c0<18446744073709551616:=by omega
    have again:Q0<n→decide ((4294967296:Int)≤((r+a:Nat):Int))=false→Srch R Y a b c0 Q0 (n-1) (r+a):=fun h1 h2=>hs.next h1 (by simp at h2;omega)
    have stop:Q0<n→decide ((4294967296:Int)≤((r+a:Nat):Int))=true→n-1=Q0:=fun h1 h2=>hs.out h1 (by simp at h2;omega)
    rcases Nat.lt_or_ge n 4294967296 with i1|i1
    ·have d1:decide ((4294967296:Int)≤(n:Int))=false:=by simp;omega
     have hqb:n*b<18446744073709551616:=by
      have h3:n*b≤4294967295*4294967295:=Nat.mul_le_mul (by omega) (by omega)
      omega
     rcases Nat.lt_or_ge (4294967296*r+c0) (n*b) with c2|c2
     ·have d2:=ltT c2
      have hlt:=hs.lt (.inr c2)
      have hn1:0<n:=Nat.lt_of_le_of_lt (Nat.zero_le _) hlt
      simp only[go_sem,hq,h16,g2,g8,g9,g10,g14,g15,g17,d1,mulU hqb,mulL (a:=r) (by omega),addU wr,d2,subN1 (a:=n) (by omega) (by omega),addU (a:=r) (b:=a) (by omega)]
      refine cond_split (fun c3=> ?_) (fun c3=> ?_)
      ·simp only[go_sem,g2,g8,g9,g10,g14,g15,g17]
       rw[stop hlt c3]
       exact⟨by first|rfl|trivial|assumption,by first|rfl|trivial|assumption,by first|rfl|trivial|assumption,by first|rfl|trivial|assumption,by first|rfl|trivial|assumption,by first|rfl|trivial|assumption,by first|rfl|trivial|assumption,by first|rfl|trivial|assumption,by first|rfl|trivial|assumption⟩
      ·simp only[go_sem,g2,g8,g9,g10,g14,g15,g17]
       exact⟨n-1,by omega,by first|rfl|trivial|assumption,by first|rfl|trivial|assumption,by first|rfl|trivial|assumption,by first|rfl|trivial|assumption,by first|rfl|trivial|assumption,by first|rfl|trivial|assumption,by first|rfl|trivial|assumption,by first|rfl|trivial|assumption,_,_,rfl,rfl,rfl,again hlt c3⟩
     ·have d2:=ltF c2
      simp only[go_sem,hq,h16,g2,g8,g9,g10,g14,g15,g17,d1,mulU hqb,mulL (a:=r) (by omega),addU wr,d2]
      rw[hs.done c2]
      exact⟨by first|rfl|trivial|assumption,by first|rfl|trivial|assumption,by first|rfl|trivial|assumption,by first|rfl|trivial|assumption,by first|rfl|trivial|assumption,by first|rfl|trivial|assumption,by first|rfl|trivial|assumption,by first|rfl|trivial|assumption,by first|rfl|trivial|assumption⟩
    ·have d1:decide ((4294967296:Int)≤(n:Int))=true:=by simp;omega
     have hlt:=hs.lt (.inl i1)
     have hn1:0<n:=Nat.lt_of_le_of_lt (Nat.zero_le _) hlt
     simp only[go_sem,hq,h16,g2,g8,g9,g10,g14,g15,g17,d1,subN1 (a:=n) (by omega) (by omega),addU (a:=r) (b:=a) (by omega)]
     refine cond_split (fun c3=> ?_) (fun c3=> ?_)
     ·simp only[go_sem,g2,g8,g9,g10,g14,g15,g17]
      rw[stop hlt c3]
      exact⟨by first|rfl|trivial|assumption,by first|rfl|trivial|assumption,by first|rfl|trivial|assumption,by first|rfl|trivial|assumption,by first|rfl|trivial|assumption,by first|rfl|trivial|assumption,by first|rfl|trivial|assumption,by first|rfl|trivial|assumption,by first|rfl|trivial|assumption⟩
     ·simp only[go_sem,g2,g8,g9,g10,g14,g15,g17]
      exact⟨n-1,by omega,by first|rfl|trivial|assumption,by first|rfl|trivial|assumption,by first|rfl|trivial|assumption,by first|rfl|trivial|assumption,by first|rfl|trivial|assumption,by first|rfl|trivial|assumption,by first|rfl|trivial|assumption,by first|rfl|trivial|assumption,_,_,rfl,rfl,rfl,again hlt c3⟩
   ·rintro ρ h' ⟨rfl,g2,g8,g9,g10,g14,g15,g17,g18⟩
    have hb0:=sub_back (U:=R) (c:=c0) (by omega) h64 hQ0 hc0
    have e1:IntKind.u64.wrap (IntKind.u64.wrap ((Q1:Int)*4294967296)+(Q0:Int))=((Q1*4294967296+Q0:Nat):Int):=by
     rw[wUm,wUm]
     omega
    simp only[go_sem,g2,g8,g9,g10,g14,g15,g17,g18,hb0,e1,hsh]
    exact⟨by omega,fun _=>hk⟩
theorem pow32 (k:Nat):4294967296^k=2^(32*k):=by rw[Nat.pow_mul]
theorem val_div (xs:List Nat) (hx:∀a∈xs,a<4294967296) (k:Nat) (h:k<xs.length):val 4294967296 xs/2^(32*k)=xs[k]+4294967296*val 4294967296 (xs.drop (k+1)):=by
 rw[val_split 4294967296 xs k h,←pow32,Nat.add_mul_div_left _ _ (Nat.pow_pos (by decide)),Nat.div_eq_of_lt (val_lt_take 4294967296 (by decide) xs hx k),Nat.zero_add]
theorem digit_eq (xs:List Nat) (hx:∀a∈xs,a<4294967296) (k:Nat) (h:k<xs.length):xs[k]=val 4294967296 xs/2^(32*k)%4294967296:=by
 rw[val_div xs hx k h,Nat.add_mul_mod_self_left,Nat.mod_eq_of_lt (hx _ (List.getElem_mem h))]
theorem bit_eq (xs:List Nat) (hx:∀a∈xs,a<4294967296) (i:Nat) (h:i/32<xs.length):xs[i/32]/2^(i%32)%2=val 4294967296 xs/2^i%2:=by
 rw[digit_eq xs hx _ h]
 generalize val 4294967296 xs=n
 have e:2^i=2^(32*(i/32))*2^(i%32):=by rw[←Nat.pow_add,Nat.div_add_mod]
 rw[e,←Nat.div_div_eq_div_mul]
 generalize n/2^(32*(i/32))=m
 have hr:i%32<32:=Nat.mod_lt _ (by decide)
 generalize i%32=r at*
 have e2:4294967296=2^r*2^(32-r):=by rw[←Nat.pow_add,show r+(32-r)=32 from by omega]
 have e3:m%4294967296/2^r=m/2^r%2^(32-r):=by rw[e2,Nat.mod_mul_right_div_self]
 rw[e3,Nat.mod_mod_of_dvd _ (by exact⟨2^(31-r),by rw[←Nat.pow_succ'];congr 1;omega⟩)]
theorem bandL {a b:Nat} (ha:a<18446744073709551616) (hb:b<18446744073709551616):bAnd .u64 (a:Int) (b:Int)=((a&&&b:Nat):Int):=bandN ha hb
theorem Bits_calls {v:AV} {x:Nat} {h:H} {K:AV→H→Prop} (nv:Num 4294967296 h v x) (hx:Big x)
  (hk:∀L:Nat,L≤32000000→BL x L→K (.int .i64 (L:Int)) h):ACalls Try.prog 50 [v] h K:=by
 obtain⟨xs,hv,hxd,hxt,rfl,hxl⟩:=nv.open hx
 obtain⟨id,off,c,rfl⟩:=hv.form
 refine in_ref02_Bits (by simp) fun hw=> ?_
 unfold c_ref02_Bits
 rcases Nat.eq_zero_or_pos xs.length with h0|h0
 ·have d:((xs.length:Int)==0)=true:=by simp;exact List.eq_nil_of_length_eq_zero h0
  simp only[go_sem,d]
  intro _
  have:xs=[]:=List.eq_nil_of_length_eq_zero h0
  subst this
  exact hk 0 (by omega) ⟨by simp[val], .inl rfl⟩
 ·have d:((xs.length:Int)==0)=false:=by simp;intro e;subst e;simp at h0
  obtain⟨i,rfl,_,hg⟩:=hv.at (j:=xs.length-1) (by omega)
  have e1:=decI h0 (by omega)
  have e2:IntKind.i64.wrap (32*((xs.length-1:Nat):Int))=((32*(xs.length-1):Nat):Int):=by rw[wI]<;>omega
  have ht:xs[xs.length-1]≠0:=hxt _ (by rw[List.getLast?_eq_getElem?,List.getElem?_eq_getElem])
  have htb:=hxd _ (List.getElem_mem (show xs.length-1<xs.length by omega))
  have hdv:=val_div xs hxd (xs.length-1) (by omega)
  rw[List.drop_eq_nil_of_le (by omega)] at hdv
  simp only[val,Nat.mul_zero,Nat.add_zero] at hdv
  rw[←hdv] at hg ht htb
  clear hdv
  simp only[go_sem,d,e1,e2,hg]
  refine⟨by omega,by omega, ?_⟩
  generalize hm:32*(xs.length-1)=m at*
  generalize hw0:val 4294967296 xs/2^m=w at*
  refine⟨fun n ρ h'=>h'=h∧∃j:Nat,j≤32∧ρ 3= .int .i64 ((m+j:Nat):Int)∧ρ 4= .int .u64 (n:Int)∧n=w/2^j∧(j=0∨2^(j-1)≤w),w,⟨rfl,0,by omega,rfl,rfl,by simp, .inl rfl⟩, ?_⟩
  rintro n ρ h' ⟨rfl,j,hj,g3,g4,hn,hp⟩
  rcases Nat.eq_zero_or_pos n with hz|hz
  ·have d2:decide ((0:Int)<(n:Int))=false:=by simp;omega
   simp only[go_sem,g3,g4,d2]
   intro _
   refine hk (m+j) (by omega) ?_
   have hlt:w<2^j:=by
    rw[hz] at hn
    exact Nat.lt_of_div_eq_zero (Nat.pow_pos (by decide)) hn.symm
   have hB:BL (val 4294967296 xs/2^m) j:=by rw[hw0];exact⟨hlt,hp⟩
   exact hB.up (hB.pos (by rw[hw0];omega))
  ·have d2:decide ((0:Int)<(n:Int))=true:=by simp;omega
   have hj2:j<32:=by
    rcases Nat.lt_or_ge j 32 with hh|hh
    ·exact hh
    ·have:j=32:=by omega
     subst this
     rw[Nat.div_eq_of_lt htb] at hn
     omega
   have e3:IntKind.i64.wrap (((m+j:Nat):Int)+1)=((m+(j+1):Nat):Int):=by rw[wI]<;>omega
   have hnb:n<4294967296:=by rw[hn];exact Nat.lt_of_le_of_lt (Nat.div_le_self _ _) htb
   have e4:IntKind.u64.wrap (((n:Int)).tdiv 2)=((n/2:Nat):Int):=by
    rw[show((n:Int)).tdiv 2=((n/2:Nat):Int) from tdivN (b:=2)]
    exact wUn (by omega)
   simp only[go_sem,g3,g4,d2,e3,e4]
   refine⟨by omega,n/2,by omega,by first|rfl|trivial|assumption,j+1,by omega,rfl,rfl, ?_, .inr ?_⟩
   ·rw[hn,Nat.div_div_eq_div_mul,Nat.pow_succ]
   ·show 2^j≤w
    rcases Nat.lt_or_ge w (2^j) with hh|hh
    ·rw[Nat.div_eq_of_lt hh] at hn;omega
    ·exact hh
theorem bit_calls {v:AV} {xs:List Nat} {i:Nat} {h:H} {K:AV→H→Prop} (hv:IsN h v xs) (hxd:∀a∈xs,a<4294967296) (hi:i<9223372036854775808) (hi2:i/32<xs.length)
  (hk:K (.int .u64 ((val 4294967296 xs/2^i%2:Nat):Int)) h):ACalls Try.prog 95 [v, .int .i64 (i:Int)] h K:=by
 obtain⟨id,off,c,rfl⟩:=hv.form
 obtain⟨i',rfl,_,hg⟩:=hv.at hi2
 refine in_ref02_bit (by simp) fun hw=> ?_
 unfold c_ref02_bit
 have hb:=hxd _ (List.getElem_mem hi2)
 have e1:IntKind.i64.wrap (((i:Int)).tdiv 32)=((i/32:Nat):Int):=by
  rw[show((i:Int)).tdiv 32=((i/32:Nat):Int) from tdivN (b:=32)]
  rw[wI]<;>omega
 have e2:((i:Int)).tmod 32=((i%32:Nat):Int):=tmodN (b:=32)
 have e3:bAnd .u64 ((xs[i/32]/2^(i%32):Nat):Int) 1=((xs[i/32]/2^(i%32)%2:Nat):Int):=by
  have:=bandL (a:=xs[i/32]/2^(i%32)) (b:=1) (Nat.lt_of_le_of_lt (Nat.div_le_self _ _) (by omega)) (by omega)
  rw[Nat.and_one_is_mod] at this
  exact this
 simp only[go_sem,e1,e2,hg,wUn (x:=i%32) (by omega),shrU (x:=xs[i/32]) (n:=i%32) (by omega),e3]
 refine⟨by omega,by omega,by omega,by omega,by omega,fun _=> ?_⟩
 rw[bit_eq xs hxd i hi2]
 exact hk
structure But (id:Nat) (h h':H):Prop where
 next:h'.next=h.next
 rows:∀i,i≠id→h'.rows i=h.rows i
theorem But.refl (id:Nat) (h:H):But id h h:=⟨rfl,fun _ _=>rfl⟩
theorem But.trans {id:Nat} {a b c:H} (h:But id a b) (k:But id b c):But id a c:=⟨k.next.trans h.next,fun i hi=>(k.rows i hi).trans (h.rows i hi)⟩
theorem But.set (id:Nat) (h:H) (r:Row):But id h (h.set id r):=⟨rfl,fun _ hi=>H.rows_set_ne hi⟩
theorem But.le {id:Nat} {a h h':H} (hb:But id h h') (ha:a.wf) (hah:a.le h) (hid:a.next≤id):a.le h':=
 ⟨by rw[hb.next];exact hah.1,fun i r e=>by rw[hb.rows i (by have:=H.row_lt ha e;omega)];exact hah.2 i r e⟩
theorem IsG.but {b id j n:Nat} {c:Option Nat} {h h':H} {xs:List Nat} (hb:But id h h') (hv:IsG b h (.sl (some j) 0 n c) xs) (hj:j≠id):IsG b h' (.sl (some j) 0 n c) xs:=by
 obtain⟨i,c2,e,h1⟩:=hv
 injection e with e1 e2 e3 e4
 subst e1;subst e4
 refine⟨some j,c,by rw[e3], ?_⟩
 rcases h1 with⟨h0,_⟩|⟨i,r,h0,hbi,hr,h2⟩
 ·cases h0
 ·injection h0 with h0
  subst h0
  exact .inr ⟨j,r,rfl,hbi,by rw[hb.rows j hj];exact hr,h2⟩
theorem drop_set_lt {xs:List Nat} {i v:Nat}:(xs.set i v).drop (i+1)=xs.drop (i+1):=List.drop_set_of_lt (by omega)
theorem at_drop {xs ys:List Nat} {i:Nat} (h1:i<xs.length) (h2:i<ys.length) (h:xs.drop i=ys.drop i):xs[i]=ys[i]∧xs.drop (i+1)=ys.drop (i+1):=by
 rw[List.drop_eq_getElem_cons h1,List.drop_eq_getElem_cons h2] at h
 injection h with a b
 exact⟨a,b⟩
theorem twice_calls {a h:H} {K:AV→H→Prop} {id L:Nat} {c:Option Nat} {rs ds:List Nat} {b:Nat} {d:AV} (ha:a.wf) (hah:a.le h) (hr:IsG a.next h (.sl (some id) 0 L c) rs) (hrd:∀x∈rs,x<4294967296)
  (hd:IsN a d ds) (hdd:∀x∈ds,x<4294967296) (hl:rs.length=L) (hL:L≤2000000) (hdl:ds.length≤L) (hb:b≤1) (hfit:2*val 4294967296 rs+b<4294967296^L)
  (hk:∀h' rs',h'.wf→But id h h'→IsG a.next h' (.sl (some id) 0 L c) rs'→(∀x∈rs',x<4294967296)→rs'.length=L→∀t,t=decide (val 4294967296 ds≤2*val 4294967296 rs+b)→val 4294967296 rs'=(if t=true then 2*val 4294967296 rs+b-val 4294967296 ds else 2*val 4294967296 rs+b)→K (.bool t) h'):
  ACalls Try.prog 94 [.sl (some id) 0 L c, .int .u64 (b:Int),d] h K:=by
 obtain⟨idd,offd,cd,rfl⟩:=hd.form
 refine in_ref02_twice (by simp) fun hw=> ?_
 unfold c_ref02_twice
 simp only[go_sem]
 --doubled
 refine loop_cut (fun ρ' h'=>h'.wf∧But id h h'∧ρ' 0= .sl (some id) 0 L c∧ρ' 2= .sl idd offd ds.length cd∧∃xs,IsG a.next h' (.sl (some id) 0 L c) xs∧(∀x∈xs,x<4294967296)∧xs.length=L∧val 4294967296 xs=2*val 4294967296 rs+b) ?_ ?_
 ·refine⟨fun n ρ h'=>h'.wf∧But id h h'∧ρ 0= .sl (some id) 0 L c∧ρ 2= .sl idd offd ds.length cd∧∃i xs e,n=L-i∧i≤L∧ρ 7= .int .i64 (i:Nat)∧ρ 1= .int .u64 (e:Nat)∧e≤1∧IsG a.next h' (.sl (some id) 0 L c) xs∧(∀x∈xs,x<4294967296)∧xs.length=L∧xs.drop i=rs.drop i∧val 4294967296 xs+4294967296^i*e=val 4294967296 rs+val 4294967296 (rs.take i)+b,L,
   ⟨hw,But.refl _ _,rfl,rfl,0,rs,b,by omega,by omega,rfl,rfl,hb,hr,hrd,hl,rfl,by simp[val]⟩, ?_⟩
  rintro n ρ h' ⟨hw',hbt,g0,g2,i,xs,e,rfl,hi,g7,g1,he,hx,hxd,hxl,hdr,hv⟩
  rcases Nat.lt_or_ge i L with hlt|hge
  ·have hix:i<xs.length:=by omega
   obtain⟨j,e1,_,hg⟩:=hx.isN.at hix
   obtain⟨j',r,e1',hbj,hnj,hrj,ho,hc1,hput⟩:=hx.put hw' hix
   injection e1 with e1
   subst e1
   injection e1' with e1'
   subst e1'
   rw[Nat.zero_add] at hg
   obtain⟨q1,q2⟩:=at_drop hix (by omega) hdr
   have hxb:=hxd _ (List.getElem_mem hix)
   have hset:=val_set 4294967296 xs i ((2*xs[i]+e)%4294967296) hix
   have htk:=val_take_succ 4294967296 rs i (by omega)
   rw[←q1] at htk
   generalize xs[i]=p at*
   have m2:IntKind.u64.wrap (2*(p:Int))=((2*p:Nat):Int):=by rw[wU]<;>omega
   have inc:=incI (i:=i) (by omega)
   simp only[go_sem,g0,g1,g2,g7,ltT hlt,hg,m2,addU (a:=2*p) (b:=e) (by omega),rem32,hrj]
   refine⟨by omega,by omega,by omega,by omega,by omega,ho,hc1, ?_⟩
   simp only[go_sem,g0,g1,g2,g7,quo32 (x:=2*p+e) (by omega),inc]
   refine⟨by omega,L-(i+1),by omega,H.wf_set hw' hnj _,hbt.trans (But.set _ _ _),by first|rfl|trivial|assumption,by first|rfl|trivial|assumption,i+1,_,_,rfl,by omega,rfl,rfl,by omega,hput _,mem_set_lt hxd (by omega),by simp;omega, ?_, ?_⟩
   ·rw[drop_set_lt];exact q2
   ·have e2:=digit_snoc (B:=4294967296) (q:=4294967296^i) (s:=2*p+e) (by omega)
    rw[Nat.pow_succ,htk]
    rw[Nat.mul_add,←Nat.mul_assoc,Nat.mul_comm (4294967296^i) 2,Nat.mul_assoc 2] at e2
    generalize 4294967296^i*p=z at*
    omega
  ·have hiL:i=L:=by omega
   subst hiL
   simp only[go_sem,g0,g1,g2,g7,ltF hge]
   refine⟨hw',hbt,by first|rfl|trivial|assumption,by first|rfl|trivial|assumption,xs,hx,hxd,hxl, ?_⟩
   rw[List.take_of_length_le (by omega)] at hv
   have:e=0:=by
    rcases Nat.eq_zero_or_pos e with h0|h0
    ·exact h0
    ·have:e=1:=by omega
     subst this
     omega
   subst this
   omega
 rintro ρ h1 ⟨hw1,hbt1,g0,g2,xs,hx,hxd,hxl,hxv⟩
 rw[←hxv] at hk
 clear hr hrd hfit hxv
 have hah1:a.le h1:=by
  obtain⟨i,r,e1,hbi,_⟩:∃i r,some id=some i∧a.next≤i∧h1.rows i=some r:=by
   obtain⟨i',c',e,hh⟩:=hx
   injection e with e1 e2 e3 e4
   rcases hh with⟨h0,_⟩|⟨i,r,h0,hbi,hri,_⟩
   ·rw[h0] at e1;cases e1
   ·exact⟨i,r,by rw[e1,h0],hbi,hri⟩
  injection e1 with e1
  exact hbt1.le ha hah (by omega)
 have hid:a.next≤id:=by
  obtain⟨i',c',e,hh⟩:=hx
  injection e with e1 e2 e3 e4
  rcases hh with⟨h0,_⟩|⟨i,r,h0,hbi,hri,_⟩
  ·rw[h0] at e1;cases e1
  ·rw[h0] at e1;injection e1 with e1;omega
 --the divisor,filled up
 obtain⟨ps,hps⟩:∃ps,ps=ds++List.replicate (L-ds.length) 0:=⟨_,rfl⟩
 have hpl:ps.length=L:=by rw[hps];simp;omega
 have hpv:val 4294967296 ps=val 4294967296 ds:=by
  rw[hps,val_append,val_zero 4294967296 (List.replicate _ _) (fun x hx=>(List.mem_replicate.1 hx).2)]
  simp
 have hpd:∀x∈ps,x<4294967296:=by
  intro x hx
  rw[hps] at hx
  rcases List.mem_append.1 hx with hx|hx
  ·exact hdd x hx
  ·rw[(List.mem_replicate.1 hx).2];decide
 have hpa:∀i (hi:i<ds.length),ps[i]'(by omega)=ds[i]:=by
  intro i hi
  subst hps
  rw[List.getElem_append_left hi]
 have hpz:∀i (hi:i<L),ds.length≤i→ps[i]'(by omega)=0:=by
  intro i hi h0
  subst hps
  rw[List.getElem_append_right h0,List.getElem_replicate]
 --compared
 simp only[go_sem,g0,g2]
 refine loop_cut (fun ρ' h'=>h'=h1∧ρ' 0= .sl (some id) 0 L c∧ρ' 2= .sl idd offd ds.length cd∧ρ' 9= .bool (decide (val 4294967296 ps≤val 4294967296 xs))) ?_ ?_
 ·refine⟨fun n ρ h'=>h'=h1∧ρ 0= .sl (some id) 0 L c∧ρ 2= .sl idd offd ds.length cd∧ρ 9= .bool true∧ρ 10= .int .i64 ((n:Int)-1)∧n≤L∧xs.drop n=ps.drop n,L,⟨rfl,by first|rfl|trivial|assumption,by first|rfl|trivial|assumption,by first|rfl|trivial|assumption, ?_,by omega,by rw[List.drop_eq_nil_of_le (by omega),List.drop_eq_nil_of_le (by omega)]⟩, ?_⟩
  ·simp only[go_sem]
   rw[wI]<;>omega
  rintro n ρ h' ⟨rfl,g0,g2,g9,g10,hn,hdr⟩
  rcases Nat.eq_zero_or_pos n with rfl|hp
  ·have d1:decide ((0:Int)≤((0:Nat):Int)-1)=false:=by decide
   simp only[go_sem,g0,g2,g9,g10,d1]
   refine⟨by first|rfl|trivial|assumption,by first|rfl|trivial|assumption,by first|rfl|trivial|assumption, ?_⟩
   have:xs=ps:=by simpa using hdr
   rw[this]
   simp
  ·have d1:decide ((0:Int)≤(n:Int)-1)=true:=by simp;omega
   have e5:(n:Int)-1=((n-1:Nat):Int):=by omega
   rw[e5] at g10 d1
   have hix:n-1<xs.length:=by omega
   obtain⟨j,e1,_,hg⟩:=hx.isN.at hix
   injection e1 with e1
   subst e1
   rw[Nat.zero_add] at hg
   have hdr':xs.drop (n-1+1)=ps.drop (n-1+1):=by rw[show n-1+1=n from by omega];exact hdr
   have e6:IntKind.i64.wrap (((n-1:Nat):Int)-1)=((n-1:Nat):Int)-1:=by rw[wI]<;>omega
   have hgt:ps[n-1]<xs[n-1]→decide (val 4294967296 ps≤val 4294967296 xs)=true:=fun h=>by
    have:=val_lt_at 4294967296 (by omega) hpd (n-1) (by omega) (by omega) hdr'.symm h
    simp;omega
   have hlt:xs[n-1]<ps[n-1]→decide (val 4294967296 ps≤val 4294967296 xs)=false:=fun h=>by
    have:=val_lt_at 4294967296 (by omega) hxd (n-1) (by omega) (by omega) hdr' h
    simp;omega
   have heq:xs[n-1]=ps[n-1]→xs.drop (n-1)=ps.drop (n-1):=fun h=>by
    rw[List.drop_eq_getElem_cons (by omega),List.drop_eq_getElem_cons (l:=ps) (by omega),h,hdr']
   have hpw:∀w:Nat,w=ps[n-1]→(ps[n-1]=w):=fun w h=>h.symm
   rcases Nat.lt_or_ge (n-1) ds.length with hi|hi
   ·obtain⟨j',rfl,_,hg'⟩:=(hd.mono hah1).at hi
    rw[←hpa (n-1) hi] at hg'
    generalize ps[n-1]=w at*
    generalize xs[n-1]=p at*
    simp only[go_sem,g0,g2,g9,g10,d1,ltT hi,hg',hg]
    refine⟨by omega,by omega,by omega,by omega, ?_⟩
    refine cond_split (fun hc=> ?_) (fun hc=> ?_)
    ·have hne:p≠w:=by rintro rfl;simp at hc
     simp only[go_sem,g0,g2,g9,g10,hg]
     refine⟨by omega,by omega,by first|rfl|trivial|assumption,by first|rfl|trivial|assumption,by first|rfl|trivial|assumption, ?_⟩
     rcases Nat.lt_or_gt_of_ne hne with hlt'|hgt'
     ·rw[hlt hlt',ltF (by omega)]
     ·rw[hgt hgt',ltT hgt']
    ·have he:p=w:=by simp at hc;omega
     simp only[go_sem,g0,g2,g9,g10,e6]
     exact⟨n-1,by omega,by first|rfl|trivial|assumption,by first|rfl|trivial|assumption,by first|rfl|trivial|assumption,by first|rfl|trivial|assumption,by first|rfl|trivial|assumption,by omega,heq he⟩
   ·have hz:=hpz (n-1) (by omega) hi
    rw[hz] at hgt hlt heq
    generalize xs[n-1]=p at*
    have hg0:((0:Nat):Int)=0:=rfl
    simp only[go_sem,g0,g2,g9,g10,d1,ltF hi,hg]
    refine⟨by omega,by omega, ?_⟩
    refine cond_split (fun hc=> ?_) (fun hc=> ?_)
    ·have hne:p≠0:=by rintro rfl;simp at hc
     simp only[go_sem,g0,g2,g9,g10,hg]
     refine⟨by omega,by omega,by first|rfl|trivial|assumption,by first|rfl|trivial|assumption,by first|rfl|trivial|assumption, ?_⟩
     rw[hgt (by omega)]
     have:decide ((0:Int)<(p:Int))=true:=by simp;omega
     rw[this]
    ·have he:p=0:=by simp at hc;omega
     simp only[go_sem,g0,g2,g9,g10,e6]
     exact⟨n-1,by omega,by first|rfl|trivial|assumption,by first|rfl|trivial|assumption,by first|rfl|trivial|assumption,by first|rfl|trivial|assumption,by first|rfl|trivial|assumption,by omega,heq he⟩
 rintro ρ h2 ⟨rfl,g0,g2,g9⟩
 rw[←hpv] at hk
 rcases Nat.lt_or_ge (val 4294967296 xs) (val 4294967296 ps) with hc|hc
 ·have d1:decide (val 4294967296 ps≤val 4294967296 xs)=false:=by simp;omega
  rw[d1] at g9
  simp only[go_sem,g9,Bool.not_false]
  intro _
  exact hk _ xs hw1 hbt1 hx hxd hxl false d1.symm (by simp)
 have d1:decide (val 4294967296 ps≤val 4294967296 xs)=true:=by simp;omega
 rw[d1] at g9
 simp only[go_sem,g0,g2,g9,Bool.not_true]
 --made smaller
 refine⟨fun n ρ h'=>h'.wf∧But id h2 h'∧ρ 0= .sl (some id) 0 L c∧ρ 2= .sl idd offd ds.length cd∧∃i ys e,n=L-i∧i≤L∧ρ 13= .int .i64 (i:Nat)∧ρ 12= .int .u64 (e:Nat)∧e≤1∧IsG a.next h' (.sl (some id) 0 L c) ys∧(∀x∈ys,x<4294967296)∧ys.length=L∧ys.drop i=xs.drop i∧val 4294967296 ys+val 4294967296 (ps.take i)=val 4294967296 xs+4294967296^i*e,L,
  ⟨hw1,But.refl _ _,by first|rfl|trivial|assumption,by first|rfl|trivial|assumption,0,xs,0,by omega,by omega,rfl,rfl,by omega,hx,hxd,hxl,rfl,by simp[val]⟩, ?_⟩
 rintro n ρ h' ⟨hw',hbt,g0,g2,i,ys,e,rfl,hi,g13,g12,he,hy,hyd,hyl,hdr,hv⟩
 rcases Nat.lt_or_ge i L with hlt|hge
 ·have hiy:i<ys.length:=by omega
  obtain⟨j,e1,_,hg⟩:=hy.isN.at hiy
  obtain⟨j',r,e1',hbj,hnj,hrj,ho,hc1,hput⟩:=hy.put hw' hiy
  injection e1 with e1
  subst e1
  injection e1' with e1'
  subst e1'
  rw[Nat.zero_add] at hg
  obtain⟨q1,q2⟩:=at_drop hiy (by omega) hdr
  have hyb:=hyd _ (List.getElem_mem hiy)
  have hpb:=hpd _ (List.getElem_mem (show i<ps.length by omega))
  have htk:=val_take_succ 4294967296 ps i (by omega)
  have hset:=fun v=>val_set 4294967296 ys i v hiy
  have inc:=incI (i:=i) (by omega)
  have hah':a.le h':=hbt.le ha hah1 (by omega)
  have fin:∀v e':Nat,e'≤1→v<4294967296→v+(ps[i]+e)=ys[i]+4294967296*e'→val 4294967296 (ys.set i v)+val 4294967296 (ps.take (i+1))=val 4294967296 xs+4294967296^(i+1)*e':=by
   intro v e' _ _ hve
   have h3:=hset v
   rw[htk,Nat.pow_succ]
   have h4:4294967296^i*(v+(ps[i]+e))=4294967296^i*(ys[i]+4294967296*e'):=by rw[hve]
   rw[Nat.mul_add,Nat.mul_add,Nat.mul_add,←Nat.mul_assoc] at h4
   generalize 4294967296^i*v=t1 at*
   generalize 4294967296^i*ps[i]=t2 at*
   generalize 4294967296^i*ys[i]=t3 at*
   generalize 4294967296^i*e=t4 at*
   generalize 4294967296^i*4294967296*e'=t5 at*
   omega
  have step:∀v e':Nat,e'≤1→v<4294967296→v+(ps[i]+e)=ys[i]+4294967296*e'→∃m,m<L-i∧(h'.set id {r with cells:=putAt r.cells i [AV.int .u64 v]}).wf∧But id h2 (h'.set id {r with cells:=putAt r.cells i [AV.int .u64 v]})∧True∧True∧∃i' ys' e'',m=L-i'∧i'≤L∧AV.int .i64 ((i+1:Nat):Int)= .int .i64 (i':Nat)∧AV.int .u64 (e':Int)= .int .u64 (e'':Nat)∧e''≤1∧
    IsG a.next (h'.set id {r with cells:=putAt r.cells i [AV.int .u64 v]}) (.sl (some id) 0 L c) ys'∧(∀x∈ys',x<4294967296)∧ys'.length=L∧ys'.drop i'=xs.drop i'∧val 4294967296 ys'+val 4294967296 (ps.take i')=val 4294967296 xs+4294967296^i'*e'':=by
   intro v e' he' hvb hve
   exact⟨L-(i+1),by omega,H.wf_set hw' hnj _,hbt.trans (But.set _ _ _),True.intro,True.intro,i+1,_,e',rfl,by omega,rfl,rfl,he',hput _,mem_set_lt hyd hvb,by simp;omega,by rw[drop_set_lt];exact q2,fin v e' he' hvb hve⟩
  clear fin hset htk
  generalize hyp:ys[i]=p at*
  rcases Nat.lt_or_ge i ds.length with hi2|hi2
  ·obtain⟨j',rfl,_,hg'⟩:=(hd.mono hah').at hi2
   rw[←hpa i hi2] at hg'
   generalize ps[i]=q at*
   simp only[go_sem,g0,g2,g12,g13,ltT hlt,ltT hi2,hg,hg',addU (a:=e) (b:=q) (by omega),hrj,inc]
   refine⟨by omega,by omega,by omega,by omega, ?_⟩
   refine cond_split (fun hc=> ?_) (fun hc=> ?_)
   ·have hle:e+q≤p:=by simp at hc;omega
    simp only[go_sem,g0,g2,g12,g13,hg,subN (a:=p) (b:=e+q) hle (by omega),hrj,inc]
    refine⟨by omega,by omega,by omega,by omega,ho,hc1, ?_⟩
    exact step (p-(e+q)) 0 (by omega) (by omega) (by omega)
   ·have hgt:p<e+q:=by simp at hc;omega
    have w3:IntKind.u64.wrap (4294967296-((e+q:Nat):Int))=((4294967296-(e+q):Nat):Int):=by rw[wU]<;>omega
    simp only[go_sem,g0,g2,g12,g13,hg,w3,addU (a:=p) (b:=4294967296-(e+q)) (by omega),hrj,inc]
    refine⟨by omega,by omega,by omega,by omega,ho,hc1, ?_⟩
    exact step (p+(4294967296-(e+q))) 1 (by omega) (by omega) (by omega)
  ·have hz:=hpz i hlt hi2
   rw[hz] at step
   simp only[go_sem,g0,g2,g12,g13,ltT hlt,ltF hi2,hg,hrj,inc]
   refine⟨by omega,by omega, ?_⟩
   refine cond_split (fun hc=> ?_) (fun hc=> ?_)
   ·have hle:e≤p:=by simp at hc;omega
    simp only[go_sem,g0,g2,g12,g13,hg,subN (a:=p) (b:=e) hle (by omega),hrj,inc]
    refine⟨by omega,by omega,by omega,by omega,ho,hc1, ?_⟩
    exact step (p-(e)) 0 (by omega) (by omega) (by omega)
   ·have hgt:p<e:=by simp at hc;omega
    have w3:IntKind.u64.wrap (4294967296-((e:Nat):Int))=((4294967296-(e):Nat):Int):=by rw[wU]<;>omega
    simp only[go_sem,g0,g2,g12,g13,hg,w3,addU (a:=p) (b:=4294967296-(e)) (by omega),hrj,inc]
    refine⟨by omega,by omega,by omega,by omega,ho,hc1, ?_⟩
    exact step (p+(4294967296-(e))) 1 (by omega) (by omega) (by omega)
 ·have hiL:i=L:=by omega
  subst hiL
  simp only[go_sem,g0,g2,g12,g13,ltF hge]
  intro _
  rw[List.take_of_length_le (by omega)] at hv
  have hyb:=val_lt 4294967296 (by decide) ys hyd
  rw[hyl] at hyb
  have he0:e=0:=by
   rcases Nat.eq_zero_or_pos e with h0|h0
   ·exact h0
   ·have:e=1:=by omega
    subst this
    omega
  subst he0
  refine hk _ ys hw' (hbt1.trans hbt) hy hyd hyl true d1.symm ?_
  rw[if_pos rfl]
  omega
theorem div_double {X y b:Nat} (hb:b≤1) (hy:0<y):(2*X+b)/y=2*(X/y)+(if y≤2*(X%y)+b then 1 else 0)∧(2*X+b)%y=(if y≤2*(X%y)+b then 2*(X%y)+b-y else 2*(X%y)+b):=by
 have h1:=Nat.div_add_mod X y
 have h2:X%y<y:=Nat.mod_lt _ hy
 generalize X/y=u at*
 generalize X%y=v at*
 have e:2*X+b=y*(2*u)+(2*v+b):=by
  rw[←h1,Nat.mul_left_comm y 2 u]
  omega
 rw[e]
 split
 ·rename_i hc
  have e2:y*(2*u)+(2*v+b)=y*(2*u+1)+(2*v+b-y):=by rw[Nat.mul_add];omega
  rw[e2,Nat.mul_add_div hy,Nat.mul_add_mod,Nat.div_eq_of_lt (by omega),Nat.mod_eq_of_lt (by omega)]
  exact⟨rfl,rfl⟩
 ·rename_i hc
  rw[Nat.mul_add_div hy,Nat.mul_add_mod,Nat.div_eq_of_lt (by omega),Nat.mod_eq_of_lt (by omega)]
  exact⟨rfl,rfl⟩
theorem shl1 {n:Nat} (hn:n<64):bShl .u64 1 n=((2^n:Nat):Int):=by
 have h:=shlU (x:=1) (n:=n) (by omega)
 have h2:2^n<18446744073709551616:=Nat.lt_of_lt_of_le (Nat.pow_lt_pow_right (by decide) hn) (by decide:2^64≤18446744073709551616)
 rw[Nat.one_mul,Nat.mod_eq_of_lt h2] at h
 exact h
theorem or_bit {w r:Nat} (hw:w<4294967296) (hr:r<32) (hd:w%2^(r+1)=0):bOr .u64 (w:Int) ((2^r:Nat):Int)=((w+2^r:Nat):Int)∧w+2^r<4294967296:=by
 have h2:2^r<2^32:=Nat.pow_lt_pow_right (by decide) hr
 have e1:w=2^(r+1)*(w/2^(r+1)):=by have:=Nat.div_add_mod w (2^(r+1));omega
 have e2:w|||2^r=w+2^r:=by
  rw[e1,←Nat.two_pow_add_eq_or_of_lt (Nat.pow_lt_pow_right (by decide) (by omega))]
 have h3:=borN (a:=w) (b:=2^r) (by omega) (by omega)
 rw[e2] at h3
 refine⟨h3, ?_⟩
 have:=Nat.or_lt_two_pow (n:=32) (x:=w) (y:=2^r) hw h2
 omega
theorem digit_mult {xs:List Nat} (hx:∀a∈xs,a<4294967296) {i z:Nat} (h:i/32<xs.length) (hv:val 4294967296 xs=2^(i+1)*z):xs[i/32]%2^(i%32+1)=0:=by
 rw[digit_eq xs hx _ h,hv]
 have e:2^(i+1)=2^(32*(i/32))*2^(i%32+1):=by rw[←Nat.pow_add];congr 1;omega
 rw[e,Nat.mul_assoc,Nat.mul_div_cancel_left _ (Nat.pow_pos (by decide))]
 have hr:i%32<32:=Nat.mod_lt _ (by decide)
 generalize i%32=r at*
 have e2:4294967296=2^(r+1)*2^(31-r):=by rw[←Nat.pow_add,show r+1+(31-r)=32 from by omega]
 rw[e2,Nat.mul_mod_mul_left,Nat.mul_mod_right]
theorem DivMod_calls {v u:AV} {x y:Nat} {h:H} {K:AV→H→Prop} (nv:Num 4294967296 h v x) (nu:Num 4294967296 h u y) (hx:Big x) (hy:Big y) (hy0:0<y)
  (hk:∀q r h',h'.wf→h.le h'→Num 4294967296 h' q (x/y)→Num 4294967296 h' r (x%y)→K (.tup [q,r]) h'):ACalls Try.prog 91 [v,u] h K:=by
 refine in_ref02_DivMod (by simp) fun hw=> ?_
 unfold c_ref02_DivMod
 simp only[go_sem]
 refine Cmp_calls nv nu hx hy ?_
 rcases Nat.lt_or_ge x y with hlt|hge
 ·have d1:decide (cmpI x y<0)=true:=by simp[cmpI,hlt]
  simp only[go_sem,d1]
  intro _
  refine hk _ v h hw (H.le_refl h) ?_ ?_
  ·rw[Nat.div_eq_of_lt hlt]
   exact⟨[],IsN.nil _ _,by simp,by simp,rfl⟩
  ·rw[Nat.mod_eq_of_lt hlt]
   exact nv
 have d1:decide (cmpI x y<0)=false:=by
  unfold cmpI
  rw[if_neg (by omega)]
  split<;>rfl
 have nv0:=nv
 obtain⟨xs,hv,hxd,hxt,hxv,hxl⟩:=nv.open hx
 obtain⟨ys,hu,hyd,hyt,hyv,hyl⟩:=nu.open hy
 obtain⟨id,off,c,rfl⟩:=hv.form
 obtain⟨id',off',c',rfl⟩:=hu.form
 have e1:=incI (i:=ys.length) (by omega)
 simp only[go_sem,d1,e1]
 refine⟨by omega,by omega,by omega,by omega,by omega,by omega, ?_⟩
 have le1:h.le ((h.new ⟨some 23,1,zs [AV.int .u64 0] (ys.length+1)⟩).new ⟨some 23,1,zs [AV.int .u64 0] xs.length⟩):=H.le_new (H.wf_new hw _) (H.le_new hw (H.le_refl h) _) _
 have hr0:IsG h.next ((h.new ⟨some 23,1,zs [AV.int .u64 0] (ys.length+1)⟩).new ⟨some 23,1,zs [AV.int .u64 0] xs.length⟩) (.sl (some h.next) 0 (ys.length+1) (some (ys.length+1))) (List.replicate (ys.length+1) 0):=
  (IsG.made (Nat.le_refl _) _).mono (H.le_new (H.wf_new hw _) (H.le_refl _) _)
 have hq0:IsG h.next ((h.new ⟨some 23,1,zs [AV.int .u64 0] (ys.length+1)⟩).new ⟨some 23,1,zs [AV.int .u64 0] xs.length⟩) (.sl (some (h.next+1)) 0 xs.length (some xs.length)) (List.replicate xs.length 0):=
  IsG.made (by rw[H.next_new];omega) _
 have wf1:=H.wf_new (H.wf_new hw ⟨some 23,1,zs [AV.int .u64 0] (ys.length+1)⟩) ⟨some 23,1,zs [AV.int .u64 0] xs.length⟩
 simp only[H.next_new]
 generalize ((h.new ⟨some 23,1,zs [AV.int .u64 0] (ys.length+1)⟩).new ⟨some 23,1,zs [AV.int .u64 0] xs.length⟩)=h1 at*
 refine Bits_calls (nv0.mono le1) hx fun L hL hB=> ?_
 have hx0:0<x:=by omega
 have hL0:=hB.pos hx0
 have hLl:L≤32*xs.length:=by
  have a1:=val_lt 4294967296 (by decide) xs hxd
  rw[hxv,pow32] at a1
  have a2:=hB.2.resolve_left hL0
  have:=(Nat.pow_lt_pow_iff_right (by decide:1<2)).1 (Nat.lt_of_le_of_lt a2 a1)
  omega
 have e2:=decI (i:=L) (by omega) (by omega)
 simp only[go_sem,e2]
 have hyb:y<4294967296^ys.length:=by rw[←hyv];exact val_lt 4294967296 (by decide) ys hyd
 refine⟨fun n ρ h'=>h'.wf∧h.le h'∧ρ 0= .sl id off xs.length c∧ρ 1= .sl id' off' ys.length c'∧ρ 6= .sl (some h.next) 0 (ys.length+1) (some (ys.length+1))∧ρ 7= .sl (some (h.next+1)) 0 xs.length (some xs.length)∧ρ 8= .int .i64 ((n:Int)-1)∧n≤L∧
  ∃rs qs,IsG h.next h' (.sl (some h.next) 0 (ys.length+1) (some (ys.length+1))) rs∧(∀a∈rs,a<4294967296)∧rs.length=ys.length+1∧val 4294967296 rs=x/2^n%y∧
   IsG h.next h' (.sl (some (h.next+1)) 0 xs.length (some xs.length)) qs∧(∀a∈qs,a<4294967296)∧qs.length=xs.length∧val 4294967296 qs=2^n*(x/2^n/y),L,
  ⟨wf1,le1,by first|rfl|trivial|assumption,by first|rfl|trivial|assumption,by first|rfl|trivial|assumption,by first|rfl|trivial|assumption, ?_,by omega,_,_,hr0, ?_,by simp, ?_,hq0, ?_,by simp, ?_⟩, ?_⟩
 ·simp only[go_sem]
  congr 1
  omega
 ·intro a ha;rw[(List.mem_replicate.1 ha).2];decide
 ·rw[val_zero 4294967296 _ (fun a ha=>(List.mem_replicate.1 ha).2),Nat.div_eq_of_lt hB.1,Nat.zero_mod]
 ·intro a ha;rw[(List.mem_replicate.1 ha).2];decide
 ·rw[val_zero 4294967296 _ (fun a ha=>(List.mem_replicate.1 ha).2),Nat.div_eq_of_lt hB.1,Nat.zero_div,Nat.mul_zero]
 rintro n ρ h' ⟨hw',hle,g0,g1,g6,g7,g8,hn,rs,qs,hr,hrd,hrl,hrv,hq,hqd,hql,hqv⟩
 rcases Nat.eq_zero_or_pos n with rfl|hp
 ·have d2:decide ((0:Int)≤((0:Nat):Int)-1)=false:=by decide
  simp only[go_sem,g0,g1,g6,g7,g8,d2]
  refine norm_num hq.isN hqd (by omega) fun q1 nq=> ?_
  simp only[go_sem,g0,g1,g6,g7,g8]
  refine norm_num hr.isN hrd (by omega) fun r1 nr=> ?_
  simp only[go_sem]
  intro _
  rw[hqv] at nq
  rw[hrv] at nr
  simp only[Nat.pow_zero,Nat.div_one,Nat.one_mul] at nq nr
  exact hk q1 r1 h' hw' hle nq nr
 obtain⟨i,rfl⟩:∃i,n=i+1:=⟨n-1,by omega⟩
 have e5:((i+1:Nat):Int)-1=(i:Int):=by omega
 have d2:decide ((0:Int)≤(i:Int))=true:=by simp
 rw[e5] at g8
 simp only[go_sem,g0,g1,g6,g7,g8,d2]
 have hi32:i/32<xs.length:=by omega
 refine bit_calls (hv.mono hle) hxd (by omega) hi32 ?_
 simp only[go_sem,g0,g1,g6,g7,g8]
 rw[hxv]
 have hb1:x/2^i%2≤1:=by omega
 have hvy:val 4294967296 rs<y:=by rw[hrv];exact Nat.mod_lt _ hy0
 have hX:x/2^i=2*(x/2^(i+1))+x/2^i%2:=by
  rw[Nat.pow_succ,←Nat.div_div_eq_div_mul]
  omega
 obtain⟨hD1,hD2⟩:=div_double (X:=x/2^(i+1)) hb1 hy0
 rw[←hX,←hrv] at hD1 hD2
 have hfit:2*val 4294967296 rs+x/2^i%2<4294967296^(ys.length+1):=by rw[Nat.pow_succ];omega
 refine twice_calls hw hle hr hrd hu hyd hrl (by omega) (by omega) hb1 hfit fun h2 rs' hw2 hbt hr2 hrd2 hrl2 t ht hrv2=> ?_
 rw[hyv] at ht hrv2
 have hle2:=hbt.le hw hle (Nat.le_refl _)
 have hq2:=hq.but hbt (by omega)
 have e6:IntKind.i64.wrap ((i:Int)-1)=(i:Int)-1:=by rw[wI]<;>omega
 cases t with
 |false=>
  have hc:¬y≤2*val 4294967296 rs+x/2^i%2:=by simpa using ht.symm
  rw[if_neg (by simp)] at hrv2
  rw[if_neg hc] at hD1 hD2
  simp only[go_sem,g0,g1,g6,g7,g8,e6]
  refine⟨i,by omega,hw2,hle2,by first|rfl|trivial|assumption,by first|rfl|trivial|assumption,by first|rfl|trivial|assumption,by first|rfl|trivial|assumption,by first|rfl|trivial|assumption,by omega,rs',qs,hr2,hrd2,hrl2, ?_,hq2,hqd,hql, ?_⟩
  ·rw[hrv2,hD2]
  ·rw[hqv,hD1,Nat.pow_succ,Nat.mul_assoc,Nat.add_zero]
 |true=>
  have hc:y≤2*val 4294967296 rs+x/2^i%2:=by simpa using ht.symm
  rw[if_pos rfl] at hrv2
  rw[if_pos hc] at hD1 hD2
  have hjq:i/32<qs.length:=by omega
  obtain⟨j,e1,_,hg⟩:=hq2.isN.at hjq
  obtain⟨j',r,e1',hbj,hnj,hrj,ho,hc1,hput⟩:=hq2.put hw2 hjq
  injection e1 with e1
  subst e1
  injection e1' with e1'
  subst e1'
  rw[Nat.zero_add] at hg
  have hqb:=hqd _ (List.getElem_mem hjq)
  have hr32:i%32<32:=Nat.mod_lt _ (by decide)
  obtain⟨o1,o2⟩:=or_bit hqb hr32 (digit_mult hqd hjq hqv)
  have hset:=val_set 4294967296 qs (i/32) (qs[i/32]+2^(i%32)) hjq
  generalize qs[i/32]=w at*
  have e7:IntKind.i64.wrap (((i:Int)).tdiv 32)=((i/32:Nat):Int):=by
   rw[show((i:Int)).tdiv 32=((i/32:Nat):Int) from tdivN (b:=32)]
   rw[wI]<;>omega
  have e8:((i:Int)).tmod 32=((i%32:Nat):Int):=tmodN (b:=32)
  simp only[go_sem,g0,g1,g6,g7,g8,e6,e7,e8,hg,hrj,wUn (x:=i%32) (by omega),shl1 (n:=i%32) (by omega),o1]
  refine⟨by omega,by omega,by omega,by omega,by omega,by omega,by omega,ho,hc1, ?_⟩
  refine⟨i,by omega,H.wf_set hw2 hnj _,H.le_set hw hle2 hbj _,by first|rfl|trivial|assumption,by first|rfl|trivial|assumption,by first|rfl|trivial|assumption,by first|rfl|trivial|assumption,by first|rfl|trivial|assumption,by omega,rs',_,hr2.but (But.set _ _ _) (by omega),hrd2,hrl2, ?_,hput _,mem_set_lt hqd o2,by simp;omega, ?_⟩
  ·rw[hrv2,hD2]
  ·rw[hD1]
   have e9:4294967296^(i/32)*2^(i%32)=2^i:=by rw[pow32,←Nat.pow_add,Nat.div_add_mod]
   rw[Nat.mul_add,e9,hqv] at hset
   generalize x/2^(i+1)/y=Z at*
   rw[Nat.pow_succ] at hset
   rw[Nat.mul_add,Nat.mul_one,←Nat.mul_assoc]
   omega
theorem for_rule {P:Program} {c:AC} {Q:Post} {ρ:Env} {h:H} (I:Nat→Env→H→Prop) (N:Nat) (h0:I 0 ρ h) (hN:∀i ρ h,I i ρ h→i≤N) (hs:∀i ρ h,I i ρ h→awp P c (athen (fun ρ' h'=>I (i+1) ρ' h') Q) ρ h):awp P (.loop c) Q ρ h:=by
 refine⟨fun n ρ h=>∃i,n=N-i∧I i ρ h,N,⟨0,by omega,h0⟩, ?_⟩
 rintro n ρ h ⟨i,rfl,hI⟩
 refine awp_mono (fun e ρ' h' hh=> ?_) (hs i ρ h hI)
 cases e with
 |normal=>
  have h1:=hN _ _ _ hh
  exact⟨N-(i+1),by omega,i+1,rfl,hh⟩
 |_=>exact hh
theorem eqF {a b:Int} (h:a≠b):(a==b)=false:=beq_eq_false_iff_ne.2 h
theorem eqT {a b:Int} (h:a=b):(a==b)=true:=beq_iff_eq.2 h
theorem neT {a b:Int} (h:a≠b):(a !=b)=true:=bne_iff_ne.2 h
theorem neF {a b:Int} (h:a=b):(a !=b)=false:=by rw[h];exact bne_self_eq_false b
theorem leT {a b:Nat} (h:a≤b):decide ((a:Int)≤(b:Int))=true:=by simp;omega
theorem leF {a b:Nat} (h:b<a):decide ((a:Int)≤(b:Int))=false:=by simp;omega
theorem minN {a b:Nat}:min (a:Int) (b:Int)=((min a b:Nat):Int):=by omega
theorem maxN {a b:Nat}:max (a:Int) (b:Int)=((max a b:Nat):Int):=by omega
theorem take_min {α:Type} {l:List α} {n:Nat}:l.take (min l.length n)=l.take n:=by
 rw[List.take_eq_take_iff]
 omega
theorem putAt_zero {l m:List AV}:putAt l 0 m=m++l.drop m.length:=by simp[putAt]
theorem getD_lt {B:Nat} (hB:0<B) {xs:List Nat} (hx:∀x∈xs,x<B) (i:Nat):xs.getD i 0<B:=by
 rcases Nat.lt_or_ge i xs.length with hh|hh
 ·rw[List.getD_eq_getElem?_getD,List.getElem?_eq_getElem hh];exact hx _ (List.getElem_mem hh)
 ·rw[List.getD_eq_getElem?_getD,List.getElem?_eq_none hh];exact hB
theorem getD_ge {xs:List Nat} {i:Nat} (h:xs.length≤i):xs.getD i 0=0:=by
 rw[List.getD_eq_getElem?_getD,List.getElem?_eq_none h];rfl
theorem subU {a b:Nat} (hb:b≤a) (ha:a<18446744073709551616):IntKind.u64.wrap ((a:Int)-(b:Int))=((a-b:Nat):Int):=by rw[wU]<;>omega
theorem mem_snoc_lt {B y:Nat} {xs:List Nat} (h:∀x∈xs,x<B) (hy:y<B):∀x∈xs++[y],x<B:=by
 intro z hz
 rcases List.mem_append.1 hz with hz|hz
 ·exact h z hz
 ·simp only[List.mem_cons,List.not_mem_nil,or_false] at hz
  omega
theorem sub_end {B:Nat} (hB:0<B) {out xs ys:List Nat} {c:Nat} (ho:∀x∈out,x<B) (hl:out.length=xs.length) (hy:val B ys≤val B xs) (hv:val B out+val B (ys.take xs.length)=val B xs+B^xs.length*c) (hyl:ys.length≤xs.length):val B out=val B xs-val B ys:=by
 rw[List.take_of_length_le hyl] at hv
 have h1:=val_lt B hB out ho
 rw[hl] at h1
 rcases Nat.eq_zero_or_pos c with h0|h0
 ·subst h0;omega
 ·have:B^xs.length*1≤B^xs.length*c:=Nat.mul_le_mul_left _ h0
  omega
theorem len_le_of_val {B:Nat} (hB:1<B) {xs ys:List Nat} (hx:∀x∈xs,x<B) (hy:∀x,ys.getLast? =some x→x≠0) (h:val B ys≤val B xs):ys.length≤xs.length:=by
 rcases Nat.lt_or_ge xs.length ys.length with h1|h1
 ·have:=digits_lt_iff B hB hx hy h1
  omega
 ·exact h1
theorem rSub_calls {v u:AV} {x y:Nat} {h:H} {K:AV→H→Prop} (nv:Num 4294967296 h v x) (nu:Num 4294967296 h u y) (hx:Big x) (hyx:y≤x)
  (hk:∀r h',h'.wf→h.le h'→Num 4294967296 h' r (x-y)→K r h'):ACalls Try.prog 69 [v,u] h K:=by
 obtain⟨ys,hu,hyd,hyt,rfl,hyl⟩:=nu.open (hx.le hyx)
 obtain⟨xs,hv,hxd,hxt,rfl,hxl⟩:=nv.open hx
 obtain⟨id,off,c,rfl⟩:=hv.form
 obtain⟨id',off',c',rfl⟩:=hu.form
 have hlen:=len_le_of_val (by omega) hxd hyt hyx
 refine in_ref02_Sub (by simp) fun hw=> ?_
 unfold c_ref02_Sub
 simp only[go_sem]
 refine⟨by omega,by omega,by omega, ?_⟩
 refine for_rule (fun i ρ h'=>i≤xs.length∧h'.wf∧h.le h'∧ρ 0= .sl id off xs.length c∧ρ 1= .sl id' off' ys.length c'∧ρ 7= .int .i64 (i:Int)∧∃out cc,ρ 6= .int .u64 (cc:Nat)∧cc≤1∧IsG h.next h' (ρ 5) out∧(∀x∈out,x<4294967296)∧out.length=i∧
  val 4294967296 out+val 4294967296 (ys.take i)=val 4294967296 (xs.take i)+4294967296^i*cc) xs.length ⟨by omega,H.wf_new hw _,H.le_new hw (H.le_refl h) _,rfl,rfl,rfl,[],0,rfl,by omega,IsG.made0 (Nat.le_refl _) _,by simp,rfl,rfl⟩ (fun i ρ h hI=>hI.1) ?_
 rintro i ρ h' ⟨hi,hw',hle,h0,h1,h7,out,cc,h6,hcc,hs,hod,hol,hov⟩
 have e7:=incI (i:=i) (by omega)
 rcases Nat.lt_or_ge i xs.length with hxi|hxi
 ·simp only[go_sem,h0,h1,h6,h7,ltT hxi]
  refine cond_cut (fun ρ' h2=>h2=h'∧ρ' 0= .sl id off xs.length c∧ρ' 1= .sl id' off' ys.length c'∧ρ' 7= .int .i64 (i:Int)∧ρ' 5=ρ 5∧ρ' 8= .int .u64 ((cc+ys.getD i 0:Nat):Int)) ?_ ?_
  ·rcases Nat.lt_or_ge i ys.length with hyi|hyi
   ·obtain⟨j',rfl,_,hg'⟩:=(hu.mono hle).at hyi
    have hyb:=hyd _ (List.getElem_mem hyi)
    rw[getD_at hyi]
    generalize ys[i]=q at*
    simp only[go_sem,h0,h1,h7,ltT hyi]
    refine⟨by omega,by omega, ?_⟩
    simp only[go_sem,hg',h0,h1,h7,addU (a:=cc) (b:=q) (by omega)]
    exact⟨trivial,trivial,trivial,trivial,trivial,trivial⟩
   ·rw[getD_ge hyi]
    simp only[go_sem,h0,h1,h7,ltF hyi]
    exact⟨trivial,trivial,trivial,trivial,trivial,rfl⟩
  ·rintro ρ' h2 ⟨rfl,h0,h1,h7,h5,h8⟩
   have hyb:=getD_lt (by omega) hyd i
   have hxb:=hxd _ (List.getElem_mem hxi)
   have hvx:=val_take_succ 4294967296 xs i hxi
   have hvy:=val_take_get 4294967296 ys i
   obtain⟨j,rfl,_,hg⟩:=(hv.mono hle).at hxi
   generalize ys.getD i 0=q at*
   generalize xs[i]=p at*
   rw[←h5] at hs
   have fin:∀d c2:Nat,p+4294967296*c2=d+(cc+q)→val 4294967296 (out++[d])+val 4294967296 (ys.take (i+1))=val 4294967296 (xs.take (i+1))+4294967296^(i+1)*c2:=by
    intro d c2 e
    rw[val_snoc,hvx,hvy,hol,Nat.pow_succ,Nat.mul_assoc]
    have e2:=congrArg (fun z=>4294967296^i*z) e
    simp only[Nat.mul_add] at e2
    omega
   simp only[go_sem,h0,h1,h7,h8]
   refine⟨by omega,by omega, ?_⟩
   rcases Nat.lt_or_ge p (cc+q) with hc|hc
   ·simp only[go_sem,h0,h1,h7,h8,hg,leF hc,leT hc]
    refine⟨by omega,by omega, ?_⟩
    have w1:IntKind.u64.wrap ((p:Int)+4294967296)=((p+4294967296:Nat):Int):=by rw[wU]<;>omega
    simp only[go_sem,h0,h1,h7,h8,hg,w1,subU (a:=p+4294967296) (b:=cc+q) (by omega) (by omega)]
    refine app_lit [p+4294967296-(cc+q)] hw hw' hle hs rfl rfl (by simp;omega) fun v' h3 hw3 hle3 hv3=> ?_
    simp only[go_sem,h0,h1,h7,h8,e7]
    exact⟨by omega,hw3,hle3,trivial,trivial,trivial,_,1,rfl,by omega,hv3,mem_snoc_lt hod (by omega),by simp;omega,fin _ _ (by omega)⟩
   ·simp only[go_sem,h0,h1,h7,h8,hg,leT hc]
    refine⟨by omega,by omega, ?_⟩
    simp only[go_sem,h0,h1,h7,h8,hg,subU (a:=p) (b:=cc+q) (by omega) (by omega)]
    refine app_lit [p-(cc+q)] hw hw' hle hs rfl rfl (by simp;omega) fun v' h3 hw3 hle3 hv3=> ?_
    simp only[go_sem,h0,h1,h7,h8,e7]
    exact⟨by omega,hw3,hle3,trivial,trivial,trivial,_,0,rfl,by omega,hv3,mem_snoc_lt hod (by omega),by simp;omega,fin _ _ (by omega)⟩
 ·have:i=xs.length:=by omega
  subst this
  simp only[go_sem,h0,h1,h6,h7,ltF (Nat.le_refl xs.length)]
  rw[List.take_length] at hov
  refine norm_num hs.isN hod (by omega) fun r hr=> ?_
  simp only[go_sem]
  intro _
  rw[sub_end (by omega) hod hol hyx hov hlen] at hr
  exact hk r h' hw' hle hr
def Dig (xs:List Nat):Prop:=∀x∈xs,x<18446744073709551616
def Top (xs:List Nat):Prop:=∀x,xs.getLast? =some x→x≠0
def wlen (x:Nat):Nat:=if x=0 then 0 else Nat.log2 x/64+1
theorem pow64 (k:Nat):18446744073709551616^k=2^(64*k):=by rw[Nat.pow_mul]
theorem wlen_le {x k:Nat}:wlen x≤k↔x<18446744073709551616^k:=by
 unfold wlen
 split
 ·rename_i h
  subst h
  exact⟨fun _=>Nat.pow_pos (by omega),fun _=>Nat.zero_le k⟩
 ·rename_i h
  rw[pow64,←Nat.log2_lt h]
  omega
theorem lt_wlen {x k:Nat}:k<wlen x↔18446744073709551616^k≤x:=by
 have:=wlen_le (x:=x) (k:=k)
 omega
theorem wlen_lt (x:Nat):x<18446744073709551616^wlen x:=wlen_le.1 (Nat.le_refl _)
theorem wlen_zero:wlen 0=0:=rfl
theorem wlen_eq_zero {x:Nat}:wlen x=0↔x=0:=by
 have:=wlen_le (x:=x) (k:=0)
 rw[Nat.pow_zero] at this
 omega
theorem wlen_mono {x y:Nat} (h:x≤y):wlen x≤wlen y:=wlen_le.2 (Nat.lt_of_le_of_lt h (wlen_lt y))
def wordL:Nat:=500000
theorem wordL_eq:wordL=500000:=rfl
theorem wlen_big {x:Nat} (h:Big x):wlen x≤wordL:=wlen_le.2 (by
 have h1:=h.lt
 have e:bigL=2*wordL:=rfl
 have e2:4294967296^2=18446744073709551616:=by decide
 rw[e,Nat.pow_mul,e2] at h1
 exact h1)
theorem IsG.lit {b:Nat} {h:H} (hb:b≤h.next) {l:List AV} (ys:List Nat) {n:Nat} (hn:n=ys.length) (hl:l=W .u64 (ys.map fun n:Nat=>(n:Int))):IsG b (h.new ⟨some 23,1,l⟩) (.sl (some h.next) 0 n (some n)) ys:=by
 subst hn
 refine⟨some h.next,some ys.length,by simp, .inr ⟨h.next,_,rfl,hb,H.rows_new _ _,rfl,rfl, ?_, ?_⟩⟩
 ·rw[hl];simp[W]
 ·rw[hl];exact W_all _ _
theorem top_len {xs:List Nat} (hd:Dig xs) (ht:Top xs):xs.length=wlen (val 18446744073709551616 xs):=by
 have h1:wlen (val 18446744073709551616 xs)≤xs.length:=wlen_le.2 (val_lt 18446744073709551616 (by omega) xs hd)
 rcases List.eq_nil_or_concat xs with rfl|⟨ys,y,e⟩
 ·rfl
 ·have h2:=val_ge 18446744073709551616 xs ht (by rw[e];simp)
  have h3:=lt_wlen.2 h2
  have:0<xs.length:=by rw[e];simp
  omega
theorem top_inj {xs ys:List Nat} (hx:Dig xs) (hy:Dig ys) (tx:Top xs) (ty:Top ys) (h:val 18446744073709551616 xs=val 18446744073709551616 ys):xs=ys:=val_inj 18446744073709551616 (by omega) xs ys (by rw[top_len hx tx,top_len hy ty,h]) hx hy h
def Nn (h:H) (v:AV) (x:Nat):Prop:=∃xs,IsN h v xs∧Dig xs∧xs.length≤1099511627776∧val 18446744073709551616 xs=x
def Nf (b:Nat) (h:H) (v:AV) (x:Nat):Prop:=∃xs,IsG b h v xs∧Dig xs∧Top xs∧val 18446744073709551616 xs=x
def Nt (h:H) (v:AV) (x:Nat):Prop:=∃xs,IsN h v xs∧Dig xs∧Top xs∧val 18446744073709551616 xs=x
theorem Nn.mono {h h':H} {v:AV} {x:Nat} (hv:Nn h v x) (hl:h.le h'):Nn h' v x:=by
 obtain⟨xs,h1,h2⟩:=hv
 exact⟨xs,h1.mono hl,h2⟩
theorem Nf.mono {b:Nat} {h h':H} {v:AV} {x:Nat} (hv:Nf b h v x) (hl:h.le h'):Nf b h' v x:=by
 obtain⟨xs,h1,h2⟩:=hv
 exact⟨xs,h1.mono hl,h2⟩
theorem Nt.mono {h h':H} {v:AV} {x:Nat} (hv:Nt h v x) (hl:h.le h'):Nt h' v x:=by
 obtain⟨xs,h1,h2⟩:=hv
 exact⟨xs,h1.mono hl,h2⟩
theorem Nf.base {b b':Nat} {h:H} {v:AV} {x:Nat} (hv:Nf b h v x) (hb:b'≤b):Nf b' h v x:=by
 obtain⟨xs,h1,h2⟩:=hv
 exact⟨xs,IsF.base h1 hb,h2⟩
theorem Nf.nt {b:Nat} {h:H} {v:AV} {x:Nat} (hv:Nf b h v x):Nt h v x:=by
 obtain⟨xs,h1,h2⟩:=hv
 exact⟨xs,h1.isN,h2⟩
theorem Nt.nn {h:H} {v:AV} {x:Nat} (hv:Nt h v x) (hx:Big x):Nn h v x:=by
 obtain⟨xs,h1,h2,h3,h4⟩:=hv
 refine⟨xs,h1,h2, ?_,h4⟩
 rw[top_len h2 h3,h4]
 have:=wlen_big hx
 have:=wordL_eq
 omega
theorem Nf.nn {b:Nat} {h:H} {v:AV} {x:Nat} (hv:Nf b h v x) (hx:Big x):Nn h v x:=hv.nt.nn hx
theorem Nf.nil (b:Nat) (h:H) (c:Option Nat):Nf b h (.sl none 0 0 c) 0:=⟨[],IsF.nil _ _ _ _ _,by simp[Dig],by simp[Top],rfl⟩
theorem IsN.nn {h:H} {v:AV} {xs:List Nat} (hv:IsN h v xs) (hd:Dig xs) (hl:xs.length≤1099511627776):Nn h v (val 18446744073709551616 xs):=⟨xs,hv,hd,hl,rfl⟩
theorem Dig.take {xs:List Nat} (h:Dig xs) (n:Nat):Dig (xs.take n):=fun x hx=>h x (List.mem_of_mem_take hx)
theorem Dig.drop {xs:List Nat} (h:Dig xs) (n:Nat):Dig (xs.drop n):=fun x hx=>h x (List.mem_of_mem_drop hx)
theorem Dig.append {xs ys:List Nat} (h:Dig xs) (h':Dig ys):Dig (xs++ys):=fun x hx=>by
 rcases List.mem_append.1 hx with hx|hx
 ·exact h x hx
 ·exact h' x hx
theorem Dig.nil:Dig []:=fun x hx=>by simp at hx
theorem Dig.one {x:Nat} (h:x<18446744073709551616):Dig [x]:=fun y hy=>by simp at hy;omega
theorem Dig.zeros (n:Nat):Dig (List.replicate n 0):=fun x hx=>by rw[List.eq_of_mem_replicate hx];omega
theorem Len_calls {v:AV} {xs:List Nat} {h:H} {K:AV→H→Prop} (hv:IsN h v xs) (hd:Dig xs) (hlen:xs.length<4611686018427387904) (hk:K (.int .i64 (wlen (val 18446744073709551616 xs):Nat)) h):ACalls Try.prog 77 [v] h K:=by
 obtain⟨id,off,c,rfl⟩:=hv.form
 refine in_api_Nat_Len (by simp) fun hw=> ?_
 unfold c_api_Nat_Len
 simp only[go_sem]
 refine⟨fun n ρ h'=>h'=h∧ρ 0= .sl id off xs.length c∧ρ 3= .int .i64 (n:Int)∧n≤xs.length∧(∀x∈xs.drop n,x=0),xs.length,⟨rfl,rfl,rfl,Nat.le_refl _,by simp⟩, ?_⟩
 rintro k ρ h' ⟨rfl,h0,h3,hk1,hz⟩
 have fin:Top (xs.take k)→K (.int .i64 (k:Int)) h':=fun hl=>by
  have e:=top_len (hd.take k) hl
  rw[val_take 18446744073709551616 xs k hz,List.length_take,Nat.min_eq_left hk1] at e
  rw[e]
  exact hk
 rcases Nat.eq_zero_or_pos k with rfl|hp
 ·have hd:decide ((0:Int)<((0:Nat):Int))=false:=by decide
  simp only[go_sem,h0,h3,hd]
  exact fun _=>fin (by simp[Top])
 ·have hd:decide ((0:Int)<(k:Int))=true:=by simp;omega
  obtain⟨i,rfl,_,hg⟩:=hv.at (j:=k-1) (by omega)
  have hw1:IntKind.i64.wrap ((k:Int)-1)=((k-1:Nat):Int):=by rw[wI]<;>omega
  simp only[go_sem,h0,h3,hd,hw1]
  refine⟨by omega,by omega, ?_⟩
  simp only[go_sem,Int.toNat_natCast,Nat.mul_one,hg]
  by_cases hx:xs[k-1]=0
  ·have he:(((xs[k-1]:Nat):Int)==0)=true:=by simp[hx]
   simp only[go_sem,h0,h3,he,hw1]
   refine⟨k-1,by omega,by simp,by simp,by simp,by omega,fun x hm=> ?_⟩
   rw[List.drop_eq_getElem_cons (by omega)] at hm
   rcases List.mem_cons.1 hm with rfl|hm
   ·exact hx
   ·exact hz x (by rwa[show k-1+1=k from by omega] at hm)
  ·have he:(((xs[k-1]:Nat):Int)==0)=false:=by simp;omega
   simp only[go_sem,h0,h3,he]
   intro _
   refine fin fun x hl=> ?_
   rw[List.getLast?_eq_getElem?,List.length_take,Nat.min_eq_left hk1,List.getElem?_take,if_pos (by omega),List.getElem?_eq_getElem (by omega)] at hl
   injection hl with hl
   omega
theorem top_cut {xs:List Nat} (hd:Dig xs):Top (xs.take (wlen (val 18446744073709551616 xs)))∧val 18446744073709551616 (xs.take (wlen (val 18446744073709551616 xs)))=val 18446744073709551616 xs:=by
 generalize hn:wlen (val 18446744073709551616 xs)=n
 have h1:=wlen_lt (val 18446744073709551616 xs)
 rw[hn] at h1
 have hle:n≤xs.length:=by rw[←hn];exact wlen_le.2 (val_lt 18446744073709551616 (by omega) xs hd)
 have h2:=val_cut 18446744073709551616 xs n hle
 have h3:val 18446744073709551616 (xs.drop n)=0:=by
  rcases Nat.eq_zero_or_pos (val 18446744073709551616 (xs.drop n)) with h0|h0
  ·exact h0
  ·have:18446744073709551616^n*1≤18446744073709551616^n*val 18446744073709551616 (xs.drop n):=Nat.mul_le_mul_left _ h0
   omega
 have h4:val 18446744073709551616 (xs.take n)=val 18446744073709551616 xs:=by rw[h2,h3];simp
 refine⟨fun x hx h0=> ?_,h4⟩
 subst h0
 rw[List.getLast?_eq_getElem?,List.length_take,Nat.min_eq_left hle] at hx
 have hn0:0<n:=by
  rcases Nat.eq_zero_or_pos n with h0|h0
  ·subst h0;simp at hx
  ·exact h0
 have h5:=lt_wlen (x:=val 18446744073709551616 xs) (k:=n-1)|>.1 (by omega)
 have h6:(xs.take n).take (n-1)=xs.take (n-1):=by rw[List.take_take,Nat.min_eq_left (by omega)]
 have h7:=val_take 18446744073709551616 (xs.take n) (n-1) (fun x hm=>by
  rw[List.drop_eq_getElem_cons (by simp;omega)] at hm
  rcases List.mem_cons.1 hm with rfl|hm
  ·have:=(List.getElem?_eq_some_iff.1 hx).2
   exact this
  ·rw[List.drop_of_length_le (by simp;omega)] at hm
   simp at hm)
 rw[h6,h4] at h7
 have h8:=val_lt 18446744073709551616 (by omega) (xs.take (n-1)) (hd.take _)
 rw[List.length_take,Nat.min_eq_left (by omega)] at h8
 omega
theorem wlen_len {xs:List Nat} (hd:Dig xs):wlen (val 18446744073709551616 xs)≤xs.length:=wlen_le.2 (val_lt 18446744073709551616 (by omega) xs hd)
theorem trim_calls {v:AV} {xs:List Nat} {h:H} {K:AV→H→Prop} (hv:IsN h v xs) (hd:Dig xs) (hlen:xs.length<4611686018427387904) (hk:∀r,IsN h r (xs.take (wlen (val 18446744073709551616 xs)))→K r h):ACalls Try.prog 80 [v] h K:=by
 obtain⟨id,off,c,rfl⟩:=hv.form
 refine in_limb_trim (by simp) fun hw=> ?_
 unfold c_limb_trim
 simp only[go_sem]
 refine Len_calls hv hd hlen ?_
 have:=wlen_len hd
 simp only[go_sem]
 exact⟨by omega,by omega,hv.row,fun _=>hk _ (hv.take (by omega))⟩
theorem trimT_calls {v:AV} {x:Nat} {h:H} {K:AV→H→Prop} (hv:Nn h v x) (hk:∀r xs,IsN h r xs→Dig xs→Top xs→val 18446744073709551616 xs=x→xs.length=wlen x→xs.length≤1099511627776→K r h):ACalls Try.prog 80 [v] h K:=by
 obtain⟨xs,h1,h2,h3,rfl⟩:=hv
 refine trim_calls h1 h2 (by omega) fun r hr=> ?_
 have e:=top_cut h2
 have hl:=wlen_len h2
 exact hk r _ hr (h2.take _) e.1 e.2 (by rw[List.length_take];omega) (by rw[List.length_take];omega)
theorem trimG_calls {b:Nat} {v:AV} {xs:List Nat} {h:H} {K:AV→H→Prop} (hv:IsG b h v xs) (hd:Dig xs) (hlen:xs.length<4611686018427387904) (hk:∀r,Nf b h r (val 18446744073709551616 xs)→K r h):ACalls Try.prog 80 [v] h K:=by
 obtain⟨id,c,rfl⟩:=hv.form
 refine in_limb_trim (by simp) fun hw=> ?_
 unfold c_limb_trim
 simp only[go_sem]
 refine Len_calls hv.isN hd hlen ?_
 have:=wlen_len hd
 have e:=top_cut hd
 simp only[go_sem]
 refine⟨by omega,by omega,hv.isN.row,fun _=>hk _ ⟨xs.take (wlen (val 18446744073709551616 xs)), ?_,hd.take _,e.1,e.2⟩⟩
 have:=IsF.cut (c':=c) hv (m:=wlen (val 18446744073709551616 xs)) (by simpa using wlen_len hd)
 unfold IsG
 rw[List.map_take]
 exact this
theorem Zero_calls {v:AV} {x:Nat} {h:H} {K:AV→H→Prop} (hv:Nn h v x) (hk:K (.bool (decide (x=0))) h):ACalls Try.prog 64 [v] h K:=by
 obtain⟨xs,h1,h2,h3,rfl⟩:=hv
 refine in_api_Nat_Zero (by simp) fun hw=> ?_
 unfold c_api_Nat_Zero
 simp only[go_sem]
 refine Len_calls h1 h2 (by omega) ?_
 have e:(((wlen (val 18446744073709551616 xs):Nat):Int)==0)=decide (val 18446744073709551616 xs=0):=by
  by_cases h0:val 18446744073709551616 xs=0
  ·rw[decide_eq_true h0,h0];rfl
  ·rw[decide_eq_false h0]
   have:=mt wlen_eq_zero.1 h0
   exact eqF (by omega)
 simp only[go_sem,e]
 exact fun _=>hk
theorem Norm_calls {v:AV} {x:Nat} {h:H} {K:AV→H→Prop} (hv:Nn h v x) (hk:∀r h',h'.wf→h.le h'→Nf h.next h' r x→K r h'):ACalls Try.prog 72 [v] h K:=by
 refine in_limb_Norm (by simp) fun hw=> ?_
 unfold c_limb_Norm
 simp only[go_sem]
 refine trimT_calls hv fun r xs hr hd ht hx hl hb=> ?_
 obtain⟨id,off,c,rfl⟩:=hr.form
 simp only[go_sem]
 refine app_num (xs:=[]) hw hw (H.le_refl h) (IsF.nil _ _ _ _ _) hr (by rw[List.length_nil];omega) fun s h' hw' hl' hs=> ?_
 simp only[go_sem]
 exact fun _=>hk _ _ hw' hl' ⟨xs,by simpa using hs,hd,ht,hx⟩
theorem One_calls {x:Nat} {h:H} {K:AV→H→Prop} (hx:x<18446744073709551616) (hk:∀r h',h'.wf→h.le h'→Nf h.next h' r x→K r h'):ACalls Try.prog 57 [.int .u64 (x:Int)] h K:=by
 refine in_limb_One (by simp) fun hw=> ?_
 unfold c_limb_One
 rcases Nat.eq_zero_or_pos x with h0|h0
 ·subst h0
  simp only[go_sem,eqT (show((0:Nat):Int)=0 from rfl)]
  exact fun _=>hk _ h hw (H.le_refl h) (Nf.nil _ _ _)
 ·simp only[go_sem,eqF (show(x:Int)≠0 by omega)]
  exact fun hw'=>hk _ _ hw' (H.le_new hw (H.le_refl h) _) ⟨[x],IsG.lit (Nat.le_refl _) [x] rfl rfl,Dig.one hx,fun y hy=>by simp at hy;omega,by simp[val]⟩
end Ab
end Go.Proofs.Ytkbglkjpdndkiaa
