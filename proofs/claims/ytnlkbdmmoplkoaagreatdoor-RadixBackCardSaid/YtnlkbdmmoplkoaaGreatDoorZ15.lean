/- Joined texts: Y14 Y15 Y16 Y17. No condition. -/
import Derived.Test.YtnlkbdmmoplkoaaGreatDoorZ14
namespace Go.Proofs.YtnlkbdmmoplkoaaGreatDoor
namespace Ab
open Go Go.RowKit
set_option linter.unusedSimpArgs false
set_option linter.unusedVariables false
attribute [local go_sem ↓] x_mv x_pick x_bin x_beq x_peq x_seq x_cat x_aeq x_idxS x_idxV x_un x_cvI x_bts x_idx x_idxA x_fld x_ld x_st x_nn x_prt x_slc x_mk x_bsl x_bld x_box x_alloc x_len x_capo x_mnx x_app x_cpy x_mkf x_ext x_call x_callV x_bad s_none s_some s_nil s_cons s_chks w_skip w_reg tP_fin tP_no tP_alt w_seq w_cond w_block w_exit w_ret t_normal t_exit t_ret b_normal b_ret b_exit n_normal n_exit n_ret p_normal p_ret f_nil f_t f_c k_ops k_chk k_fin
attribute [local go_sem] e_t e_c e_f u_some u_none u_at env_at k_v k_pick k_add k_sub k_mul k_quo k_rem k_and k_or k_xor k_shl k_shr k_eql k_neq k_lss k_leq k_gtr k_geq k_beq k_peqn k_peqs k_neg k_not k_com k_cvI k_idxS k_idxV1 k_idxVn k_idx k_idxA k_idxG k_ldG k_gld k_seq k_cat k_aeq k_eqs k_fld k_ld1 k_ldn k_get k_gets k_sti k_stb k_stp k_sts k_stf k_sta k_put k_nn k_prt1 k_prtn k_slc_a k_slc_b k_slc_c k_mk k_agg k_bsl k_box k_len k_lenS k_cap k_max k_min k_ext k_callV k_true k_false k_gtt k_gtf k_gft k_gsk k_gff k_lit1i k_lit2i k_lit3i k_c0 k_c1 k_ck List.getElem?_cons_zero List.getElem?_cons_succ List.getElem?_nil Option.getD_some Option.getD_none tupOf List.map_cons List.map_nil Option.map_some Option.map_none List.nil_append List.cons_append List.append_nil Nat.mul_one Int.toNat_natCast Nat.zero_add
attribute [local go_sem] e_t e_c e_f u_some u_none u_at env_at k_v k_pick k_add k_sub k_mul k_quo k_rem k_and k_or k_xor k_shl k_shr k_eql k_neq k_lss k_leq k_gtr k_geq k_beq k_peqn k_peqs k_neg k_not k_com k_cvI k_idxS k_idxV1 k_idxVn k_idx k_idxA k_idxG k_ldG k_gld k_seq k_cat k_aeq k_eqs k_fld k_ld1 k_ldn k_get k_gets k_sti k_stb k_stp k_sts k_stf k_sta k_put k_nn k_prt1 k_prtn k_slc_a k_slc_b k_slc_c k_mk k_agg k_bsl k_box k_len k_lenS k_cap k_max k_min k_ext k_callV k_true k_false k_gtt k_gtf k_gft k_gsk k_gff k_lit1i k_lit2i k_lit3i k_c0 k_c1 k_ck List.getElem?_cons_zero List.getElem?_cons_succ List.getElem?_nil Option.getD_some Option.getD_none tupOf List.map_cons List.map_nil Option.map_some Option.map_none List.nil_append List.cons_append List.append_nil Nat.mul_one Int.toNat_natCast Nat.zero_add
--what a store into a cell of two leaves
attribute [local go_sem_proc] Nat.reduceEqDiff Nat.reduceAdd Int.reduceToNat
attribute [local go_sem_proc ↓] reduceIte
attribute [local go_sem] Bool.false_eq_true
section
theorem val_drop (b:Nat) {xs:List Nat} {i:Nat} (h:i<xs.length):val b (xs.drop i)=xs[i]+b*val b (xs.drop (i+1)):=by
 rw[List.drop_eq_getElem_cons h]
 rfl
theorem val_lt_F {b F:Nat} (hb:0<b) {xs:List Nat} (hx:∀x∈xs,x<b) (hl:xs.length≤F):val b xs<b^F:=Nat.lt_of_lt_of_le (val_lt b hb xs hx) (Nat.pow_le_pow_right hb hl)
section
variable {b F T:Nat} {h:H} {v up:AV} {xs:List Nat} {K:AV→H→Prop}
theorem word_calls (hT:Tree h T b F up) (hb:0<b) (hp:b^F<18446744073709551616) (hs:IsN h v xs) (hx:∀x∈xs,x<b) (hl:xs.length≤F) (hF:F≤64) (hk:K (.int .u64 (val b xs:Nat)) h):ACalls Tryz.prog 163 [.ptr (some (T,0)),v] h K:=by
 obtain⟨id,off,c,rfl⟩:=hs.form
 refine in_radix_tree_word sM fun hw=> ?_
 unfold c_radix_tree_word
 have e0:IntKind.i64.wrap ((xs.length:Int)-1)=(xs.length:Int)-1:=wI oM oM
 have g0:=hT.gets.1
 simp only[go_sem,e0]
 refine for_rule (fun j ρ h'=>j≤xs.length∧h'=h∧ρ 0= .ptr (some (T,0))∧ρ 1= .sl id off xs.length c∧ρ 6= .int .i64 ((xs.length:Int)-1-(j:Int))∧ρ 5= .int .u64 (val b (xs.drop (xs.length-j)):Nat)) xs.length
  ⟨oM,rfl,tR,tR,by rw[show(xs.length:Int)-1-((0:Nat):Int)=(xs.length:Int)-1 by omega];rfl,by rw[Nat.sub_zero,List.drop_length];rfl⟩ (fun i ρ h hI=>hI.1) ?_
 rintro j ρ h' ⟨hj,rfl,q0,q1,q6,q5⟩
 rcases Nat.lt_or_ge j xs.length with h3|h3
 ·obtain⟨i,hi⟩:∃i,i=xs.length-1-j:=⟨_,rfl⟩
  have ei:(xs.length:Int)-1-(j:Int)=(i:Int):=by omega
  rw[ei] at q6
  have hil:i<xs.length:=by omega
  obtain⟨ii,rfl,_,hg⟩:=hs.at hil
  have hd1:xs.length-j=i+1:=by omega
  have hd2:xs.length-(j+1)=i:=by omega
  rw[hd1] at q5
  have hv:=val_drop b hil
  have hlt:val b (xs.drop i)<18446744073709551616:=Nat.lt_trans (val_lt_F (F:=F) hb (fun x hm=>hx x (List.mem_of_mem_drop hm)) (by simp;omega)) hp
  have hc:b*val b (xs.drop (i+1))=val b (xs.drop (i+1))*b:=Nat.mul_comm _ _
  have em:IntKind.u64.wrap (((val b (xs.drop (i+1)):Nat):Int)*(b:Int))=((val b (xs.drop (i+1))*b:Nat):Int):=mulU oM
  have ea:IntKind.u64.wrap (((val b (xs.drop (i+1))*b:Nat):Int)+(xs[i]:Nat))=((val b (xs.drop i):Nat):Int):=by
   rw[addU oM]
   congr 1
   omega
  have e1:IntKind.i64.wrap ((i:Int)-1)=(xs.length:Int)-1-((j+1:Nat):Int):=by rw[wI]<;>omega
  simp only[go_sem,q0,q1,q5,q6,show decide ((0:Int)≤(i:Int))=true from decide_eq_true oM,g0,em]
  refine⟨oM,oM, ?_⟩
  simp only[go_sem,hg,q0,q1,q5,q6,ea,e1]
  exact⟨oM,tR,tR,tR,tR,by rw[hd2]⟩
 ·obtain rfl:j=xs.length:=by omega
  simp only[go_sem,q0,q1,q5,q6,show decide ((0:Int)≤(xs.length:Int)-1-(xs.length:Int))=false from decide_eq_false oM]
  rw[Nat.sub_self,List.drop_zero]
  exact fun _=>hk
end
section
variable {b F T e u m00 nw00 dp00 n0:Nat} {t:Tb} {up:AV} {a0:H}
set_option maxRecDepth 100000 in
set_option maxHeartbeats 1000000 in
theorem value_calls (hT:TbOK t) (hb:2≤b) (hF:1≤F) (hp:b^F<18446744073709551616) (hw0:a0.wf) (he0:Eng 9 a0 e u) (ht0:Tune a0 u m00 nw00 dp00 t) (hTr:Tree a0 T b F up) (hup:IsA 1 NnL a0 up (pw (b^F) n0)) (hupb:∀i,i<n0→wlen ((b^F)^2^i)≤16384):
  ∀(k:Nat) {h:H} {m nw dp:Nat} {v:AV} {xs:List Nat} {K:AV→H→Prop},k≤n0→k≤20→H.lee u a0 h→Tune h u m nw dp t→nw+k≤500000000→IsN h v xs→(∀x∈xs,x<b)→xs.length≤F*2^k→xs.length≤10000→
   (∀r h' m' dp',h'.wf→H.lee u h h'→Tune h' u m' nw dp' t→Nf h.next h' r (val b xs)→K r h')→
   ACalls Tryz.prog 138 [.ptr (some (e,0)), .ptr (some (T,0)),v, .int .i64 (k:Int)] h K:=by
 have hu0:=H.row_lt hw0 ht0
 have hF9:=pow_few hb hp
 obtain⟨idu,ofu,cu,rfl⟩:=hup.form
 obtain⟨f,rfl,rfl,G,E⟩:=Eng.path ht0 he0
 have few:∀k,k≤20→bShl .i64 (F:Int) (IntKind.u64.wrap ((k:Nat):Int)).toNat=((F*2^k:Nat):Int)∧F*2^k≤67108864:=by
  intro k hk
  have h1:2^k≤2^20:=Nat.pow_le_pow_right oM hk
  have h2:F*2^k≤64*2^20:=Nat.mul_le_mul oM h1
  rw[wUn oM,Int.toNat_natCast]
  exact⟨shl_int oM oM,oM⟩
 have hb0:0<b:=by omega
 intro k
 induction k with
 |zero=>
  intro h m nw dp v xs K hkn hk20 hlee ht hnw hs hx hl hl4 hk
  obtain⟨id,off,c,rfl⟩:=hs.form
  refine in_radix_Engine_value sM fun hw=> ?_
  unfold c_radix_Engine_value
  have hTh:=hTr.monoE ht0 hlee
  obtain⟨g0,g1,g2,g3⟩:=hTh.gets
  have hlF:xs.length≤F:=by rw[Nat.pow_zero,Nat.mul_one] at hl;exact hl
  simp only[go_sem,g1,show decide (((xs.length:Nat):Int)≤(F:Int))=true from decide_eq_true oM]
  refine word_calls hTh hb0 hp hs hx hlF oM ?_
  simp only[go_sem]
  refine One_calls (Nat.lt_trans (val_lt_F hb0 hx hlF) hp) fun r h1 hw1 hl1 hr=> ?_
  simp only[go_sem]
  exact fun _=>hk r h1 m dp hw1 hl1.lee (ht.mono hl1) hr
 |succ k ih=>
  intro h m nw dp v xs K hkn hk20 hlee ht hnw hs hx hl hl4 hk
  obtain⟨id,off,c,rfl⟩:=hs.form
  refine in_radix_Engine_value sM fun hw=> ?_
  unfold c_radix_Engine_value
  have hTh:=hTr.monoE ht0 hlee
  obtain⟨g0,g1,g2,g3⟩:=hTh.gets
  rcases Nat.lt_or_ge F xs.length with c1|hlF
  rotate_left
  ·simp only[go_sem,g1,show decide (((xs.length:Nat):Int)≤(F:Int))=true from decide_eq_true oM]
   refine word_calls hTh hb0 hp hs hx hlF oM ?_
   simp only[go_sem]
   refine One_calls (Nat.lt_trans (val_lt_F hb0 hx hlF) hp) fun r h1 hw1 hl1 hr=> ?_
   simp only[go_sem]
   exact fun _=>hk r h1 m dp hw1 hl1.lee (ht.mono hl1) hr
  have e2:IntKind.i64.wrap (((k+1:Nat):Int)-1)=(k:Int):=by rw[wI]<;>omega
  obtain⟨f1,f2⟩:=few k oM
  obtain⟨H0,hH0⟩:∃H0,H0=F*2^k:=⟨_,rfl⟩
  have e3:F*2^(k+1)=H0+H0:=by rw[Nat.pow_succ,←Nat.mul_assoc];omega
  have hpH:(b^F)^2^k=b^H0:=by rw[hH0,←Nat.pow_mul]
  rw[←hH0] at f1 f2
  rcases Nat.lt_or_ge H0 xs.length with c2|c2
  rotate_left
  ·simp only[go_sem,g1,show decide (((xs.length:Nat):Int)≤(F:Int))=false from decide_eq_false oM,e2,f1,show decide (((xs.length:Nat):Int)≤(H0:Int))=true from decide_eq_true oM,true_and]
   refine ih oM oM hlee ht oM hs hx oM hl4 fun r h1 m1 dp1 hw1 hl1 ht1 hr=> ?_
   simp only[go_sem]
   exact fun _=>hk r h1 m1 dp1 hw1 hl1 ht1 hr
  have hrx:=hT.2.2.2.2
  obtain⟨R,hR⟩:∃R:Nat,t.radix=(R:Int):=⟨t.radix.toNat,oM⟩
  have e4:IntKind.i64.wrap ((R:Int)*(F:Int))=((R*F:Nat):Int):=mulI (by
   have:R*F≤1024*64:=Nat.mul_le_mul oM oM
   omega)
  rcases Nat.lt_or_ge xs.length (R*F) with c3|c3
  ·obtain⟨q,hq⟩:∃q,q=xs.length/F:=⟨_,rfl⟩
   obtain⟨n,hn⟩:∃n,n=xs.length%F:=⟨_,rfl⟩
   have hqn:F*q+n=xs.length:=by rw[hq,hn];exact Nat.div_add_mod _ _
   have hnF:n<F:=by rw[hn];exact Nat.mod_lt _ oM
   have hF0:(F:Int)≠0:=by omega
   have e5:((xs.length:Nat):Int).tmod (F:Int)=(n:Int):=by rw[tmodN,hn]
   obtain⟨Q,hQ⟩:∃Q,Q=F*q:=⟨_,rfl⟩
   rw[←hQ] at hqn
   have e6:IntKind.i64.wrap (((xs.length:Nat):Int)-(n:Int))=(Q:Int):=by rw[wI]<;>omega
   have e7:IntKind.i64.wrap ((Q:Int)-(F:Int))=(Q:Int)-(F:Int):=wI oM oM
   simp only[go_sem,g1,show decide (((xs.length:Nat):Int)≤(F:Int))=false from decide_eq_false oM,e2,f1,show decide (((xs.length:Nat):Int)≤(H0:Int))=false from decide_eq_false oM,G 0 oM _ hlee,G 1 oM _ hlee,G 2 oM _ hlee,G 3 oM _ hlee,G 4 oM _ hlee,G 5 oM _ hlee,G 6 oM _ hlee,G 7 oM _ hlee,G 8 oM _ hlee,tune_radix ht,hR,e4,ltT c3,e5,e6,e7,nz_and hF0,true_and]
   refine⟨oM,oM,hs.row, ?_⟩
   have hs1:=hs.cut (c':=c.map (· -Q)) (a:=Q) (b:=xs.length) oM (Nat.le_refl _)
   rw[List.take_length] at hs1
   have hx1:∀x∈xs.drop Q,x<b:=fun x hm=>hx x (List.mem_of_mem_drop hm)
   have hl1:(xs.drop Q).length≤F:=by simp;omega
   refine word_calls hTh hb0 hp hs1 hx1 hl1 oM ?_
   simp only[go_sem]
   refine One_calls (Nat.lt_trans (val_lt_F hb0 hx1 hl1) hp) fun r h1 hw1 hle1 hr=> ?_
   have hT1:Tree h1 T b F _:=hle1.2 _ _ hTh
   simp only[go_sem,hT1.gets.2.1,e6,e7]
   refine for_rule (fun i ρ h'=>i≤q∧h'.wf∧h.le h'∧ρ 1= .ptr (some (T,0))∧ρ 2= .sl id off xs.length c∧ρ 12= .int .i64 (((F*(q-i):Nat):Int)-(F:Int))∧Nf h.next h' (ρ 10) (val b (xs.drop (F*(q-i))))) q
    ⟨oM,hw1,hle1,tR,tR,by rw[Nat.sub_zero,←hQ];rfl,by rw[Nat.sub_zero,←hQ];exact hr⟩ (fun i ρ h hI=>hI.1) ?_
   rintro i ρ h2 ⟨hi,hw2,hle2,q1,q2,q12,hr2⟩
   have hT2:Tree h2 T b F _:=hle2.2 _ _ hTh
   have hs2:=hs.mono hle2
   rcases Nat.lt_or_ge i q with h3|h3
   ·obtain⟨a,ha⟩:∃a,a=F*(q-(i+1)):=⟨_,rfl⟩
    have ha2:F*(q-i)=a+F:=by
     rw[ha,show q-i=(q-(i+1))+1 by omega,Nat.mul_add,Nat.mul_one]
    have haQ:a+F≤Q:=by
     rw[←ha2,hQ]
     exact Nat.mul_le_mul_left _ oM
    rw[ha2] at q12 hr2
    have e8:((a+F:Nat):Int)-(F:Int)=(a:Int):=by omega
    rw[e8] at q12
    have e9:IntKind.i64.wrap ((a:Int)+(F:Int))=((a+F:Nat):Int):=addI oM
    have e10:IntKind.i64.wrap ((a:Int)-(F:Int))=(a:Int)-(F:Int):=wI oM oM
    have hsc:=hs2.cut (c':=c.map (· -a)) (a:=a) (b:=a+F) oM oM
    have hxc:∀x∈(xs.take (a+F)).drop a,x<b:=fun x hm=>hx x (List.mem_of_mem_take (List.mem_of_mem_drop hm))
    have hlc:((xs.take (a+F)).drop a).length≤F:=by simp;omega
    have hvc:val b (xs.drop a)=val b ((xs.take (a+F)).drop a)+val b (xs.drop (a+F))*b^F:=by
     have e11:(xs.take (a+F)).drop a=(xs.drop a).take F:=by rw[List.drop_take,Nat.add_sub_cancel_left]
     rw[e11,val_cut b (xs.drop a) F (by simp;omega),List.drop_drop,Nat.mul_comm (b^F)]
    have wO:=val_wlen hb0 (Nat.lt_of_le_of_lt (Nat.le_of_eq (Nat.pow_one b).symm) (Nat.lt_of_le_of_lt (Nat.pow_le_pow_right hb0 hF) hp)) (xs:=xs.drop (a+F)) fun x hm=>hx x (List.mem_of_mem_drop hm)
    have bO:Big (val b (xs.drop (a+F))):=wbig wO (by simp;omega)
    have ltc:=Nat.lt_trans (val_lt_F hb0 hxc hlc) hp
    simp only[go_sem,q1,q2,q12,show decide ((0:Int)≤(a:Int))=true from decide_eq_true oM,hT2.gets.2.1,hT2.gets.2.2.1,e9]
    refine⟨oM,oM,oM, .inl oM,hs2.row, ?_⟩
    refine word_calls hT2 hb0 hp hsc hxc hlc oM ?_
    simp only[go_sem,hT2.gets.2.2.1,two_and,true_and]
    refine One_calls ltc fun y h3 hw3 hl3 hy=> ?_
    have hT3:Tree h3 T b F _:=hl3.2 _ _ hT2
    simp only[go_sem,hT3.gets.2.2.1,two_and,true_and]
    refine lAddMul_calls (hy.nn (word_big ltc)) ((hr2.mono hl3).nn bO) hp fun z h4 hw4 hl4 hz=> ?_
    have hT4:Tree h4 T b F _:=hl4.2 _ _ hT3
    have hb3:=hle2.1
    have hb4:=hl3.1
    rw[←hvc] at hz
    simp only[go_sem,q1,q2,q12,hT4.gets.2.1,e10]
    exact⟨oM,hw4,(H.le_trans hle2 (H.le_trans hl3 hl4)),tR,tR,by rw[←ha],by rw[←ha];exact hz.base oM⟩
   ·obtain rfl:i=q:=by omega
    rw[Nat.sub_self,Nat.mul_zero] at q12 hr2
    simp only[go_sem,q12,show decide ((0:Int)≤((0:Nat):Int)-(F:Int))=false from decide_eq_false oM]
    rw[List.drop_zero] at hr2
    exact fun hw'=>hk _ h2 m dp hw' hle2.lee (ht.mono hle2) hr2
  ·simp only[go_sem,g1,show decide (((xs.length:Nat):Int)≤(F:Int))=false from decide_eq_false oM,e2,f1,show decide (((xs.length:Nat):Int)≤(H0:Int))=false from decide_eq_false oM,G 0 oM _ hlee,G 1 oM _ hlee,G 2 oM _ hlee,G 3 oM _ hlee,G 4 oM _ hlee,G 5 oM _ hlee,G 6 oM _ hlee,G 7 oM _ hlee,G 8 oM _ hlee,tune_radix ht,hR,e4,ltF c3,true_and]
   refine Enter_calls ht oM fun _ h1 hw1 hl1 hn1 ht1=> ?_
   have hlee1:=hlee.trans hl1
   have hs1:=hs.monoE ht hl1
   simp only[go_sem,e2]
   refine⟨oM, .inl oM,hs1.row, ?_⟩
   refine⟨oM,oM,hs1.row, ?_⟩
   have hlow:=hs1.take (c':=c) (b:=H0) oM
   have hhigh:=hs1.cut (c':=c.map (· -H0)) (a:=H0) (b:=xs.length) oM (Nat.le_refl _)
   rw[List.take_length] at hhigh
   have hxl:∀x∈xs.take H0,x<b:=fun x hm=>hx x (List.mem_of_mem_take hm)
   have hxh:∀x∈xs.drop H0,x<b:=fun x hm=>hx x (List.mem_of_mem_drop hm)
   have hb64:b<18446744073709551616:=Nat.lt_of_le_of_lt (Nat.le_of_eq (Nat.pow_one b).symm) (Nat.lt_of_le_of_lt (Nat.pow_le_pow_right hb0 hF) hp)
   have wl:=val_wlen hb0 hb64 hxl
   have wh:=val_wlen hb0 hb64 hxh
   have wx:=val_wlen hb0 hb64 hx
   have hll:(xs.take H0).length=H0:=by simp;omega
   have hlh:(xs.drop H0).length=xs.length-H0:=by simp
   have hvx:=val_cut b xs H0 oM
   refine ih oM oM hlee1 ht1 oM hlow hxl oM oM fun lo h2 m2 dp2 hw2 hl2 ht2 hlo=> ?_
   have hs2:=hs1.monoE ht1 hl2
   have hhigh2:=hhigh.monoE ht1 hl2
   simp only[go_sem,e2,two_and]
   refine⟨⟨⟨oM,oM,hs2.row,trivial⟩,trivial⟩, ?_⟩
   refine ih oM oM (hlee1.trans hl2) ht2 oM hhigh2 hxh oM oM fun hi h3 m3 dp3 hw3 hl3 ht3 hhi=> ?_
   have l13:=hl2.trans hl3
   have leg3:=hlee1.trans l13
   simp only[go_sem,G 0 oM _ leg3,G 1 oM _ leg3,G 2 oM _ leg3,G 3 oM _ leg3,G 4 oM _ leg3,G 5 oM _ leg3,G 6 oM _ leg3,G 7 oM _ leg3,G 8 oM _ leg3]
   refine Leave_calls ht3 oM fun _ h4 hw4 hl4 hn4 ht4=> ?_
   have l34:=hl3.trans hl4
   have leg4:=leg3.trans hl4
   have hkl:k<(pw (b^F) n0).length:=by rw[pw_len];omega
   have hup4:=hup.monoE (fun⟨v,e,hx⟩=>⟨v,e,hx.monoE' ht0 leg4⟩) ht0 oM leg4
   obtain⟨ii,av,rfl,_,hgu,vv,ev,nP⟩:=hup4.at1 hkl
   injection ev with ev
   subst ev
   rw[pw_get hkl] at nP
   have hPb:=hupb k oM
   rw[hpH] at nP hPb
   have bh:Big (val b (xs.drop H0)):=wbig wh oM
   have bl:Big (val b (xs.take H0)):=wbig wl oM
   have nlo4:=(hlo.nn bl).monoE' ht2 l34
   have nhi4:=(hhi.nn bh).monoE' ht3 hl4
   simp only[go_sem,G 0 oM _ leg4,G 1 oM _ leg4,G 2 oM _ leg4,G 3 oM _ leg4,G 4 oM _ leg4,(hTr.monoE ht0 leg4).gets.2.2.2,e2]
   refine⟨oM,by rw[pw_len];omega, ?_⟩
   simp only[go_sem,hgu]
   refine Mul2_calls ((E 5 oM).monoE ht0 leg4) ht4 nhi4 nP oM oM oM fun p h5 m5 dp5 hw5 hl5 ht5 _ hp5=> ?_
   have hmc:val b (xs.drop H0)*b^H0=b^H0*val b (xs.drop H0):=Nat.mul_comm _ _
   have bp:Big (val b (xs.drop H0)*b^H0):=(wbig wx oM).le oM
   simp only[go_sem]
   refine lAdd_calls (nlo4.monoE' ht4 hl5) (hp5.nn bp) fun z h6 hw6 hl6 hz=> ?_
   have l06:=hl1.trans (l13.trans (hl4.trans (hl5.trans hl6.lee)))
   have hl05:=(hl1.trans (l13.trans (hl4.trans hl5))).1
   rw[hmc,←hvx] at hz
   simp only[go_sem]
   exact fun _=>hk z h6 m5 dp5 hw6 l06 (ht5.mono hl6) (hz.base hl05)
end
end
section
theorem pw_wlen {U:Nat} (hU:U<18446744073709551616) (i:Nat):wlen (U^2^i)≤2^i:=wlen_le.2 (Nat.pow_lt_pow_left hU (by have:=Nat.pow_pos (n:=i) (show 0<2 by omega);omega))
section
variable {b e u m nw dp:Nat} {t:Tb} {h:H} {v:AV} {xs:List Nat} {K:AV→H→Prop}
set_option maxRecDepth 100000 in
set_option maxHeartbeats 2000000 in
theorem number_calls (hT:TbOK t) (he:Eng 9 h e u) (ht:Tune h u m nw dp t) (hb:2≤b) (hb64:b<18446744073709551616) (hs:IsN h v xs) (hx:∀x∈xs,x<b) (hl:xs.length≤8000) (hnw:nw≤400000000)
  (hk:∀r h' m' dp',h'.wf→H.lee u h h'→Tune h' u m' nw dp' t→Nf h.next h' r (val b xs)→K r h'):
  ACalls Tryz.prog 120 [.ptr (some (e,0)), .int .u64 (b:Int),v] h K:=by
 obtain⟨id,off,c,rfl⟩:=hs.form
 refine in_radix_Engine_number sM fun hw=> ?_
 unfold c_radix_Engine_number
 have hu:=H.row_lt hw ht
 obtain⟨f,rfl,rfl,G,E⟩:=Eng.path ht he
 simp only[go_sem]
 refine loop_cut (fun ρ h'=>h'=h∧ρ 0= .ptr (some (f 0,0))∧ρ 1= .int .u64 (b:Int)∧∃k,ρ 2= .sl id off k c∧k≤xs.length∧(∀x∈xs.drop k,x=0)) ?_ ?_
 ·refine⟨fun k ρ h'=>h'=h∧ρ 0= .ptr (some (f 0,0))∧ρ 1= .int .u64 (b:Int)∧ρ 2= .sl id off k c∧k≤xs.length∧(∀x∈xs.drop k,x=0),xs.length,⟨rfl,tR,tR,tR,Nat.le_refl _,sM⟩, ?_⟩
  rintro k ρ h' ⟨rfl,q0,q1,q2,hk1,hz⟩
  rcases Nat.eq_zero_or_pos k with h0|h0
  ·subst h0
   simp only[go_sem,q2,show decide ((0:Int)<((0:Nat):Int))=false from rfl]
   exact⟨tR,q0,q1,0,tR,hk1,hz⟩
  ·obtain⟨i,rfl,_,hg⟩:=hs.at (j:=k-1) oM
   have e1:IntKind.i64.wrap ((k:Int)-1)=((k-1:Nat):Int):=by rw[wI]<;>omega
   simp only[go_sem,q2,show decide ((0:Int)<(k:Int))=true from decide_eq_true oM,e1]
   refine⟨oM,oM, ?_⟩
   simp only[go_sem,hg]
   by_cases hx0:xs[k-1]=0
   ·simp only[go_sem,show(((xs[k-1]:Nat):Int)==0)=true by simp[hx0],q0,q1,q2,e1]
    refine⟨oM, .inl oM,hs.row, ?_⟩
    refine⟨k-1,oM,tR,tR,tR,tR,oM,fun x hm=> ?_⟩
    rw[List.drop_eq_getElem_cons oM] at hm
    rcases List.mem_cons.1 hm with rfl|hm
    ·exact hx0
    ·exact hz x (by rwa[show k-1+1=k from by omega] at hm)
   ·simp only[go_sem,show(((xs[k-1]:Nat):Int)==0)=false by simp;omega,q2]
    exact⟨tR,q0,q1,k,tR,hk1,hz⟩
 rintro ρ h' ⟨rfl,q0,q1,k,q2,hk1,hz⟩
 have hvx:val b (xs.take k)=val b xs:=val_take b xs k hz
 have hs':=hs.take (c':=c) hk1
 have hx':∀x∈xs.take k,x<b:=fun x hm=>hx x (List.mem_of_mem_take hm)
 have hlen:(xs.take k).length=k:=by simp;omega
 rw[←hvx] at hk
 have hk8:k≤8000:=by omega
 generalize xs.take k=ys at*
 clear hz hvx hs hx hl hk1
 rw[←hlen] at q2 hs'
 simp only[go_sem,q0,q1,q2,bldt]
 simp only[AV.held,AV.cells,true_and,go_sem]
 have hl1:=H.le_new hw (H.le_refl h') ⟨some 192,4,[.int .u64 (b:Int), .int .i64 0, .int .u64 0, .sl none 0 0 none]⟩
 have hw1:=H.wf_new hw ⟨some 192,4,[.int .u64 (b:Int), .int .i64 0, .int .u64 0, .sl none 0 0 none]⟩
 have r1:=H.rows_new h' ⟨some 192,4,[.int .u64 (b:Int), .int .i64 0, .int .u64 0, .sl none 0 0 none]⟩
 generalize h'.new ⟨some 192,4,[.int .u64 (b:Int), .int .i64 0, .int .u64 0, .sl none 0 0 none]⟩=h1 at*
 refine few_calls hb hb64 fun F hF1 hF64 hp hp2=> ?_
 simp only[go_sem]
 refine tree_put hw1 r1 rfl oM (l':=[.int .u64 (b:Int), .int .i64 (F:Int), .int .u64 0, .sl none 0 0 none]) (by simp[putAt]) fun h2 hw2 r2 hl2 e2=> ?_
 simp only[go_sem]
 refine tree_put hw2 r2 rfl oM (l':=[.int .u64 (b:Int), .int .i64 (F:Int), .int .u64 ((b^F:Nat):Int), .sl none 0 0 none]) (by simp[putAt]) fun h3 hw3 r3 hl3 e3=> ?_
 have t3:Tree h3 h'.next b F (.sl none 0 0 none):=r3
 have lee3:H.lee (f 9) h' h3:=by
  rw[e3,e2]
  exact(hl1.lee.put hw (Nat.le_refl _) _).put hw (Nat.le_refl _) _
 simp only[go_sem,t3.gets.2.2.1]
 refine One_calls hp fun x h4 hw4 hl4 hx=> ?_
 have t4:Tree h4 h'.next b F (.sl none 0 0 none):=hl4.2 _ _ t3
 have lee4:=lee3.trans hl4.lee
 have hT9:h'.next≠f 9:=by omega
 have ht4:Tune h4 (f 9) m nw dp t:=(show Tune h3 (f 9) m nw dp t from hl3.2 _ _ (Ne.symm hT9) (hl2.2 _ _ (Ne.symm hT9) (ht.mono hl1))).mono hl4
 have hx4:Nf h'.next (h4.del none) x ((b^F)^2^0):=by
  rw[Nat.pow_zero,Nat.pow_one]
  exact(hx.base lee3.1).del fun j hj=>by cases hj
 have hU2:2≤b^F:=by
  have:=Nat.pow_le_pow_right (n:=b) oM hF1
  rw[Nat.pow_one] at this
  omega
 clear t3 r1 r3 hl3 hl2 e3 e2
 simp only[go_sem]
 refine loop_cut (fun ρ g=>g.wf∧H.lee (f 9) h' g∧ρ 0= .ptr (some (f 0,0))∧ρ 2= .sl id off ys.length c∧ρ 7= .ptr (some (h'.next,0))∧(∃m dp,Tune g (f 9) m nw dp t)∧∃(j:Nat) (io co:Option Nat),j≤13∧ρ 8= .int .i64 (j:Int)∧Tree g h'.next b F (.sl io 0 (pw (b^F) j).length co)∧Live 25 1 h'.next (NfL h'.next) g (.sl io 0 (pw (b^F) j).length co) (pw (b^F) j)∧ys.length≤F*2^j∧∀i,i<j→F*2^i<ys.length) ?_ ?_
 ·refine for_rule (fun j ρ g=>j≤13∧g.wf∧H.lee (f 9) h' g∧ρ 0= .ptr (some (f 0,0))∧ρ 2= .sl id off ys.length c∧ρ 7= .ptr (some (h'.next,0))∧(∃m dp,Tune g (f 9) m nw dp t)∧∃(io co:Option Nat),ρ 8= .int .i64 (j:Int)∧Tree g h'.next b F (.sl io 0 (pw (b^F) j).length co)∧Live 25 1 h'.next (NfL h'.next) g (.sl io 0 (pw (b^F) j).length co) (pw (b^F) j)∧(F*2^j<ys.length→Nf h'.next (g.del io) (ρ 9) ((b^F)^2^j))∧∀i,i<j→F*2^i<ys.length) 13
   ⟨oM,hw4,lee4,tR,tR,tR,⟨_,_,ht4⟩,none,none,tR,t4,Live.nil _ _ _ _ _ _,fun _=>hx4,fun i hi=>by omega⟩ (fun i ρ h hI=>hI.1) ?_
  rintro j ρ g ⟨hj,hwg,leg,q0,q2,q7,⟨mg,dg',htg⟩,io,co,q8,tg,vg,hxg,hlt⟩
  have few:∀k,k≤20→bShl .i64 (F:Int) (IntKind.u64.wrap ((k:Nat):Int)).toNat=((F*2^k:Nat):Int):=by
   intro k hk
   have h1:2^k≤2^20:=Nat.pow_le_pow_right oM hk
   have h2:F*2^k≤64*2^20:=Nat.mul_le_mul oM h1
   rw[wUn oM,Int.toNat_natCast]
   exact shl_int oM oM
  have e1:=few j oM
  have e1':=few (j+1) oM
  rcases Nat.lt_or_ge (F*2^j) ys.length with c1|c1
  rotate_left
  ·simp only[go_sem,q2,q7,q8,tg.gets.2.1,e1,ltF c1]
   exact⟨trivial,hwg,leg,q0,tR,tR,⟨_,_,htg⟩,j,io,co,hj,tR,tg,vg,c1,hlt⟩
  have hxg:=hxg c1
  simp only[go_sem,q2,q7,q8,tg.gets.2.1,tg.gets.2.2.2,e1,ltT c1,two_and,true_and,k_lit1 hxg.one]
  have hlj:(pw (b^F) j).length=j:=pw_len _ _
  have hiol:=vg.io_lt hwg
  have hioge:∀i,io=some i→h'.next≤i:=fun i e=>vg.io_ge e
  have hj13:j<13:=by
   rcases Nat.lt_or_ge j 13 with h|h
   ·exact h
   ·have h1:=Nat.pow_le_pow_right (n:=2) oM h
    have h2:1*2^j≤F*2^j:=Nat.mul_le_mul_right _ hF1
    omega
  refine Live.app2 NfL.grows oM hwg leg.1 vg rfl (y:=(b^F)^2^j) ⟨_,rfl,hxg⟩ rfl (by simp[hxg.one]) oM oM rfl fun v2 g2 hwg2 hlg2 vg2=> ?_
  rw[←pw_succ] at vg2
  have tg2:Tree g2 h'.next b F _:=hlg2.2 _ _ (H.del_put (tg.row_own vg.io_own) tg)
  have htg2:Tune g2 (f 9) mg nw dg' t:=hlg2.2 _ _ (H.del_put (fun e=>by have:=hioge _ e.symm;omega) htg)
  have leg2:=leg.app hw hioge hlg2
  have x2:=hxg.mono hlg2
  obtain⟨io2,co2,rfl⟩:=vg2.form
  simp only[go_sem,q7,tg2.gets.2.2.2]
  refine tree_put hwg2 tg2 rfl oM (l':=[.int .u64 (b:Int), .int .i64 (F:Int), .int .u64 ((b^F:Nat):Int), .sl io2 0 (pw (b^F) (j+1)).length co2]) (by simp[putAt]) fun g3 hwg3 r3 hlg3 e3=> ?_
  have tg3:Tree g3 h'.next b F _:=r3
  have leg3:H.lee (f 9) h' g3:=by
   rw[e3]
   exact leg2.put hw (Nat.le_refl _) _
  have vg3:Live 25 1 h'.next (NfL h'.next) g3 (.sl io2 0 (pw (b^F) (j+1)).length co2) (pw (b^F) (j+1)):=by
   rw[e3]
   exact vg2.setT tg2 rfl
  have x3:Nf h'.next g3 (ρ 9) ((b^F)^2^j):=x2.keepY fun j q ho e=>hlg3.2 _ _ (by
   rintro rfl
   unfold Tree at tg2
   rw[tg2] at e
   injection e with e
   rw[←e] at ho
   injection ho with ho
   exact absurd ho dM) e
  have htg3:Tune g3 (f 9) mg nw dg' t:=hlg3.2 _ _ (Ne.symm hT9) htg2
  have e5:=incI (i:=j) oM
  have hlt':∀i,i<j+1→F*2^i<ys.length:=fun i hi=>by
   rcases Nat.lt_or_ge i j with h|h
   ·exact hlt i h
   ·obtain rfl:i=j:=by omega
    exact c1
  clear e3 r3
  rcases Nat.lt_or_ge (F*2^(j+1)) ys.length with c2|c2
  ·have hws:wlen ((b^F)^2^j)≤16384:=by
    have h1:=pw_wlen hp j
    have h3:1*2^j≤F*2^j:=Nat.mul_le_mul_right _ hF1
    omega
   simp only[go_sem,q0,q2,q7,q8,e5,tg3.gets.2.1,e1',ltT c2,G 0 oM _ leg3,G 1 oM _ leg3,G 2 oM _ leg3,G 3 oM _ leg3,G 4 oM _ leg3,true_and]
   refine Sqr_calls ((E 5 oM).monoE ht leg3) htg3 (x3.nn (wbig hws oM)) hws oM fun y g4 m4 d4 hwg4 hlg4 htg4 hy=> ?_
   rw[pw_sqr] at hy
   have vg4:=vg3.monoE (fun⟨v,e,hx⟩ hl=>⟨v,e,hx.monoE hu hl⟩) hu hlg4
   have hiol3:=vg3.io_lt hwg3
   simp only[go_sem,q0,q2,q7,q8,e5]
   exact⟨oM,hwg4,leg3.trans hlg4,tR,tR,tR,⟨_,_,htg4⟩,io2,co2,tR,hlg4.2 _ _ hT9 tg3,vg4,fun _=>(hy.del hiol3).base leg3.1,hlt'⟩
  ·simp only[go_sem,q0,q2,q7,q8,e5,tg3.gets.2.1,e1',ltF c2]
   exact⟨trivial,oM,hwg3,leg3,tR,tR,tR,⟨_,_,htg3⟩,io2,co2,tR,tg3,vg3,fun h=>absurd h oM,hlt'⟩
 ·rintro ρ g ⟨hwg,leg,q0,q2,q7,⟨mg,dg',htg⟩,j,io,co,hj,q8,tg,vg,hle,hlt⟩
  have hw16:∀i,i<j→wlen ((b^F)^2^i)≤16384:=by
   intro i hi
   have h1:=pw_wlen hp i
   have h2:=hlt i hi
   have h3:1*2^i≤F*2^i:=Nat.mul_le_mul_right _ hF1
   omega
  have hup:IsA 1 NnL g _ (pw (b^F) j):=(vg.isA NfL.grows).impM fun c x hm ⟨v,e,hv⟩=>⟨v,e,hv.nn (by obtain⟨i,hi,rfl⟩:=pw_mem hm;exact wbig (hw16 i hi) oM)⟩
  simp only[go_sem,q0,q2,q7,q8]
  refine value_calls hT hb hF1 hp hwg (he.monoE ht leg) htg tg hup hw16 j (Nat.le_refl _) oM (H.lee_refl _ _) htg oM (hs'.monoE ht leg) hx' hle oM fun r h5 m5 dp5 hw5 hl5 ht5 hr=> ?_
  simp only[go_sem]
  exact fun _=>hk r h5 m5 dp5 hw5 (leg.trans hl5) ht5 (hr.base leg.1)
end
end
section
theorem w8 {n:Nat} (h:n<256):IntKind.u8.wrap (n:Int)=(n:Int):=by rw[IntKind.wrap_u8];omega
theorem fill_top {k c:Nat} {L:List Nat}:(List.replicate (k+1) 0++L).set k c=List.replicate k 0++c::L:=by
 rw[List.replicate_succ',List.append_assoc,List.set_append_right _ _ sM]
 simp
def IsB (b:Nat) (h:H) (v:AV) (xs:List Nat):Prop:=IsF 5 .u8 b h v (xs.map fun n:Nat=>(n:Int))
theorem bts_F {b:Nat} {h:H} {io c:Option Nat} {n:Nat} {xs:List Nat} {K:AV→H→Prop} (hv:IsB b h (.sl io 0 n c) xs) (hne:xs≠ []) (hx:∀x∈xs,x<256) (hk:K (.str (sb xs)) h):btsK (.sl io 0 n c) h K:=by
 obtain⟨id,c',e,h1⟩:=hv
 injection e with e1 e2 e3 e4
 subst e1;subst e3
 rcases h1 with⟨_,h2⟩|⟨i,r,rfl,hb,hr,ho,he,hf,ht⟩
 ·exact absurd (List.map_eq_nil_iff.1 h2) hne
 ·have h0:0<(xs.map fun n:Nat=>(n:Int)).length:=by
   rw[List.length_map]
   exact List.length_pos_iff.2 hne
  refine⟨r,hr,h0,oM, ?_, ?_⟩
  ·rw[List.drop_zero,ht]
   exact allU8_W hx
  ·rw[List.drop_zero,ht,bytes_W]
   exact hk
theorem IsB.made {b:Nat} {h:H} (hb:b≤h.next) (n:Nat):IsB b (h.new ⟨some 5,1,zs [AV.int .u8 0] n⟩) (.sl (some h.next) 0 n (some n)) (List.replicate n 0):=by
 have:=IsF.made (t:=5) (k:= .u8) hb n
 simpa [IsB] using this
theorem IsB.put {b:Nat} {h:H} {id:Option Nat} {n:Nat} {c:Option Nat} {xs:List Nat} (hw:h.wf) (hv:IsB b h (.sl id 0 n c) xs) {j:Nat} (hj:j<xs.length):∃i r,id=some i∧b≤i∧i<h.next∧h.rows i=some r∧r.own≠none∧j+1≤r.cells.length∧
  ∀x:Nat,IsB b (h.set i {r with cells:=putAt r.cells j [AV.int .u8 x]}) (.sl id 0 n c) (xs.set j x):=by
 obtain⟨i,r,h1,h2,h3,h4,h5,h6,h7⟩:=IsF.put hw hv (j:=j) (by simpa using hj)
 refine⟨i,r,h1,h2,h3,h4,h5,h6,fun x=> ?_⟩
 have:=h7 x
 unfold IsB
 rw[List.map_set]
 exact this
theorem DgOf.len {b A n:Nat} {ds:List Nat} (hb:2≤b) (wA:wlen A≤n) (h:DgOf b A ds):ds.length≤64*n:=by
 refine digits_le b oM h.2.1 ?_
 rw[h.2.2]
 have h1:=wlen_le.1 wA
 rw[two_B] at h1
 exact Nat.lt_of_lt_of_le h1 (Nat.pow_le_pow_left hb _)
theorem chr_lo {d:Nat} (h:d≤9):chr d=48+d:=by unfold chr;rw[if_neg oM]
theorem chr_hi {d:Nat} (h:9<d):chr d=87+d:=by unfold chr;rw[if_pos h]
theorem top_step {ds:List Nat} {j:Nat} (h:j<ds.length):(List.replicate (ds.length-j) 0++((ds.take j).map chr).reverse).set (ds.length-1-j) (chr ds[j])=List.replicate (ds.length-(j+1)) 0++((ds.take (j+1)).map chr).reverse:=by
 have e1:ds.length-j=ds.length-1-j+1:=by omega
 have e2:ds.length-(j+1)=ds.length-1-j:=by omega
 rw[e1,e2,fill_top,List.take_succ_eq_append_getElem h,List.map_append,List.reverse_append]
 rfl
section
variable {b A e u m nw dp:Nat} {t:Tb} {h:H} {va:AV} {K:AV→H→Prop}
theorem Value_calls {v:AV} {xs:List Nat} (hT:TbOK t) (he:Eng 9 h e u) (ht:Tune h u m nw dp t) (hb64:b<18446744073709551616) (hs:IsN h v xs) (hl:xs.length≤8000) (hnw:nw≤400000000)
  (hk0:(b<2∨∃x∈xs,b≤x)→h.wf→K (.tup [.sl none 0 0 none, .int .i64 1]) h)
  (hk:2≤b→(∀x∈xs,x<b)→∀r h' m' dp',h'.wf→H.lee u h h'→Tune h' u m' nw dp' t→Nf h.next h' r (val b xs)→K (.tup [r, .int .i64 0]) h'):
  ACalls Tryz.prog 94 [.ptr (some (e,0)), .int .u64 (b:Int),v] h K:=by
 obtain⟨id,off,c,rfl⟩:=hs.form
 refine in_radix_Engine_Value sM fun hw=> ?_
 unfold c_radix_Engine_Value
 rcases Nat.lt_or_ge b 2 with c1|c1
 ·simp only[go_sem,show decide ((b:Int)<2)=true from decide_eq_true oM]
  exact hk0 (.inl c1)
 simp only[go_sem,show decide ((b:Int)<2)=false from decide_eq_false oM]
 refine for_rule (fun j ρ h'=>j≤xs.length∧h'=h∧ρ 0= .ptr (some (e,0))∧ρ 1= .int .u64 (b:Int)∧ρ 2= .sl id off xs.length c∧ρ 12= .sl id off xs.length c∧ρ 13= .int .i64 (xs.length:Int)∧ρ 14= .int .i64 (j:Int)∧∀x∈xs.take j,x<b) xs.length
  ⟨oM,rfl,tR,tR,tR,tR,tR,rfl,sM⟩ (fun i ρ h hI=>hI.1) ?_
 rintro j ρ h' ⟨hj,rfl,q0,q1,q2,q12,q13,q14,hlt⟩
 rcases Nat.lt_or_ge j xs.length with h3|h3
 ·obtain⟨ii,rfl,_,hg⟩:=hs.at h3
  simp only[go_sem,q0,q1,q2,q12,q13,q14,ltT h3]
  refine⟨oM,oM, ?_⟩
  rcases Nat.lt_or_ge xs[j] b with c2|c2
  ·simp only[go_sem,hg,q0,q1,q2,q12,q13,q14,show decide ((b:Int)≤((xs[j]:Nat):Int))=false from decide_eq_false oM,incI (i:=j) oM]
   refine⟨oM,tR,tR,tR,tR,tR,tR,tR,fun x hx=> ?_⟩
   rw[List.take_succ_eq_append_getElem h3] at hx
   rcases List.mem_append.1 hx with hx|hx
   ·exact hlt x hx
   ·rw[List.mem_singleton.1 hx]
    exact c2
  ·simp only[go_sem,hg,q1,show decide ((b:Int)≤((xs[j]:Nat):Int))=true from decide_eq_true oM]
   exact hk0 (.inr ⟨_,List.getElem_mem h3,c2⟩)
 ·obtain rfl:j=xs.length:=by omega
  rw[List.take_length] at hlt
  simp only[go_sem,q0,q1,q2,q12,q13,q14,ltF (Nat.le_refl xs.length)]
  refine number_calls hT he ht c1 hb64 hs hlt hl hnw fun r h1 m1 dp1 hw1 hl1 ht1 hr=> ?_
  simp only[go_sem]
  exact fun hw'=>hk c1 hlt r h1 m1 dp1 hw' hl1 ht1 hr
set_option maxHeartbeats 1000000 in
theorem Text_calls {base:Int} (hT:TbOK t) (he:Eng 9 h e u) (ht:Tune h u m nw dp t) (na:Nn h va A) (wA:wlen A≤128) (hnw:nw≤400000000)
  (hk0:(base<2∨36<base)→h.wf→K (.tup [.str ⟨#[]⟩, .int .i64 1]) h)
  (hk:∀b:Nat,base=(b:Int)→2≤b→b≤36→∀ds h' m' dp',h'.wf→H.lee u h h'→Tune h' u m' nw dp' t→DgOf b A ds→K (.tup [.str (sb (txt ds)), .int .i64 0]) h'):
  ACalls Tryz.prog 85 [.ptr (some (e,0)),va, .int .i64 base] h K:=by
 refine in_radix_Engine_Text sM fun hw=> ?_
 unfold c_radix_Engine_Text
 by_cases c1:base<2
 ·simp only[go_sem,decide_eq_true c1]
  exact hk0 (.inl c1)
 by_cases c2:36<base
 ·simp only[go_sem,decide_eq_false c1,decide_eq_true c2]
  exact hk0 (.inr c2)
 obtain⟨b,rfl⟩:∃b:Nat,base=(b:Int):=⟨base.toNat,oM⟩
 have hb2:2≤b:=by omega
 have hb36:b≤36:=by omega
 have eb:IntKind.u64.wrap (b:Int)=(b:Int):=wUn oM
 have hu:=H.row_lt hw ht
 simp only[go_sem,decide_eq_false c1,decide_eq_false c2,eb]
 refine digits_calls hT he ht hb2 oM na wA hnw fun v ds h1 m1 dp1 hw1 hl1 ht1 hv hd=> ?_
 obtain⟨io,co,rfl⟩:=hv.form
 rcases Nat.eq_zero_or_pos ds.length with c3|c3
 ·have hd0:ds=[]:=List.eq_nil_of_length_eq_zero c3
  subst hd0
  simp only[go_sem,eqT (show((([]:List Nat).length:Nat):Int)=0 from rfl)]
  exact fun hw'=>hk b rfl hb2 hb36 [] h1 m1 dp1 hw' hl1 ht1 hd
 have hlen:ds.length≤64*128:=hd.len hb2 wA
 simp only[go_sem,eqF (show((ds.length:Nat):Int)≠0 by omega)]
 refine⟨oM,oM,oM, ?_⟩
 have hl2:=H.le_new hw1 (H.le_refl h1) ⟨some 5,1,zs [AV.int .u8 0] ds.length⟩
 have e1:IntKind.i64.wrap ((ds.length:Int)-1)=((ds.length-1:Nat):Int):=by rw[wI]<;>omega
 refine for_rule (fun j ρ h'=>j≤ds.length∧h'.wf∧h1.le h'∧ρ 8= .sl io 0 ds.length co∧ρ 9= .sl (some h1.next) 0 ds.length (some ds.length)∧ρ 30= .sl io 0 ds.length co∧ρ 31= .int .i64 (ds.length:Int)∧ρ 32= .int .i64 (j:Int)∧IsB h1.next h' (.sl (some h1.next) 0 ds.length (some ds.length)) (List.replicate (ds.length-j) 0++((ds.take j).map chr).reverse)) ds.length
  ⟨oM,H.wf_new hw1 _,hl2,tR,tR,tR,tR,rfl,by
   rw[Nat.sub_zero,List.take_zero,List.map_nil,List.reverse_nil,List.append_nil]
   exact IsB.made (Nat.le_refl _) _⟩ (fun i ρ h hI=>hI.1) ?_
 rintro j ρ h' ⟨hj,hw',hle,q8,q9,q30,q31,q32,hB⟩
 rcases Nat.lt_or_ge j ds.length with h3|h3
 ·have h3':j<ds.length:=by omega
  obtain⟨ii,rfl,_,hg⟩:=(hv.isN.mono hle).at h3'
  rw[Nat.zero_add] at hg
  have hstep:=top_step h3'
  obtain⟨io',r,e0,hbi,_,hr,ho,hcl,hput⟩:=hB.put hw' (j:=ds.length-1-j) (by simp;omega)
  injection e0 with e0
  subst e0
  have hput:=hput (chr ds[j])
  rw[hstep] at hput
  have hdb:ds[j]<36:=Nat.lt_of_lt_of_le (hd.1 _ (List.getElem_mem h3')) hb36
  have e2:IntKind.i64.wrap (((ds.length-1:Nat):Int)-(j:Int))=((ds.length-1-j:Nat):Int):=subI oM oM
  generalize ds[j]=d at*
  rcases Nat.lt_or_ge 9 d with h9|h9
  ·have a1:IntKind.u64.wrap (48+(d:Int))=((48+d:Nat):Int):=addU (a:=48) (b:=d) oM
   have a2:IntKind.u64.wrap (97+(d:Int))=((97+d:Nat):Int):=addU (a:=97) (b:=d) oM
   have a3:IntKind.u64.wrap (((97+d:Nat):Int)-10)=((87+d:Nat):Int):=by rw[wU]<;>omega
   rw[chr_hi h9] at hput
   simp only[go_sem,q8,q9,q30,q31,q32,ltT h3,e1,e2,a1,w8 (show 48+d<256 by omega)]
   refine⟨oM,oM, ?_⟩
   simp only[go_sem,hg,a1,a2,a3,w8 (show 48+d<256 by omega),w8 (show 87+d<256 by omega),q8,q9,q30,q31,q32,show decide ((9:Int)<(d:Int))=true from decide_eq_true oM,e1,e2]
   refine⟨oM,oM, ?_⟩
   simp only[go_sem,hr]
   refine⟨ho,hcl, ?_⟩
   simp only[go_sem,q8,q9,q30,q31,q32,incI (i:=j) oM]
   exact⟨oM,H.wf_set hw' (H.row_lt hw' hr) _,H.le_set hw1 hle hbi _,tR,tR,tR,tR,tR,hput⟩
  ·have a1:IntKind.u64.wrap (48+(d:Int))=((48+d:Nat):Int):=addU (a:=48) (b:=d) oM
   rw[chr_lo h9] at hput
   simp only[go_sem,q8,q9,q30,q31,q32,ltT h3,e1,e2,a1,w8 (show 48+d<256 by omega)]
   refine⟨oM,oM, ?_⟩
   simp only[go_sem,hg,a1,w8 (show 48+d<256 by omega),q8,q9,q30,q31,q32,show decide ((9:Int)<(d:Int))=false from decide_eq_false oM,e1,e2]
   refine⟨oM,oM, ?_⟩
   simp only[go_sem,hr]
   refine⟨ho,hcl, ?_⟩
   simp only[go_sem,q8,q9,q30,q31,q32,incI (i:=j) oM]
   exact⟨oM,H.wf_set hw' (H.row_lt hw' hr) _,H.le_set hw1 hle hbi _,tR,tR,tR,tR,tR,hput⟩
 ·obtain rfl:j=ds.length:=by omega
  rw[Nat.sub_self,List.replicate_zero,List.nil_append,List.take_length] at hB
  have hne:ds≠ []:=by
   rintro rfl
   exact absurd c3 sM
  have etx:txt ds=(ds.map chr).reverse:=by
   unfold txt
   rw[if_neg hne]
  simp only[go_sem,q8,q9,q30,q31,q32,ltF (Nat.le_refl ds.length)]
  refine bts_F hB (by simp[hne]) (by rw[←etx];exact txt_lt fun d h=>Nat.lt_of_lt_of_le (hd.1 d h) hb36) ?_
  rw[←etx]
  simp only[go_sem]
  exact fun hw'=>hk b rfl hb2 hb36 ds h' m1 dp1 hw' (hl1.trans hle.lee) (ht1.mono hle) hd
end
end
section
section
variable {x:Nat} {base:Int} {h:H} {K:AV→H→Prop}
theorem rdigit_calls (hx:x<256) (hk:K (.tup [.int .u64 (dgt x:Nat), .bool (decide (((dgt x:Nat):Int)<base))]) h):ACalls Tryz.prog 119 [.int .u8 (x:Int), .int .i64 base] h K:=by
 refine in_radix_digit sM fun hw=> ?_
 unfold c_radix_digit
 have hd:=dgt_lt x
 have ed:IntKind.u64.wrap ((dgt x:Nat):Int)=((dgt x:Nat):Int):=wUn oM
 rcases Nat.lt_or_ge x 48 with c1|c1
 ·have e:dgt x=99:=by unfold dgt;rw[if_neg oM,if_neg oM]
  rw[e] at hk
  simp only[go_sem,show decide ((48:Int)≤(x:Int))=false from decide_eq_false oM,show decide ((97:Int)≤(x:Int))=false from decide_eq_false oM,show IntKind.u64.wrap 99=99 from rfl]
  exact fun _=>hk
 rcases Nat.lt_or_ge 57 x with c2|c2
 rotate_left
 ·have e:dgt x=x-48:=by unfold dgt;rw[if_pos oM]
  have e1:IntKind.u8.wrap ((x:Int)-48)=((dgt x:Nat):Int):=by rw[IntKind.wrap_u8];omega
  have e2:IntKind.i64.wrap ((dgt x:Nat):Int)=((dgt x:Nat):Int):=wNI oM
  simp only[go_sem,show decide ((48:Int)≤(x:Int))=true from decide_eq_true oM,show decide ((x:Int)≤57)=true from decide_eq_true oM,e1,e2,ed]
  exact fun _=>hk
 rcases Nat.lt_or_ge x 97 with c3|c3
 ·have e:dgt x=99:=by unfold dgt;rw[if_neg oM,if_neg oM]
  rw[e] at hk
  simp only[go_sem,show decide ((48:Int)≤(x:Int))=true from decide_eq_true oM,show decide ((x:Int)≤57)=false from decide_eq_false oM,show decide ((97:Int)≤(x:Int))=false from decide_eq_false oM,show IntKind.u64.wrap 99=99 from rfl]
  exact fun _=>hk
 rcases Nat.lt_or_ge 122 x with c4|c4
 ·have e:dgt x=99:=by unfold dgt;rw[if_neg oM,if_neg oM]
  rw[e] at hk
  simp only[go_sem,show decide ((48:Int)≤(x:Int))=true from decide_eq_true oM,show decide ((x:Int)≤57)=false from decide_eq_false oM,show decide ((97:Int)≤(x:Int))=true from decide_eq_true oM,show decide ((x:Int)≤122)=false from decide_eq_false oM,show IntKind.u64.wrap 99=99 from rfl]
  exact fun _=>hk
 ·have e:dgt x=x-87:=by unfold dgt;rw[if_neg oM,if_pos oM]
  have e1:IntKind.u8.wrap ((x:Int)-97)=((x-97:Nat):Int):=by rw[IntKind.wrap_u8];omega
  have e2:IntKind.i64.wrap ((x-97:Nat):Int)=((x-97:Nat):Int):=wNI oM
  have e3:IntKind.i64.wrap (((x-97:Nat):Int)+10)=((dgt x:Nat):Int):=by rw[wI]<;>omega
  simp only[go_sem,show decide ((48:Int)≤(x:Int))=true from decide_eq_true oM,show decide ((x:Int)≤57)=false from decide_eq_false oM,show decide ((97:Int)≤(x:Int))=true from decide_eq_true oM,show decide ((x:Int)≤122)=true from decide_eq_true oM,e1,e2,e3,ed]
  exact fun _=>hk
end
theorem bneT:(false !=true)=true:=rfl
theorem bneF:(false !=false)=false:=rfl
theorem num_step {l:List Nat} {j:Nat} (h:j<l.length):(List.replicate (l.length-j) 0++((l.take j).map dgt).reverse).set (l.length-1-j) (dgt l[j])=List.replicate (l.length-(j+1)) 0++((l.take (j+1)).map dgt).reverse:=by
 have e1:l.length-j=l.length-1-j+1:=by omega
 have e2:l.length-(j+1)=l.length-1-j:=by omega
 rw[e1,e2,fill_top,List.take_succ_eq_append_getElem h,List.map_append,List.reverse_append]
 rfl
section
variable {e u m nw dp:Nat} {t:Tb} {h:H} {l:List Nat} {base:Int} {K:AV→H→Prop}
set_option maxHeartbeats 1000000 in
theorem rParse_calls (hT:TbOK t) (he:Eng 9 h e u) (ht:Tune h u m nw dp t) (h8:∀x∈l,x<256) (hl:l.length≤8000) (hnw:nw≤400000000)
  (hkA:(base<2∨36<base)→h.wf→K (.tup [.sl none 0 0 none, .int .i64 1]) h)
  (hkT:¬(base<2∨36<base)→(l=[]∨∃x∈l,base≤((dgt x:Nat):Int))→∀h',h'.wf→h.le h'→K (.tup [.sl none 0 0 none, .int .i64 11]) h')
  (hk:∀b:Nat,base=(b:Int)→2≤b→b≤36→l≠ []→(∀x∈l,dgt x<b)→∀r h' m' dp',h'.wf→H.lee u h h'→Tune h' u m' nw dp' t→Nf h.next h' r (num b l)→K (.tup [r, .int .i64 0]) h'):
  ACalls Tryz.prog 89 [.ptr (some (e,0)), .str (sb l), .int .i64 base] h K:=by
 refine in_radix_Engine_Parse sM fun hw=> ?_
 unfold c_radix_Engine_Parse
 by_cases c1:base<2
 ·simp only[go_sem,decide_eq_true c1]
  exact hkA (.inl c1)
 by_cases c2:36<base
 ·simp only[go_sem,decide_eq_false c1,decide_eq_true c2]
  exact hkA (.inr c2)
 have hnb:¬(base<2∨36<base):=fun h=>h.elim c1 c2
 obtain⟨b,rfl⟩:∃b:Nat,base=(b:Int):=⟨base.toNat,oM⟩
 have hb2:2≤b:=by omega
 have hb36:b≤36:=by omega
 have eb:IntKind.u64.wrap (b:Int)=(b:Int):=wUn oM
 have e0:(sb l==⟨#[]⟩)=decide (l=[]):=sb_beq (m:=[]) h8 (fun x hx=>by cases hx)
 have es:=sb_size l
 by_cases c3:l=[]
 ·simp only[go_sem,decide_eq_false c1,decide_eq_false c2,e0,decide_eq_true c3,bneT]
  exact fun hw'=>hkT hnb (.inl c3) h hw' (H.le_refl h)
 simp only[go_sem,decide_eq_false c1,decide_eq_false c2,e0,decide_eq_false c3,bneF,es,show decide ((65536:Int)<((l.length:Nat):Int))=false from decide_eq_false oM]
 have hl2:=H.le_new hw (H.le_refl h) ⟨some 54,1,zs [AV.int .u64 0] l.length⟩
 have e1:IntKind.i64.wrap ((l.length:Int)-1)=((l.length-1:Nat):Int):=by
  have:=List.length_pos_iff.2 c3
  rw[wI]<;>omega
 refine⟨oM,oM,oM, ?_⟩
 refine for_rule (fun j ρ h'=>j≤l.length∧h'.wf∧h.le h'∧ρ 0= .ptr (some (e,0))∧ρ 1= .str (sb l)∧ρ 2= .int .i64 (b:Int)∧ρ 8= .sl (some h.next) 0 l.length (some l.length)∧ρ 9= .int .i64 (j:Int)∧IsG h.next h' (.sl (some h.next) 0 l.length (some l.length)) (List.replicate (l.length-j) 0++((l.take j).map dgt).reverse)∧∀x∈l.take j,dgt x<b) l.length
  ⟨oM,H.wf_new hw _,hl2,tR,tR,tR,tR,rfl,by
   rw[Nat.sub_zero,List.take_zero,List.map_nil,List.reverse_nil,List.append_nil]
   exact IsG.made (Nat.le_refl _) _,sM⟩ (fun i ρ h hI=>hI.1) ?_
 rintro j ρ h' ⟨hj,hw',hle,q0,q1,q2,q8,q9,hB,hlt⟩
 rcases Nat.lt_or_ge j l.length with h3|h3
 ·have hx8:=h8 _ (List.getElem_mem h3)
  simp only[go_sem,q0,q1,q2,q8,q9,es,ltT h3]
  refine⟨oM,_,sb_get h3, ?_⟩
  rw[u8_nat hx8]
  refine rdigit_calls hx8 ?_
  have hd100:=dgt_lt l[j]
  rcases Nat.lt_or_ge (dgt l[j]) b with c4|c4
  ·have hstep:=num_step h3
   obtain⟨io',r,e0',hbi,_,hr,ho,hcl,hput⟩:=hB.put hw' (j:=l.length-1-j) (by simp;omega)
   injection e0' with e0'
   subst e0'
   have hput:=hput (dgt l[j])
   rw[hstep] at hput
   have e2:IntKind.i64.wrap (((l.length-1:Nat):Int)-(j:Int))=((l.length-1-j:Nat):Int):=subI oM oM
   simp only[go_sem,q0,q1,q2,q8,q9,es,ltT c4,Bool.not_true,e1,e2]
   refine⟨oM,oM, ?_⟩
   simp only[go_sem,hr]
   refine⟨ho,hcl, ?_⟩
   simp only[go_sem,q0,q1,q2,q8,q9,incI (i:=j) oM]
   refine⟨oM,H.wf_set hw' (H.row_lt hw' hr) _,H.le_set hw hle hbi _,tR,tR,tR,tR,tR,hput,fun x hx=> ?_⟩
   rw[List.take_succ_eq_append_getElem h3] at hx
   rcases List.mem_append.1 hx with hx|hx
   ·exact hlt x hx
   ·rw[List.mem_singleton.1 hx]
    exact c4
  ·simp only[go_sem,q0,q1,q2,q8,q9,es,ltF c4,Bool.not_false]
   exact fun hw'=>hkT hnb (.inr ⟨_,List.getElem_mem h3,oM⟩) h' hw' hle
 ·obtain rfl:j=l.length:=by omega
  rw[Nat.sub_self,List.replicate_zero,List.nil_append,List.take_length] at hB
  rw[List.take_length] at hlt
  have hln:((l.map dgt).reverse).length=l.length:=by simp
  simp only[go_sem,q0,q1,q2,q8,q9,es,ltF (Nat.le_refl l.length),eb]
  refine number_calls hT (he.mono hle) (ht.mono hle) hb2 oM hB.isN (fun x hx=> ?_) oM hnw fun r h1 m1 dp1 hw1 hl1 ht1 hr=> ?_
  ·obtain⟨y,hy,rfl⟩:=List.mem_map.1 (List.mem_reverse.1 hx)
   exact hlt y hy
  ·simp only[go_sem]
   exact fun hw'=>hk b rfl hb2 hb36 c3 hlt r h1 m1 dp1 hw' (hle.lee.trans hl1) ht1 (hr.base hle.1)
end
end
end Ab
end Go.Proofs.YtnlkbdmmoplkoaaGreatDoor
