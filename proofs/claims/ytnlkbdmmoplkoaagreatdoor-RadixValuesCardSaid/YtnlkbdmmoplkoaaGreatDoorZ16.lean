/- Joined texts: Y22 Y24 Y26 Y28. No condition. -/
import Derived.Test.YtnlkbdmmoplkoaaGreatDoorZ15
namespace Go.Proofs.YtnlkbdmmoplkoaaGreatDoor
namespace Ab
open Go Go.RowKit
set_option linter.unusedSimpArgs false
set_option linter.unusedVariables false
attribute [local go_sem ↓] x_mv x_pick x_bin x_beq x_peq x_seq x_cat x_aeq x_idxS x_idxV x_un x_cvI x_bts x_idx x_idxA x_fld x_ld x_st x_nn x_prt x_slc x_mk x_bsl x_bld x_box x_alloc x_len x_capo x_mnx x_app x_cpy x_mkf x_ext x_call x_callV x_bad s_none s_some s_nil s_cons s_chks w_skip w_reg tP_fin tP_no tP_alt w_seq w_cond w_block w_exit w_ret t_normal t_exit t_ret b_normal b_ret b_exit n_normal n_exit n_ret p_normal p_ret f_nil f_t f_c k_ops k_chk k_fin
attribute [local go_sem] e_t e_c e_f u_some u_none u_at env_at k_v k_pick k_add k_sub k_mul k_quo k_rem k_and k_or k_xor k_shl k_shr k_eql k_neq k_lss k_leq k_gtr k_geq k_beq k_peqn k_peqs k_neg k_not k_com k_cvI k_idxS k_idxV1 k_idxVn k_idx k_idxA k_idxG k_ldG k_gld k_seq k_cat k_aeq k_eqs k_fld k_ld1 k_ldn k_get k_gets k_sti k_stb k_stp k_sts k_stf k_sta k_put k_nn k_prt1 k_prtn k_slc_a k_slc_b k_slc_c k_mk k_agg k_bsl k_box k_len k_lenS k_cap k_max k_min k_ext k_callV k_true k_false k_gtt k_gtf k_gft k_gsk k_gff k_lit1i k_lit2i k_lit3i k_c0 k_c1 k_ck List.getElem?_cons_zero List.getElem?_cons_succ List.getElem?_nil Option.getD_some Option.getD_none tupOf List.map_cons List.map_nil Option.map_some Option.map_none List.nil_append List.cons_append List.append_nil Nat.mul_one Int.toNat_natCast Nat.zero_add
attribute [local go_sem] e_t e_c e_f u_some u_none u_at env_at k_v k_pick k_add k_sub k_mul k_quo k_rem k_and k_or k_xor k_shl k_shr k_eql k_neq k_lss k_leq k_gtr k_geq k_beq k_peqn k_peqs k_neg k_not k_com k_cvI k_idxS k_idxV1 k_idxVn k_idx k_idxA k_idxG k_ldG k_gld k_seq k_cat k_aeq k_eqs k_fld k_ld1 k_ldn k_get k_gets k_sti k_stb k_stp k_sts k_stf k_sta k_put k_nn k_prt1 k_prtn k_slc_a k_slc_b k_slc_c k_mk k_agg k_bsl k_box k_len k_lenS k_cap k_max k_min k_ext k_callV k_true k_false k_gtt k_gtf k_gft k_gsk k_gff k_lit1i k_lit2i k_lit3i k_c0 k_c1 k_ck List.getElem?_cons_zero List.getElem?_cons_succ List.getElem?_nil Option.getD_some Option.getD_none tupOf List.map_cons List.map_nil Option.map_some Option.map_none List.nil_append List.cons_append List.append_nil Nat.mul_one Int.toNat_natCast Nat.zero_add
--what a store into a cell of two leaves
attribute [local go_sem_proc] Nat.reduceEqDiff Nat.reduceAdd Int.reduceToNat
attribute [local go_sem_proc ↓] reduceIte
attribute [local go_sem] Bool.false_eq_true
section
section
variable {h:H} {b:Nat} {K:AV→H→Prop}
set_option maxHeartbeats 1000000 in
theorem refValue_calls {v:AV} {xs:List Nat} (hs:IsN h v xs) (hx:∀x∈xs,x<b) (hb64:b<18446744073709551616) (hl:xs.length≤8000) (hb:0<b) (hk:∀r h',h'.wf→h.le h'→Num 4294967296 h' r (val b xs)→K r h'):
  ACalls Tryz.prog 95 [.int .u64 (b:Int),v] h K:=by
 obtain⟨id,off,c,rfl⟩:=hs.form
 refine in_ref17_Value sM fun hw=> ?_
 unfold c_ref17_Value
 have e0:IntKind.i64.wrap ((xs.length:Int)-1)=(xs.length:Int)-1:=wI oM oM
 simp only[go_sem,e0]
 refine for_rule (fun j ρ h'=>j≤xs.length∧h'.wf∧h.le h'∧ρ 0= .int .u64 (b:Int)∧ρ 1= .sl id off xs.length c∧ρ 6= .int .i64 ((xs.length:Int)-1-(j:Int))∧Num 4294967296 h' (ρ 5) (val b (xs.drop (xs.length-j)))) xs.length
  ⟨oM,hw,H.le_refl h,tR,tR,by rw[show(xs.length:Int)-1-((0:Nat):Int)=(xs.length:Int)-1 by omega];rfl,by rw[Nat.sub_zero,List.drop_length];exact⟨[],IsN.nil _ _,sM,sM,rfl⟩⟩ (fun i ρ h hI=>hI.1) ?_
 rintro j ρ h' ⟨hj,hw',hle,q0,q1,q6,hN⟩
 rcases Nat.lt_or_ge j xs.length with h3|h3
 ·obtain⟨i,hi⟩:∃i,i=xs.length-1-j:=⟨_,rfl⟩
  have ei:(xs.length:Int)-1-(j:Int)=(i:Int):=by omega
  rw[ei] at q6
  have hil:i<xs.length:=by omega
  obtain⟨ii,rfl,_,hg⟩:=hs.at hil
  have hg':=fun g (hl:h.le g)=>(H.get_le hl hg)
  have hd1:xs.length-j=i+1:=by omega
  have hd2:xs.length-(j+1)=i:=by omega
  rw[hd1] at hN
  have hv:=val_drop b hil
  have hxi:=hx _ (List.getElem_mem hil)
  have b1:Big (val b (xs.drop (i+1))):=wbig (val_wlen hb hb64 fun x hm=>hx x (List.mem_of_mem_drop hm)) (by simp;omega)
  have b2:Big (val b (xs.drop i)):=wbig (val_wlen hb hb64 fun x hm=>hx x (List.mem_of_mem_drop hm)) (by simp;omega)
  have hst:val b (xs.drop i)=val b (xs.drop (i+1))*b+xs[i]:=by rw[hv,Nat.mul_comm b,Nat.add_comm]
  have e1:IntKind.i64.wrap ((i:Int)-1)=(xs.length:Int)-1-((j+1:Nat):Int):=by rw[wI]<;>omega
  generalize xs[i]=d at*
  have g1:=hg' h' hle
  simp only[go_sem,q0,q1,q6,show decide ((0:Int)≤(i:Int))=true from decide_eq_true oM]
  refine⟨oM,oM, ?_⟩
  simp only[go_sem,g1,q0,q1,q6]
  refine Small_calls hb64 fun s h1 hw1 hl1 hs1=> ?_
  have g2:=H.get_le hl1 g1
  simp only[go_sem,g2,two_and,true_and]
  refine Mul_calls (hN.mono hl1) hs1 b1 (word_big hb64) fun p h2 hw2 hl2 hp=> ?_
  have g3:=H.get_le hl2 g2
  simp only[go_sem,g3,two_and,true_and]
  refine Small_calls (Nat.lt_trans hxi hb64) fun s2 h4 hw4 hl4 hs4=> ?_
  simp only[go_sem]
  refine Add_calls (hp.mono hl4) hs4 (b2.le oM) (word_big (Nat.lt_trans hxi hb64)) fun z h5 hw5 hl5 hz=> ?_
  rw[←hst] at hz
  simp only[go_sem,q0,q1,q6,e1]
  exact⟨oM,hw5,(H.le_trans hle (H.le_trans hl1 (H.le_trans hl2 (H.le_trans hl4 hl5)))),tR,tR,tR,by rw[hd2];exact hz⟩
 ·obtain rfl:j=xs.length:=by omega
  simp only[go_sem,q0,q1,q6,show decide ((0:Int)≤(xs.length:Int)-1-(xs.length:Int))=false from decide_eq_false oM]
  rw[Nat.sub_self,List.drop_zero] at hN
  exact fun hw'=>hk _ h' hw' hle hN
end
end
section
section
variable {h:H} {K:AV→H→Prop}
set_option maxHeartbeats 1000000 in
theorem wakes17_calls (hk:∀h',h'.wf→h.le h'→K (.bool true) h'):ACalls Tryz.prog 86 [] h K:=by
 refine in_law17_wakes sM fun hw=> ?_
 unfold c_law17_wakes
 simp only[go_sem]
 refine raNew_calls (t:=⟨0,0,0,0,0,0,0,0,0,0,0⟩) fun e u h1 hw1 hl1 hn1 hue he ht=> ?_
 simp only[go_sem,Option.isNone,Bool.false_bne]
 have hl2:=H.le_new hw1 (H.le_refl h1) ⟨some 54,1,[AV.int .u64 255]⟩
 have n255:Nn (h1.new ⟨some 54,1,[AV.int .u64 255]⟩) (.sl (some h1.next) 0 1 (some 1)) (val 18446744073709551616 [255]):=(IsN.lit [255] _ rfl rfl).nn (by intro x hx;rw[List.mem_singleton.1 hx];decide) sM
 have hw2:=H.wf_new hw1 ⟨some 54,1,[AV.int .u64 255]⟩
 have w255:wlen (val 18446744073709551616 [255])≤1:=by decide
 refine⟨trivial, ?_⟩
 refine Text_calls (base:=16) (clamp_ok _) (he.mono hl2) (ht.mono hl2) n255 oM oM (fun h0=>absurd h0 dM) fun b hb _ _ ds h3 m3 dp3 hw3 hl3 ht3 hds=> ?_
 obtain rfl:b=16:=by omega
 obtain rfl:ds=[15,15]:=hds.uniq oM ⟨dM,sM,dM⟩
 have l03:=le_over hw (H.le_trans hl1 hl2) hn1 hl3
 have he3:=(he.mono hl2).monoE (ht.mono hl2) hl3
 have e7:(⟨#[48,48,55]⟩:ByteArray)=sb [48,48,55]:=rfl
 have eff:(sb (txt [15,15])==⟨#[102,102]⟩)=true:=by decide
 simp only[go_sem]
 rw[e7]
 refine rParse_calls (base:=8) (clamp_ok _) he3 ht3 dM sM oM (fun h0=>absurd h0 dM) (fun _ h0=> ?_) fun b hb _ _ _ _ r h4 m4 dp4 hw4 hl4 ht4 hr=> ?_
 ·exact absurd h0 dM
 obtain rfl:b=8:=by omega
 have l04:=le_over hw l03 hn1 hl4
 have hr:Nf h3.next h4 r 7:=hr
 have hl5:=H.le_new hw4 (H.le_refl h4) ⟨some 54,1,[AV.int .u64 7]⟩
 have n7:Nt (h4.new ⟨some 54,1,[AV.int .u64 7]⟩) (.sl (some h4.next) 0 1 (some 1)) 7:=⟨[7],IsN.lit [7] _ rfl rfl,by intro x hx;rw[List.mem_singleton.1 hx];decide,by intro x hx;simp at hx;omega,rfl⟩
 simp only[go_sem,show((0:Int)==0)=true from rfl,eff,bneT]
 refine kSameT_calls (hr.nt.mono hl5) n7 (word_big dM) ?_
 simp only[go_sem]
 exact fun hw'=>hk _ hw' (H.le_trans l04 hl5)
end
end
section
theorem kCopy_calls {h:H} {v:AV} {xs:List Nat} {K:AV→H→Prop} (hv:IsN h v xs) (hl:xs.length≤1000000) (hk:∀r h',h'.wf→h.le h'→IsG h.next h' r xs→K r h'):ACalls Tryz.prog 93 [v] h K:=by
 refine in_keep_Copy sM fun hw=> ?_
 unfold c_keep_Copy
 simp only[go_sem]
 refine app_num (xs:=[]) (ys:=xs) hw hw (H.le_refl h) (IsG.nil' _ _ _) hv (by simp;omega) fun r h' hw' hl' hr=> ?_
 rw[List.nil_append] at hr
 simp only[go_sem]
 exact fun _=>hk r h' hw' hl' hr
def fits (b:Nat) (zs:List Nat) (i:Nat):Bool:=(zs.take i).all fun x=>decide (x<b)
theorem fits_succ {b i:Nat} {zs:List Nat} (h:i<zs.length):fits b zs (i+1)=(fits b zs i&&decide (zs[i]<b)):=by
 unfold fits
 rw[List.take_succ_eq_append_getElem h,List.all_append]
 simp
theorem fits_all {b:Nat} {zs:List Nat}:fits b zs zs.length=true↔∀x∈zs,x<b:=by
 unfold fits
 rw[List.take_length,List.all_eq_true]
 constructor
 ·intro h x hx
  exact of_decide_eq_true (h x hx)
 ·intro h x hx
  exact decide_eq_true (h x hx)
theorem Eng.setI {h:H} {i u:Nat} {k:IntKind} {n:Int} (hg:h.get i 0=some (.int k n)) (r':Row):∀{d e:Nat},Eng d h e u→Eng d (h.set i r') e u
 |0,_,he=>he
 |d+1,e,⟨r,e',h1,h2,h3⟩=>by
  have hne:e≠i:=by
   rintro rfl
   rw[H.get_of h1,h2] at hg
   cases hg
  exact⟨r,e',by rw[H.rows_set_ne hne];exact h1,h2,Eng.setI hg r' h3⟩
theorem Tune.setI {h:H} {i u m nw dp:Nat} {t:Tb} (hne:u≠i) (r':Row) (ht:Tune h u m nw dp t):Tune (h.set i r') u m nw dp t:=by
 unfold Tune
 rw[H.rows_set_ne hne]
 exact ht
section
variable {t:Tb} {va:AV} {xs0:List Nat} {h:H} {K:AV→H→Prop}
set_option maxHeartbeats 2000000 in
theorem RadixValues_law {b:Nat} {fit:Bool} (hb64:b<18446744073709551616) (hv0:IsN h va xs0) (hx0:Dig xs0) (hk:∀h',h'.wf→K (.bool true) h'):ACalls Tryz.prog 20 [t.av, .int .u64 (b:Int),va, .bool fit] h K:=by
 refine in_law17_RadixValues sM fun hw=> ?_
 unfold c_law17_RadixValues
 have hl0:=H.le_new hw (H.le_refl h) ⟨some 23,11,t.cells⟩
 have hr0:=H.rows_new h ⟨some 23,11,t.cells⟩
 simp only[go_sem,av_held,av_cells,cells_len,true_and]
 generalize hg:h.new ⟨some 23,11,t.cells⟩=g0 at*
 refine Cut_calls (n:=40) (hv0.mono hl0) fun a ha=> ?_
 have hxd:Dig (xs0.take 40):=Dig.take hx0 40
 have hxl:(xs0.take 40).length≤40:=by simp;omega
 generalize xs0.take 40=xs at*
 simp only[go_sem]
 refine kCopy_calls ha oM fun l g1 hw1 hl1 hcl=> ?_
 obtain⟨io,co,rfl⟩:=hcl.form
 have hr1:=hl1.2 _ _ hr0
 simp only[go_sem,gsT hr1]
 refine raNew_calls fun e u g2 hw2 hl2 hn2 hue he ht=> ?_
 have hc2:=hcl.mono hl2
 have hb1:=hl1.1
 obtain⟨L,hL⟩:∃L,L=xs.length:=⟨_,rfl⟩
 simp only[go_sem,Option.isNone,Bool.false_bne]
 have hiol:∀i,io=some i→i<g1.next:=hcl.io_lt hw1
 refine loop_cut (fun ρ g=>g.wf∧Eng 9 g e u∧Tune g u 0 0 0 (clampT t)∧ρ 1= .int .u64 (b:Int)∧ρ 2= .sl io 0 L co∧ρ 9= .ptr (some (e,0))∧∃(zs:List Nat) (rt:Bool),ρ 10= .bool rt∧zs.length=L∧Dig zs∧IsG g0.next g (.sl io 0 L co) zs∧(rt=true↔2≤b∧∀x∈zs,x<b)) ?_ ?_
 ·refine for_rule (fun j ρ g=>j≤L∧g.wf∧Eng 9 g e u∧Tune g u 0 0 0 (clampT t)∧ρ 1= .int .u64 (b:Int)∧ρ 2= .sl io 0 L co∧ρ 3= .bool fit∧ρ 9= .ptr (some (e,0))∧ρ 11= .int .i64 (j:Int)∧∃(zs:List Nat),ρ 10= .bool (decide (2≤b)&&fits b zs j)∧zs.length=L∧Dig zs∧IsG g0.next g (.sl io 0 L co) zs) L
   ⟨oM,hw2,he,ht,tR,by rw[hL];rfl,tR,tR,tR,xs, ?_,hL.symm,hxd,by rw[hL];exact hc2⟩ (fun i ρ h hI=>hI.1) ?_
  ·have e1:(decide (2≤b)&&fits b xs 0)=decide ((2:Int)≤(b:Int)):=by
    have:fits b xs 0=true:=rfl
    rw[this,Bool.and_true]
    exact decide_eq_decide.2 oM
   rw[e1]
   simp only[go_sem]
  rintro j ρ g ⟨hj,hwg,heg,htg,q1,q2,q3,q9,q11,zs,q10,hzl,hzd,hzs⟩
  rcases Nat.lt_or_ge j L with h3|h3
  rotate_left
  ·obtain rfl:j=L:=by omega
   simp only[go_sem,q1,q2,q3,q9,q10,q11,ltF (Nat.le_refl j)]
   refine⟨hwg,heg,htg,tR,tR,tR,zs,_,rfl,hzl,hzd,hzs, ?_⟩
   rw[Bool.and_eq_true,decide_eq_true_eq,←hzl,fits_all]
  rcases Nat.lt_or_ge b 2 with c1|c1
  ·simp only[go_sem,q1,q2,q3,q9,q10,q11,ltT h3,show decide ((2:Int)≤(b:Int))=false from decide_eq_false oM]
   refine⟨hwg,heg,htg,tR,tR,tR,zs,_,rfl,hzl,hzd,hzs, ?_⟩
   rw[decide_eq_false oM,Bool.false_and]
   exact⟨fun h=>absurd h dM,fun h=>absurd h.1 oM⟩
  rw[decide_eq_true c1,Bool.true_and] at q10
  have hjz:j<zs.length:=by omega
  obtain⟨ii,rfl,_,hgj⟩:=hzs.isN.at hjz
  rw[Nat.zero_add] at hgj
  have hb0:(b:Int)≠0:=by omega
  have em:((zs[j]:Nat):Int).tmod (b:Int)=((zs[j]%b:Nat):Int):=tmodN
  have hzj:=hzd _ (List.getElem_mem hjz)
  have c1':(decide (2≤b))=true:=decide_eq_true c1
  rcases fit with _|_
  ·have hfs:=fits_succ (b:=b) hjz
   simp only[go_sem,q1,q2,q3,q9,q10,q11,ltT h3,show decide ((2:Int)≤(b:Int))=true from decide_eq_true oM]
   rcases hf:fits b zs j with _|_
   ·rw[hf] at hfs
    simp only[go_sem,q1,q2,q3,q9,q11,incI (i:=j) oM]
    exact⟨oM,hwg,heg,htg,tR,tR,tR,tR,tR,zs,by rw[hfs,c1'];rfl,hzl,hzd,hzs⟩
   ·rw[hf,Bool.true_and] at hfs
    simp only[go_sem,q1,q2,q3,q9,q11]
    refine⟨oM,oM, ?_⟩
    simp only[go_sem,hgj,q1,q2,q3,q9,q11,incI (i:=j) oM]
    exact⟨oM,hwg,heg,htg,tR,tR,tR,tR,tR,zs,by rw[hfs,c1',Bool.true_and];congr 1;exact decide_eq_decide.2 oM,hzl,hzd,hzs⟩
  ·obtain⟨i',r,ei,hbi,hil,hr,ho,hcl',hput⟩:=hzs.put hwg (j:=j) oM
   injection ei with ei
   subst ei
   have hput:=hput (zs[j]%b)
   have hmb:=Nat.mod_lt zs[j] (show 0<b by omega)
   obtain⟨i0,e0,_,hg0⟩:=hzs.isN.at (j:=0) oM
   injection e0 with e0
   subst e0
   rw[Nat.zero_add] at hg0
   have hne:u≠ii:=by have:=hiol ii rfl;omega
   have hgj':=(hput.isN.at (j:=j) (by rw[List.length_set];omega))
   have hzl':(zs.set j (zs[j]%b)).length=L:=by rw[List.length_set];exact hzl
   have hzd':Dig (zs.set j (zs[j]%b)):=mem_set_lt hzd (Nat.lt_trans hmb hb64)
   have hgt:(zs.set j (zs[j]%b))[j]' oM=zs[j]%b:=List.getElem_set_self ..
   have hft:fits b (zs.set j (zs[j]%b)) j=fits b zs j:=by
    unfold fits
    rw[List.take_set_of_le (Nat.le_refl j)]
   have hfs:=fits_succ (b:=b) (zs:=zs.set j (zs[j]%b)) (i:=j) oM
   rw[hgt,hft,decide_eq_true hmb,Bool.and_true] at hfs
   obtain⟨i9,e9,_,hg9⟩:=hgj'
   injection e9 with e9
   subst e9
   rw[Nat.zero_add,hgt] at hg9
   clear hgt hft
   simp only[go_sem,q1,q2,q3,q9,q10,q11,ltT h3,show decide ((2:Int)≤(b:Int))=true from decide_eq_true oM]
   refine⟨oM,oM, ?_⟩
   simp only[go_sem,hgj,q1,q2,q3,q9,q10,q11,nz_and hb0,em]
   refine⟨oM,oM, ?_⟩
   simp only[go_sem,hr]
   refine⟨ho,hcl', ?_⟩
   have hwg':=H.wf_set hwg (H.row_lt hwg hr) {r with cells:=putAt r.cells j [AV.int .u64 ((zs[j]%b:Nat):Int)]}
   have heg':=heg.setI hg0 {r with cells:=putAt r.cells j [AV.int .u64 ((zs[j]%b:Nat):Int)]}
   have htg':=htg.setI hne {r with cells:=putAt r.cells j [AV.int .u64 ((zs[j]%b:Nat):Int)]}
   generalize g.set ii {r with cells:=putAt r.cells j [AV.int .u64 ((zs[j]%b:Nat):Int)]}=g' at*
   rcases hf:fits b zs j with _|_
   ·rw[hf] at hfs
    simp only[go_sem,q1,q2,q3,q9,q10,q11,hf,incI (i:=j) oM]
    exact⟨oM,hwg',heg',htg',tR,tR,tR,tR,tR,_,by rw[hfs,c1'];rfl,hzl',hzd',hput⟩
   ·rw[hf] at hfs
    simp only[go_sem,q1,q2,q3,q9,q10,q11,hf]
    refine⟨oM,oM, ?_⟩
    simp only[go_sem,hg9,q1,q2,q3,q9,q11,incI (i:=j) oM]
    exact⟨oM,hwg',heg',htg',tR,tR,tR,tR,tR,_,by rw[hfs,c1',Bool.true_and];congr 1;exact decide_eq_true oM,hzl',hzd',hput⟩
 ·rintro ρ g ⟨hwg,heg,htg,q1,q2,q9,zs,rt,q10,hzl,hzd,hzs,hrt⟩
  rw[←hzl] at q2 hzs
  simp only[go_sem,q1,q2,q9]
  refine Value_calls (clamp_ok _) heg htg hb64 hzs.isN oM oM (fun h0 _=> ?_) fun hb2 hlt r g3 m3 dp3 hw3 hl3 ht3 hr=> ?_
  ·have hf:rt=false:=by
    rcases rt with _|_
    ·rfl
    ·obtain⟨h1,h2⟩:=hrt.1 rfl
     rcases h0 with h0|⟨x,hx,hxb⟩
     ·omega
     ·have:=h2 x hx
      omega
   subst hf
   simp only[go_sem,q10,Bool.not_false,show((1:Int)==1)=true from rfl,show((0:Int)==0)=true from rfl,eqT (show((0:Nat):Int)=0 from rfl)]
   refine wakes17_calls fun g9 hw9 hl9=> ?_
   simp only[go_sem]
   exact fun _=>hk g9 hw9
  ·obtain rfl:rt=true:=hrt.2 ⟨hb2,hlt⟩
   have bz:Big (val b zs):=wbig (val_wlen oM hb64 hlt) oM
   simp only[go_sem,q10,Bool.not_true,show((0:Int)==0)=true from rfl,q1,q2]
   refine refValue_calls (hzs.isN.monoE htg hl3) hlt hb64 oM oM fun r' g4 hw4 hl4 hr'=> ?_
   simp only[go_sem]
   refine rSame_calls hr' bz (hr.nt.mono hl4) fun g5 hw5 hl5=> ?_
   simp only[go_sem]
   refine wakes17_calls fun g9 hw9 hl9=> ?_
   simp only[go_sem]
   exact fun _=>hk g9 hw9
end
end
section
set_option maxRecDepth 100000
set_option maxRecDepth 100000 in
theorem RadixValues_row (h:H) (avs:List AV) (_:h.wf) (r:ReadsAll Tryz.prog h [23,54,24,4] avs):ACalls Tryz.prog 20 avs h (fun r _=>r= .bool true):=by
 match avs,r with
 |[_,_,_,_],⟨r0,r1,r2,r3,_⟩=>
  obtain⟨t0,rfl⟩:=reads_table r0
  obtain⟨b,rfl,hb⟩:=reads_u64 r1
  obtain⟨xs,h1,hx,_⟩:=reads_words r2
  obtain⟨f,rfl⟩:=reads_bool r3
  exact RadixValues_law hb h1 hx fun _ _=>rfl
end
end Ab
end Go.Proofs.YtnlkbdmmoplkoaaGreatDoor
