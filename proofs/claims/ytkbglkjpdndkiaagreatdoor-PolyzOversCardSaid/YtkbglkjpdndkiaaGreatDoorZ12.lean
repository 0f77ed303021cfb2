/- Joined texts: R13 R14 R15 R16 R17 T1 T2 M13 T3 U1 U2. No condition. -/
import Derived.Test.YtkbglkjpdndkiaaGreatDoorZ11
namespace Go.Proofs.YtkbglkjpdndkiaaGreatDoor
namespace Ab
open Go Go.RowKit
set_option linter.unusedSimpArgs false
set_option linter.unusedVariables false
attribute [local go_sem ↓] x_mv x_pick x_bin x_beq x_peq x_seq x_cat x_aeq x_idxS x_idxV x_un x_cvI x_bts x_idx x_idxA x_fld x_ld x_st x_nn x_prt x_slc x_mk x_bsl x_bld x_box x_alloc x_len x_capo x_mnx x_app x_cpy x_mkf x_ext x_call x_callV x_bad s_none s_some s_nil s_cons s_chks w_skip w_reg tP_fin tP_no tP_alt w_seq w_cond w_block w_exit w_ret t_normal t_exit t_ret b_normal b_ret b_exit n_normal n_exit n_ret p_normal p_ret f_nil f_t f_c k_ops k_chk k_fin
attribute [local go_sem] e_t e_c e_f u_some u_none u_at env_at k_v k_pick k_add k_sub k_mul k_quo k_rem k_and k_or k_xor k_shl k_shr k_eql k_neq k_lss k_leq k_gtr k_geq k_beq k_peqn k_peqs k_neg k_not k_com k_cvI k_idxS k_idxV1 k_idxVn k_idx k_idxA k_idxG k_ldG k_gld k_seq k_cat k_aeq k_eqs k_fld k_ld1 k_ldn k_get k_gets k_sti k_stb k_stp k_sts k_stf k_sta k_put k_nn k_prt1 k_prtn k_slc_a k_slc_b k_slc_c k_mk k_agg k_bsl k_box k_len k_lenS k_cap k_max k_min k_ext k_callV k_true k_false k_gtt k_gtf k_gft k_gsk k_gff k_lit1i k_lit2i k_lit3i k_c0 k_c1 k_ck List.getElem?_cons_zero List.getElem?_cons_succ List.getElem?_nil Option.getD_some Option.getD_none tupOf List.map_cons List.map_nil Option.map_some Option.map_none List.nil_append List.cons_append List.append_nil Nat.mul_one Int.toNat_natCast Nat.zero_add
attribute [local go_sem] e_t e_c e_f u_some u_none u_at env_at k_v k_pick k_add k_sub k_mul k_quo k_rem k_and k_or k_xor k_shl k_shr k_eql k_neq k_lss k_leq k_gtr k_geq k_beq k_peqn k_peqs k_neg k_not k_com k_cvI k_idxS k_idxV1 k_idxVn k_idx k_idxA k_idxG k_ldG k_gld k_seq k_cat k_aeq k_eqs k_fld k_ld1 k_ldn k_get k_gets k_sti k_stb k_stp k_sts k_stf k_sta k_put k_nn k_prt1 k_prtn k_slc_a k_slc_b k_slc_c k_mk k_agg k_bsl k_box k_len k_lenS k_cap k_max k_min k_ext k_callV k_true k_false k_gtt k_gtf k_gft k_gsk k_gff k_lit1i k_lit2i k_lit3i k_c0 k_c1 k_ck List.getElem?_cons_zero List.getElem?_cons_succ List.getElem?_nil Option.getD_some Option.getD_none tupOf List.map_cons List.map_nil Option.map_some Option.map_none List.nil_append List.cons_append List.append_nil Nat.mul_one Int.toNat_natCast Nat.zero_add
--what a store into a cell of two leaves
attribute [local go_sem_proc] Nat.reduceEqDiff Nat.reduceAdd Int.reduceToNat
attribute [local go_sem_proc ↓] reduceIte
attribute [local go_sem] Bool.false_eq_true
section
def bgRow (k m0 m1 m2:Nat):Row:=match k with
 |0=>⟨some 234,10,[.int .u64 0, .int .u64 0, .int .u64 0, .ptr none, .ptr none, .ptr none, .int .u64 0, .int .u64 0, .int .u64 0, .int .u64 0]⟩
 |1=>⟨some 234,10,[.int .u64 180143985094819841, .int .u64 0, .int .u64 0, .ptr (some (m0,0)), .ptr none, .ptr none, .int .u64 0, .int .u64 0, .int .u64 0, .int .u64 0]⟩
 |2=>⟨some 234,10,[.int .u64 180143985094819841, .int .u64 1945555039024054273, .int .u64 0, .ptr (some (m0,0)), .ptr (some (m1,0)), .ptr none, .int .u64 0, .int .u64 0, .int .u64 0, .int .u64 0]⟩
 |_=>⟨some 234,10,[.int .u64 180143985094819841, .int .u64 1945555039024054273, .int .u64 4179340454199820289, .ptr (some (m0,0)), .ptr (some (m1,0)), .ptr (some (m2,0)), .int .u64 0, .int .u64 0, .int .u64 0, .int .u64 0]⟩
def bgOK (h:H) (k m0 m1 m2:Nat):Prop:=(1≤k→MW h m0 180143985094819841)∧(2≤k→MW h m1 1945555039024054273)∧(3≤k→MW h m2 4179340454199820289)
theorem new_agg2 {e:TypeId} {z:Nat} {Z L:List AV} {h h1:H} (hw:h.wf) (hz:Z.length=L.length) (hh:(h.new ⟨some e,z,Z⟩).set h.next ⟨some e,z,putAt Z 0 L⟩=h1):h.le h1∧h1.wf∧h1.rows h.next=some ⟨some e,z,L⟩:=by
 obtain⟨h2,h3,h4,h5⟩:=new_agg hw hz hh
 refine⟨h2,h4, ?_⟩
 subst hh
 have e:putAt Z 0 L=L:=by simp[putAt,hz]
 rw[H.rows_set,e]
theorem MW.ne {h:H} {i p c:Nat} {r:Row} (hM:MW h i p) (hr:h.rows c=some r) (hl:r.cells.length≠4):i≠c:=by
 rintro rfl
 obtain⟨ng,h1,_⟩:=hM
 rw[hr] at h1
 injection h1 with h1
 rw[h1] at hl
 exact hl rfl
section
variable {h:H} {K:AV→H→Prop}
theorem begun_calls (hk:∀c h',h'.wf→h.le h'→h.next≤c→CR h' c 180143985094819841 1945555039024054273 4179340454199820289→K (.ptr (some (c,0))) h'):ACalls Tryz.prog 155 [] h K:=by
 refine in_conv_begun (by simp) fun hw=> ?_
 unfold c_conv_begun
 simp only[go_sem]
 rw[show∀z:List AV,abuild z []=some z from fun _=>rfl]
 simp only[go_sem]
 simp only[AV.held,AV.cells,List.all_cons,List.all_nil,AV.one,Bool.and_true,List.length_cons,List.length_nil,Nat.zero_add,Nat.reduceAdd,true_and]
 have kA:=H.le_new hw (H.le_refl h) (bgRow 0 0 0 0)
 have hrA:=H.rows_new h (bgRow 0 0 0 0)
 have hwA:=H.wf_new hw (bgRow 0 0 0 0)
 have hnA:(h.new (bgRow 0 0 0 0)).next=h.next+1:=rfl
 change ACalls _ _ _ (h.new (bgRow 0 0 0 0)) _
 generalize h.new (bgRow 0 0 0 0)=hA at*
 refine Three_calls fun h1 hw1 hl1=> ?_
 simp only[go_sem]
 refine⟨fun s ρ h'=>s≤3∧h'.wf∧h.le h'∧ρ 1= .ptr (some (h.next,0))∧ρ 6= .agg threeL∧ρ 7= .int .i64 ((3-s:Nat):Int)∧∃m0 m1 m2,h'.rows h.next=some (bgRow (3-s) m0 m1 m2)∧bgOK h' (3-s) m0 m1 m2,3,
  ⟨by omega,hw1,H.le_trans kA hl1,by first|rfl|trivial|assumption,rfl,rfl,0,0,0,hl1.2 _ _ hrA,⟨fun h=>absurd h (by omega),fun h=>absurd h (by omega),fun h=>absurd h (by omega)⟩⟩, ?_⟩
 rintro s ρ h2 ⟨hs,hw2,hl2,q1,q6,q7,m0,m1,m2,hr,hb⟩
 match s,hs with
 |3,_=>
  have q7:ρ 7= .int .i64 0:=q7
  have hr:h2.rows h.next=some ⟨some 234,10,[.int .u64 0, .int .u64 0, .int .u64 0, .ptr none, .ptr none, .ptr none, .int .u64 0, .int .u64 0, .int .u64 0, .int .u64 0]⟩:=hr
  have hne:=H.row_lt hw2 hr
  have et:(threeL.drop (0*3)).take 3=[.int .u64 180143985094819841, .int .i64 55, .int .u64 6]:=rfl
  simp only[go_sem,q1,q6,q7,show decide ((0:Int)<3)=true from rfl,et]
  refine⟨by decide,by decide,by decide,rfl,rfl, ?_⟩
  rw[H.rows_new]
  simp only[go_sem]
  refine⟨by simp,by simp, ?_⟩
  generalize hh:(h2.new ⟨some _,_,_⟩).set h2.next ⟨some _,_,_⟩=h3
  obtain⟨hl3,hw3,hr3⟩:=new_agg2 (Z:=[.int .u64 0, .int .i64 0, .int .u64 0]) (L:=[.int .u64 180143985094819841, .int .i64 55, .int .u64 6]) hw2 rfl hh
  have g3:h3.get h2.next 0=some (.int .u64 180143985094819841):=by rw[H.get_of hr3];rfl
  have hrc:=hl3.2 _ _ hr
  simp only[go_sem,q1,q6,q7,g3]
  refine⟨by decide,by decide, ?_⟩
  simp only[go_sem,hrc]
  refine⟨by simp,by simp, ?_⟩
  rw[show putAt [.int .u64 0, .int .u64 0, .int .u64 0, .ptr none, .ptr none, .ptr none, .int .u64 0, .int .u64 0, .int .u64 0, .int .u64 0] 0 [.int .u64 180143985094819841]=[.int .u64 180143985094819841, .int .u64 0, .int .u64 0, .ptr none, .ptr none, .ptr none, .int .u64 0, .int .u64 0, .int .u64 0, .int .u64 0] from rfl]
  have hw4:=H.wf_set hw3 (H.row_lt hw3 hrc) ⟨some 234,10,[.int .u64 180143985094819841, .int .u64 0, .int .u64 0, .ptr none, .ptr none, .ptr none, .int .u64 0, .int .u64 0, .int .u64 0, .int .u64 0]⟩
  have hl4:=H.le_set hw (H.le_trans hl2 hl3) (Nat.le_refl _) ⟨some 234,10,[.int .u64 180143985094819841, .int .u64 0, .int .u64 0, .ptr none, .ptr none, .ptr none, .int .u64 0, .int .u64 0, .int .u64 0, .int .u64 0]⟩
  have hr4:=H.rows_set h3 h.next ⟨some 234,10,[.int .u64 180143985094819841, .int .u64 0, .int .u64 0, .ptr none, .ptr none, .ptr none, .int .u64 0, .int .u64 0, .int .u64 0, .int .u64 0]⟩
  have g4:(h3.set h.next ⟨some 234,10,[.int .u64 180143985094819841, .int .u64 0, .int .u64 0, .ptr none, .ptr none, .ptr none, .int .u64 0, .int .u64 0, .int .u64 0, .int .u64 0]⟩).get h2.next 0=some (.int .u64 180143985094819841):=by
   rw[H.get_of (by rw[H.rows_set_ne (by omega)];exact hr3)];rfl
  have hee:H.lee h.next h2 (h3.set h.next ⟨some 234,10,[.int .u64 180143985094819841, .int .u64 0, .int .u64 0, .ptr none, .ptr none, .ptr none, .int .u64 0, .int .u64 0, .int .u64 0, .int .u64 0]⟩):=H.lee.trans hl3.lee (H.lee_set _)
  generalize h3.set h.next ⟨some 234,10,[.int .u64 180143985094819841, .int .u64 0, .int .u64 0, .ptr none, .ptr none, .ptr none, .int .u64 0, .int .u64 0, .int .u64 0, .int .u64 0]⟩=h4 at*
  simp only[go_sem,g4,q1]
  refine mwNew_calls (p:=180143985094819841) (by decide) (by decide) fun mk h5 hw5 hl5 hi hM=> ?_
  have hr5:=hl5.2 _ _ hr4
  simp only[go_sem,q1,hr5]
  refine⟨by decide,by decide,by simp,by simp, ?_⟩
  rw[show putAt [.int .u64 180143985094819841, .int .u64 0, .int .u64 0, .ptr none, .ptr none, .ptr none, .int .u64 0, .int .u64 0, .int .u64 0, .int .u64 0] 3 [.ptr (some (mk,0))]=[.int .u64 180143985094819841, .int .u64 0, .int .u64 0, .ptr (some (mk,0)), .ptr none, .ptr none, .int .u64 0, .int .u64 0, .int .u64 0, .int .u64 0] from rfl]
  have hw6:=H.wf_set hw5 (H.row_lt hw5 hr5) ⟨some 234,10,[.int .u64 180143985094819841, .int .u64 0, .int .u64 0, .ptr (some (mk,0)), .ptr none, .ptr none, .int .u64 0, .int .u64 0, .int .u64 0, .int .u64 0]⟩
  have hl6:=H.le_set hw (H.le_trans hl4 hl5) (Nat.le_refl _) ⟨some 234,10,[.int .u64 180143985094819841, .int .u64 0, .int .u64 0, .ptr (some (mk,0)), .ptr none, .ptr none, .int .u64 0, .int .u64 0, .int .u64 0, .int .u64 0]⟩
  have hr6:=H.rows_set h5 h.next ⟨some 234,10,[.int .u64 180143985094819841, .int .u64 0, .int .u64 0, .ptr (some (mk,0)), .ptr none, .ptr none, .int .u64 0, .int .u64 0, .int .u64 0, .int .u64 0]⟩
  have hM6:=hM.monoE (hM.ne hr5 (by simp)) (H.lee_set ⟨some 234,10,[.int .u64 180143985094819841, .int .u64 0, .int .u64 0, .ptr (some (mk,0)), .ptr none, .ptr none, .int .u64 0, .int .u64 0, .int .u64 0, .int .u64 0]⟩)
  have hee6:=H.lee.trans hee (H.lee.trans hl5.lee (H.lee_set ⟨some 234,10,[.int .u64 180143985094819841, .int .u64 0, .int .u64 0, .ptr (some (mk,0)), .ptr none, .ptr none, .int .u64 0, .int .u64 0, .int .u64 0, .int .u64 0]⟩))
  generalize h5.set h.next ⟨some 234,10,[.int .u64 180143985094819841, .int .u64 0, .int .u64 0, .ptr (some (mk,0)), .ptr none, .ptr none, .int .u64 0, .int .u64 0, .int .u64 0, .int .u64 0]⟩=h6 at*
  have e7:IntKind.i64.wrap ((0:Int)+1)=1:=by rw[wI]<;>decide
  simp only[go_sem,q1,q6,q7,e7]
  exact⟨2,by omega,by omega,hw6,hl6,by first|rfl|trivial|assumption,by first|rfl|trivial|assumption,by first|rfl|trivial|assumption,mk,m1,m2,hr6,⟨fun _=>hM6,fun h=>absurd h (by omega),fun h=>absurd h (by omega)⟩⟩
 |2,_=>
  have q7:ρ 7= .int .i64 1:=q7
  have hr:h2.rows h.next=some ⟨some 234,10,[.int .u64 180143985094819841, .int .u64 0, .int .u64 0, .ptr (some (m0,0)), .ptr none, .ptr none, .int .u64 0, .int .u64 0, .int .u64 0, .int .u64 0]⟩:=hr
  have hne:=H.row_lt hw2 hr
  have et:(threeL.drop (1*3)).take 3=[.int .u64 1945555039024054273, .int .i64 56, .int .u64 5]:=rfl
  simp only[go_sem,q1,q6,q7,show decide ((1:Int)<3)=true from rfl,et]
  refine⟨by decide,by decide,by decide,rfl,rfl, ?_⟩
  rw[H.rows_new]
  simp only[go_sem]
  refine⟨by simp,by simp, ?_⟩
  generalize hh:(h2.new ⟨some _,_,_⟩).set h2.next ⟨some _,_,_⟩=h3
  obtain⟨hl3,hw3,hr3⟩:=new_agg2 (Z:=[.int .u64 0, .int .i64 0, .int .u64 0]) (L:=[.int .u64 1945555039024054273, .int .i64 56, .int .u64 5]) hw2 rfl hh
  have g3:h3.get h2.next 0=some (.int .u64 1945555039024054273):=by rw[H.get_of hr3];rfl
  have hrc:=hl3.2 _ _ hr
  simp only[go_sem,q1,q6,q7,g3]
  refine⟨by decide,by decide, ?_⟩
  simp only[go_sem,hrc]
  refine⟨by simp,by simp, ?_⟩
  rw[show putAt [.int .u64 180143985094819841, .int .u64 0, .int .u64 0, .ptr (some (m0,0)), .ptr none, .ptr none, .int .u64 0, .int .u64 0, .int .u64 0, .int .u64 0] 1 [.int .u64 1945555039024054273]=[.int .u64 180143985094819841, .int .u64 1945555039024054273, .int .u64 0, .ptr (some (m0,0)), .ptr none, .ptr none, .int .u64 0, .int .u64 0, .int .u64 0, .int .u64 0] from rfl]
  have hw4:=H.wf_set hw3 (H.row_lt hw3 hrc) ⟨some 234,10,[.int .u64 180143985094819841, .int .u64 1945555039024054273, .int .u64 0, .ptr (some (m0,0)), .ptr none, .ptr none, .int .u64 0, .int .u64 0, .int .u64 0, .int .u64 0]⟩
  have hl4:=H.le_set hw (H.le_trans hl2 hl3) (Nat.le_refl _) ⟨some 234,10,[.int .u64 180143985094819841, .int .u64 1945555039024054273, .int .u64 0, .ptr (some (m0,0)), .ptr none, .ptr none, .int .u64 0, .int .u64 0, .int .u64 0, .int .u64 0]⟩
  have hr4:=H.rows_set h3 h.next ⟨some 234,10,[.int .u64 180143985094819841, .int .u64 1945555039024054273, .int .u64 0, .ptr (some (m0,0)), .ptr none, .ptr none, .int .u64 0, .int .u64 0, .int .u64 0, .int .u64 0]⟩
  have g4:(h3.set h.next ⟨some 234,10,[.int .u64 180143985094819841, .int .u64 1945555039024054273, .int .u64 0, .ptr (some (m0,0)), .ptr none, .ptr none, .int .u64 0, .int .u64 0, .int .u64 0, .int .u64 0]⟩).get h2.next 0=some (.int .u64 1945555039024054273):=by
   rw[H.get_of (by rw[H.rows_set_ne (by omega)];exact hr3)];rfl
  have hee:H.lee h.next h2 (h3.set h.next ⟨some 234,10,[.int .u64 180143985094819841, .int .u64 1945555039024054273, .int .u64 0, .ptr (some (m0,0)), .ptr none, .ptr none, .int .u64 0, .int .u64 0, .int .u64 0, .int .u64 0]⟩):=H.lee.trans hl3.lee (H.lee_set _)
  generalize h3.set h.next ⟨some 234,10,[.int .u64 180143985094819841, .int .u64 1945555039024054273, .int .u64 0, .ptr (some (m0,0)), .ptr none, .ptr none, .int .u64 0, .int .u64 0, .int .u64 0, .int .u64 0]⟩=h4 at*
  simp only[go_sem,g4,q1]
  refine mwNew_calls (p:=1945555039024054273) (by decide) (by decide) fun mk h5 hw5 hl5 hi hM=> ?_
  have hr5:=hl5.2 _ _ hr4
  simp only[go_sem,q1,hr5]
  refine⟨by decide,by decide,by simp,by simp, ?_⟩
  rw[show putAt [.int .u64 180143985094819841, .int .u64 1945555039024054273, .int .u64 0, .ptr (some (m0,0)), .ptr none, .ptr none, .int .u64 0, .int .u64 0, .int .u64 0, .int .u64 0] 4 [.ptr (some (mk,0))]=[.int .u64 180143985094819841, .int .u64 1945555039024054273, .int .u64 0, .ptr (some (m0,0)), .ptr (some (mk,0)), .ptr none, .int .u64 0, .int .u64 0, .int .u64 0, .int .u64 0] from rfl]
  have hw6:=H.wf_set hw5 (H.row_lt hw5 hr5) ⟨some 234,10,[.int .u64 180143985094819841, .int .u64 1945555039024054273, .int .u64 0, .ptr (some (m0,0)), .ptr (some (mk,0)), .ptr none, .int .u64 0, .int .u64 0, .int .u64 0, .int .u64 0]⟩
  have hl6:=H.le_set hw (H.le_trans hl4 hl5) (Nat.le_refl _) ⟨some 234,10,[.int .u64 180143985094819841, .int .u64 1945555039024054273, .int .u64 0, .ptr (some (m0,0)), .ptr (some (mk,0)), .ptr none, .int .u64 0, .int .u64 0, .int .u64 0, .int .u64 0]⟩
  have hr6:=H.rows_set h5 h.next ⟨some 234,10,[.int .u64 180143985094819841, .int .u64 1945555039024054273, .int .u64 0, .ptr (some (m0,0)), .ptr (some (mk,0)), .ptr none, .int .u64 0, .int .u64 0, .int .u64 0, .int .u64 0]⟩
  have hM6:=hM.monoE (hM.ne hr5 (by simp)) (H.lee_set ⟨some 234,10,[.int .u64 180143985094819841, .int .u64 1945555039024054273, .int .u64 0, .ptr (some (m0,0)), .ptr (some (mk,0)), .ptr none, .int .u64 0, .int .u64 0, .int .u64 0, .int .u64 0]⟩)
  have hee6:=H.lee.trans hee (H.lee.trans hl5.lee (H.lee_set ⟨some 234,10,[.int .u64 180143985094819841, .int .u64 1945555039024054273, .int .u64 0, .ptr (some (m0,0)), .ptr (some (mk,0)), .ptr none, .int .u64 0, .int .u64 0, .int .u64 0, .int .u64 0]⟩))
  generalize h5.set h.next ⟨some 234,10,[.int .u64 180143985094819841, .int .u64 1945555039024054273, .int .u64 0, .ptr (some (m0,0)), .ptr (some (mk,0)), .ptr none, .int .u64 0, .int .u64 0, .int .u64 0, .int .u64 0]⟩=h6 at*
  have e7:IntKind.i64.wrap ((1:Int)+1)=2:=by rw[wI]<;>decide
  simp only[go_sem,q1,q6,q7,e7]
  exact⟨1,by omega,by omega,hw6,hl6,by first|rfl|trivial|assumption,by first|rfl|trivial|assumption,by first|rfl|trivial|assumption,m0,mk,m2,hr6,⟨fun _=>(hb.1 (by omega)).monoE ((hb.1 (by omega)).ne hr (by simp)) hee6,fun _=>hM6,fun h=>absurd h (by omega)⟩⟩
 |1,_=>
  have q7:ρ 7= .int .i64 2:=q7
  have hr:h2.rows h.next=some ⟨some 234,10,[.int .u64 180143985094819841, .int .u64 1945555039024054273, .int .u64 0, .ptr (some (m0,0)), .ptr (some (m1,0)), .ptr none, .int .u64 0, .int .u64 0, .int .u64 0, .int .u64 0]⟩:=hr
  have hne:=H.row_lt hw2 hr
  have et:(threeL.drop (2*3)).take 3=[.int .u64 4179340454199820289, .int .i64 57, .int .u64 3]:=rfl
  simp only[go_sem,q1,q6,q7,show decide ((2:Int)<3)=true from rfl,et]
  refine⟨by decide,by decide,by decide,rfl,rfl, ?_⟩
  rw[H.rows_new]
  simp only[go_sem]
  refine⟨by simp,by simp, ?_⟩
  generalize hh:(h2.new ⟨some _,_,_⟩).set h2.next ⟨some _,_,_⟩=h3
  obtain⟨hl3,hw3,hr3⟩:=new_agg2 (Z:=[.int .u64 0, .int .i64 0, .int .u64 0]) (L:=[.int .u64 4179340454199820289, .int .i64 57, .int .u64 3]) hw2 rfl hh
  have g3:h3.get h2.next 0=some (.int .u64 4179340454199820289):=by rw[H.get_of hr3];rfl
  have hrc:=hl3.2 _ _ hr
  simp only[go_sem,q1,q6,q7,g3]
  refine⟨by decide,by decide, ?_⟩
  simp only[go_sem,hrc]
  refine⟨by simp,by simp, ?_⟩
  rw[show putAt [.int .u64 180143985094819841, .int .u64 1945555039024054273, .int .u64 0, .ptr (some (m0,0)), .ptr (some (m1,0)), .ptr none, .int .u64 0, .int .u64 0, .int .u64 0, .int .u64 0] 2 [.int .u64 4179340454199820289]=[.int .u64 180143985094819841, .int .u64 1945555039024054273, .int .u64 4179340454199820289, .ptr (some (m0,0)), .ptr (some (m1,0)), .ptr none, .int .u64 0, .int .u64 0, .int .u64 0, .int .u64 0] from rfl]
  have hw4:=H.wf_set hw3 (H.row_lt hw3 hrc) ⟨some 234,10,[.int .u64 180143985094819841, .int .u64 1945555039024054273, .int .u64 4179340454199820289, .ptr (some (m0,0)), .ptr (some (m1,0)), .ptr none, .int .u64 0, .int .u64 0, .int .u64 0, .int .u64 0]⟩
  have hl4:=H.le_set hw (H.le_trans hl2 hl3) (Nat.le_refl _) ⟨some 234,10,[.int .u64 180143985094819841, .int .u64 1945555039024054273, .int .u64 4179340454199820289, .ptr (some (m0,0)), .ptr (some (m1,0)), .ptr none, .int .u64 0, .int .u64 0, .int .u64 0, .int .u64 0]⟩
  have hr4:=H.rows_set h3 h.next ⟨some 234,10,[.int .u64 180143985094819841, .int .u64 1945555039024054273, .int .u64 4179340454199820289, .ptr (some (m0,0)), .ptr (some (m1,0)), .ptr none, .int .u64 0, .int .u64 0, .int .u64 0, .int .u64 0]⟩
  have g4:(h3.set h.next ⟨some 234,10,[.int .u64 180143985094819841, .int .u64 1945555039024054273, .int .u64 4179340454199820289, .ptr (some (m0,0)), .ptr (some (m1,0)), .ptr none, .int .u64 0, .int .u64 0, .int .u64 0, .int .u64 0]⟩).get h2.next 0=some (.int .u64 4179340454199820289):=by
   rw[H.get_of (by rw[H.rows_set_ne (by omega)];exact hr3)];rfl
  have hee:H.lee h.next h2 (h3.set h.next ⟨some 234,10,[.int .u64 180143985094819841, .int .u64 1945555039024054273, .int .u64 4179340454199820289, .ptr (some (m0,0)), .ptr (some (m1,0)), .ptr none, .int .u64 0, .int .u64 0, .int .u64 0, .int .u64 0]⟩):=H.lee.trans hl3.lee (H.lee_set _)
  generalize h3.set h.next ⟨some 234,10,[.int .u64 180143985094819841, .int .u64 1945555039024054273, .int .u64 4179340454199820289, .ptr (some (m0,0)), .ptr (some (m1,0)), .ptr none, .int .u64 0, .int .u64 0, .int .u64 0, .int .u64 0]⟩=h4 at*
  simp only[go_sem,g4,q1]
  refine mwNew_calls (p:=4179340454199820289) (by decide) (by decide) fun mk h5 hw5 hl5 hi hM=> ?_
  have hr5:=hl5.2 _ _ hr4
  simp only[go_sem,q1,hr5]
  refine⟨by decide,by decide,by simp,by simp, ?_⟩
  rw[show putAt [.int .u64 180143985094819841, .int .u64 1945555039024054273, .int .u64 4179340454199820289, .ptr (some (m0,0)), .ptr (some (m1,0)), .ptr none, .int .u64 0, .int .u64 0, .int .u64 0, .int .u64 0] 5 [.ptr (some (mk,0))]=[.int .u64 180143985094819841, .int .u64 1945555039024054273, .int .u64 4179340454199820289, .ptr (some (m0,0)), .ptr (some (m1,0)), .ptr (some (mk,0)), .int .u64 0, .int .u64 0, .int .u64 0, .int .u64 0] from rfl]
  have hw6:=H.wf_set hw5 (H.row_lt hw5 hr5) ⟨some 234,10,[.int .u64 180143985094819841, .int .u64 1945555039024054273, .int .u64 4179340454199820289, .ptr (some (m0,0)), .ptr (some (m1,0)), .ptr (some (mk,0)), .int .u64 0, .int .u64 0, .int .u64 0, .int .u64 0]⟩
  have hl6:=H.le_set hw (H.le_trans hl4 hl5) (Nat.le_refl _) ⟨some 234,10,[.int .u64 180143985094819841, .int .u64 1945555039024054273, .int .u64 4179340454199820289, .ptr (some (m0,0)), .ptr (some (m1,0)), .ptr (some (mk,0)), .int .u64 0, .int .u64 0, .int .u64 0, .int .u64 0]⟩
  have hr6:=H.rows_set h5 h.next ⟨some 234,10,[.int .u64 180143985094819841, .int .u64 1945555039024054273, .int .u64 4179340454199820289, .ptr (some (m0,0)), .ptr (some (m1,0)), .ptr (some (mk,0)), .int .u64 0, .int .u64 0, .int .u64 0, .int .u64 0]⟩
  have hM6:=hM.monoE (hM.ne hr5 (by simp)) (H.lee_set ⟨some 234,10,[.int .u64 180143985094819841, .int .u64 1945555039024054273, .int .u64 4179340454199820289, .ptr (some (m0,0)), .ptr (some (m1,0)), .ptr (some (mk,0)), .int .u64 0, .int .u64 0, .int .u64 0, .int .u64 0]⟩)
  have hee6:=H.lee.trans hee (H.lee.trans hl5.lee (H.lee_set ⟨some 234,10,[.int .u64 180143985094819841, .int .u64 1945555039024054273, .int .u64 4179340454199820289, .ptr (some (m0,0)), .ptr (some (m1,0)), .ptr (some (mk,0)), .int .u64 0, .int .u64 0, .int .u64 0, .int .u64 0]⟩))
  generalize h5.set h.next ⟨some 234,10,[.int .u64 180143985094819841, .int .u64 1945555039024054273, .int .u64 4179340454199820289, .ptr (some (m0,0)), .ptr (some (m1,0)), .ptr (some (mk,0)), .int .u64 0, .int .u64 0, .int .u64 0, .int .u64 0]⟩=h6 at*
  have e7:IntKind.i64.wrap ((2:Int)+1)=3:=by rw[wI]<;>decide
  simp only[go_sem,q1,q6,q7,e7]
  exact⟨0,by omega,by omega,hw6,hl6,by first|rfl|trivial|assumption,by first|rfl|trivial|assumption,by first|rfl|trivial|assumption,m0,m1,mk,hr6,⟨fun _=>(hb.1 (by omega)).monoE ((hb.1 (by omega)).ne hr (by simp)) hee6,fun _=>(hb.2.1 (by omega)).monoE ((hb.2.1 (by omega)).ne hr (by simp)) hee6,fun _=>hM6⟩⟩
 |0,_=>
  have hM0:=hb.1 (by omega)
  have hM1:=hb.2.1 (by omega)
  have hM2:=hb.2.2 (by omega)
  have c1:Nat.gcd 1945555039024054273 (180143985094819841%1945555039024054273)=1:=by decide
  have c2:Nat.gcd 4179340454199820289 (180143985094819841*1945555039024054273%4179340454199820289%4179340454199820289)=1:=by decide
  have hr2:h2.rows h.next=some ⟨some 234,10,[.int .u64 ((180143985094819841:Nat):Int), .int .u64 ((1945555039024054273:Nat):Int), .int .u64 ((4179340454199820289:Nat):Int), .ptr (some (m0,0)), .ptr (some (m1,0)), .ptr (some (m2,0)), .int .u64 0, .int .u64 0, .int .u64 0, .int .u64 0]⟩:=hr
  clear hr hb
  generalize 180143985094819841=P0 at*
  generalize 1945555039024054273=P1 at*
  generalize 4179340454199820289=P2 at*
  have g0:h2.get h.next 0=some (.int .u64 (P0:Int)):=by rw[H.get_of hr2];rfl
  have g1:h2.get h.next 1=some (.int .u64 (P1:Int)):=by rw[H.get_of hr2];rfl
  have g4:h2.get h.next 4=some (.ptr (some (m1,0))):=by rw[H.get_of hr2];rfl
  have g5:h2.get h.next 5=some (.ptr (some (m2,0))):=by rw[H.get_of hr2];rfl
  simp only[go_sem,q1,q6,q7,show decide (((3-0:Nat):Int)<3)=false from rfl]
  refine⟨by decide,by decide, ?_⟩
  simp only[go_sem,q1,g4]
  refine⟨by decide,by decide, ?_⟩
  simp only[go_sem,q1,g0]
  refine mInv_calls hM1 fun i01 hi1 hi1x=> ?_
  rw[if_pos c1]
  have hi1x:=hi1x c1
  simp only[go_sem,q1,hr2]
  refine⟨by simp,by simp, ?_⟩
  rw[show putAt [.int .u64 (P0:Int), .int .u64 (P1:Int), .int .u64 (P2:Int), .ptr (some (m0,0)), .ptr (some (m1,0)), .ptr (some (m2,0)), .int .u64 0, .int .u64 0, .int .u64 0, .int .u64 0] 6 [.int .u64 (i01:Int)]=[.int .u64 (P0:Int), .int .u64 (P1:Int), .int .u64 (P2:Int), .ptr (some (m0,0)), .ptr (some (m1,0)), .ptr (some (m2,0)), .int .u64 (i01:Int), .int .u64 0, .int .u64 0, .int .u64 0] from rfl]
  have hw3:=H.wf_set hw2 (H.row_lt hw2 hr2) ⟨some 234,10,[.int .u64 (P0:Int), .int .u64 (P1:Int), .int .u64 (P2:Int), .ptr (some (m0,0)), .ptr (some (m1,0)), .ptr (some (m2,0)), .int .u64 (i01:Int), .int .u64 0, .int .u64 0, .int .u64 0]⟩
  have hl3:=H.le_set hw hl2 (Nat.le_refl _) ⟨some 234,10,[.int .u64 (P0:Int), .int .u64 (P1:Int), .int .u64 (P2:Int), .ptr (some (m0,0)), .ptr (some (m1,0)), .ptr (some (m2,0)), .int .u64 (i01:Int), .int .u64 0, .int .u64 0, .int .u64 0]⟩
  have hr3:=H.rows_set h2 h.next ⟨some 234,10,[.int .u64 (P0:Int), .int .u64 (P1:Int), .int .u64 (P2:Int), .ptr (some (m0,0)), .ptr (some (m1,0)), .ptr (some (m2,0)), .int .u64 (i01:Int), .int .u64 0, .int .u64 0, .int .u64 0]⟩
  have hM0:=hM0.monoE (hM0.ne hr2 (by simp)) (H.lee_set ⟨some 234,10,[.int .u64 (P0:Int), .int .u64 (P1:Int), .int .u64 (P2:Int), .ptr (some (m0,0)), .ptr (some (m1,0)), .ptr (some (m2,0)), .int .u64 (i01:Int), .int .u64 0, .int .u64 0, .int .u64 0]⟩)
  have hM1:=hM1.monoE (hM1.ne hr2 (by simp)) (H.lee_set ⟨some 234,10,[.int .u64 (P0:Int), .int .u64 (P1:Int), .int .u64 (P2:Int), .ptr (some (m0,0)), .ptr (some (m1,0)), .ptr (some (m2,0)), .int .u64 (i01:Int), .int .u64 0, .int .u64 0, .int .u64 0]⟩)
  have hM2:=hM2.monoE (hM2.ne hr2 (by simp)) (H.lee_set ⟨some 234,10,[.int .u64 (P0:Int), .int .u64 (P1:Int), .int .u64 (P2:Int), .ptr (some (m0,0)), .ptr (some (m1,0)), .ptr (some (m2,0)), .int .u64 (i01:Int), .int .u64 0, .int .u64 0, .int .u64 0]⟩)
  generalize h2.set h.next ⟨some 234,10,[.int .u64 (P0:Int), .int .u64 (P1:Int), .int .u64 (P2:Int), .ptr (some (m0,0)), .ptr (some (m1,0)), .ptr (some (m2,0)), .int .u64 (i01:Int), .int .u64 0, .int .u64 0, .int .u64 0]⟩=h3 at*
  have g0:h3.get h.next 0=some (.int .u64 (P0:Int)):=by rw[H.get_of hr3];rfl
  have g1:h3.get h.next 1=some (.int .u64 (P1:Int)):=by rw[H.get_of hr3];rfl
  have g4:h3.get h.next 4=some (.ptr (some (m1,0))):=by rw[H.get_of hr3];rfl
  have g5:h3.get h.next 5=some (.ptr (some (m2,0))):=by rw[H.get_of hr3];rfl
  refine⟨by decide,by decide, ?_⟩
  simp only[go_sem,q1,g5,g0,g1]
  refine⟨by decide,by decide,by decide,by decide,by decide,by decide, ?_⟩
  refine mMul_calls hM2 ?_
  simp only[go_sem,q1,g5,g0,g1]
  refine⟨by simp, ?_⟩
  refine mInv_calls hM2 fun i2 hi2 hi2x=> ?_
  rw[if_pos c2]
  have hi2x:=hi2x c2
  simp only[go_sem,q1,hr3]
  refine⟨by simp,by simp, ?_⟩
  rw[show putAt [.int .u64 (P0:Int), .int .u64 (P1:Int), .int .u64 (P2:Int), .ptr (some (m0,0)), .ptr (some (m1,0)), .ptr (some (m2,0)), .int .u64 (i01:Int), .int .u64 0, .int .u64 0, .int .u64 0] 7 [.int .u64 (i2:Int)]=[.int .u64 (P0:Int), .int .u64 (P1:Int), .int .u64 (P2:Int), .ptr (some (m0,0)), .ptr (some (m1,0)), .ptr (some (m2,0)), .int .u64 (i01:Int), .int .u64 (i2:Int), .int .u64 0, .int .u64 0] from rfl]
  have hw4:=H.wf_set hw3 (H.row_lt hw3 hr3) ⟨some 234,10,[.int .u64 (P0:Int), .int .u64 (P1:Int), .int .u64 (P2:Int), .ptr (some (m0,0)), .ptr (some (m1,0)), .ptr (some (m2,0)), .int .u64 (i01:Int), .int .u64 (i2:Int), .int .u64 0, .int .u64 0]⟩
  have hl4:=H.le_set hw hl3 (Nat.le_refl _) ⟨some 234,10,[.int .u64 (P0:Int), .int .u64 (P1:Int), .int .u64 (P2:Int), .ptr (some (m0,0)), .ptr (some (m1,0)), .ptr (some (m2,0)), .int .u64 (i01:Int), .int .u64 (i2:Int), .int .u64 0, .int .u64 0]⟩
  have hr4:=H.rows_set h3 h.next ⟨some 234,10,[.int .u64 (P0:Int), .int .u64 (P1:Int), .int .u64 (P2:Int), .ptr (some (m0,0)), .ptr (some (m1,0)), .ptr (some (m2,0)), .int .u64 (i01:Int), .int .u64 (i2:Int), .int .u64 0, .int .u64 0]⟩
  have hM0:=hM0.monoE (hM0.ne hr3 (by simp)) (H.lee_set ⟨some 234,10,[.int .u64 (P0:Int), .int .u64 (P1:Int), .int .u64 (P2:Int), .ptr (some (m0,0)), .ptr (some (m1,0)), .ptr (some (m2,0)), .int .u64 (i01:Int), .int .u64 (i2:Int), .int .u64 0, .int .u64 0]⟩)
  have hM1:=hM1.monoE (hM1.ne hr3 (by simp)) (H.lee_set ⟨some 234,10,[.int .u64 (P0:Int), .int .u64 (P1:Int), .int .u64 (P2:Int), .ptr (some (m0,0)), .ptr (some (m1,0)), .ptr (some (m2,0)), .int .u64 (i01:Int), .int .u64 (i2:Int), .int .u64 0, .int .u64 0]⟩)
  have hM2:=hM2.monoE (hM2.ne hr3 (by simp)) (H.lee_set ⟨some 234,10,[.int .u64 (P0:Int), .int .u64 (P1:Int), .int .u64 (P2:Int), .ptr (some (m0,0)), .ptr (some (m1,0)), .ptr (some (m2,0)), .int .u64 (i01:Int), .int .u64 (i2:Int), .int .u64 0, .int .u64 0]⟩)
  generalize h3.set h.next ⟨some 234,10,[.int .u64 (P0:Int), .int .u64 (P1:Int), .int .u64 (P2:Int), .ptr (some (m0,0)), .ptr (some (m1,0)), .ptr (some (m2,0)), .int .u64 (i01:Int), .int .u64 (i2:Int), .int .u64 0, .int .u64 0]⟩=h4 at*
  have g0:h4.get h.next 0=some (.int .u64 (P0:Int)):=by rw[H.get_of hr4];rfl
  have g1:h4.get h.next 1=some (.int .u64 (P1:Int)):=by rw[H.get_of hr4];rfl
  have g4:h4.get h.next 4=some (.ptr (some (m1,0))):=by rw[H.get_of hr4];rfl
  have g5:h4.get h.next 5=some (.ptr (some (m2,0))):=by rw[H.get_of hr4];rfl
  refine⟨by decide,by decide, ?_⟩
  simp only[go_sem,q1,g0,g1]
  refine⟨by decide,by decide, ?_⟩
  have hp0:=hM0.p0
  have hp1:=hM1.p0
  refine Mul64_calls (by omega) (by omega) ?_
  have d1:=div_parts (B:=18446744073709551616) (x:=P0*P1)
  have m1':=Nat.mod_lt (P0*P1) (show 0<18446744073709551616 by decide)
  generalize P0*P1/18446744073709551616=hi at*
  generalize P0*P1%18446744073709551616=lo at*
  simp only[go_sem,q1,hr4]
  refine⟨by simp,by simp, ?_⟩
  rw[show putAt [.int .u64 (P0:Int), .int .u64 (P1:Int), .int .u64 (P2:Int), .ptr (some (m0,0)), .ptr (some (m1,0)), .ptr (some (m2,0)), .int .u64 (i01:Int), .int .u64 (i2:Int), .int .u64 0, .int .u64 0] 8 [.int .u64 (hi:Int)]=[.int .u64 (P0:Int), .int .u64 (P1:Int), .int .u64 (P2:Int), .ptr (some (m0,0)), .ptr (some (m1,0)), .ptr (some (m2,0)), .int .u64 (i01:Int), .int .u64 (i2:Int), .int .u64 (hi:Int), .int .u64 0] from rfl]
  have hw5:=H.wf_set hw4 (H.row_lt hw4 hr4) ⟨some 234,10,[.int .u64 (P0:Int), .int .u64 (P1:Int), .int .u64 (P2:Int), .ptr (some (m0,0)), .ptr (some (m1,0)), .ptr (some (m2,0)), .int .u64 (i01:Int), .int .u64 (i2:Int), .int .u64 (hi:Int), .int .u64 0]⟩
  have hl5:=H.le_set hw hl4 (Nat.le_refl _) ⟨some 234,10,[.int .u64 (P0:Int), .int .u64 (P1:Int), .int .u64 (P2:Int), .ptr (some (m0,0)), .ptr (some (m1,0)), .ptr (some (m2,0)), .int .u64 (i01:Int), .int .u64 (i2:Int), .int .u64 (hi:Int), .int .u64 0]⟩
  have hr5:=H.rows_set h4 h.next ⟨some 234,10,[.int .u64 (P0:Int), .int .u64 (P1:Int), .int .u64 (P2:Int), .ptr (some (m0,0)), .ptr (some (m1,0)), .ptr (some (m2,0)), .int .u64 (i01:Int), .int .u64 (i2:Int), .int .u64 (hi:Int), .int .u64 0]⟩
  have hM0:=hM0.monoE (hM0.ne hr4 (by simp)) (H.lee_set ⟨some 234,10,[.int .u64 (P0:Int), .int .u64 (P1:Int), .int .u64 (P2:Int), .ptr (some (m0,0)), .ptr (some (m1,0)), .ptr (some (m2,0)), .int .u64 (i01:Int), .int .u64 (i2:Int), .int .u64 (hi:Int), .int .u64 0]⟩)
  have hM1:=hM1.monoE (hM1.ne hr4 (by simp)) (H.lee_set ⟨some 234,10,[.int .u64 (P0:Int), .int .u64 (P1:Int), .int .u64 (P2:Int), .ptr (some (m0,0)), .ptr (some (m1,0)), .ptr (some (m2,0)), .int .u64 (i01:Int), .int .u64 (i2:Int), .int .u64 (hi:Int), .int .u64 0]⟩)
  have hM2:=hM2.monoE (hM2.ne hr4 (by simp)) (H.lee_set ⟨some 234,10,[.int .u64 (P0:Int), .int .u64 (P1:Int), .int .u64 (P2:Int), .ptr (some (m0,0)), .ptr (some (m1,0)), .ptr (some (m2,0)), .int .u64 (i01:Int), .int .u64 (i2:Int), .int .u64 (hi:Int), .int .u64 0]⟩)
  generalize h4.set h.next ⟨some 234,10,[.int .u64 (P0:Int), .int .u64 (P1:Int), .int .u64 (P2:Int), .ptr (some (m0,0)), .ptr (some (m1,0)), .ptr (some (m2,0)), .int .u64 (i01:Int), .int .u64 (i2:Int), .int .u64 (hi:Int), .int .u64 0]⟩=h5 at*
  simp only[go_sem,q1,hr5]
  refine⟨by simp,by simp, ?_⟩
  rw[show putAt [.int .u64 (P0:Int), .int .u64 (P1:Int), .int .u64 (P2:Int), .ptr (some (m0,0)), .ptr (some (m1,0)), .ptr (some (m2,0)), .int .u64 (i01:Int), .int .u64 (i2:Int), .int .u64 (hi:Int), .int .u64 0] 9 [.int .u64 (lo:Int)]=[.int .u64 (P0:Int), .int .u64 (P1:Int), .int .u64 (P2:Int), .ptr (some (m0,0)), .ptr (some (m1,0)), .ptr (some (m2,0)), .int .u64 (i01:Int), .int .u64 (i2:Int), .int .u64 (hi:Int), .int .u64 (lo:Int)] from rfl]
  have hw6:=H.wf_set hw5 (H.row_lt hw5 hr5) ⟨some 234,10,[.int .u64 (P0:Int), .int .u64 (P1:Int), .int .u64 (P2:Int), .ptr (some (m0,0)), .ptr (some (m1,0)), .ptr (some (m2,0)), .int .u64 (i01:Int), .int .u64 (i2:Int), .int .u64 (hi:Int), .int .u64 (lo:Int)]⟩
  have hl6:=H.le_set hw hl5 (Nat.le_refl _) ⟨some 234,10,[.int .u64 (P0:Int), .int .u64 (P1:Int), .int .u64 (P2:Int), .ptr (some (m0,0)), .ptr (some (m1,0)), .ptr (some (m2,0)), .int .u64 (i01:Int), .int .u64 (i2:Int), .int .u64 (hi:Int), .int .u64 (lo:Int)]⟩
  have hr6:=H.rows_set h5 h.next ⟨some 234,10,[.int .u64 (P0:Int), .int .u64 (P1:Int), .int .u64 (P2:Int), .ptr (some (m0,0)), .ptr (some (m1,0)), .ptr (some (m2,0)), .int .u64 (i01:Int), .int .u64 (i2:Int), .int .u64 (hi:Int), .int .u64 (lo:Int)]⟩
  have hM0:=hM0.monoE (hM0.ne hr5 (by simp)) (H.lee_set ⟨some 234,10,[.int .u64 (P0:Int), .int .u64 (P1:Int), .int .u64 (P2:Int), .ptr (some (m0,0)), .ptr (some (m1,0)), .ptr (some (m2,0)), .int .u64 (i01:Int), .int .u64 (i2:Int), .int .u64 (hi:Int), .int .u64 (lo:Int)]⟩)
  have hM1:=hM1.monoE (hM1.ne hr5 (by simp)) (H.lee_set ⟨some 234,10,[.int .u64 (P0:Int), .int .u64 (P1:Int), .int .u64 (P2:Int), .ptr (some (m0,0)), .ptr (some (m1,0)), .ptr (some (m2,0)), .int .u64 (i01:Int), .int .u64 (i2:Int), .int .u64 (hi:Int), .int .u64 (lo:Int)]⟩)
  have hM2:=hM2.monoE (hM2.ne hr5 (by simp)) (H.lee_set ⟨some 234,10,[.int .u64 (P0:Int), .int .u64 (P1:Int), .int .u64 (P2:Int), .ptr (some (m0,0)), .ptr (some (m1,0)), .ptr (some (m2,0)), .int .u64 (i01:Int), .int .u64 (i2:Int), .int .u64 (hi:Int), .int .u64 (lo:Int)]⟩)
  generalize h5.set h.next ⟨some 234,10,[.int .u64 (P0:Int), .int .u64 (P1:Int), .int .u64 (P2:Int), .ptr (some (m0,0)), .ptr (some (m1,0)), .ptr (some (m2,0)), .int .u64 (i01:Int), .int .u64 (i2:Int), .int .u64 (hi:Int), .int .u64 (lo:Int)]⟩=h6 at*
  refine fun hw'=>hk h.next h6 hw' hl6 (Nat.le_refl _) ⟨m0,m1,m2,i01,i2,hi,lo,hr6,hM0,hM1,hM2,hi1x, ?_,d1,m1'⟩
  rw[←Nat.mod_mul_mod]
  exact hi2x
end
end
theorem carry_step {B i j c s c' S:Nat} {out w:List Nat} (hk:i+j<out.length) (hinv:val B out+B^(i+j)*c=S+B^i*val B (w.take j)) (hs:B*c'+s=out[i+j]+w.getD j 0+c):
  val B (out.set (i+j) s)+B^(i+j+1)*c'=S+B^i*val B (w.take (j+1)):=by
 have e1:=valset (B:=B) (d:=s) hk
 have e2:val B (w.take (j+1))=val B (w.take j)+B^j*w.getD j 0:=val_take_get B w j
 have e3:=congrArg (fun z=>B^(i+j)*z) hs
 simp only[Nat.mul_add] at e3
 rw[e2,Nat.mul_add,←Nat.mul_assoc (B^i),←Nat.pow_add,Nat.pow_succ,Nat.mul_assoc]
 omega
theorem carry_end {B i j c S v:Nat} (hB:2≤B) (hc:0<c) (h:v+B^(i+j)*c=S) (hS:S<B^(i+4)):j<4:=by
 rcases Nat.lt_or_ge j 4 with h1|h1
 ·exact h1
 ·have h2:B^(i+4)≤B^(i+j):=Nat.pow_le_pow_right (by omega) (by omega)
  have h3:=Nat.le_mul_of_pos_right (B^(i+j)) hc
  omega
theorem sums_le {b M:Nat} {vs:List Nat} (hv:∀v∈vs,v≤M):val (b+1) vs*b+M≤M*(b+1)^vs.length:=by
 induction vs with
 |nil=>simp[val]
 |cons v vs ih=>
  have h1:=Nat.mul_le_mul_left (b+1) (ih fun x hx=>hv x (by simp[hx]))
  have h2:=Nat.mul_le_mul_right b (hv v (by simp))
  simp only[val,List.length_cons]
  have e1:M*(b+1)^(vs.length+1)=(b+1)*(M*(b+1)^vs.length):=by rw[Nat.pow_succ];ac_rfl
  have e2:(v+(b+1)*val (b+1) vs)*b=v*b+(b+1)*(val (b+1) vs*b):=by rw[Nat.add_mul,Nat.mul_assoc]
  have e3:(b+1)*(val (b+1) vs*b+M)=(b+1)*(val (b+1) vs*b)+(M*b+M):=by rw[Nat.mul_add,Nat.add_mul b 1 M,Nat.one_mul,Nat.mul_comm b M]
  rw[e1,e2]
  omega
theorem sums_lt {B:Nat} (hB:2≤B) {vs:List Nat} (hv:∀v∈vs,v<B^3):val B vs<B^(vs.length+3):=by
 obtain⟨b,rfl⟩:∃b,B=b+1:=⟨B-1,by omega⟩
 have hp:0<(b+1)^3:=Nat.pow_pos (by omega)
 have h1:=sums_le (b:=b) (M:=(b+1)^3-1) (vs:=vs) fun v h=>by have:=hv v h;omega
 have h2:val (b+1) vs≤val (b+1) vs*b:=Nat.le_mul_of_pos_right _ (by omega)
 have h3:((b+1)^3-1)*(b+1)^vs.length<(b+1)^(vs.length+3):=by
  rw[Nat.add_comm vs.length 3,Nat.pow_add]
  exact Nat.mul_lt_mul_of_pos_right (by omega) (Nat.pow_pos (by omega))
 omega
def tri (ws:List (List Nat)):List AV:=ws.flatMap fun w=>W .u64 (w.map fun n:Nat=>(n:Int))
theorem tri_get {ws:List (List Nat)} (hw:∀w∈ws,w.length=3):∀{i:Nat} (hi:i<ws.length),((tri ws).drop (i*3)).take 3=W .u64 (ws[i].map fun n:Nat=>(n:Int)):=by
 induction ws with
 |nil=>intro i hi;simp at hi
 |cons w ws ih=>
  intro i hi
  have hl:(W .u64 (w.map fun n:Nat=>(n:Int))).length=3:=by simp[W,hw w (by simp)]
  cases i with
  |zero=>
   simp only[tri,List.flatMap_cons,Nat.zero_mul,List.drop_zero,List.getElem_cons_zero]
   rw[List.take_append_of_le_length (by omega),List.take_of_length_le (by omega)]
  |succ i=>
   have:=ih (fun x hx=>hw x (by simp[hx])) (i:=i) (by simpa using hi)
   simp only[tri,List.flatMap_cons,List.getElem_cons_succ] at this⊢
   rw[show(i+1)*3=(W .u64 (w.map fun n:Nat=>(n:Int))).length+i*3 by omega,List.drop_append,List.drop_of_length_le (by omega),List.nil_append,Nat.add_sub_cancel_left]
   exact this
section
section
variable {h:H} {K:AV→H→Prop}
theorem Carry_calls {v:AV} {ws:List (List Nat)} (hv:IsC 3 h v ws.length (tri ws)) (hw3:∀w∈ws,w.length=3) (hwd:∀w∈ws,Dig w) (hn:ws.length≤1048576) (hk:∀r h',h'.wf→h.le h'→Nf h.next h' r (val 18446744073709551616 (ws.map (val 18446744073709551616)))→K r h'):ACalls Tryz.prog 133 [v] h K:=by
 obtain⟨id,off,c,rfl⟩:=hv.form
 refine in_conv_Carry (by simp) fun hw=> ?_
 unfold c_conv_Carry
 have e1:IntKind.i64.wrap ((ws.length:Int)+4)=((ws.length+4:Nat):Int):=by rw[wI]<;>omega
 simp only[go_sem,e1]
 refine⟨by omega,by omega,by omega, ?_⟩
 have hs1:=IsG.made (b:=h.next) (h:=h) (Nat.le_refl _) (ws.length+4)
 refine for_rule (fun i ρ h'=>i≤ws.length∧h'.wf∧h.le h'∧ρ 3= .sl (some h.next) 0 (ws.length+4) (some (ws.length+4))∧ρ 13= .sl id off ws.length c∧ρ 14= .int .i64 (ws.length:Int)∧ρ 15= .int .i64 (i:Int)∧
  ∃out,IsG h.next h' (.sl (some h.next) 0 (ws.length+4) (some (ws.length+4))) out∧Dig out∧out.length=ws.length+4∧val 18446744073709551616 out=val 18446744073709551616 ((ws.take i).map (val 18446744073709551616))) ws.length
  ⟨by omega,H.wf_new hw _,H.le_new hw (H.le_refl h) _,by first|rfl|trivial|assumption,rfl,rfl,rfl,_,hs1,Dig.zeros _,by simp,by rw[val_zero _ _ (fun x hx=>List.eq_of_mem_replicate hx)];rfl⟩ (fun i ρ h hI=>hI.1) ?_
 rintro i ρ h1 ⟨hi,hw1,hl1,q3,q13,q14,q15,out,hG,hd,hol,hov⟩
 rcases Nat.lt_or_ge i ws.length with h2|h2
 ·obtain⟨j,rfl,_,hgs⟩:=(hv.mono hl1).ats (j:=i*3) (w:=3) (by omega) (by omega)
  rw[tri_get hw3 h2] at hgs
  have hwl:=hw3 _ (List.getElem_mem h2)
  have hwdd:=hwd _ (List.getElem_mem h2)
  have hti:val 18446744073709551616 ((ws.take (i+1)).map (val 18446744073709551616))=val 18446744073709551616 ((ws.take i).map (val 18446744073709551616))+18446744073709551616^i*val 18446744073709551616 ws[i]:=by
   rw[List.take_succ_eq_append_getElem h2,List.map_append,val_append]
   simp[val,Nat.min_eq_left hi]
  have hbd:val 18446744073709551616 ((ws.take (i+1)).map (val 18446744073709551616))<18446744073709551616^(i+4):=by
   have:=sums_lt (B:=18446744073709551616) (by decide) (vs:=(ws.take (i+1)).map (val 18446744073709551616)) (fun x hx=>by
    obtain⟨w,hw,rfl⟩:=List.mem_map.1 hx
    have:=val_lt 18446744073709551616 (by decide) w (hwd w (List.mem_of_mem_take hw))
    rw[hw3 w (List.mem_of_mem_take hw)] at this
    exact this)
   rw[List.length_map,List.length_take,Nat.min_eq_left (by omega)] at this
   exact this
  generalize ws[i]=w at*
  match w,hwl with
  |[a,b,d],_=>
   simp only[go_sem,q3,q13,q14,q15,ltT h2]
   refine⟨by omega,by omega, ?_⟩
   simp only[go_sem,q3,q13,q14,q15,hgs,Int.toNat_natCast]
   refine⟨rfl,rfl, ?_⟩
   rw[H.rows_new]
   simp only[go_sem]
   refine⟨by simp,by simp[W], ?_⟩
   generalize hh:(h1.new ⟨some _,_,_⟩).set h1.next ⟨some _,_,_⟩=h2'
   obtain⟨hl2,hw2,hr2⟩:=new_agg2 (Z:=[.int .u64 0, .int .u64 0, .int .u64 0]) (L:=W .u64 [(a:Int),(b:Int),(d:Int)]) hw1 rfl hh
   have hG2:=hG.mono hl2
   have hnx:=H.row_lt hw2 hr2
   obtain⟨_,eo,_,hgx⟩:=hG.isN.at (j:=0) (by omega)
   have hnx0:h.next<h1.next:=by
    injection eo with eo
    subst eo
    unfold H.get at hgx
    cases hrr:h1.rows h.next with
    |none=>rw[hrr] at hgx;cases hgx
    |some r=>exact H.row_lt hw1 hrr
   refine⟨fun s ρ h'=>s≤5∧h'.wf∧h.le h'∧ρ 3= .sl (some h.next) 0 (ws.length+4) (some (ws.length+4))∧ρ 13= .sl (some j) off ws.length c∧ρ 14= .int .i64 (ws.length:Int)∧ρ 15= .int .i64 (i:Int)∧ρ 4= .int .i64 (i:Int)∧ρ 5= .ptr (some (h1.next,0))∧ρ 7= .int .i64 ((5-s:Nat):Int)∧h'.rows h1.next=some ⟨some 223,3,W .u64 [(a:Int),(b:Int),(d:Int)]⟩∧∃cc:Nat,ρ 6= .int .u64 (cc:Int)∧cc≤1∧
    ∃out',IsG h.next h' (.sl (some h.next) 0 (ws.length+4) (some (ws.length+4))) out'∧Dig out'∧out'.length=ws.length+4∧val 18446744073709551616 out'+18446744073709551616^(i+(5-s))*cc=val 18446744073709551616 out+18446744073709551616^i*val 18446744073709551616 ([a,b,d].take (5-s)),5,
    ⟨by omega,hw2,H.le_trans hl1 hl2,by first|rfl|trivial|assumption,by first|rfl|trivial|assumption,by first|rfl|trivial|assumption,by first|rfl|trivial|assumption,by first|rfl|trivial|assumption,by first|rfl|trivial|assumption,rfl,hr2,0,rfl,by omega,out,hG2,hd,hol,by simp[val]⟩, ?_⟩
   rintro s ρ h3 ⟨hs,hw3',hl3,q3,q13,q14,q15,q4,q5,q7,hrw,cc,q6,hcc,ou,hGo,hdo,hlo,hvo⟩
   obtain⟨jj,hjj⟩:∃jj,jj=5-s:=⟨_,rfl⟩
   rw[←hjj] at q7 hvo
   have hval:val 18446744073709551616 ou+18446744073709551616^(i+jj)*cc<18446744073709551616^(i+4)∨jj<3:=by
    rcases Nat.lt_or_ge jj 3 with h|h
    ·exact .inr h
    ·left
     have ht3: [a,b,d].take jj=[a,b,d]:=List.take_of_length_le (by simpa using h)
     rw[hvo,hov,ht3,←hti]
     exact hbd
   have hjs:jj=5-s:=hjj
   have hw3s:h1.next<h3.next:=H.row_lt hw3' hrw
   have hi4:jj<4→i+jj<ou.length:=fun h=>by omega
   rcases Nat.lt_or_ge jj 3 with h5|h5
   ·have hi4:=hi4 (by omega)
    obtain⟨i2,e2,_,hgo⟩:=hGo.isN.at hi4
    injection e2 with e2
    subst e2
    obtain⟨i3,r3,e3,hb3,hn3,hr3,ho3,hc3,hput⟩:=hGo.put hw3' hi4
    injection e3 with e3
    subst e3
    have hob:=hdo _ (List.getElem_mem hi4)
    have hset:=fun s c'=>carry_step (B:=18446744073709551616) (j:=jj) (w:=[a,b,d]) (s:=s) (c':=c') hi4 hvo
    generalize ou[i+jj]=o at*
    have hwj:h3.get h1.next jj=some (.int .u64 (([a,b,d].getD jj 0:Nat):Int)):=by
     rw[H.get_of hrw]
     match jj,h5 with
     |0,_=>rfl
     |1,_=>rfl
     |2,_=>rfl
    have hwb: [a,b,d].getD jj 0<18446744073709551616:=by
     match jj,h5 with
     |0,_=>exact hwdd _ (by simp)
     |1,_=>exact hwdd _ (by simp)
     |2,_=>exact hwdd _ (by simp)
    generalize [a,b,d].getD jj 0=w at*
    rw[Nat.zero_add] at hgo
    simp only[go_sem,q3,q13,q14,q15,q4,q5,q7,q6,show decide ((jj:Int)<3)=true from decide_eq_true (by omega)]
    refine⟨by omega,by omega, ?_⟩
    simp only[go_sem,q3,q13,q14,q15,q4,q5,q7,q6,hwj,Int.toNat_natCast]
    have a4:=addI (a:=i) (b:=jj) (by omega)
    simp only[go_sem,q3,q13,q14,q15,q4,q5,q7,q6,a4]
    refine⟨by omega,by omega, ?_⟩
    simp only[go_sem,hgo,Nat.mul_one,q6]
    refine Add64_calls hob hwb hcc ?_
    simp only[go_sem,q3,q13,q14,q15,q4,q5,q7,a4]
    refine⟨by omega,by omega, ?_⟩
    simp only[go_sem,hr3,Nat.mul_one]
    refine⟨ho3,by omega, ?_⟩
    have p1:=Nat.mod_lt (o+w+cc) (show 0<18446744073709551616 by decide)
    have p2:=div_parts (B:=18446744073709551616) (x:=o+w+cc)
    have p3:(o+w+cc)/18446744073709551616≤1:=by
     have:=(Nat.div_lt_iff_lt_mul (x:=o+w+cc) (y:=2) (show 0<18446744073709551616 by decide)).2 (by omega)
     omega
    have hpu:=hput ((o+w+cc)%18446744073709551616)
    have hst:=hset _ _ p2
    generalize (o+w+cc)%18446744073709551616=s1 at*
    generalize (o+w+cc)/18446744073709551616=c1 at*
    have hw4:=H.wf_set hw3' hn3 {r3 with cells:=putAt r3.cells (i+jj) [AV.int .u64 (s1:Int)]}
    have hl4:=H.le_set hw hl3 hb3 {r3 with cells:=putAt r3.cells (i+jj) [AV.int .u64 (s1:Int)]}
    have hr4:(h3.set h.next {r3 with cells:=putAt r3.cells (i+jj) [AV.int .u64 (s1:Int)]}).rows h1.next=h3.rows h1.next:=H.rows_set_ne (by have:=hl1.1;have:=hnx0;omega)
    rw[hrw] at hr4
    generalize h3.set h.next {r3 with cells:=putAt r3.cells (i+jj) [AV.int .u64 (s1:Int)]}=h4 at*
    simp only[go_sem,q3,q13,q14,q15,q4,q5,q7,incI (i:=jj) (by omega)]
    exact⟨s-1,by omega,by omega,hw4,hl4,by first|rfl|trivial|assumption,by first|rfl|trivial|assumption,by first|rfl|trivial|assumption,by first|rfl|trivial|assumption,by first|rfl|trivial|assumption,by first|rfl|trivial|assumption,by rw[show 5-(s-1)=jj+1 by omega],hr4,c1,by first|rfl|trivial|assumption,p3,_,hpu,hdo.set _ p1,by simpa using hlo,by rw[show 5-(s-1)=jj+1 by omega];exact hst⟩
   ·rcases Nat.eq_zero_or_pos cc with h6|h6
    ·subst h6
     simp only[go_sem,q3,q13,q14,q15,q4,q5,q7,q6,show decide ((jj:Int)<3)=false from decide_eq_false (by omega),show decide (((0:Nat):Int)>0)=false from rfl,incI (i:=i) (by omega)]
     refine⟨by omega,hw3',hl3,by first|rfl|trivial|assumption,by first|rfl|trivial|assumption,by first|rfl|trivial|assumption,by first|rfl|trivial|assumption,ou,hGo,hdo,hlo, ?_⟩
     have ht3: [a,b,d].take jj=[a,b,d]:=List.take_of_length_le (by simpa using h5)
     rw[Nat.mul_zero,Nat.add_zero,ht3,hov,←hti] at hvo
     exact hvo
    ·have hj4:jj<4:=carry_end (B:=18446744073709551616) (by decide) h6 rfl (hval.resolve_right (by omega))
     have hi4:=hi4 (by omega)
     obtain⟨i2,e2,_,hgo⟩:=hGo.isN.at hi4
     injection e2 with e2
     subst e2
     obtain⟨i3,r3,e3,hb3,hn3,hr3,ho3,hc3,hput⟩:=hGo.put hw3' hi4
     injection e3 with e3
     subst e3
     have hob:=hdo _ (List.getElem_mem hi4)
     have hset:=fun s c'=>carry_step (B:=18446744073709551616) (j:=jj) (w:=[a,b,d]) (s:=s) (c':=c') hi4 hvo
     rw[show [a,b,d].getD jj 0=0 from by have hj:jj=3:=(by omega);subst hj;rfl] at hset
     generalize ou[i+jj]=o at*
     rw[Nat.zero_add] at hgo
     simp only[go_sem,q3,q13,q14,q15,q4,q5,q7,q6,show decide ((jj:Int)<3)=false from decide_eq_false (by omega),show decide ((cc:Int)>0)=true from decide_eq_true (by omega)]
     have a4:=addI (a:=i) (b:=jj) (by omega)
     simp only[go_sem,q3,q13,q14,q15,q4,q5,q7,q6,a4]
     refine⟨by omega,by omega, ?_⟩
     simp only[go_sem,hgo,Nat.mul_one,q6]
     refine Add64_calls (y:=0) hob (by decide) hcc ?_
     simp only[go_sem,q3,q13,q14,q15,q4,q5,q7,a4]
     refine⟨by omega,by omega, ?_⟩
     simp only[go_sem,hr3,Nat.mul_one]
     refine⟨ho3,by omega, ?_⟩
     have p1:=Nat.mod_lt (o+0+cc) (show 0<18446744073709551616 by decide)
     have p2:=div_parts (B:=18446744073709551616) (x:=o+0+cc)
     have p3:(o+0+cc)/18446744073709551616≤1:=by
      have:=(Nat.div_lt_iff_lt_mul (x:=o+0+cc) (y:=2) (show 0<18446744073709551616 by decide)).2 (by omega)
      omega
     have hpu:=hput ((o+0+cc)%18446744073709551616)
     have hst:=hset _ _ p2
     generalize (o+0+cc)%18446744073709551616=s1 at*
     generalize (o+0+cc)/18446744073709551616=c1 at*
     have hw4:=H.wf_set hw3' hn3 {r3 with cells:=putAt r3.cells (i+jj) [AV.int .u64 (s1:Int)]}
     have hl4:=H.le_set hw hl3 hb3 {r3 with cells:=putAt r3.cells (i+jj) [AV.int .u64 (s1:Int)]}
     have hr4:(h3.set h.next {r3 with cells:=putAt r3.cells (i+jj) [AV.int .u64 (s1:Int)]}).rows h1.next=h3.rows h1.next:=H.rows_set_ne (by have:=hl1.1;have:=hnx0;omega)
     rw[hrw] at hr4
     generalize h3.set h.next {r3 with cells:=putAt r3.cells (i+jj) [AV.int .u64 (s1:Int)]}=h4 at*
     simp only[go_sem,q3,q13,q14,q15,q4,q5,q7,incI (i:=jj) (by omega)]
     exact⟨s-1,by omega,by omega,hw4,hl4,by first|rfl|trivial|assumption,by first|rfl|trivial|assumption,by first|rfl|trivial|assumption,by first|rfl|trivial|assumption,by first|rfl|trivial|assumption,by first|rfl|trivial|assumption,by rw[show 5-(s-1)=jj+1 by omega],hr4,c1,by first|rfl|trivial|assumption,p3,_,hpu,hdo.set _ p1,by simpa using hlo,by rw[show 5-(s-1)=jj+1 by omega];exact hst⟩
 ·obtain rfl:i=ws.length:=by omega
  rw[List.take_length] at hov
  simp only[go_sem,q3,q13,q14,q15,ltF h2]
  refine Norm_calls ⟨out,hG.isN,hd,by omega,hov⟩ fun r h3 hw3 hl3 hr=> ?_
  simp only[go_sem]
  refine fun hw'=>hk r h3 hw' (H.le_trans hl1 hl3) ?_
  obtain⟨zs,z1,z2⟩:=hr
  exact⟨zs,IsF.base z1 hl1.1,z2⟩
end
end
section
def p3 (k:Nat):Nat:=match k with
 |0=>180143985094819841
 |1=>1945555039024054273
 |_=>4179340454199820289
theorem p3_ok:∀k,k<3→∃g,PrimeOK (p3 k) g
 |0,_=>⟨_,prime1⟩
 |1,_=>⟨_,prime2⟩
 |2,_=>⟨_,prime3⟩
theorem p3_mul:2^20*(18446744073709551616*18446744073709551616)<p3 0*p3 1*p3 2:=by decide
theorem H.lee_put {u A:Nat} {h h':H} (hw:h.wf) (hl:H.lee u h h') (hA:h.next≤A) (r:Row):H.lee u h (h'.set A r):=⟨hl.1,fun i q hi hq=>by
 rw[H.rows_set_ne (by have:=H.row_lt hw hq;omega)]
 exact hl.2 i q hi hq⟩
theorem Tune.put {u A m nw dp:Nat} {t:Tb} {h:H} (ht:Tune h u m nw dp t) (hA:u≠A) (r:Row):Tune (h.set A r) u m nw dp t:=by
 unfold Tune
 rw[H.rows_set_ne hA]
 exact ht
theorem CR.put {h:H} {A c p0 p1 p2:Nat} {ra:Row} (hc:CR h c p0 p1 p2) (ha:h.rows A=some ra) (hl:ra.cells.length=3) (r:Row):CR (h.set A r) c p0 p1 p2:=by
 obtain⟨m0,m1,m2,i01,i2,hi,lo,h1,h2,h3,h4,h5⟩:=hc
 have hne:∀{i:Nat} {r:Row},h.rows i=some r→r.cells.length≠3→i≠A:=by
  rintro i r hr hlen rfl
  rw[ha] at hr
  injection hr with hr
  rw[←hr] at hlen
  exact hlen hl
 have hM:∀{i p:Nat},MW h i p→i≠A:=by
  rintro i p ⟨ng,h1,_⟩
  exact hne h1 (by simp)
 have hle:=H.lee_set (u:=A) (h:=h) r
 exact⟨m0,m1,m2,i01,i2,hi,lo,hle.2 _ _ (hne h1 (by simp)) h1,h2.monoE (hM h2) hle,h3.monoE (hM h3) hle,h4.monoE (hM h4) hle,h5⟩
theorem CR.pk {h:H} {c:Nat} (hc:CR h c (p3 0) (p3 1) (p3 2)):∀k,k<3→h.get c k=some (.int .u64 (p3 k:Nat)):=by
 obtain⟨m0,m1,m2,i01,i2,hi,lo,h1,_⟩:=hc
 intro k hk
 rw[H.get_of h1]
 match k,hk with
 |0,_=>rfl
 |1,_=>rfl
 |2,_=>rfl
theorem putAt_tri {ws:List (List Nat)} {k a b c:Nat} (hw:∀w∈ws,w.length=3):putAt (tri ws++List.replicate ((k+1)*3) (.int .u64 0)) (ws.length*3) [.int .u64 (a:Int), .int .u64 (b:Int), .int .u64 (c:Int)]=tri (ws++[[a,b,c]])++List.replicate (k*3) (.int .u64 0):=by
 have hl:(tri ws).length=ws.length*3:=by
  clear k a b c
  induction ws with
  |nil=>rfl
  |cons w ws ih=>
   have:=ih fun x hx=>hw x (by simp[hx])
   have h3:=hw w (by simp)
   simp only[tri,List.flatMap_cons,List.length_append,List.length_cons] at this⊢
   rw[this]
   simp[W,h3]
   omega
 unfold putAt
 rw[List.take_append_of_le_length (by omega),List.take_of_length_le (by omega),List.drop_append,List.drop_of_length_le (by simp;omega),hl]
 simp only[List.length_cons,List.length_nil,List.nil_append,List.drop_replicate,List.append_assoc,tri,List.flatMap_append,List.flatMap_cons,List.flatMap_nil,List.append_nil]
 rw[show(k+1)*3-(ws.length*3+(0+1+1+1)-ws.length*3)=k*3 by omega]
 simp[W]
theorem zs3 (n:Nat) (a:AV):zs [a,a,a] n=List.replicate (n*3) a:=by
 unfold zs
 simp only
 induction n with
 |zero=>rfl
 |succ n ih=>
  rw[List.replicate_succ,List.flatten_cons,ih,Nat.add_mul,Nat.one_mul,Nat.add_comm,←List.replicate_append_replicate]
  rfl
def OneOK (f:FuncId) (first caps:List AV) (h0:H) (u L n C:Nat) (tb:Tb) (tgt:Nat→Nat):Prop:=
 ∀(h1:H) (p T w v m nw dp:Nat) (K:AV→H→Prop),3≤p→h1.wf→H.lee u h0 h1→PL h1 T u p L w v→Tune h1 u m nw dp tb→
  (∀r zs h',h'.wf→H.lee u h1 h'→Tune h' u (m+C) nw dp tb→IsG h1.next h' r zs→n≤zs.length→(∀i,i<n→zs[i]? =some (tgt i%p))→K (.tup [r, .bool true]) h')→ACalls Tryz.prog f (first++[.ptr (some (T,0))]++caps) h1 K
section
variable {u m nw dp n size L C:Nat} {tb:Tb} {tgt:Nat→Nat} {f:FuncId} {first caps:List AV} {h:H} {K:AV→H→Prop}
theorem cjoined_calls (ht:Tune h u m nw dp tb) (hn:n≤size) (h1:1≤size) (h2:size≤1048576) (hL:lgOK size L) (hone:OneOK f first caps h u L n C tb tgt) (hB:∀i,i<n→tgt i<2^20*(18446744073709551616*18446744073709551616))
  (hk:∀r (ws:List (List Nat)) h',h'.wf→H.lee u h h'→Tune h' u (m+3*C+6*2^L) nw dp tb→IsC 3 h' r ws.length (tri ws)→(∀w∈ws,w.length=3)→(∀w∈ws,Dig w)→ws.map (val 18446744073709551616)=(List.range n).map tgt→K (.tup [r, .bool true]) h'):
  ACalls Tryz.prog 150 [.ptr (some (u,0)), .int .i64 (n:Int), .int .i64 (size:Int), .fn f first caps] h K:=by
 refine in_conv_joined (by simp) fun hw=> ?_
 unfold c_conv_joined
 have hul:=H.row_lt hw ht
 simp only[go_sem]
 refine begun_calls fun c g1 hw1 hl1 hcn hC=> ?_
 have hC:CR g1 c (p3 0) (p3 1) (p3 2):=hC
 simp only[go_sem]
 have hA:h.next≤g1.next:=hl1.1
 obtain⟨A,hAe⟩:∃A,A=g1.next:=⟨_,rfl⟩
 have hl2:=H.le_new hw1 (H.le_refl g1) ⟨some 228,3,[.sl none 0 0 none, .sl none 0 0 none, .sl none 0 0 none]⟩
 have hr2:=H.rows_new g1 ⟨some 228,3,[.sl none 0 0 none, .sl none 0 0 none, .sl none 0 0 none]⟩
 have hw2:=H.wf_new hw1 ⟨some 228,3,[.sl none 0 0 none, .sl none 0 0 none, .sl none 0 0 none]⟩
 simp only[List.length_cons,List.length_nil,Nat.zero_add,Nat.reduceAdd]
 rw[←hAe] at hr2⊢
 rw[←hAe] at hA
 generalize g1.new ⟨some 228,3,[.sl none 0 0 none, .sl none 0 0 none, .sl none 0 0 none]⟩=g2 at*
 have hAu:u≠A:=by omega
 refine loop_cut (fun ρ h'=>h'.wf∧H.lee u h h'∧Tune h' u (m+3*C) nw dp tb∧ρ 0= .ptr (some (u,0))∧ρ 1= .int .i64 (n:Int)∧ρ 2= .int .i64 (size:Int)∧ρ 10= .ptr (some (c,0))∧ρ 11= .ptr (some (A,0))∧CR h' c (p3 0) (p3 1) (p3 2)∧
  ∃cells,h'.rows A=some ⟨some 228,3,cells⟩∧cells.length=3∧∀i,i<3→∃v zs,cells[i]? =some v∧IsN h' v zs∧n≤zs.length∧∀j,j<n→zs[j]? =some (tgt j%p3 i)) ?_ ?_
 ·refine for_rule (fun k ρ h'=>k≤3∧h'.wf∧H.lee u h h'∧Tune h' u (m+k*C) nw dp tb∧ρ 0= .ptr (some (u,0))∧ρ 1= .int .i64 (n:Int)∧ρ 2= .int .i64 (size:Int)∧ρ 3= .fn f first caps∧ρ 10= .ptr (some (c,0))∧ρ 11= .ptr (some (A,0))∧ρ 20= .int .i64 (k:Int)∧CR h' c (p3 0) (p3 1) (p3 2)∧
   ∃cells,h'.rows A=some ⟨some 228,3,cells⟩∧cells.length=3∧∀i,i<k→∃v zs,cells[i]? =some v∧IsN h' v zs∧n≤zs.length∧∀j,j<n→zs[j]? =some (tgt j%p3 i)) 3
   ⟨by omega,hw2,(H.le_trans hl1 hl2).lee,by rw[Nat.zero_mul,Nat.add_zero];exact(ht.mono hl1).mono hl2,by first|rfl|trivial|assumption,by first|rfl|trivial|assumption,by first|rfl|trivial|assumption,by first|rfl|trivial|assumption,by first|rfl|trivial|assumption,by first|rfl|trivial|assumption,by first|rfl|trivial|assumption,hC.mono hl2,_,hr2,rfl,fun i hi=>absurd hi (by omega)⟩ (fun i ρ h hI=>hI.1) ?_
  rintro k ρ h3 ⟨hk3,hw3,hl3,ht3,q0,q1,q2,q3,q10,q11,q20,hC3,cells,hrA,hcl,hcs⟩
  rcases Nat.lt_or_ge k 3 with h5|h5
  ·have hpk:=hC3.pk k h5
   obtain⟨g,hP⟩:=p3_ok k h5
   simp only[go_sem,q0,q1,q2,q3,q10,q11,q20,show decide ((k:Int)<3)=true from decide_eq_true (by omega)]
   refine⟨by omega,by omega, ?_⟩
   simp only[go_sem,q0,q1,q2,q3,q10,q11,q20,Int.toNat_natCast,Nat.mul_one,Nat.zero_add,hpk]
   refine clog_calls h1 h2 fun L' hL'=> ?_
   obtain rfl:=lg_one hL hL'
   simp only[go_sem,q0,q1,q2,q3,q10,q11,q20,Int.toNat_natCast,Nat.mul_one,Nat.zero_add,hpk]
   refine⟨by simp, ?_⟩
   refine nttNew_calls hP hL.2.2 (H.row_lt hw3 ht3) fun T w v g4 hw4 hl4 hTn hPL=> ?_
   simp only[go_sem,q0,q1,q2,q3,q10,q11,q20,show((0:Int) !=0)=false from rfl]
   refine hone g4 (p3 k) T w v _ _ _ _ hP.1 hw4 (hl3.trans hl4.lee) hPL (ht3.mono hl4) fun r zs g5 hw5 hl5 ht5 hG hzl hzv=> ?_
   have hrA5:=hl5.2 A _ (by omega) (hl4.2 _ _ hrA)
   have hC5:=(hC3.mono hl4).monoU hw4 hl5 (ht3.mono hl4)
   simp only[go_sem,q0,q1,q2,q3,q10,q11,q20,Bool.not_true]
   refine⟨by omega,by omega, ?_⟩
   obtain⟨ix,cx,rfl⟩:=hG.form
   simp only[go_sem,hrA5,Int.toNat_natCast,Nat.mul_one,Nat.zero_add]
   refine⟨by simp,by omega, ?_⟩
   have hw6:=H.wf_set hw5 (H.row_lt hw5 hrA5) ⟨some 228,3,putAt cells k [AV.sl ix 0 zs.length cx]⟩
   have hl6:=H.lee_put hw ((hl3.trans hl4.lee).trans hl5) hA ⟨some 228,3,putAt cells k [AV.sl ix 0 zs.length cx]⟩
   have ht6:=ht5.put hAu ⟨some 228,3,putAt cells k [AV.sl ix 0 zs.length cx]⟩
   have hC6:=hC5.put hrA5 hcl ⟨some 228,3,putAt cells k [AV.sl ix 0 zs.length cx]⟩
   have hr6:=H.rows_set g5 A ⟨some 228,3,putAt cells k [AV.sl ix 0 zs.length cx]⟩
   have hv6:∀{v:AV} {xs:List Nat},IsN g5 v xs→IsN (g5.set A ⟨some 228,3,putAt cells k [AV.sl ix 0 zs.length cx]⟩) v xs:=fun hv=>hv.setP hrA5 (by simp) (by simp)
   generalize g5.set A ⟨some 228,3,putAt cells k [AV.sl ix 0 zs.length cx]⟩=g6 at*
   simp only[go_sem,q0,q1,q2,q3,q10,q11,q20,incI (i:=k) (by omega)]
   have hpl:(putAt cells k [AV.sl ix 0 zs.length cx]).length=3:=by rw[putAt_len (by simp;omega)];exact hcl
   refine⟨by omega,hw6,hl6,by rw[Nat.add_mul,Nat.one_mul,←Nat.add_assoc];exact ht6,by first|rfl|trivial|assumption,by first|rfl|trivial|assumption,by first|rfl|trivial|assumption,by first|rfl|trivial|assumption,by first|rfl|trivial|assumption,by first|rfl|trivial|assumption,by first|rfl|trivial|assumption,hC6,_,hr6,hpl,fun i hi=> ?_⟩
   rw[putAt_get (by simp;omega)]
   rcases Nat.lt_or_ge i k with h6|h6
   ·obtain⟨v',zs',e1,e2,e3,e4⟩:=hcs i h6
    rw[if_neg (by omega)]
    exact⟨v',zs',e1,hv6 ((e2.mono hl4).monoE (ht3.mono hl4) hl5),e3,e4⟩
   ·obtain rfl:i=k:=by omega
    rw[if_pos (by simp),Nat.sub_self]
    exact⟨_,zs,rfl,hv6 hG.isN,hzl,hzv⟩
  ·obtain rfl:k=3:=by omega
   simp only[go_sem,q0,q1,q2,q3,q10,q11,q20,show decide (((3:Nat):Int)<3)=false from rfl]
   exact⟨hw3,hl3,ht3,by first|rfl|trivial|assumption,by first|rfl|trivial|assumption,by first|rfl|trivial|assumption,by first|rfl|trivial|assumption,by first|rfl|trivial|assumption,hC3,cells,hrA,hcl,hcs⟩
 rintro ρ h3 ⟨hw3,hl3,ht3,q0,q1,q2,q10,q11,hC3,cells,hrA,hcl,hcs⟩
 simp only[go_sem,q0,q1,q2,q10,q11]
 refine clog_calls h1 h2 fun L' hL'=> ?_
 obtain rfl:=lg_one hL hL'
 have hLL:=hL.2.2
 have hpl:2^L≤2^20:=Nat.pow_le_pow_right (by decide) hLL
 have e2:IntKind.u64.wrap (L:Int)=(L:Int):=wUn (by omega)
 have e3:bShl .i64 6 L=((6*2^L:Nat):Int):=by
  unfold bShl
  rw[show IntKind.i64.bits=64 from rfl,Nat.min_eq_left (by omega)]
  have:((2:Int)^L)=((2^L:Nat):Int):=by simp
  rw[this]
  clear this
  generalize 2^L=N at*
  rw[wI]<;>omega
 simp only[go_sem,q0,q1,q2,q10,q11,e2,Int.toNat_natCast,e3]
 refine⟨by omega, ?_⟩
 refine Spend_calls ht3 fun g4 hw4 hl4 hn4 ht4=> ?_
 have hrA4:=hl4.2 A _ (by omega) hrA
 have hC4:=hC3.monoU hw3 hl4 ht3
 have hcs4:∀i,i<3→∃v zs,cells[i]? =some v∧IsN g4 v zs∧n≤zs.length∧∀j,j<n→zs[j]? =some (tgt j%p3 i):=fun i hi=>by
  obtain⟨v',zs',e1,e2,e3,e4⟩:=hcs i hi
  exact⟨v',zs',e1,e2.monoE ht3 hl4,e3,e4⟩
 simp only[go_sem,q0,q1,q2,q10,q11]
 refine⟨by omega,by omega,by omega, ?_⟩
 have z3:=zs3 n (.int .u64 0)
 have hG5:=IsCF.made (t:=223) (z:=3) (b:=g4.next) (h:=g4) (zero:=[AV.int .u64 0,AV.int .u64 0,AV.int .u64 0]) (Nat.le_refl _) rfl n
 rw[z3] at hG5
 have hl5:=H.le_new hw4 (H.le_refl g4) ⟨some 223,3,zs [AV.int .u64 0,AV.int .u64 0,AV.int .u64 0] n⟩
 have hw5:=H.wf_new hw4 ⟨some 223,3,zs [AV.int .u64 0,AV.int .u64 0,AV.int .u64 0] n⟩
 rw[z3] at hl5 hw5
 rw[z3]
 generalize g4.new ⟨some 223,3,List.replicate (n*3) (.int .u64 0)⟩=g5 at*
 refine loop_cut (fun ρ h'=>h'.wf∧g4.le h'∧ρ 17= .sl (some g4.next) 0 n (some n)∧∃ws:List (List Nat),IsCF 223 3 g4.next h' (.sl (some g4.next) 0 n (some n)) n (tri ws)∧ws.length=n∧(∀w∈ws,w.length=3)∧(∀w∈ws,Dig w)∧ws.map (val 18446744073709551616)=(List.range n).map tgt) ?_ ?_
 ·refine for_rule (fun i ρ h'=>i≤n∧h'.wf∧g4.le h'∧ρ 10= .ptr (some (c,0))∧ρ 11= .ptr (some (A,0))∧ρ 17= .sl (some g4.next) 0 n (some n)∧ρ 59= .int .i64 (n:Int)∧ρ 60= .int .i64 (i:Int)∧∃ws:List (List Nat),IsCF 223 3 g4.next h' (.sl (some g4.next) 0 n (some n)) n (tri ws++List.replicate ((n-i)*3) (.int .u64 0))∧ws.length=i∧(∀w∈ws,w.length=3)∧(∀w∈ws,Dig w)∧ws.map (val 18446744073709551616)=(List.range i).map tgt) n
   ⟨by omega,hw5,hl5,by first|rfl|trivial|assumption,by first|rfl|trivial|assumption,by first|rfl|trivial|assumption,by first|rfl|trivial|assumption,by first|rfl|trivial|assumption,[],by simpa [tri] using hG5,rfl,by simp,by simp,rfl⟩ (fun i ρ h hI=>hI.1) ?_
  rintro i ρ h6 ⟨hi,hw6,hl6,q10,q11,q17,q59,q60,ws,hG,hwl,hw3',hwd,hwv⟩
  rcases Nat.lt_or_ge i n with h7|h7
  ·have hrA6:=hl6.2 _ _ hrA4
   have hC6:=hC4.mono hl6
   obtain⟨v0,z0,a0,b0,c0,d0⟩:=hcs4 0 (by omega)
   obtain⟨v1,z1,a1,b1,c1,d1⟩:=hcs4 1 (by omega)
   obtain⟨v2,z2,a2,b2,c2,d2⟩:=hcs4 2 (by omega)
   have k0:h6.get A 0=some v0:=by rw[H.get_of hrA6];exact a0
   have k1:h6.get A 1=some v1:=by rw[H.get_of hrA6];exact a1
   have k2:h6.get A 2=some v2:=by rw[H.get_of hrA6];exact a2
   obtain⟨x0,o0,y0,rfl⟩:=b0.form
   obtain⟨x1,o1,y1,rfl⟩:=b1.form
   obtain⟨x2,o2,y2,rfl⟩:=b2.form
   obtain⟨j0,rfl,_,s0⟩:=(b0.mono hl6).at (j:=i) (by omega)
   obtain⟨j1,rfl,_,s1⟩:=(b1.mono hl6).at (j:=i) (by omega)
   obtain⟨j2,rfl,_,s2⟩:=(b2.mono hl6).at (j:=i) (by omega)
   have d0:=d0 i h7
   have d1:=d1 i h7
   have d2:=d2 i h7
   rw[List.getElem?_eq_getElem (by omega)] at d0 d1 d2
   injection d0 with d0
   injection d1 with d1
   injection d2 with d2
   rw[d0] at s0
   rw[d1] at s1
   rw[d2] at s2
   simp only[go_sem,q10,q11,q17,q59,q60,ltT h7,show(0:Int).toNat=0 from rfl,show(1:Int).toNat=1 from rfl,show(2:Int).toNat=2 from rfl]
   refine⟨by decide,by decide, ?_⟩
   simp only[go_sem,q10,q11,q17,q59,q60,k0,Nat.zero_mul,Nat.zero_add]
   refine⟨by omega,by omega, ?_⟩
   simp only[go_sem,q10,q11,q17,q59,q60,s0,Int.toNat_natCast,Nat.mul_one]
   refine⟨by decide,by decide, ?_⟩
   simp only[go_sem,q10,q11,q17,q59,q60,k1,show(1:Int).toNat=1 from rfl,Nat.one_mul,Nat.zero_add]
   refine⟨by omega,by omega, ?_⟩
   simp only[go_sem,q10,q11,q17,q59,q60,s1,Int.toNat_natCast,Nat.mul_one]
   refine⟨by decide,by decide, ?_⟩
   simp only[go_sem,q10,q11,q17,q59,q60,k2,show(2:Int).toNat=2 from rfl,Nat.mul_one,Nat.zero_add]
   refine⟨by omega,by omega, ?_⟩
   simp only[go_sem,q10,q11,q17,q59,q60,s2,Int.toNat_natCast,Nat.mul_one]
   refine three_calls hC6 (Nat.lt_trans (hB i h7) p3_mul) fun e0 e1 e2 he0 he1 he2 hev g7 hw7 hl7=> ?_
   simp only[go_sem,q10,q11,q17,q59,q60]
   refine⟨by omega,by omega, ?_⟩
   have hG7:=hG.mono hl7
   obtain⟨jj,rr,ej,hbj,hltj,hrj,hoj,_,hfj,hpj⟩:=hG7.put hw7 (k:=i*3) (w:=3) (by omega) (by omega)
   injection ej with ej
   subst ej
   simp only[go_sem,hrj,Int.toNat_natCast,Nat.zero_add]
   simp only[AV.held,AV.cells,List.all_cons,List.all_nil,AV.one,Bool.and_true,List.length_cons,List.length_nil,Nat.zero_add,Nat.reduceAdd,true_and]
   refine⟨hoj,by omega, ?_⟩
   have hpj:=hpj [.int .u64 (e0:Int), .int .u64 (e1:Int), .int .u64 (e2:Int)] rfl
   have hpt:=putAt_tri (k:=n-(i+1)) (a:=e0) (b:=e1) (c:=e2) hw3'
   rw[show n-(i+1)+1=n-i by omega,hwl] at hpt
   rw[hpt] at hpj
   have hw8:=H.wf_set hw7 hltj {rr with cells:=putAt rr.cells (i*3) [.int .u64 (e0:Int), .int .u64 (e1:Int), .int .u64 (e2:Int)]}
   have hl8:=H.le_set hw4 (H.le_trans hl6 hl7) (Nat.le_refl _) {rr with cells:=putAt rr.cells (i*3) [.int .u64 (e0:Int), .int .u64 (e1:Int), .int .u64 (e2:Int)]}
   generalize g7.set g4.next {rr with cells:=putAt rr.cells (i*3) [.int .u64 (e0:Int), .int .u64 (e1:Int), .int .u64 (e2:Int)]}=g8 at*
   simp only[go_sem,q10,q11,q17,q59,q60,incI (i:=i) (by omega)]
   refine⟨by omega,hw8,hl8,by first|rfl|trivial|assumption,by first|rfl|trivial|assumption,by first|rfl|trivial|assumption,by first|rfl|trivial|assumption,by first|rfl|trivial|assumption,_,hpj,by simp[hwl],fun w hw=> ?_,fun w hw=> ?_, ?_⟩
   ·rcases List.mem_append.1 hw with hw|hw
    ·exact hw3' w hw
    ·simp at hw;subst hw;rfl
   ·rcases List.mem_append.1 hw with hw|hw
    ·exact hwd w hw
    ·simp at hw;subst hw
     intro x hx
     simp at hx
     omega
   ·rw[List.map_append,hwv]
    simp[List.range_succ,hev]
  ·obtain rfl:i=n:=by omega
   rw[Nat.sub_self,Nat.zero_mul,List.replicate_zero,List.append_nil] at hG
   simp only[go_sem,q10,q11,q17,q59,q60,ltF h7]
   exact⟨hw6,hl6,by first|rfl|trivial|assumption,ws,hG,hwl,hw3',hwd,hwv⟩
 ·rintro ρ h6 ⟨hw6,hl6,q17,ws,hG,hwl,hw3',hwd,hwv⟩
  simp only[go_sem,q17]
  refine fun hw'=>hk _ ws h6 hw' (hl3.trans (hl4.trans hl6.lee)) (ht4.mono hl6) ?_ hw3' hwd hwv
  rw[hwl]
  exact hG.isC
end
end
section
theorem cvL_bound {xs ys:List Nat} (hx:Dig xs) (hy:Dig ys) (hl:xs.length≤1048575) (i:Nat):(cvL xs ys).getD i 0<2^20*(18446744073709551616*18446744073709551616):=by
 have h1:∀z∈cvL xs ys,z≤xs.length*(18446744073709551616*18446744073709551616):=cvL_le fun x hx' y hy'=>Nat.mul_le_mul (Nat.le_of_lt (hx x hx')) (Nat.le_of_lt (hy y hy'))
 have h2:xs.length*(18446744073709551616*18446744073709551616)≤1048575*(18446744073709551616*18446744073709551616):=Nat.mul_le_mul_right _ hl
 rcases Nat.lt_or_ge i (cvL xs ys).length with h|h
 ·have:=h1 _ (List.getElem_mem h)
  rw[List.getD_eq_getElem?_getD,List.getElem?_eq_getElem h,Option.getD_some]
  omega
 ·rw[List.getD_eq_getElem?_getD,List.getElem?_eq_none h,Option.getD_none]
  decide
theorem map_getD {l:List Nat} {n:Nat} (h:l.length=n):(List.range n).map (fun i=>l.getD i 0)=l:=by
 subst h
 apply List.ext_getElem (by simp)
 intro i h1 h2
 simp[List.getD_eq_getElem?_getD,List.getElem?_eq_getElem h2]
section
variable {u m nw dp L:Nat} {tb:Tb} {va vb:AV} {xs ys:List Nat} {h:H} {K:AV→H→Prop}
theorem Words_calls (ht:Tune h u m nw dp tb) (ha:IsN h va xs) (hb:IsN h vb ys) (hxd:Dig xs) (hyd:Dig ys) (hx:0<xs.length) (hy:0<ys.length) (hxy:xs.length+ys.length≤1048576) (hL:lgOK (xs.length+ys.length) L)
  (hk:∀r (ws:List (List Nat)) h',h'.wf→H.lee u h h'→Tune h' u (m+3*convCost L+6*2^L) nw dp tb→IsC 3 h' r ws.length (tri ws)→(∀w∈ws,w.length=3)→(∀w∈ws,Dig w)→ws.map (val 18446744073709551616)=cvL xs ys→K (.tup [r, .bool true]) h'):
  ACalls Tryz.prog 132 [.ptr (some (u,0)),va,vb] h K:=by
 obtain⟨ia,oa,ca,rfl⟩:=ha.form
 obtain⟨ib,ob,cb,rfl⟩:=hb.form
 refine in_conv_Words (by simp) fun hw=> ?_
 unfold c_conv_Words
 have hul:=H.row_lt hw ht
 simp only[go_sem]
 refine⟨rfl,rfl, ?_⟩
 simp only[AV.cells,List.length_cons,List.length_nil,Nat.zero_add]
 have hl1:=H.le_new hw (H.le_refl h) ⟨some 36,1,[AV.sl ia oa xs.length ca]⟩
 have hw1:=H.wf_new hw ⟨some 36,1,[AV.sl ia oa xs.length ca]⟩
 have hr1:=H.rows_new h ⟨some 36,1,[AV.sl ia oa xs.length ca]⟩
 have hn1:(h.new ⟨some 36,1,[AV.sl ia oa xs.length ca]⟩).next=h.next+1:=rfl
 generalize h.new ⟨some 36,1,[AV.sl ia oa xs.length ca]⟩=h1 at*
 have hl2:=H.le_new hw1 (H.le_refl h1) ⟨some 36,1,[AV.sl ib ob ys.length cb]⟩
 have hw2:=H.wf_new hw1 ⟨some 36,1,[AV.sl ib ob ys.length cb]⟩
 have hr2:=H.rows_new h1 ⟨some 36,1,[AV.sl ib ob ys.length cb]⟩
 generalize h1.new ⟨some 36,1,[AV.sl ib ob ys.length cb]⟩=h2 at*
 rw[hn1] at hr2⊢
 have hr1':=hl2.2 _ _ hr1
 have g1:h2.get h.next 0=some (.sl ia oa xs.length ca):=by rw[H.get_of hr1'];rfl
 have g2:h2.get (h.next+1) 0=some (.sl ib ob ys.length cb):=by rw[H.get_of hr2];rfl
 simp only[go_sem,g1,g2]
 refine cmay_calls ?_ (by omega) (by omega)
 rw[decide_eq_true ⟨hx,hy,hxy⟩]
 have a1:=addI (a:=xs.length) (b:=ys.length) (by omega)
 have a2:IntKind.i64.wrap (((xs.length+ys.length:Nat):Int)-1)=((xs.length+ys.length-1:Nat):Int):=by rw[wI]<;>omega
 simp only[go_sem,Bool.not_true,g1,g2,a1,a2]
 have hl02:=H.le_trans hl1 hl2
 refine cjoined_calls (C:=convCost L) (tgt:=fun i=>(cvL xs ys).getD i 0) (ht.mono hl02) (by omega) (by omega) hxy hL ?_ (fun i _=>cvL_bound hxd hyd (by omega) i) fun r ws h3 hw3 hl3 ht3 hr hw3' hwd hwv=> ?_
 ·intro g1' p T w v m' nw' dp' K' hp hg1 hlg hPL ht' hk'
  have:NeZero p:=⟨by omega⟩
  refine in_conv_Words_1 (by simp) fun hw=> ?_
  unfold c_conv_Words_1
  have k1:g1'.get h.next 0=some (.sl ia oa xs.length ca):=by rw[H.get_of (hlg.2 _ _ (by omega) hr1')];rfl
  have k2:g1'.get (h.next+1) 0=some (.sl ib ob ys.length cb):=by rw[H.get_of (hlg.2 _ _ (by omega) hr2)];rfl
  simp only[go_sem,k1,k2]
  have hpw:=hL.1
  refine plConv_calls hPL ht' ((ha.mono hl02).monoE (ht.mono hl02) hlg) ((hb.mono hl02).monoE (ht.mono hl02) hlg) hx hy (by omega) fun r zs h' hw' hl' ht'' hG hzl hzv=> ?_
  simp only[go_sem]
  exact fun hw''=>hk' r zs h' hw'' hl' ht'' hG (by omega) hzv
 ·simp only[go_sem]
  rw[map_getD (cvL_len hy hx)] at hwv
  exact fun hw'=>hk r ws h3 hw' (hl02.lee.trans hl3) ht3 hr hw3' hwd hwv
theorem cMul_calls (ht:Tune h u m nw dp tb) (ha:IsN h va xs) (hb:IsN h vb ys) (hxd:Dig xs) (hyd:Dig ys) (hx:0<xs.length) (hy:0<ys.length) (hxy:xs.length+ys.length≤1048576) (hL:lgOK (xs.length+ys.length) L)
  (hk:∀r h',h'.wf→H.lee u h h'→Tune h' u (m+3*convCost L+6*2^L) nw dp tb→Nf h.next h' r (val 18446744073709551616 xs*val 18446744073709551616 ys)→K (.tup [r, .bool true]) h'):
  ACalls Tryz.prog 116 [.ptr (some (u,0)),va,vb] h K:=by
 refine in_conv_Mul (by simp) fun hw=> ?_
 unfold c_conv_Mul
 simp only[go_sem]
 refine Words_calls ht ha hb hxd hyd hx hy hxy hL fun r ws h1 hw1 hl1 ht1 hr hw3 hwd hwv=> ?_
 have hwl:ws.length=xs.length+ys.length-1:=by rw[←cvL_len hy hx,←hwv,List.length_map]
 simp only[go_sem,Bool.not_true]
 refine Carry_calls hr hw3 hwd (by omega) fun q h2 hw2 hl2 hq=> ?_
 rw[hwv,cvL_val] at hq
 simp only[go_sem]
 exact fun hw'=>hk q h2 hw' (hl1.trans hl2.lee) (ht1.mono hl2) (hq.base hl1.1)
end
end
section
theorem val_chunks {B M:Nat}:∀(k:Nat) (xs:List Nat),xs.length≤k*M→val (B^M) ((List.range k).map fun j=>val B ((xs.drop (j*M)).take M))=val B xs
 |0,xs,h=>by
  have:xs=[]:=List.eq_nil_of_length_eq_zero (by omega)
  subst this
  rfl
 |k+1,xs,h=>by
  rw[Nat.add_mul,Nat.one_mul] at h
  have ih:=val_chunks (B:=B) (M:=M) k (xs.drop M) (by simp;omega)
  rw[List.range_succ_eq_map,List.map_cons,List.map_map]
  simp only[val,Nat.zero_mul,List.drop_zero]
  have e:((List.range k).map ((fun j=>val B ((xs.drop (j*M)).take M)) ∘ Nat.succ))=(List.range k).map fun j=>val B (((xs.drop M).drop (j*M)).take M):=by
   apply List.map_congr_left
   intro j _
   show val B ((xs.drop ((j+1)*M)).take M)=_
   rw[List.drop_drop,Nat.add_mul,Nat.one_mul,Nat.add_comm]
  rw[e,ih]
  rcases Nat.lt_or_ge xs.length M with h1|h1
  ·rw[List.take_of_length_le (by omega),List.drop_of_length_le (by omega)]
   simp[val]
  ·exact(val_cut B xs M h1).symm
theorem val_scale {B y:Nat}:∀xs:List Nat,val B (xs.map (· *y))=val B xs*y
 |[]=>by simp[val]
 |x::xs=>by
  simp only[List.map_cons,val,val_scale xs,Nat.add_mul,Nat.mul_assoc]
def NfB (b:Nat) (h:H) (l:List AV) (x:Nat):Prop:=∃v,l=[v]∧Nf b h v x∧Big x
theorem NfB.grows {b:Nat}:Grows (NfB b):=by
 rintro h h' c x ⟨v,e,h1,h2⟩ hl
 exact⟨v,e,h1.mono hl,h2⟩
theorem NfB.nn {b:Nat} {h:H} {c:List AV} {x:Nat} (hx:NfB b h c x):NnL h c x:=by
 obtain⟨v,e,h1,h2⟩:=hx
 exact⟨v,e,h1.nn h2⟩
theorem NfB.big {b:Nat} {h:H} {v:AV} {xs:List Nat} (hv:IsA 1 (NfB b) h v xs):∀x∈xs,Big x:=by
 obtain⟨cs,_,h2⟩:=hv
 intro x hx
 obtain⟨i,hi,rfl⟩:=List.getElem_of_mem hx
 obtain⟨v,_,_,h3⟩:=h2.2 i _ (List.getElem?_eq_getElem hi)
 exact h3
theorem IsA.imp {α:Type} {z:Nat} {R R':H→List AV→α→Prop} {h:H} {v:AV} {xs:List α} (hv:IsA z R h v xs) (hr:∀c x,R h c x→R' h c x):IsA z R' h v xs:=by
 obtain⟨cs,h1,h2⟩:=hv
 exact⟨cs,h1,h2.mono hr⟩
section
variable {e u m0 nw dp a b x y N top:Nat} {t:Tb} {va vb:AV} {C L:Nat→Nat→Nat} {h:H} {K:AV→H→Prop}
theorem pieces_calls (he:Eng 4 h e u) (ht:Tune h u m0 nw dp t) (nv:Wn h va a x) (nu:Wn h vb b y) (ha:0<a) (hb:0<b) (ha2:a≤16384) (hb2:b≤16384)
  (hin:InOK 82 [.ptr (some (e,0))] [] h u t N top C L) (hN:min a b≤N) (D:Nat) (hD:∀p,p≤min a b→L p (min a b)≤D) (htop:nw+D≤top)
  (hk:∀r h' m' dp',h'.wf→H.lee u h h'→Tune h' u m' nw dp' t→Sp m0 dp m' dp' nw (max a b/min a b*C (min a b) (min a b)+C (max a b%min a b) (min a b)) D→Nf h.next h' r (x*y)→K r h'):
  ACalls Tryz.prog 112 [.ptr (some (e,0)),va,vb, .int .i64 ((min a b:Nat):Int)] h K:=by
 refine in_mul_Engine_pieces (by simp) fun hw=> ?_
 unfold c_mul_Engine_pieces
 obtain⟨ida,offa,ca,rfl⟩:=nv.form
 obtain⟨idb,offb,cb,rfl⟩:=nu.form
 have hul:=H.row_lt hw ht
 simp only[go_sem]
 refine cond_cut (fun ρ' h2=>h2=h∧ρ' 0= .ptr (some (e,0))∧ρ' 3= .int .i64 ((min a b:Nat):Int)∧∃v1 v2 x1 y1,ρ' 1=v1∧ρ' 2=v2∧Wn h v1 (max a b) x1∧Wn h v2 (min a b) y1∧x1*y1=x*y) ?_ ?_
 ·rcases Nat.lt_or_ge a b with h1|h1
  ·simp only[go_sem,ltT h1]
   refine⟨trivial,trivial,trivial,_,_,y,x,rfl,rfl, ?_, ?_,Nat.mul_comm _ _⟩
   ·rw[Nat.max_eq_right (by omega)];exact nu
   ·rw[Nat.min_eq_left (by omega)];exact nv
  ·simp only[go_sem,ltF h1]
   refine⟨trivial,trivial,trivial,_,_,x,y,rfl,rfl, ?_, ?_,rfl⟩
   ·rw[Nat.max_eq_left (by omega)];exact nv
   ·rw[Nat.min_eq_right (by omega)];exact nu
 rintro ρ h0 ⟨rfl,q0,q3,v1,v2,x1,y1,q1,q2,nv,nu,hxy⟩
 rw[←hxy] at hk
 have hmn:min a b≤max a b:=by omega
 have hmx:max a b≤16384:=by omega
 have hm0:0<min a b:=by omega
 clear hxy
 generalize max a b=n at*
 generalize min a b=M at*
 obtain⟨xs,hv,hxd,hxl,rfl⟩:=nv
 obtain⟨ida,offa,ca,rfl⟩:=hv.form
 obtain⟨idb,offb,cb,rfl⟩:=nu.form
 rw[hxl] at q1 hv
 have hdm:=Nat.div_add_mod n M
 have hmod:=Nat.mod_lt n hm0
 obtain⟨k,hkk⟩:∃k,k=n/M:=⟨_,rfl⟩
 obtain⟨rest,hrr⟩:∃rest,rest=n%M:=⟨_,rfl⟩
 rw[←hkk,←hrr] at hdm hk
 rw[←hrr] at hmod
 have hkn:k≤n:=by rw[hkk];exact Nat.div_le_self _ _
 have hy1:=nu.lt
 have fit:∀i,i≤k+1→i*M≤40000:=fun i hi=>by
  have:=Nat.mul_le_mul_right M hi
  rw[Nat.add_mul,Nat.one_mul,Nat.mul_comm k M] at this
  omega
 have full:∀i,i≤k→i*M≤n:=fun i hi=>by
  have:=Nat.mul_le_mul_right M hi
  rw[Nat.mul_comm k M] at this
  omega
 simp only[go_sem,q0,q1,q2,q3]
 refine loop_cut (fun ρ h'=>h'.wf∧H.lee u h0 h'∧(∃m dp',Tune h' u m nw dp' t∧Sp m0 dp m dp' nw (k*C M M+C rest M) D)∧ρ 3= .int .i64 (M:Int)∧∃ps,IsA 1 (NfB h0.next) h' (ρ 9) ps∧ps.length≤40000∧val (18446744073709551616^M) ps=val 18446744073709551616 xs*y1) ?_ ?_
 ·refine for_rule (fun i ρ h'=>i≤k+1∧h'.wf∧H.lee u h0 h'∧(∃m dp',Tune h' u m nw dp' t∧Sp m0 dp m dp' nw (min i k*C M M+if i≤k then 0 else C rest M) D)∧ρ 0= .ptr (some (e,0))∧ρ 1= .sl ida offa n ca∧ρ 2= .sl idb offb M cb∧ρ 3= .int .i64 (M:Int)∧ρ 10= .int .i64 ((i*M:Nat):Int)∧
   Live 37 1 h0.next (NfB h0.next) h' (ρ 9) ((List.range i).map fun j=>val 18446744073709551616 ((xs.drop (j*M)).take M)*y1)) (k+1)
   ⟨by omega,hw,H.lee_refl _ _,⟨_,_,ht,by simpa using Sp.refl m0 dp nw 0 D⟩,q0,q1,q2,q3,by simp;rfl,Live.nil _ _ _ _ _ _⟩ (fun i ρ h hI=>hI.1) ?_
  rintro i ρ h2 ⟨hi,hw2,hle,⟨m,dp',ht2,hsp⟩,q0,q1,q2,q3,q10,hs⟩
  have hf:=fit i hi
  have hlen:((List.range i).map fun j=>val 18446744073709551616 ((xs.drop (j*M)).take M)*y1).length=i:=by simp
  rcases Nat.lt_or_ge (i*M) n with h1|h1
  ·have hik:i≤k:=by
    rcases Nat.lt_or_ge k i with h|h
    ·have:=Nat.mul_le_mul_right M (show k+1≤i from h)
     rw[Nat.add_mul,Nat.one_mul,Nat.mul_comm k M] at this
     omega
    ·exact h
   have a1:=addI (a:=i*M) (b:=M) (by omega)
   obtain⟨io,co,q9⟩:=hs.form
   rw[hlen] at q9
   rw[q9] at hs
   have hv2:=hv.monoE ht hle
   have hcut:=hv2.cut (c':=ca.map (· -i*M)) (a:=i*M) (b:=min n (i*M+M)) (by omega) (by omega)
   simp only[go_sem,q0,q1,q2,q3,q9,q10,ltT h1,a1,minN]
   refine⟨by omega,by omega,by omega, .inl (by omega),hv2.row, ?_⟩
   have ep:(xs.take (min n (i*M+M))).drop (i*M)=(xs.drop (i*M)).take M:=by
    apply List.ext_getElem?
    intro j
    rw[List.getElem?_drop,List.getElem?_take,List.getElem?_take,List.getElem?_drop]
    by_cases hj:j<M
    ·rw[if_pos hj]
     split
     ·rfl
     ·rw[List.getElem?_eq_none (by omega)]
    ·rw[if_neg hj,if_neg (by omega)]
   rw[ep] at hcut
   have hpd:Dig ((xs.drop (i*M)).take M):=fun z hz=>hxd z (List.mem_of_mem_drop (List.mem_of_mem_take hz))
   have hpl:((xs.drop (i*M)).take M).length=if i=k then rest else M:=by
    simp only[List.length_take,List.length_drop,hxl]
    split
    ·rename_i hik'
     subst hik'
     rw[Nat.mul_comm i M] at h1⊢
     omega
    ·have:=full (i+1) (by omega)
     rw[Nat.add_mul,Nat.one_mul] at this
     omega
   generalize hz:(xs.drop (i*M)).take M=zs at*
   have hpl2:zs.length≤M:=by rw[hpl];split<;>omega
   have hpv:=val_lt 18446744073709551616 (by omega) zs hpd
   have hpm:min n (i*M+M)-i*M=zs.length:=by
    rw[hpl]
    split
    ·rename_i hik'
     subst hik'
     rw[Nat.mul_comm i M] at h1⊢
     omega
    ·have:=full (i+1) (by omega)
     rw[Nat.add_mul,Nat.one_mul] at this
     omega
   rw[hpm] at hcut
   simp only[go_sem,Int.toNat_natCast,Nat.mul_one,hpm]
   refine app_num (a:=h2) (xs:=[]) hw2 hw2 (H.le_refl _) (IsF.nil _ _ _ _ _) hcut (by simp;omega) fun v3 h3 hw3 hl3 hs3=> ?_
   have hle3:=hle.trans hl3.lee
   have ht3:=ht2.mono hl3
   simp only[go_sem,q0,q1,q2,q3,q9,q10]
   refine hin h3 m nw dp' zs.length M (val 18446744073709551616 zs) y1 _ _ _ hle3 ht3 ⟨zs,hs3.isN,hpd,rfl,rfl⟩ (nu.monoE ht hle3) (by omega) hN (by have:=hD _ hpl2;omega) fun r h4 m4 dp4 hw4 hl4 ht4 hsp4 hr=> ?_
   have hiol:=hs.io_lt hw2
   have hs4:=(hs.mono NfB.grows hl3).monoE (fun⟨v,e,hx,hb⟩ hl=>⟨v,e,hx.monoE hul hl,hb⟩) hul hl4
   have hr1:r.one=true:=by
    obtain⟨rs,hr,_⟩:=hr
    obtain⟨x1,x2,rfl⟩:=hr.form
    rfl
   have hle4:=hle3.trans hl4
   have hbig:Big (val 18446744073709551616 zs*y1):=by
    have h5:val 18446744073709551616 zs*y1<18446744073709551616^zs.length*18446744073709551616^M:=Nat.mul_lt_mul_of_lt_of_le hpv (Nat.le_of_lt hy1) (Nat.pow_pos (by omega))
    rw[←Nat.pow_add] at h5
    exact lt_bigW h5 (by omega)
   simp only[go_sem,q0,q1,q2,q3,q9,q10,k_lit1 hr1]
   refine Live.app (a:=h4.upto h0.next) NfB.grows (by omega) (H.upto_wf _ _) hw4 (H.upto_le hle4.1) (by rw[H.upto_next];exact hs4) hlen.symm (y:=val 18446744073709551616 zs*y1) ⟨r,rfl,(hr.del fun j hj=>by have:=hiol j hj;have:=hl3.1;omega).base hle3.1,hbig⟩ rfl (by simp[hr1]) (by omega) (by omega) rfl fun v5 h5 hw5 hle5 hs5=> ?_
   rw[H.upto_next] at hs5
   simp only[go_sem,q0,q1,q2,q3,q9,q10,a1]
   refine⟨by omega,hw5,lee_upto hw hle4 hle5,⟨_,_,ht4.upto hul hle5, ?_⟩,by first|rfl|trivial|assumption,by first|rfl|trivial|assumption,by first|rfl|trivial|assumption,by first|rfl|trivial|assumption,by rw[Nat.add_mul,Nat.one_mul], ?_⟩
   ·refine(hsp.trans hsp4).le ?_ (by have:=hD _ hpl2;omega)
    rw[hpl]
    rcases Nat.lt_or_ge i k with h6|h6
    ·rw[if_neg (show¬i=k by omega),if_pos (show i≤k by omega),if_pos (show i+1≤k by omega),Nat.min_eq_left (show i≤k by omega),Nat.min_eq_left (show i+1≤k by omega),Nat.add_mul,Nat.one_mul]
     omega
    ·obtain rfl:i=k:=by omega
     rw[if_pos rfl,if_pos (Nat.le_refl i),if_neg (show¬i+1≤i by omega),Nat.min_self,Nat.min_eq_right (show i≤i+1 by omega)]
     omega
   ·rw[←hz] at hs5
    simpa [List.range_succ] using hs5
  ·simp only[go_sem,q0,q1,q2,q3,q10,ltF h1]
   have hsA:=hs.isA NfB.grows
   refine⟨hw2,hle,⟨m,dp',ht2,hsp.le ?_ (Nat.le_refl _)⟩,by first|rfl|trivial|assumption,_,hsA,by rw[hlen];omega, ?_⟩
   ·have:=Nat.mul_le_mul_right (C M M) (Nat.min_le_right i k)
    split<;>omega
   ·have e1:((List.range i).map fun j=>val 18446744073709551616 ((xs.drop (j*M)).take M)*y1)=((List.range i).map fun j=>val 18446744073709551616 ((xs.drop (j*M)).take M)).map (· *y1):=by rw[List.map_map];rfl
    rw[e1,val_scale,val_chunks _ _ (by omega)]
 ·rintro ρ h2 ⟨hw2,hle,⟨m,dp',ht2,hsp⟩,q3,ps,hA,hpl,hval⟩
  simp only[go_sem,q3]
  refine Join_calls (xs:=ps) (by omega) (hA.imp fun c x hx=>hx.nn) (NfB.big hA) (by omega) fun r h3 hw3 hl3 hr=> ?_
  rw[hval] at hr
  simp only[go_sem]
  exact fun hw'=>hk r h3 m dp' hw' (hle.trans hl3.lee) (ht2.mono hl3) hsp (hr.base hle.1)
theorem block_calls (he:Eng 4 h e u) (ht:Tune h u m0 nw dp t) (nv:Wn h va a x) (nu:Wn h vb b y) (ha:0<a) (hb:0<b) (ha2:a≤16384) (hb2:b≤16384) (hnw:nw≤1000000000)
  (hin:InOK 82 [.ptr (some (e,0))] [] h u t N top C L) (hN:min a b≤N) (D:Nat) (hD:∀p,p≤min a b→L p (min a b)≤D) (htop:nw+1+D≤top)
  (hk:∀r h' m' dp',h'.wf→H.lee u h h'→Tune h' u m' nw dp' t→Sp m0 dp m' dp' nw (max a b/min a b*C (min a b) (min a b)+C (max a b%min a b) (min a b)) (D+1)→Nf h.next h' r (x*y)→K r h'):
  ACalls Tryz.prog 113 [.ptr (some (e,0)),va,vb] h K:=by
 refine in_mul_Engine_block (by simp) fun hw=> ?_
 unfold c_mul_Engine_block
 obtain⟨ida,offa,ca,rfl⟩:=nv.form
 obtain⟨idb,offb,cb,rfl⟩:=nu.form
 obtain⟨e1,he1,G1⟩:=he.open ht
 obtain⟨e2,he2,G2⟩:=he1.open ht
 obtain⟨e3,he3,G3⟩:=he2.open ht
 obtain⟨e4,he4,G4⟩:=he3.open ht
 obtain rfl:e4=u:=he4
 have g1:=G1 h (H.lee_refl _ _)
 have g2:=G2 h (H.lee_refl _ _)
 have g3:=G3 h (H.lee_refl _ _)
 have g4:=G4 h (H.lee_refl _ _)
 have hul:=H.row_lt hw ht
 simp only[go_sem,g1,g2,g3,g4]
 refine Enter_calls ht (by omega) fun _ h1 hw1 hl1 hn1 ht1=> ?_
 simp only[go_sem,minN]
 have hin1:InOK 82 [.ptr (some (e,0))] [] h1 e4 t N top C L:=fun g m0 nw dp n m x y va vb K hl=>hin g m0 nw dp n m x y va vb K (hl1.trans hl)
 refine pieces_calls (he.monoE ht hl1) ht1 (nv.monoE ht hl1) (nu.monoE ht hl1) ha hb ha2 hb2 hin1 hN D hD htop fun r h2 m2 dp2 hw2 hl2 ht2 hsp hr=> ?_
 have hl02:=hl1.trans hl2
 simp only[go_sem,G1 _ hl02,G2 _ hl02,G3 _ hl02,G4 _ hl02]
 refine Leave_calls ht2 (by omega) fun _ h3 hw3 hl3 hn3 ht3=> ?_
 simp only[go_sem]
 exact fun hw'=>hk r h3 _ _ hw' (hl02.trans hl3) ht3 hsp.deep ((hr.base hl1.1).monoE hul hl3)
end
end
section
def lev (n:Nat):Nat:=if h:n<4 then 0 else lev ((n+1)/2+1)+1
termination_by n
decreasing_by omega
theorem lev_small {n:Nat} (h:n<4):lev n=0:=by rw[lev,dif_pos h]
theorem lev_big {n:Nat} (h:4≤n):lev n=lev ((n+1)/2+1)+1:=by rw[lev,dif_neg (by omega)]
theorem lev_mono:∀m n:Nat,n≤m→lev n≤lev m:=by
 intro m
 induction m using Nat.strongRecOn with
 |_ m ih=>
  intro n hn
  rcases Nat.lt_or_ge n 4 with h|h
  ·rw[lev_small h];omega
  ·rw[lev_big h,lev_big (n:=m) (by omega)]
   have:=ih ((m+1)/2+1) (by omega) ((n+1)/2+1) (by omega)
   omega
theorem lev_le:∀n:Nat,lev n≤n:=by
 intro n
 induction n using Nat.strongRecOn with
 |_ n ih=>
  rcases Nat.lt_or_ge n 4 with h|h
  ·rw[lev_small h];omega
  ·rw[lev_big h]
   have:=ih ((n+1)/2+1) (by omega)
   omega
def lev2 (n m:Nat):Nat:=lev (max n m)
theorem costT_at {t:Tb} {n m f:Nat} (hm:m≤n) (hf:n<f) (hn:n<20000):costF (clampT t).base.toNat (clampT t).toom.toNat (clampT t).ntt.toNat f n m=costT t n m:=by
 unfold costT
 rw[Nat.max_eq_left hm,Nat.min_eq_right hm]
 exact cost_same (clamp_isT t).ok hm hf hn
theorem costT_succ {t:Tb} {n m:Nat} (hm:m≤n):costT t n m=costF (clampT t).base.toNat (clampT t).toom.toNat (clampT t).ntt.toNat (19999+1) n m:=by
 unfold costT
 rw[Nat.max_eq_left hm,Nat.min_eq_right hm]
theorem routeT_at {t:Tb} {n m:Nat} (hm:m≤n) (hn:n≤16384):routeT t n m=routeF (clampT t).base.toNat (clampT t).toom.toNat (clampT t).ntt.toNat n m:=by
 rw[routeT_nat hn (by omega),Nat.max_eq_left hm,Nat.min_eq_right hm]
theorem costT_2 {t:Tb} {n m:Nat} (hm:m≤n) (hn:n≤16384) (h0:0<m) (e:routeT t n m=2):costT t n m=n/m*costT t m m+costT t (n%m) m:=by
 rw[routeT_at hm hn] at e
 have hlt:=Nat.mod_lt n h0
 rw[costT_succ hm,cost_2 e,costT_at (Nat.le_refl m) (by omega) (by omega),costT_at (Nat.le_of_lt hlt) (by omega) (by omega),costT_comm (n:=m) (m:=n%m)]
theorem costT_3 {t:Tb} {n m:Nat} (hm:m≤n) (hn:n≤16384) (h4:4≤m) (e:routeT t n m=3):costT t n m=costT t ((n+1)/2) ((n+1)/2)+costT t (n-(n+1)/2) (m-(n+1)/2)+costT t ((n+1)/2+1) ((n+1)/2+1):=by
 rw[routeT_at hm hn] at e
 rw[costT_succ hm,cost_3 e,costT_at (Nat.le_refl ((n+1)/2)) (by omega) (by omega),costT_at (show m-(n+1)/2≤n-(n+1)/2 by omega) (by omega) (by omega),costT_at (Nat.le_refl ((n+1)/2+1)) (by omega) (by omega)]
theorem costT_4 {t:Tb} {n m:Nat} (hm:m≤n) (hn:n≤16384) (h4:4≤m) (e:routeT t n m=4):costT t n m=costT t ((n+2)/3) ((n+2)/3)+3*costT t ((n+2)/3+1) ((n+2)/3+1)+costT t (n-2*((n+2)/3)) (m-2*((n+2)/3)):=by
 rw[routeT_at hm hn] at e
 rw[costT_succ hm,cost_4 e,costT_at (Nat.le_refl ((n+2)/3)) (by omega) (by omega),costT_at (show m-2*((n+2)/3)≤n-2*((n+2)/3) by omega) (by omega) (by omega),costT_at (Nat.le_refl ((n+2)/3+1)) (by omega) (by omega)]
theorem costT_1 {t:Tb} {n m:Nat} (hm:m≤n) (hn:n≤16384) (e:routeT t n m=1):costT t n m=n*m:=by
 rw[routeT_at hm hn] at e
 rw[costT_succ hm,cost_1 e]
theorem costT_5 {t:Tb} {n m:Nat} (hm:m≤n) (hn:n≤16384) (e:routeT t n m=5):costT t n m=transF n m 3:=by
 rw[routeT_at hm hn] at e
 rw[costT_succ hm,cost_5 e]
theorem costT_mm {t:Tb} {n m:Nat}:costT t (max n m) (min n m)=costT t n m:=by
 rcases Nat.le_total n m with h|h
 ·rw[Nat.max_eq_right h,Nat.min_eq_left h,costT_comm]
 ·rw[Nat.max_eq_left h,Nat.min_eq_right h]
theorem routeT_mm {t:Tb} {n m:Nat}:routeT t (max n m:Nat) (min n m:Nat)=routeT t n m:=by
 rcases Nat.le_total n m with h|h
 ·rw[Nat.max_eq_right h,Nat.min_eq_left h,routeT_comm]
 ·rw[Nat.max_eq_left h,Nat.min_eq_right h]
theorem lg_blen {n:Nat} (h1:1≤n) (h2:n≤1048576):lgOK n (blen (n-1)):=by
 have hb:=blen_spec (n-1)
 refine⟨by have:=hb.1;omega,fun h0=> ?_,blen_le (by omega)⟩
 rcases hb.2 with h|h<;>omega
section
variable {e u m nw dp a b x y N:Nat} {t:Tb} {va vb:AV} {h:H} {K:AV→H→Prop}
theorem tRoute2_calls {n m':Int} (ht:Tune h u m nw dp t) (hk:∀h',h'.wf→h.le h'→K (.int .i64 (routeT t n m':Nat)) h'):
  ACalls Tryz.prog 99 [.ptr (some (u,0)), .int .i64 n, .int .i64 m'] h K:=by
 refine in_table_Tune_Route (by simp) fun hw=> ?_
 unfold c_table_Tune_Route
 have hr:h.rows u=some (tuneRow m nw dp t):=ht
 have hg:h.gets u 3 11=some t.cells:=by rw[H.gets_of hr (by simp[tuneRow,cells_len])];simp[tuneRow,Tb.cells]
 simp only[go_sem,hg]
 refine Route_calls fun h1 hw1 hl1=> ?_
 simp only[go_sem]
 exact fun _=>hk h1 hw1 hl1
theorem mwords_calls (nv:Nn h va x) (hk:∀r,Wn h r (wlen x) x→K r h):ACalls Tryz.prog 83 [va] h K:=by
 obtain⟨xs,hv,hd,hl,rfl⟩:=nv
 obtain⟨id,off,c,rfl⟩:=hv.form
 refine in_mul_words (by simp) fun hw=> ?_
 unfold c_mul_words
 simp only[go_sem]
 refine Len_calls hv hd (by omega) ?_
 have hle:=wlen_len hd
 simp only[go_sem]
 refine⟨by omega, .inl (by omega),hv.row,fun _=> ?_⟩
 have h1:=hv.take (c':=c) (b:=wlen (val 18446744073709551616 xs)) hle
 refine hk _ ⟨_,by simpa using h1,hd.take _,by simp;omega,(top_cut hd).2⟩
theorem gone_calls (he:Eng 4 h e u) (ht:Tune h u m nw dp t) (nv:Wn h va a x) (nu:Wn h vb b y) (ha:a≤16384) (hb:b≤16384) (hnw:nw+lev2 a b≤1000000000) (hN:4≤max a b→(max a b+1)/2+1≤N)
  (hin:4≤max a b→InOK 82 [.ptr (some (e,0))] [] h u t N 1000000000 (costT t) lev2)
  (hk:∀r h' m' dp',h'.wf→H.lee u h h'→Tune h' u m' nw dp' t→Sp m dp m' dp' nw (costT t a b) (lev2 a b)→Nf h.next h' r (x*y)→K (.tup [r, .bool true]) h'):
  ACalls Tryz.prog 98 [.ptr (some (e,0)), .int .i64 (routeT t a b:Nat),va,vb] h K:=by
 refine in_mul_Engine_gone (by simp) fun hw=> ?_
 unfold c_mul_Engine_gone
 obtain⟨e1,he1,G1⟩:=he.open ht
 obtain⟨e2,he2,G2⟩:=he1.open ht
 obtain⟨e3,he3,G3⟩:=he2.open ht
 obtain⟨e4,he4,G4⟩:=he3.open ht
 obtain rfl:e4=u:=he4
 have g1:=G1 h (H.lee_refl _ _)
 have g2:=G2 h (H.lee_refl _ _)
 have g3:=G3 h (H.lee_refl _ _)
 have g4:=G4 h (H.lee_refl _ _)
 have hmn:min a b≤max a b:=by omega
 have hmx:max a b≤16384:=by omega
 have cm:=costT_mm (t:=t) (n:=a) (m:=b)
 have rm:=routeT_mm (t:=t) (n:=a) (m:=b)
 rw[←rm]
 rw[←cm] at hk
 clear rm cm
 have hra:=routeT_at (t:=t) hmn hmx
 have hok:=(clamp_isT t).ok
 have hB:=hok.b1
 have lmono:∀p q,max p q≤(max a b+1)/2+1→4≤max a b→lev2 p q≤lev ((max a b+1)/2+1):=fun p q h _=>lev_mono _ _ h
 rcases route_cases (B:=(clampT t).base.toNat) (T:=(clampT t).toom.toNat) (N:=(clampT t).ntt.toNat) (max a b) (min a b) with⟨r0,c0⟩|⟨r0,c0,c1⟩|⟨r0,c0,c1,c2⟩|⟨r0,c0,c1,c2,c3⟩|⟨r0,c0,c1,c2,c3,c4,c5⟩|⟨r0,c0,c1,c2,c3,c4⟩
 ·rw[r0] at hra
  rw[hra]
  simp only[go_sem,show(((0:Nat):Int)==0)=true from rfl]
  have e0:x*y=0:=by
   have h1:=nv.lt
   have h2:=nu.lt
   rcases Nat.le_total a b with h|h
   ·obtain rfl:a=0:=by omega
    obtain rfl:x=0:=by omega
    simp
   ·obtain rfl:b=0:=by omega
    obtain rfl:y=0:=by omega
    simp
  refine fun hw'=>hk _ h m dp hw' (H.lee_refl _ _) ht ((Sp.refl m dp nw 0 0).le (by omega) (by omega)) ?_
  rw[e0]
  exact Nf.nil _ _ _
 ·rw[r0] at hra
  rw[costT_1 hmn hmx hra] at hk
  rw[hra]
  obtain⟨xs,hv,hxd,hxl,rfl⟩:=nv
  obtain⟨ys,hu,hyd,hyl,rfl⟩:=nu
  simp only[go_sem,show(((1:Nat):Int)==0)=false from rfl,show(((1:Nat):Int)==1)=true from rfl,g1,g2,g3]
  refine sMul_calls he3 ht hv hxd (by omega) hu hyd (by omega) fun r h1 hw1 hl1 ht1 hr=> ?_
  simp only[go_sem]
  have ec:max a b*min a b=xs.length*ys.length:=by
   rw[hxl,hyl]
   rcases Nat.le_total a b with h|h
   ·rw[Nat.max_eq_right h,Nat.min_eq_left h,Nat.mul_comm]
   ·rw[Nat.max_eq_left h,Nat.min_eq_right h]
  rw[ec] at hk
  exact fun hw'=>hk r h1 _ _ hw' hl1 ht1 ⟨by omega,by omega,by omega,by omega⟩ hr
 ·rw[r0] at hra
  rw[costT_2 hmn hmx c0 hra] at hk
  rw[hra]
  have h4:4≤max a b:=by omega
  have hN:=hN h4
  have hlv:lev2 a b=lev ((max a b+1)/2+1)+1:=lev_big h4
  simp only[go_sem,show(((2:Nat):Int)==0)=false from rfl,show(((2:Nat):Int)==1)=false from rfl,show(((2:Nat):Int)==2)=true from rfl]
  refine block_calls he ht nv nu (by omega) (by omega) ha hb (by omega) (hin h4) (by omega) (lev ((max a b+1)/2+1)) (fun p hp=>lmono _ _ (by omega) h4) (by omega) fun r h1 m1 dp1 hw1 hl1 ht1 hsp hr=> ?_
  simp only[go_sem]
  exact fun hw'=>hk r h1 _ _ hw' hl1 ht1 (hsp.le (Nat.le_refl _) (by omega)) hr
 ·rw[r0] at hra
  rw[costT_3 hmn hmx (by omega) hra] at hk
  rw[hra]
  have h4:4≤max a b:=by omega
  have hN:=hN h4
  have hlv:lev2 a b=lev ((max a b+1)/2+1)+1:=lev_big h4
  simp only[go_sem,show(((3:Nat):Int)==0)=false from rfl,show(((3:Nat):Int)==1)=false from rfl,show(((3:Nat):Int)==2)=false from rfl,show(((3:Nat):Int)==3)=true from rfl,g1,g2]
  refine Kara_calls he2 ht nv nu (by omega) ha hb (hin h4) hN (lev ((max a b+1)/2+1)) (lmono _ _ (by omega) h4) (lmono _ _ (by omega) h4) (lmono _ _ (by omega) h4) (by omega) (by omega) fun r h1 m1 dp1 hw1 hl1 ht1 hsp hr=> ?_
  simp only[go_sem]
  exact fun hw'=>hk r h1 _ _ hw' hl1 ht1 (hsp.le (Nat.le_refl _) (by omega)) hr
 ·rw[r0] at hra
  rw[costT_4 hmn hmx (by omega) hra] at hk
  rw[hra]
  have h4:4≤max a b:=by omega
  have hN:=hN h4
  have hlv:lev2 a b=lev ((max a b+1)/2+1)+1:=lev_big h4
  simp only[go_sem,show(((4:Nat):Int)==0)=false from rfl,show(((4:Nat):Int)==1)=false from rfl,show(((4:Nat):Int)==2)=false from rfl,show(((4:Nat):Int)==3)=false from rfl,show(((4:Nat):Int)==4)=true from rfl,g1]
  refine Toom_calls he1 ht nv nu c5 ha hb (hin h4) (by omega) (lev ((max a b+1)/2+1)) (lmono _ _ (by omega) h4) (lmono _ _ (by omega) h4) (lmono _ _ (by omega) h4) (by omega) (by omega) fun r h1 m1 dp1 hw1 hl1 ht1 hsp hr=> ?_
  simp only[go_sem]
  exact fun hw'=>hk r h1 _ _ hw' hl1 ht1 (hsp.le (Nat.le_refl _) (by omega)) hr
 ·rw[r0] at hra
  rw[costT_5 hmn hmx hra] at hk
  rw[hra]
  obtain⟨xs,hv,hxd,hxl,rfl⟩:=nv
  obtain⟨ys,hu,hyd,hyl,rfl⟩:=nu
  simp only[go_sem,show(((5:Nat):Int)==0)=false from rfl,show(((5:Nat):Int)==1)=false from rfl,show(((5:Nat):Int)==2)=false from rfl,show(((5:Nat):Int)==3)=false from rfl,show(((5:Nat):Int)==4)=false from rfl,show(((5:Nat):Int)==5)=true from rfl,g1,g2,g3,g4]
  have hL:=lg_blen (n:=xs.length+ys.length) (by omega) (by omega)
  refine cMul_calls ht hv hu hxd hyd (by omega) (by omega) (by omega) hL fun r h1 hw1 hl1 ht1 hr=> ?_
  simp only[go_sem]
  have ec:transF (max a b) (min a b) 3=3*convCost (blen (xs.length+ys.length-1))+6*2^blen (xs.length+ys.length-1):=by
   have:max a b+min a b=xs.length+ys.length:=by omega
   unfold transF transC convCost
   rw[this,Nat.mul_assoc]
  rw[ec] at hk
  exact fun hw'=>hk r h1 _ _ hw' hl1 ht1 ⟨by omega,by omega,by omega,by omega⟩ hr
theorem times_ok:∀(M:Nat),M≤16384→∀(h:H) (m nw dp:Nat),Eng 4 h e u→Tune h u m nw dp t→InOK 82 [.ptr (some (e,0))] [] h u t M 1000000000 (costT t) lev2:=by
 intro M
 induction M using Nat.strongRecOn with
 |_ M ih=>
  intro hM h m nw dp he ht h1 m1 nw1 dp1 a b x y va vb K hl1 ht1 nv nu ha hb htop hk
  have he1:=he.monoE ht hl1
  refine in_mul_Engine_times (by simp) fun hw=> ?_
  unfold c_mul_Engine_times
  obtain⟨ida,offa,ca,rfl⟩:=nv.form
  obtain⟨idb,offb,cb,rfl⟩:=nu.form
  obtain⟨e1,he1',G1⟩:=he1.open ht1
  obtain⟨e2,he2,G2⟩:=he1'.open ht1
  obtain⟨e3,he3,G3⟩:=he2.open ht1
  obtain⟨e4,he4,G4⟩:=he3.open ht1
  obtain rfl:e4=u:=he4
  have g1:=G1 h1 (H.lee_refl _ _)
  have g2:=G2 h1 (H.lee_refl _ _)
  have g3:=G3 h1 (H.lee_refl _ _)
  have g4:=G4 h1 (H.lee_refl _ _)
  simp only[List.cons_append,List.nil_append]
  simp only[go_sem,show decide ((a:Int)>16384)=false from decide_eq_false (by omega),show decide ((b:Int)>16384)=false from decide_eq_false (by omega),g1,g2,g3,g4]
  refine tRoute2_calls ht1 fun h2 hw2 hl2=> ?_
  simp only[go_sem]
  refine gone_calls (N:=(max a b+1)/2+1) (he1.mono hl2) (ht1.mono hl2) (nv.mono hl2) (nu.mono hl2) (by omega) (by omega) htop (fun _=>Nat.le_refl _) ?_ fun r h3 m3 dp3 hw3 hl3 ht3 hsp hr=> ?_
  ·exact fun h5=>ih ((max a b+1)/2+1) (by omega) (by omega) h2 _ _ _ (he1.mono hl2) (ht1.mono hl2)
  ·simp only[go_sem,Bool.not_true]
   exact fun hw'=>hk r h3 _ _ hw' (hl2.lee.trans hl3) ht3 hsp (hr.base hl2.1)
theorem Mul2_calls (he:Eng 4 h e u) (ht:Tune h u m nw dp t) (nv:Nn h va x) (nu:Nn h vb y) (hx:wlen x≤16384) (hy:wlen y≤16384) (hnw:nw≤900000000)
  (hk:∀r h' m' dp',h'.wf→H.lee u h h'→Tune h' u m' nw dp' t→Sp m dp m' dp' nw (costT t (wlen x) (wlen y)) (lev2 (wlen x) (wlen y))→Nf h.next h' r (x*y)→K r h'):
  ACalls Tryz.prog 60 [.ptr (some (e,0)),va,vb] h K:=by
 refine in_mul_Engine_Mul (by simp) fun hw=> ?_
 unfold c_mul_Engine_Mul
 simp only[go_sem]
 refine mwords_calls nv fun r1 n1=> ?_
 simp only[go_sem]
 refine mwords_calls nu fun r2 n2=> ?_
 simp only[go_sem]
 have hlv:lev2 (wlen x) (wlen y)≤max (wlen x) (wlen y):=lev_le _
 refine times_ok 16384 (Nat.le_refl _) h m nw dp he ht h m nw dp _ _ x y r1 r2 _ (H.lee_refl _ _) ht n1 n2 hx hy (by omega) fun r h' m' dp' hw' hl' ht' hsp hr=> ?_
 simp only[go_sem]
 exact fun hw''=>hk r h' m' dp' hw'' hl' ht' hsp hr
end
end
set_option maxRecDepth 100000 in
theorem reads_table {h:H} {u:AV} (r:ReadsV Tryz.prog h 23 u):∃t:Tb,u=t.av:=by
 have hc:Tryz.prog.cellsOf 23=11:=by kernel_rfl
 have hz:Tryz.prog.cellsOf 3=1:=by kernel_rfl
 unfold ReadsV at r
 rw[Tryz.underlying23] at r
 obtain⟨l,rfl,r⟩:=r
 have get:∀i,Reads Tryz.prog h 3 ((l.drop i).take 1)→∃n:Int,(l.drop i).take 1=[.int .i64 n]:=fun i hi=>by
  obtain⟨n,e,_⟩:=cell_int Tryz.underlying3 hi
  exact⟨n,e⟩
 cases r with
 |int ht' hw=>rw[Tryz.underlying23] at ht';cases ht'
 |bool ht'=>rw[Tryz.underlying23] at ht';cases ht'
 |str ht'=>rw[Tryz.underlying23] at ht';cases ht'
 |snil ht'=>rw[Tryz.underlying23] at ht';cases ht'
 |sl ht'=>rw[Tryz.underlying23] at ht';cases ht'
 |struct ht' hl hf=>
  rw[Tryz.underlying23] at ht'
  injection ht' with ht'
  injection ht' with ht'
  subst ht'
  rw[hc] at hl
  simp only[List.mem_cons,List.not_mem_nil,or_false,forall_eq_or_imp,forall_eq,hz] at hf
  obtain⟨f0,f1,f2,f3,f4,f5,f6,f7,f8,f9,f10⟩:=hf
  obtain⟨n0,g0⟩:=get 0 f0
  obtain⟨n1,g1⟩:=get 1 f1
  obtain⟨n2,g2⟩:=get 2 f2
  obtain⟨n3,g3⟩:=get 3 f3
  obtain⟨n4,g4⟩:=get 4 f4
  obtain⟨n5,g5⟩:=get 5 f5
  obtain⟨n6,g6⟩:=get 6 f6
  obtain⟨n7,g7⟩:=get 7 f7
  obtain⟨n8,g8⟩:=get 8 f8
  obtain⟨n9,g9⟩:=get 9 f9
  obtain⟨n10,g10⟩:=get 10 f10
  match l,hl with
  |[x0,x1,x2,x3,x4,x5,x6,x7,x8,x9,x10],_=>
   simp only[List.drop_zero,List.drop_succ_cons,List.take_succ_cons,List.take_zero,List.cons.injEq,and_true] at g0 g1 g2 g3 g4 g5 g6 g7 g8 g9 g10
   exact⟨⟨n0,n1,n2,n3,n4,n5,n6,n7,n8,n9,n10⟩,by rw[g0,g1,g2,g3,g4,g5,g6,g7,g8,g9,g10];rfl⟩
theorem mul_big {x y n k:Nat} (hx:wlen x≤n) (hy:wlen y≤k) (h:n+k≤400000):Big (x*y):=by
 have h1:x*y<18446744073709551616^n*18446744073709551616^k:=Nat.mul_lt_mul_of_lt_of_le (wlen_le.1 hx) (Nat.le_of_lt (wlen_le.1 hy)) (Nat.pow_pos (by omega))
 rw[←Nat.pow_add] at h1
 exact lt_bigW h1 h
theorem wbig {x n:Nat} (hx:wlen x≤n) (h:n≤400000):Big x:=lt_bigW (wlen_le.1 hx) h
theorem kSameT_calls {v u:AV} {x:Nat} {h:H} {K:AV→H→Prop} (hv:Nt h v x) (hu:Nt h u x) (hx:Big x) (hk:K (.bool true) h):ACalls Tryz.prog 50 [v,u] h K:=by
 obtain⟨xs,h1,h2,h3,h4⟩:=hv
 obtain⟨ys,g1,g2,g3,g4⟩:=hu
 have e:ys=xs:=top_inj g2 h2 g3 h3 (by rw[g4,h4])
 subst e
 have hl:ys.length=wlen x:=by rw[←h4];exact top_len h2 h3
 have:=wlen_big hx
 exact kSame_calls h1 g1 (by rw[hl];unfold wordL at this;omega) hk
theorem Nt.monoE {u m nw dp:Nat} {t:Tb} {h h':H} {v:AV} {x:Nat} (ht:Tune h u m nw dp t) (hv:Nt h v x) (hl:H.lee u h h'):Nt h' v x:=by
 obtain⟨xs,h1,h2⟩:=hv
 exact⟨xs,h1.monoE ht hl,h2⟩
section
theorem Eng.path {u m nw dp:Nat} {t:Tb} {h:H} (ht:Tune h u m nw dp t):∀{d e:Nat},Eng d h e u→∃f:Nat→Nat,f 0=e∧f d=u∧(∀i,i<d→∀h',H.lee u h h'→h'.get (f i) 0=some (.ptr (some (f (i+1),0))))∧∀i,i≤d→Eng (d-i) h (f i) u
 |0,e,he=>⟨fun _=>e,rfl,he,fun i hi=>absurd hi (by omega),fun i _=>by rw[Nat.zero_sub];exact he⟩
 |d+1,e,he=>by
  obtain⟨e',he',G⟩:=he.open ht
  obtain⟨f,f0,fd,Gf,Ef⟩:=Eng.path ht he'
  refine⟨fun i=>match i with|0=>e|i+1=>f i,rfl,fd,fun i hi=> ?_,fun i hi=> ?_⟩
  ·cases i with
   |zero=>
    intro h' hl
    simp only[f0]
    exact G h' hl
   |succ i=>exact Gf i (by omega)
  ·cases i with
   |zero=>exact he
   |succ i=>
    rw[Nat.add_sub_add_right]
    exact Ef i (by omega)
theorem two_B (k:Nat):18446744073709551616^k=2^(64*k):=by
 rw[Nat.pow_mul]
theorem wlen_bits {x b:Nat} (h:x<2^b):wlen x≤(b+63)/64:=by
 rw[wlen_le,two_B]
 exact Nat.lt_of_lt_of_le h (Nat.pow_le_pow_right (by omega) (by omega))
theorem blen_lt (x:Nat):x<2^blen x:=(blen_spec x).1
theorem blen_ge {x:Nat} (h:0<x):0<blen x∧2^(blen x-1)≤x:=by
 have hb:=blen_spec x
 have h1:=hb.pos h
 exact⟨by omega,hb.2.resolve_left h1⟩
theorem blen_zero:blen 0=0:=rfl
theorem wlen_blen (x:Nat):wlen x=(blen x+63)/64:=by
 have h1:=wlen_bits (blen_lt x)
 rcases Nat.eq_zero_or_pos x with h|h
 ·subst h;rfl
 ·have h2:=blen_ge h
  have h3:=wlen_lt x
  rw[two_B] at h3
  have h4:=blen_le h3
  omega
theorem bits_big {x b:Nat} (h:x<2^b) (hb:b≤20000000):Big x:=wbig (wlen_bits h) (by omega)
section
variable {va vb:AV} {x n:Nat} {h:H} {K:AV→H→Prop}
theorem nBits_calls (nv:Nn h va x) (hk:K (.int .i64 (blen x:Nat)) h):ACalls Tryz.prog 64 [va] h K:=by
 obtain⟨xs,hv,hd,hl,rfl⟩:=nv
 obtain⟨id,off,c,rfl⟩:=hv.form
 refine in_api_Nat_Bits (by simp) fun hw=> ?_
 unfold c_api_Nat_Bits
 simp only[go_sem]
 refine Len_calls hv hd (by omega) ?_
 have hle:=wlen_len hd
 rcases Nat.eq_zero_or_pos (wlen (val 18446744073709551616 xs)) with h0|h0
 ·have hz:=wlen_eq_zero.1 h0
  rw[hz] at hk
  simp only[go_sem,h0,eqT (show((0:Nat):Int)=0 from rfl)]
  exact fun _=>hk
 ·have hcut:=top_cut hd
  obtain⟨k,hk1⟩:∃k,wlen (val 18446744073709551616 xs)=k+1:=⟨wlen (val 18446744073709551616 xs)-1,by omega⟩
  rw[hk1] at hcut hle
  have hkl:k<xs.length:=by omega
  obtain⟨j,rfl,_,hg⟩:=hv.at hkl
  have hxb:=hd _ (List.getElem_mem hkl)
  have htk:=val_take_succ 18446744073709551616 xs k hkl
  have hlow:=val_lt_take 18446744073709551616 (by omega) xs hd k
  have hdiv:val 18446744073709551616 xs/2^(64*k)=xs[k]:=by
   rw[←hcut.2,htk,←two_B]
   rw[Nat.add_mul_div_left _ _ (Nat.pow_pos (by omega)),Nat.div_eq_of_lt hlow,Nat.zero_add]
  have e1:IntKind.i64.wrap (((k+1:Nat):Int)-1)=(k:Int):=(wI (by omega) (by omega)).trans (by omega)
  have e2:IntKind.i64.wrap (64*(k:Int))=((64*k:Nat):Int):=mulI (a:=64) (b:=k) (by omega)
  have hne:xs[k]≠0:=by
   refine hcut.1 _ ?_
   rw[List.take_succ_eq_append_getElem hkl]
   exact List.getLast?_concat ..
  simp only[go_sem,hk1,eqF (show((k+1:Nat):Int)≠0 by omega),e1,e2]
  refine⟨by omega,by omega, ?_⟩
  simp only[go_sem,Int.toNat_natCast,Nat.mul_one,hg]
  refine Len64_calls hxb fun L hL hbl=> ?_
  have hbl2:BL (val 18446744073709551616 xs) (64*k+L):=BL.up (by rw[hdiv];exact hbl) (hbl.pos (by omega))
  rw[BL.uniq (blen_spec _) hbl2] at hk
  simp only[go_sem,addI (a:=64*k) (b:=L) (by omega)]
  exact fun _=>hk
theorem power_calls (hn:n≤1048576) (hk:∀r h',h'.wf→h.le h'→Nf h.next h' r (2^n)→K r h'):ACalls Tryz.prog 138 [.int .i64 (n:Int)] h K:=by
 refine in_recip_power (by simp) fun hw=> ?_
 unfold c_recip_power
 simp only[go_sem]
 refine One_calls (x:=1) (by decide) fun r1 h1 hw1 hl1 hr1=> ?_
 simp only[go_sem]
 refine lShl_calls (hr1.nn (word_big (by decide))) hn fun r2 h2 hw2 hl2 hr2=> ?_
 rw[Nat.one_mul] at hr2
 simp only[go_sem]
 exact fun hw'=>hk r2 h2 hw' (H.le_trans hl1 hl2) (hr2.base hl1.1)
end
def TbOK (t:Tb):Prop:=4≤t.div∧t.div≤1024∧4≤t.recip∧t.recip≤4096∧2≤t.radix∧t.radix≤1024
theorem clamp_ok (t:Tb):TbOK (clampT t):=by
 unfold TbOK clampT
 simp only
 omega
theorem tune_recip {u m nw dp:Nat} {t:Tb} {h:H} (ht:Tune h u m nw dp t):h.get u 7=some (.int .i64 t.recip):=by
 rw[H.get_of ht];rfl
theorem tune_div {u m nw dp:Nat} {t:Tb} {h:H} (ht:Tune h u m nw dp t):h.get u 6=some (.int .i64 t.div):=by
 rw[H.get_of ht];rfl
end
section
theorem le_two {n k:Nat} (h:n≤k):2^n≤2^k:=Nat.pow_le_pow_right (by omega) h
theorem wlen_two {x n:Nat} (h:x≤2^n):wlen x≤n/64+1:=by
 have h1:x<2^(n+1):=Nat.lt_of_le_of_lt h (Nat.pow_lt_pow_right (by omega) (by omega))
 have:=wlen_bits h1
 omega
theorem lev_of {n k:Nat} (h:n≤k):lev n≤lev k:=lev_mono _ _ h
section
variable {e u m nw dp n dw xw rw:Nat} {t:Tb} {vd vx:AV} {D X:Nat} {h:H} {K:AV→H→Prop}
theorem step_calls (he:Eng 6 h e u) (ht:Tune h u m nw dp t) (nd:Nn h vd D) (nx:Nn h vx X) (hn:n≤1000000) (hw1:wlen D≤dw) (hw2:wlen X≤xw) (hw3:n/64+1≤rw) (hd:dw≤16384) (hx:xw≤16384) (hr:rw≤16384) (hp:D*X≤2^(n+1)) (hnw:nw≤900000000)
  (hk:∀r h' m' dp' Y,h'.wf→H.lee u h h'→Tune h' u m' nw dp' t→Sp m dp m' dp' nw (8*(dw*xw)+8*(xw*rw)) (lev (max dw (max xw rw)))→Y≤2*X→Nf h.next h' r Y→K r h'):
  ACalls Tryz.prog 139 [.ptr (some (e,0)),vd,vx, .int .i64 (n:Int)] h K:=by
 refine in_recip_Engine_step (by simp) fun hw=> ?_
 unfold c_recip_Engine_step
 obtain⟨f,rfl,rfl,G,E⟩:=Eng.path ht he
 have hu:=H.row_lt hw ht
 have l0:=H.lee_refl (f 6) h
 simp only[go_sem,G 0 (by omega) _ l0,G 1 (by omega) _ l0]
 refine Mul2_calls (E 2 (by omega)) ht nd nx (by omega) (by omega) hnw fun p h1 m1 dp1 hw1' hl1 ht1 hsp1 hp1=> ?_
 have cb1:costT t (wlen D) (wlen X)≤8*(dw*xw):=Nat.le_trans (costT_le (by omega) (by omega)) (Nat.mul_le_mul_left 8 (Nat.mul_le_mul hw1 hw2))
 have bp:Big (D*X):=mul_big hw1 hw2 (by omega)
 have bX:Big X:=wbig hw2 (by omega)
 have btop:Big (2^n):=bits_big (Nat.pow_lt_pow_right (by omega) (Nat.lt_succ_self n)) (by omega)
 simp only[go_sem]
 refine power_calls (by omega) fun top h2 hw2' hl2 htop=> ?_
 have nx2:=(nx.monoE ht hl1).mono hl2
 have np2:=(hp1.nn bp).mono hl2
 have ht2:=ht1.mono hl2
 have l02:H.lee (f 6) h h2:=hl1.trans hl2.lee
 have lv:∀{a b:Nat},a≤max dw (max xw rw)→b≤max dw (max xw rw)→lev2 a b≤lev (max dw (max xw rw)):=fun h1 h2=>lev_of (by omega)
 have rest:∀R,R≤2^n→wlen R≤rw:=fun R hR=>Nat.le_trans (wlen_two hR) hw3
 have hnt:2^(n+1)=2^n+2^n:=by rw[Nat.pow_succ];omega
 simp only[go_sem]
 refine lSub_calls (htop.nn btop) np2 (fun hlt _=> ?_) (fun hge r h3 hw3' hl3 hr3=> ?_)
 ·simp only[go_sem]
  refine lSub_calls np2 (htop.nn btop) (fun h=>absurd h (by omega)) fun _ r h3 hw3' hl3 hr3=> ?_
  have hR:D*X-2^n≤2^n:=by omega
  have l03:=l02.trans hl3.lee
  have nx3:=nx2.mono hl3
  simp only[go_sem,G 0 (by omega) _ l03,G 1 (by omega) _ l03]
  refine Mul2_calls ((E 2 (by omega)).monoE ht l03) (ht2.mono hl3) nx3 (hr3.nn (btop.le hR)) (by omega) (by have:=rest _ hR;omega) hnw fun q h4 m4 dp4 hw4 hl4 ht4 hsp4 hq=> ?_
  have cb4:costT t (wlen X) (wlen (D*X-2^n))≤8*(xw*rw):=Nat.le_trans (costT_le (by omega) (by have:=rest _ hR;omega)) (Nat.mul_le_mul_left 8 (Nat.mul_le_mul hw2 (rest _ hR)))
  have bq:Big (X*(D*X-2^n)):=mul_big hw2 (rest _ hR) (by omega)
  simp only[go_sem]
  refine lShr_calls (hq.nn bq) (by omega) fun q2 h5 hw5 hl5 hq2=> ?_
  have hql:X*(D*X-2^n)/2^n≤X:=by
   refine Nat.div_le_of_le_mul ?_
   rw[Nat.mul_comm]
   exact Nat.mul_le_mul_right _ hR
  have bq2:Big (X*(D*X-2^n)/2^n):=bX.le hql
  simp only[go_sem]
  refine One_calls (x:=1) (by decide) fun one h6 hw6 hl6 hone=> ?_
  simp only[go_sem]
  refine lAdd_calls ((hq2.nn bq2).mono hl6) (hone.nn (word_big (by decide))) fun less h7 hw7 hl7 hless=> ?_
  have bl:Big (X*(D*X-2^n)/2^n+1):=wbig (n:=xw+1) (wlen_le.2 (by
   have:=wlen_le.1 hw2
   have h8:18446744073709551616^(xw+1)=18446744073709551616^xw*18446744073709551616:=Nat.pow_succ ..
   omega)) (by omega)
  have hl47:=(H.le_trans hl5 (H.le_trans hl6 hl7))
  have nx7:=(nx3.monoE (ht2.mono hl3) hl4).mono hl47
  have l07:H.lee (f 6) h h7:=(l03.trans hl4).trans hl47.lee
  have hspp:=(hsp1.trans hsp4).le (B':=8*(dw*xw)+8*(xw*rw)) (D':=lev (max dw (max xw rw))) (by omega) (by have:=lv (a:=wlen D) (b:=wlen X) (by omega) (by omega);have:=lv (a:=wlen X) (b:=wlen (D*X-2^n)) (by omega) (by have:=rest _ hR;omega);omega)
  simp only[go_sem]
  refine lSub_calls nx7 (hless.nn bl) (fun hlt2 _=> ?_) (fun hge2 y h8 hw8 hl8 hy=> ?_)
  ·simp only[go_sem,Bool.not_false]
   exact fun hw'=>hk _ h7 _ _ 0 hw' l07 (ht4.mono hl47) hspp (by omega) (Nf.nil _ _ _)
  ·simp only[go_sem,Bool.not_true]
   exact fun hw'=>hk _ h8 _ _ _ hw' (l07.trans hl8.lee) ((ht4.mono hl47).mono hl8) hspp (Nat.le_trans (Nat.sub_le _ _) (by omega)) (hy.base l07.1)
 ·have hR:2^n-D*X≤2^n:=by omega
  have l03:=l02.trans hl3.lee
  have nx3:=nx2.mono hl3
  simp only[go_sem,G 0 (by omega) _ l03,G 1 (by omega) _ l03]
  refine Mul2_calls ((E 2 (by omega)).monoE ht l03) (ht2.mono hl3) nx3 (hr3.nn (btop.le hR)) (by omega) (by have:=rest _ hR;omega) hnw fun q h4 m4 dp4 hw4 hl4 ht4 hsp4 hq=> ?_
  have cb4:costT t (wlen X) (wlen (2^n-D*X))≤8*(xw*rw):=Nat.le_trans (costT_le (by omega) (by have:=rest _ hR;omega)) (Nat.mul_le_mul_left 8 (Nat.mul_le_mul hw2 (rest _ hR)))
  have bq:Big (X*(2^n-D*X)):=mul_big hw2 (rest _ hR) (by omega)
  simp only[go_sem]
  refine lShr_calls (hq.nn bq) (by omega) fun q2 h5 hw5 hl5 hq2=> ?_
  have hql:X*(2^n-D*X)/2^n≤X:=by
   refine Nat.div_le_of_le_mul ?_
   rw[Nat.mul_comm]
   exact Nat.mul_le_mul_right _ hR
  have nx5:=(nx3.monoE (ht2.mono hl3) hl4).mono hl5
  have hspp:=(hsp1.trans hsp4).le (B':=8*(dw*xw)+8*(xw*rw)) (D':=lev (max dw (max xw rw))) (by omega) (by have:=lv (a:=wlen D) (b:=wlen X) (by omega) (by omega);have:=lv (a:=wlen X) (b:=wlen (2^n-D*X)) (by omega) (by have:=rest _ hR;omega);omega)
  simp only[go_sem]
  refine lAdd_calls nx5 (hq2.nn (bX.le hql)) fun y h6 hw6 hl6 hy=> ?_
  have l05:H.lee (f 6) h h5:=(l03.trans hl4).trans hl5.lee
  simp only[go_sem]
  exact fun hw'=>hk _ h6 _ _ _ hw' (l05.trans hl6.lee) ((ht4.mono hl5).mono hl6) hspp (by omega) (hy.base l05.1)
theorem right_calls {b:Nat} (he:Eng 6 h e u) (ht:Tune h u m nw dp t) (nd:Nn h vd D) (nx:Nf b h vx X) (hb:b≤h.next) (hub:u<b) (hD:0<D) (hn:n≤1000000) (hw1:wlen D≤dw) (hw2:wlen X≤xw) (hw3:n/64+1≤rw) (hd:dw≤16384) (hx:xw≤16384) (hr:rw≤16384) (hnw:nw≤900000000)
  (hk:∀r h' m' dp',h'.wf→H.lee u h h'→Tune h' u m' nw dp' t→Sp m dp m' dp' nw (8*(dw*xw)+(rw+1)*(dw+1)) (lev (max dw xw))→Nf b h' r (2^n/D)→K r h'):
  ACalls Tryz.prog 140 [.ptr (some (e,0)),vd,vx, .int .i64 (n:Int)] h K:=by
 refine in_recip_Engine_right (by simp) fun hw=> ?_
 unfold c_recip_Engine_right
 obtain⟨f,rfl,rfl,G,E⟩:=Eng.path ht he
 have hu:=H.row_lt hw ht
 --how great it may become
 have bx:∀x,x≤X+8→Big x∧Big (D*x):=fun x hx=>by
  have h8:wlen (X+8)≤xw+1:=wlen_le.2 (by
   have:=wlen_le.1 hw2
   have h8:18446744073709551616^(xw+1)=18446744073709551616^xw*18446744073709551616:=Nat.pow_succ ..
   have:0<18446744073709551616^xw:=Nat.pow_pos (by omega)
   omega)
  exact⟨wbig (Nat.le_trans (wlen_mono hx) h8) (by omega),mul_big hw1 (Nat.le_trans (wlen_mono hx) h8) (by omega)⟩
 have btop:Big (2^n):=bits_big (Nat.pow_lt_pow_right (by omega) (Nat.lt_succ_self n)) (by omega)
 have bD:Big D:=wbig hw1 (by omega)
 simp only[go_sem]
 refine power_calls (by omega) fun top h1 hw1' hl1 htop=> ?_
 have ht1:=ht.mono hl1
 simp only[go_sem,G 0 (by omega) _ hl1.lee,G 1 (by omega) _ hl1.lee]
 refine Mul2_calls ((E 2 (by omega)).mono hl1) ht1 (nd.mono hl1) ((nx.nn (bx X (by omega)).1).mono hl1) (by omega) (by omega) hnw fun p h2 m2 dp2 hw2' hl2 ht2 hsp2 hp2=> ?_
 have cb:costT t (wlen D) (wlen X)≤8*(dw*xw):=Nat.le_trans (costT_le (by omega) (by omega)) (Nat.mul_le_mul_left 8 (Nat.mul_le_mul hw1 hw2))
 have lv:lev2 (wlen D) (wlen X)≤lev (max dw xw):=lev_of (by omega)
 have l02:H.lee (f 6) h h2:=hl1.lee.trans hl2
 have hd2:=(nd.mono hl1).monoE ht1 hl2
 have hx2:=(nx.mono hl1).monoE hub hl2
 have htop2:=(htop.nn btop).monoE ht1 hl2
 simp only[go_sem]
 refine loop_cut (fun ρ h'=>h'.wf∧h2.le h'∧ρ 0= .ptr (some (f 0,0))∧ρ 1=vd∧ρ 9=top) ?_ ?_
 ·refine for_rule (fun i ρ h'=>i≤8∧h'.wf∧h2.le h'∧ρ 0= .ptr (some (f 0,0))∧ρ 1=vd∧ρ 9=top∧ρ 28= .int .i64 (i:Int)∧∃x,x≤X+i∧Nf b h' (ρ 2) x∧Nn h' (ρ 10) (D*x)) 8
   ⟨by omega,hw2',H.le_refl _,by first|rfl|trivial|assumption,by first|rfl|trivial|assumption,by first|rfl|trivial|assumption,by first|rfl|trivial|assumption,X,by omega,hx2,hp2.nn (bx X (by omega)).2⟩ (fun i ρ h hI=>hI.1) ?_
  rintro i ρ h3 ⟨hi,hw3,hl3,q0,q1,q9,q28,x,hxi,nx3,np3⟩
  rcases Nat.lt_or_ge i 8 with h5|h5
  ·have hb3:=bx x (by omega)
   have nd3:=hd2.mono hl3
   simp only[go_sem,q0,q1,q9,q28,show decide ((i:Int)<8)=true from decide_eq_true (by omega)]
   refine lSub_calls (htop2.mono hl3) np3 (fun hlt _=> ?_) (fun hge r h4 hw4 hl4 hr4=> ?_)
   ·have hx0:1≤x:=by
     rcases Nat.eq_zero_or_pos x with h|h
     ·subst h
      rw[Nat.mul_zero] at hlt
      exact absurd hlt (Nat.not_lt_zero _)
     ·omega
    simp only[go_sem,q0,q1,q9,q28,Bool.not_false]
    refine One_calls (x:=1) (by decide) fun one h4 hw4 hl4 hone=> ?_
    simp only[go_sem]
    refine lSub_calls ((nx3.nn hb3.1).mono hl4) (hone.nn (word_big (by decide))) (fun h=>absurd h (by omega)) fun _ y h5 hw5 hl5 hy=> ?_
    simp only[go_sem,q0,q1,q9,q28]
    have hDx:D≤D*x:=Nat.le_mul_of_pos_right D hx0
    refine lSub_calls ((np3.mono hl4).mono hl5) ((nd3.mono hl4).mono hl5) (fun h=>absurd h (Nat.not_lt.2 hDx)) fun _ p' h6 hw6 hl6 hp'=> ?_
    have e1:D*x-D=D*(x-1):=by rw[Nat.mul_sub,Nat.mul_one]
    rw[e1] at hp'
    have hlb:=hl3.1
    have hlb2:=l02.1
    have hlb3:=hl4.1
    simp only[go_sem,q0,q1,q9,q28,incI (i:=i) (by omega)]
    exact⟨by omega,hw6,(H.le_trans hl3 (H.le_trans hl4 (H.le_trans hl5 hl6))),by first|rfl|trivial|assumption,by first|rfl|trivial|assumption,by first|rfl|trivial|assumption,by first|rfl|trivial|assumption,x-1,by omega,(hy.mono hl6).base (by omega),hp'.nn (bx (x-1) (by omega)).2⟩
   ·simp only[go_sem,q0,q1,q9,q28,Bool.not_true]
    refine lCmp_calls (hr4.nn (btop.le (Nat.sub_le _ _))) (nd3.mono hl4) ?_
    have hlb:=hl3.1
    have hlb2:=l02.1
    rcases Nat.lt_or_ge (2^n-D*x) D with h6|h6
    ·rw[show cmpI (2^n-D*x) D= -1 by unfold cmpI;rw[if_pos h6]]
     simp only[go_sem,q0,q1,q9,q28,show decide ((-1:Int)<0)=true from rfl]
     have ev:2^n/D=x:=by
      refine Nat.div_eq_of_lt_le ?_ ?_
      ·rw[Nat.mul_comm];exact hge
      ·rw[Nat.mul_comm,Nat.mul_add,Nat.mul_one];omega
     rw[ev] at hk
     exact fun hw'=>hk _ h4 _ _ hw' (l02.trans (hl3.lee.trans hl4.lee)) ((ht2.mono hl3).mono hl4) (hsp2.le (by omega) lv) (nx3.mono hl4)
    ·have hc:decide (cmpI (2^n-D*x) D<0)=false:=by
      unfold cmpI
      rw[if_neg (by omega)]
      split<;>rfl
     simp only[go_sem,q0,q1,q9,q28,hc]
     refine One_calls (x:=1) (by decide) fun one h5 hw5 hl5 hone=> ?_
     simp only[go_sem]
     refine lAdd_calls (((nx3.nn hb3.1).mono hl4).mono hl5) (hone.nn (word_big (by decide))) fun y h6 hw6 hl6 hy=> ?_
     simp only[go_sem,q0,q1,q9,q28]
     refine lAdd_calls (((np3.mono hl4).mono hl5).mono hl6) (((nd3.mono hl4).mono hl5).mono hl6) fun p' h7 hw7 hl7 hp'=> ?_
     have e1:D*x+D=D*(x+1):=by rw[Nat.mul_add,Nat.mul_one]
     rw[e1] at hp'
     have hlb3:=hl4.1
     have hlb4:=hl5.1
     simp only[go_sem,q0,q1,q9,q28,incI (i:=i) (by omega)]
     exact⟨by omega,hw7,(H.le_trans hl3 (H.le_trans hl4 (H.le_trans hl5 (H.le_trans hl6 hl7)))),by first|rfl|trivial|assumption,by first|rfl|trivial|assumption,by first|rfl|trivial|assumption,by first|rfl|trivial|assumption,x+1,by omega,(hy.mono hl7).base (by omega),hp'.nn (bx (x+1) (by omega)).2⟩
  ·obtain rfl:i=8:=by omega
   simp only[go_sem,q0,q1,q9,q28,show decide (((8:Nat):Int)<8)=false from rfl]
   exact⟨hw3,hl3,by first|rfl|trivial|assumption,by first|rfl|trivial|assumption,by first|rfl|trivial|assumption⟩
 ·rintro ρ h3 ⟨hw3,hl3,q0,q1,q9⟩
  have l03:=l02.trans hl3.lee
  simp only[go_sem,q0,q1,q9,G 0 (by omega) _ l03]
  refine Long_calls ((E 1 (by omega)).monoE ht l03) (ht2.mono hl3) (htop2.mono hl3) (hd2.mono hl3) btop bD (fun h=>absurd h (by omega)) fun _ q r h4 hw4 hl4 ht4 hq _=> ?_
  have hlc:longCost (2^n) D≤(rw+1)*(dw+1):=by
   have h8:=wlen_two (Nat.le_refl (2^n))
   unfold longCost
   split
   ·omega
   ·exact Nat.mul_le_mul (by omega) (by omega)
  simp only[go_sem]
  have hlb:=l03.1
  refine fun hw'=>hk _ h4 _ _ hw' (l03.trans hl4) ht4 ?_ (hq.base (by omega))
  have s2:Sp m2 dp2 (m2+longCost (2^n) D) dp2 nw (longCost (2^n) D) 0:=⟨by omega,by omega,by omega,by omega⟩
  exact(hsp2.trans s2).le (by omega) (by omega)
end
end
end Ab
end Go.Proofs.YtkbglkjpdndkiaaGreatDoor
