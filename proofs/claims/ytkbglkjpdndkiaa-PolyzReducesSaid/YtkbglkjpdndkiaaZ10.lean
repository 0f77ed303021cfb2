/- Joined texts: X16. No condition. -/
import Derived.Test.YtkbglkjpdndkiaaZ9
namespace Go.Proofs.Ytkbglkjpdndkiaa
namespace Ab
open Go Go.RowKit
set_option linter.unusedSimpArgs false
set_option linter.unusedVariables false
attribute [local go_sem ↓] x_mv x_pick x_bin x_beq x_peq x_seq x_cat x_aeq x_idxS x_idxV x_un x_cvI x_bts x_idx x_idxA x_fld x_ld x_st x_nn x_prt x_slc x_mk x_bsl x_bld x_box x_alloc x_len x_capo x_mnx x_app x_cpy x_mkf x_ext x_call x_callV x_bad s_none s_some s_nil s_cons s_chks w_skip w_reg tP_fin tP_no tP_alt w_seq w_cond w_block w_exit w_ret t_normal t_exit t_ret b_normal b_ret b_exit n_normal n_exit n_ret p_normal p_ret f_nil f_t f_c k_ops k_chk k_fin
attribute [local go_sem] e_t e_c e_f u_some u_none u_at env_at k_v k_pick k_add k_sub k_mul k_quo k_rem k_and k_or k_xor k_shl k_shr k_eql k_neq k_lss k_leq k_gtr k_geq k_beq k_peqn k_peqs k_neg k_not k_com k_cvI k_idxS k_idxV1 k_idxVn k_idx k_idxA k_idxG k_ldG k_gld k_seq k_cat k_aeq k_eqs k_fld k_ld1 k_ldn k_get k_gets k_sti k_stb k_stp k_sts k_stf k_sta k_put k_nn k_prt1 k_prtn k_slc_a k_slc_b k_slc_c k_mk k_agg k_bsl k_box k_len k_lenS k_cap k_max k_min k_ext k_callV k_true k_false k_gtt k_gtf k_gft k_gsk k_gff k_lit1i k_lit2i k_lit3i k_c0 k_c1 k_ck List.getElem?_cons_zero List.getElem?_cons_succ List.getElem?_nil Option.getD_some Option.getD_none tupOf List.map_cons List.map_nil Option.map_some Option.map_none List.nil_append List.cons_append List.append_nil Nat.mul_one Int.toNat_natCast Nat.zero_add
attribute [local go_sem] e_t e_c e_f u_some u_none u_at env_at k_v k_pick k_add k_sub k_mul k_quo k_rem k_and k_or k_xor k_shl k_shr k_eql k_neq k_lss k_leq k_gtr k_geq k_beq k_peqn k_peqs k_neg k_not k_com k_cvI k_idxS k_idxV1 k_idxVn k_idx k_idxA k_idxG k_ldG k_gld k_seq k_cat k_aeq k_eqs k_fld k_ld1 k_ldn k_get k_gets k_sti k_stb k_stp k_sts k_stf k_sta k_put k_nn k_prt1 k_prtn k_slc_a k_slc_b k_slc_c k_mk k_agg k_bsl k_box k_len k_lenS k_cap k_max k_min k_ext k_callV k_true k_false k_gtt k_gtf k_gft k_gsk k_gff k_lit1i k_lit2i k_lit3i k_c0 k_c1 k_ck List.getElem?_cons_zero List.getElem?_cons_succ List.getElem?_nil Option.getD_some Option.getD_none tupOf List.map_cons List.map_nil Option.map_some Option.map_none List.nil_append List.cons_append List.append_nil Nat.mul_one Int.toNat_natCast Nat.zero_add
--what a store into a cell of two leaves
attribute [local go_sem_proc] Nat.reduceEqDiff Nat.reduceAdd Int.reduceToNat
attribute [local go_sem_proc ↓] reduceIte
attribute [local go_sem] Bool.false_eq_true
section
section
variable {va vb:AV} {ps0 qs0:List (Bool×List Nat)} {h:H} {K:AV→H→Prop}
set_option maxHeartbeats 1000000 in
theorem PolyzReduces_law {m:Nat} {c:Bool} (hm64:m<18446744073709551616) (hv0:IsA 2 IsI h va ps0) (hl0:ps0.length≤maxLen) (hk:∀h',h'.wf→K (.bool true) h'):ACalls Try.prog 3 [va, .int .u64 (m:Int), .bool c] h K:=by
 refine in_law28_PolyzReduces (by simp) fun hw=> ?_
 unfold c_law28_PolyzReduces
 have hmx:maxLen≤9223372036854775807:=by decide
 simp only[go_sem]
 refine cut28_calls (k:=20) (n:=5) hv0 (by omega) (by omega) (by omega) fun a x ps ys1 h1 hw1 hl1 _ hpl _ haw hx htx hyl1 _ _=> ?_
 have hpl2:(ps.map zI).length≤20:=by rw[List.length_map];exact hpl
 generalize ps.map zI=zs at*
 obtain⟨n,hn⟩:∃n,n=if c then m%1000 else m:=⟨_,rfl⟩
 have hn64:n<18446744073709551616:=by rw[hn];split<;>omega
 simp only[go_sem]
 refine cond_cut (fun ρ' g'=>g'=h1∧ρ' 0=a∧ρ' 1= .int .u64 (n:Int)∧ρ' 7=x) ?_ ?_
 ·cases c
  ·rw[if_neg (by decide)] at hn
   subst hn
   simp only[go_sem]
   exact⟨by first|rfl|trivial|assumption,by first|rfl|trivial|assumption,by first|rfl|trivial|assumption,by first|rfl|trivial|assumption⟩
  ·rw[if_pos rfl] at hn
   have e1:((m:Int)).tmod 1000=((m%1000:Nat):Int):=tmodN (b:=1000)
   simp only[go_sem,e1,←hn]
   exact⟨by first|rfl|trivial|assumption,by first|rfl|trivial|assumption,by first|rfl|trivial|assumption,by first|rfl|trivial|assumption⟩
 ·rintro ρ g ⟨rfl,q0,q1,q7⟩
  simp only[go_sem,q0,q1,q7]
  refine zReduce_calls haw (by omega) hn64 (fun hbad h2 hw2 hl2=> ?_) (fun hp2 hp3 r ys h2 hw2 hl2 hr ht hyl=> ?_)
  ·have fin:∀h',h'.wf→K (.bool true) h':=hk
   by_cases c1:n<2
   ·simp only[go_sem,q1,q7,show decide ((n:Int)<2)=true from decide_eq_true (by omega),show((3:Int)==3)=true from rfl,show(((0:Nat):Int)==0)=true from rfl]
    refine wakes28_calls fun h3 hw3 hl3=> ?_
    simp only[go_sem]
    exact fun hw'=>fin h3 hw'
   ·simp only[go_sem,q1,q7,show decide ((n:Int)<2)=false from decide_eq_false (by omega),show decide ((4611686018427387904:Int)≤(n:Int))=true from decide_eq_true (by omega),show((3:Int)==3)=true from rfl,show(((0:Nat):Int)==0)=true from rfl]
    refine wakes28_calls fun h3 hw3 hl3=> ?_
    simp only[go_sem]
    exact fun hw'=>fin h3 hw'
  ·simp only[go_sem,q1,q7,show decide ((n:Int)<2)=false from decide_eq_false (by omega),show decide ((4611686018427387904:Int)≤(n:Int))=false from decide_eq_false (by omega),show((0:Int)==0)=true from rfl]
   refine zrReduce_calls (by omega) (hx.mono ZqL.grows hl2) (by omega) (by omega) hn64 fun r2 ys2 h3 hw3 hl3 hr2 ht2 _=> ?_
   obtain rfl:=ht.uniq (ht2.congr fun i=>by
    show(ys1.getD i 0%_).toNat=(zs.getD i 0%_).toNat
    rw[htx.1])
   simp only[go_sem]
   refine kSame_calls (hr.isN.mono hl3) hr2.isN (by omega) ?_
   simp only[go_sem]
   refine wakes28_calls fun h4 hw4 hl4=> ?_
   simp only[go_sem]
   exact fun hw'=>hk h4 hw'
end
set_option maxRecDepth 100000 in
theorem PolyzReduces_row (h:H) (avs:List AV) (_:h.wf) (r:ReadsAll Try.prog h [22,23,4] avs):ACalls Try.prog 3 avs h (fun r _=>r= .bool true):=by
 match avs,r with
 |[_,_,_],⟨r0,r1,r2,_⟩=>
  obtain⟨ps,h1,h1l⟩:=reads_wholes r0
  obtain⟨m,rfl,hm⟩:=reads_u64 r1
  obtain⟨c,rfl⟩:=reads_bool r2
  exact PolyzReduces_law hm h1 h1l fun _ _=>rfl
end
end Ab
end Go.Proofs.Ytkbglkjpdndkiaa
