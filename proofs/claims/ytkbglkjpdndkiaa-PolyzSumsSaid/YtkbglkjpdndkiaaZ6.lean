/- Joined texts: L1. No condition. -/
import Derived.Test.YtkbglkjpdndkiaaZ5
import Derived.WalkKit
import Derived.ProofKit
import Derived.OpenShut
import Derived.ChangeSame
namespace Go.Proofs.Ytkbglkjpdndkiaa
namespace Ab
open Go Go.RowKit
set_option linter.unusedSimpArgs false
set_option linter.unusedVariables false
attribute [local go_sem ↓] x_mv x_pick x_bin x_beq x_peq x_seq x_cat x_aeq x_idxS x_idxV x_un x_cvI x_bts x_idx x_idxA x_fld x_ld x_st x_nn x_prt x_slc x_mk x_bsl x_bld x_box x_alloc x_len x_capo x_mnx x_app x_cpy x_mkf x_ext x_call x_callV x_bad s_none s_some s_nil s_cons s_chks w_skip w_reg tP_fin tP_no tP_alt w_seq w_cond w_block w_exit w_ret t_normal t_exit t_ret b_normal b_ret b_exit n_normal n_exit n_ret p_normal p_ret f_nil f_t f_c k_ops k_chk k_fin
attribute [local go_sem] e_t e_c e_f u_some u_none u_at env_at k_v k_pick k_add k_sub k_mul k_quo k_rem k_and k_or k_xor k_shl k_shr k_eql k_neq k_lss k_leq k_gtr k_geq k_beq k_peqn k_peqs k_neg k_not k_com k_cvI k_idxS k_idxV1 k_idxVn k_idx k_idxA k_idxG k_ldG k_gld k_seq k_cat k_aeq k_eqs k_fld k_ld1 k_ldn k_get k_gets k_sti k_stb k_stp k_sts k_stf k_sta k_put k_nn k_prt1 k_prtn k_slc_a k_slc_b k_slc_c k_mk k_agg k_bsl k_box k_len k_lenS k_cap k_max k_min k_ext k_callV k_true k_false k_gtt k_gtf k_gft k_gsk k_gff k_lit1i k_lit2i k_lit3i k_c0 k_c1 k_ck List.getElem?_cons_zero List.getElem?_cons_succ List.getElem?_nil Option.getD_some Option.getD_none tupOf List.map_cons List.map_nil Option.map_some Option.map_none List.nil_append List.cons_append List.append_nil Nat.mul_one Int.toNat_natCast Nat.zero_add
attribute [local go_sem] e_t e_c e_f u_some u_none u_at env_at k_v k_pick k_add k_sub k_mul k_quo k_rem k_and k_or k_xor k_shl k_shr k_eql k_neq k_lss k_leq k_gtr k_geq k_beq k_peqn k_peqs k_neg k_not k_com k_cvI k_idxS k_idxV1 k_idxVn k_idx k_idxA k_idxG k_ldG k_gld k_seq k_cat k_aeq k_eqs k_fld k_ld1 k_ldn k_get k_gets k_sti k_stb k_stp k_sts k_stf k_sta k_put k_nn k_prt1 k_prtn k_slc_a k_slc_b k_slc_c k_mk k_agg k_bsl k_box k_len k_lenS k_cap k_max k_min k_ext k_callV k_true k_false k_gtt k_gtf k_gft k_gsk k_gff k_lit1i k_lit2i k_lit3i k_c0 k_c1 k_ck List.getElem?_cons_zero List.getElem?_cons_succ List.getElem?_nil Option.getD_some Option.getD_none tupOf List.map_cons List.map_nil Option.map_some Option.map_none List.nil_append List.cons_append List.append_nil Nat.mul_one Int.toNat_natCast Nat.zero_add
--what a store into a cell of two leaves
attribute [local go_sem_proc] Nat.reduceEqDiff Nat.reduceAdd Int.reduceToNat
attribute [local go_sem_proc ↓] reduceIte
attribute [local go_sem] Bool.false_eq_true
section
open Go Go.RowKit Go.WideShapes Go.ChangeShapes Go.ChangeAt
def h00:H:=⟨fun _=>none,0⟩
theorem globOK_none {base:Nat} {w:World} (h:gnum=none):GlobOK base w:=fun g off n hg=>by simp[gcell,h] at hg
theorem rep00 (w:World) (hg:GlobOK w.heap.size w):Rep w.heap.size w (fun _=>none) w h00:=
 ⟨Below.refl _ _,Nat.le_refl _,hg,fun _ _=>rfl,fun _ _ hr=>(by cases hr),fun _ _ _ _ _ _ hr=>(by cases hr)⟩
theorem law_calls {P:Program} {f:FuncId} {fn:Func} {avs:List AV} {vs:List Value} {h:H} {μ:Mu} {w:World} (hf:P.funcs[f]? =some fn) (hb:fn.body.isSome=true) (hname:(fn.name== "runtime.NumGoroutine")=false)
  (R:Rep w.heap.size w μ w h) (hr:RelA μ avs vs) (hc:ACalls P f avs h (fun r _=>r= .bool true)):Calls P f vs.toArray w (fun e w'=>e= .returned (.bool true)∧Below w.heap.size w w'):=by
 rcases hc _ _ _ _ _ R hr with⟨_,h2⟩|⟨v,h1,_⟩
 ·refine h2.mono ?_
  rintro e w' ⟨v,rfl,μ',r,h',_,q2,q3,rfl⟩
  cases q2
  exact⟨rfl,q3.below⟩
 ·exfalso
  have hname':¬fn.name= "runtime.NumGoroutine" :=by simpa using hname
  obtain⟨c,hb⟩:=Option.isSome_iff_exists.1 hb
  simp[callFunc,hf,hname',hb] at h1
section
variable {T:Type} {enc:TypeId×Value→T} {P:Program}
theorem post_kept {f:Func} {s:ChangeSpec} {apart fresh handsOn again:Bool} {W W':World} {args:Array Value} {v:Value} {ds gs:List (DataW T)} {before pa pv:List MemPlace}
  (hW:DataW.Whole enc P f.params.toList s.vars apart W args.toList ds gs before)
  (hres:∀(b:Nat) (sp:Nat→Bool) (hd:Bool),DataW.TrodAll enc P W' b sp hd f.resultTypes.toList (v.resultList f.resultTypes.size) (s.fn T (ds++gs)).results [])
  (hargs:∀sp:Nat→Bool,(∀p∈before,sp p.block=true)→DataW.TrodAll enc P W' 0 sp true f.params.toList args.toList (s.fn T (ds++gs)).args pa)
  (hvars:∀sp:Nat→Bool,(∀p∈before,sp p.block=true)→DataW.TrodVars enc P W' sp s.vars (s.fn T (ds++gs)).vars pv)
  (hsplit:before=pa++pv) (hB:Below W.heap.size W W')
  (hok:∀(j:Nat) (t:TypeId) (r:Value),f.resultTypes[j]? =some t→(v.resultList f.resultTypes.size)[j]? =some r→Value.okWide P W' .any 0 t r):
  s.post enc P f apart fresh handsOn again W args v W':=by
 subst hsplit
 have low:∀p∈pa++pv,p.block<W.heap.size:=fun p hp=>hW.lt p hp
 have mark:∀p∈pa++pv,(fun b=>decide (b<W.heap.size)) p.block=true:=fun p hp=>decide_eq_true (low p hp)
 have keep:W.keptBut W' (· ∈pa++pv):=hB.frame _
 refine⟨ds,gs,pa++pv,[],pa,pv,hW,hres _ _ _,hargs _ mark,hvars _ mark,World.keptBut_mono (fun p hp=>⟨hp, .inr (List.mem_append.1 hp)⟩) keep,fun _=>⟨hok,_,_,([]++pa)++pv,⟨[]++pa,pv,trodAll_append (hargs _ (fun _ _=>rfl)) (hres _ _ _),hvars _ (fun _ _=>rfl),rfl, ?_, ?_⟩, ?_⟩⟩
 ·intro b off hp
  have hp':MemPlace.cell b off∈pa++pv:=by simpa using hp
  obtain⟨_,_,_,_,_,hz,_⟩:=hW
  rw[hB.frozen (low _ hp')]
  exact hz b off hp'
 ·intro ha
  obtain⟨_,_,_,_,_,_,hn⟩:=hW
  simpa using hn ha
 ·intro p hp _
  simpa using hp
end
theorem wf_u64 {a:Int} (h:(Lit.int .u64 a).wf=true):∃n:Nat,a=(n:Int)∧n<18446744073709551616:=by
 simp[Lit.wf,IntKind.min,IntKind.max,IntKind.signed,IntKind.bits] at h
 exact⟨a.toNat,by omega,by omega⟩
end
end Ab
end Go.Proofs.Ytkbglkjpdndkiaa
