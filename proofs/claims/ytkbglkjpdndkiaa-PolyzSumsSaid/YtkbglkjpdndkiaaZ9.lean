/- Joined texts: X13 X14 X15. No condition. -/
import Derived.Test.YtkbglkjpdndkiaaZ8
namespace Go.Proofs.Ytkbglkjpdndkiaa
namespace Ab
open Go Go.RowKit
set_option linter.unusedSimpArgs false
set_option linter.unusedVariables false
attribute [local go_sem ↓] x_mv x_pick x_bin x_beq x_peq x_seq x_cat x_aeq x_idxS x_idxV x_un x_cvI x_bts x_idx x_idxA x_fld x_ld x_st x_nn x_prt x_slc x_mk x_bsl x_bld x_box x_alloc x_len x_capo x_mnx x_app x_cpy x_mkf x_ext x_call x_callV x_bad s_none s_some s_nil s_cons s_chks w_skip w_reg tP_fin tP_no tP_alt w_seq w_cond w_block w_exit w_ret t_normal t_exit t_ret b_normal b_ret b_exit n_normal n_exit n_ret p_normal p_ret f_nil f_t f_c k_ops k_chk k_fin
attribute [local go_sem] e_t e_c e_f u_some u_none u_at env_at k_v k_pick k_add k_sub k_mul k_quo k_rem k_and k_or k_xor k_shl k_shr k_eql k_neq k_lss k_leq k_gtr k_geq k_beq k_peqn k_peqs k_neg k_not k_com k_cvI k_idxS k_idxV1 k_idxVn k_idx k_idxA k_idxG k_ldG k_gld k_seq k_cat k_aeq k_eqs k_fld k_ld1 k_ldn k_get k_gets k_sti k_stb k_stp k_sts k_stf k_sta k_put k_nn k_prt1 k_prtn k_slc_a k_slc_b k_slc_c k_mk k_agg k_bsl k_box k_len k_lenS k_cap k_max k_min k_ext k_callV k_true k_false k_gtt k_gtf k_gft k_gsk k_gff k_lit1i k_lit2i k_lit3i k_c0 k_c1 k_ck List.getElem?_cons_zero List.getElem?_cons_succ List.getElem?_nil Option.getD_some Option.getD_none tupOf List.map_cons List.map_nil Option.map_some Option.map_none List.nil_append List.cons_append List.append_nil Nat.mul_one Int.toNat_natCast Nat.zero_add
attribute [local go_sem] e_t e_c e_f u_some u_none u_at env_at k_v k_pick k_add k_sub k_mul k_quo k_rem k_and k_or k_xor k_shl k_shr k_eql k_neq k_lss k_leq k_gtr k_geq k_beq k_peqn k_peqs k_neg k_not k_com k_cvI k_idxS k_idxV1 k_idxVn k_idx k_idxA k_idxG k_ldG k_gld k_seq k_cat k_aeq k_eqs k_fld k_ld1 k_ldn k_get k_gets k_sti k_stb k_stp k_sts k_stf k_sta k_put k_nn k_prt1 k_prtn k_slc_a k_slc_b k_slc_c k_mk k_agg k_bsl k_box k_len k_lenS k_cap k_max k_min k_ext k_callV k_true k_false k_gtt k_gtf k_gft k_gsk k_gff k_lit1i k_lit2i k_lit3i k_c0 k_c1 k_ck List.getElem?_cons_zero List.getElem?_cons_succ List.getElem?_nil Option.getD_some Option.getD_none tupOf List.map_cons List.map_nil Option.map_some Option.map_none List.nil_append List.cons_append List.append_nil Nat.mul_one Int.toNat_natCast Nat.zero_add
--what a store into a cell of two leaves
attribute [local go_sem_proc] Nat.reduceEqDiff Nat.reduceAdd Int.reduceToNat
attribute [local go_sem_proc ↓] reduceIte
attribute [local go_sem] Bool.false_eq_true
section
def sumZ (ls:List (List Int)) (j i:Nat):Int:=((ls.take j).map fun l=>l.getD i 0).sum
theorem sumZ_succ {ls:List (List Int)} {j:Nat} (h:j<ls.length) (i:Nat):sumZ ls (j+1) i=sumZ ls j i+ls[j].getD i 0:=by
 unfold sumZ
 rw[List.take_succ_eq_append_getElem h,List.map_append,List.sum_append]
 simp
def mxZ (ls:List (List Int)) (j:Nat):Nat:=(ls.take j).foldl (fun n l=>max n l.length) 0
theorem mxZ_succ {ls:List (List Int)} {j:Nat} (h:j<ls.length):mxZ ls (j+1)=max (mxZ ls j) ls[j].length:=by
 unfold mxZ
 rw[List.take_succ_eq_append_getElem h,List.foldl_append]
 rfl
theorem sumZ_out {ls:List (List Int)} {i:Nat}:∀{j:Nat},j≤ls.length→mxZ ls j≤i→sumZ ls j i=0
 |0,_,_=>by simp[sumZ]
 |j+1,hj,hi=>by
  rw[mxZ_succ (by omega)] at hi
  rw[sumZ_succ (by omega),sumZ_out (by omega) (by omega),getG_out (by omega)]
  rfl
theorem sumZ_le {W:Nat} {ls:List (List Int)} {i:Nat} (hW:∀l∈ls,∀i,Wz W (l.getD i 0)):∀{j:Nat},j≤ls.length→(sumZ ls j i).natAbs≤j*18446744073709551616^W
 |0,_=>by simp[sumZ]
 |j+1,hj=>by
  have h1:=sumZ_le hW (i:=i) (j:=j) (by omega)
  have h2:=Wz.lt.1 (hW ls[j] (List.getElem_mem (by omega)) i)
  rw[sumZ_succ (by omega),Nat.succ_mul]
  omega
theorem sumZ_wz {W:Nat} {ls:List (List Int)} {i j:Nat} (hW:∀l∈ls,∀i,Wz W (l.getD i 0)) (hj:j≤ls.length) (hl:ls.length≤1000):Wz (W+1) (sumZ ls j i):=by
 have h1:=sumZ_le hW (i:=i) hj
 rw[Wz.lt,Nat.pow_succ]
 have h2:0<18446744073709551616^W:=Nat.pow_pos (by omega)
 refine Nat.lt_of_le_of_lt h1 ?_
 rw[Nat.mul_comm]
 exact Nat.mul_lt_mul_of_pos_left (by omega) h2
theorem IsA.wzB {W:Nat} {h:H} {v:AV} {zs:List Int} (hv:IsA 2 (ZwL W) h v zs):∀i,Wz W (zs.getD i 0):=by
 intro i
 rcases Nat.lt_or_ge i zs.length with hi|hi
 ·obtain⟨id,off,c,rfl⟩:=hv.form
  obtain⟨_,_,_,_,_,_,_,hR⟩:=hv.atz (by omega) hi
  rw[getG_in hi]
  exact hR.2
 ·rw[getG_out hi]
  exact Wz.zero _
theorem res_pos {x p:Nat}:((sg false x)%(p:Int)).toNat=x%p:=by
 show((x:Int)%(p:Int)).toNat=x%p
 omega
theorem res_neg {x p:Nat} (hp:0<p):((sg true x)%(p:Int)).toNat=if x%p=0 then 0 else p-x%p:=by
 show((-(x:Int))%(p:Int)).toNat=_
 have h1:=Nat.mod_lt x hp
 have h2:(x:Int)=(p:Int)*((x/p:Nat):Int)+((x%p:Nat):Int):=by
  have:=Nat.div_add_mod x p
  exact_mod_cast this.symm
 split
 ·rename_i h0
  rw[h0] at h2
  rw[h2]
  have: -((p:Int)*((x/p:Nat):Int)+((0:Nat):Int))=(p:Int)*(-((x/p:Nat):Int)):=by simp[Int.mul_neg]
  rw[this,Int.mul_emod_right]
  rfl
 ·rename_i h0
  have h3: -(x:Int)=((p-x%p:Nat):Int)+(p:Int)*(-((x/p:Nat):Int)-1):=by
   rw[Int.mul_sub,Int.mul_neg,Int.mul_one]
   omega
  rw[h3,Int.add_mul_emod_self_left,Int.emod_eq_of_lt (by omega) (by omega)]
  rfl
section
variable {W p x:Nat} {v w:AV} {b:Bool} {zs:List Int} {ls:List (List Int)} {h:H} {K:AV→H→Prop}
set_option maxHeartbeats 2000000 in
theorem zPlus_calls (hW:W≤300000) (hv:IsA 1 (IsZl W) h v ls) (hl:ls.length≤1000) (hls:∀l∈ls,l.length≤1000) (hk:∀r ws h',h'.wf→h.le h'→Live 45 2 h.next (ZbL h.next (W+1)) h' r ws→TrimG 0 (fun i=>sumZ ls ls.length i) ws→ws.length≤mxZ ls ls.length→K r h'):ACalls Try.prog 11 [v] h K:=by
 obtain⟨id,off,c,rfl⟩:=hv.form
 refine in_polyz_Plus (by simp) fun hw=> ?_
 unfold c_polyz_Plus
 have hwz:∀l∈ls,∀i,Wz W (l.getD i 0):=fun l hm i=>by
  obtain⟨j,hj,rfl⟩:=List.getElem_of_mem hm
  obtain⟨_,a,_,_,_,va,_,hva⟩:=hv.at1 hj
  exact hva.wzB i
 have hmx:∀j,j≤ls.length→mxZ ls j≤1000:=by
  intro j
  induction j with
  |zero=>intro _;simp[mxZ]
  |succ j ih=>
   intro hj
   rw[mxZ_succ (by omega)]
   have:=hls ls[j] (List.getElem_mem (by omega))
   have:=ih (by omega)
   omega
 simp only[go_sem]
 refine loop_cut (fun ρ g=>g.wf∧h.le g∧Live 45 2 h.next (ZbL h.next (W+1)) g (ρ 3) (rowF (sumZ ls ls.length) (mxZ ls ls.length))) ?_ ?_
 ·refine for_rule (fun j ρ g=>j≤ls.length∧g.wf∧h.le g∧ρ 8= .sl id off ls.length c∧ρ 9= .int .i64 (ls.length:Int)∧ρ 10= .int .i64 (j:Int)∧Live 45 2 h.next (ZbL h.next (W+1)) g (ρ 3) (rowF (sumZ ls j) (mxZ ls j))) ls.length
   ⟨by omega,hw,H.le_refl _,by first|rfl|trivial|assumption,by first|rfl|trivial|assumption,by first|rfl|trivial|assumption,Live.nil _ _ _ _ _ _⟩ (fun i ρ h hI=>hI.1) ?_
  rintro j ρ g ⟨hj,hwg,hle,q8,q9,q10,hs⟩
  rcases Nat.lt_or_ge j ls.length with c1|c1
  ·obtain⟨ii,a,rfl,_,hg,va,e1,hva⟩:=hv.at1 c1
   injection e1 with e1
   subst e1
   obtain⟨ia,oa,ca,rfl⟩:=hva.form
   have hg:=H.get_le hle hg
   have hln:=hls _ (List.getElem_mem c1)
   have hsu:=fun i=>sumZ_succ c1 i
   have hms:=mxZ_succ c1
   have hmj:=hmx j hj
   generalize ls[j]=zl at*
   simp only[go_sem,q8,q9,q10,ltT c1]
   refine⟨by omega,by omega, ?_⟩
   simp only[go_sem,hg,q8,q9,q10]
   refine loop_cut2 (fun ρ g=>g.wf∧h.le g∧ρ 8= .sl (some ii) off ls.length c∧ρ 9= .int .i64 (ls.length:Int)∧ρ 10= .int .i64 (j:Int)∧Live 45 2 h.next (ZbL h.next (W+1)) g (ρ 3) (rowF (sumZ ls (j+1)) (mxZ ls (j+1)))) ?_ ?_
   ·refine for_rule (fun k ρ g=>k≤zl.length∧g.wf∧h.le g∧ρ 8= .sl (some ii) off ls.length c∧ρ 9= .int .i64 (ls.length:Int)∧ρ 10= .int .i64 (j:Int)∧ρ 14= .sl ia oa zl.length ca∧ρ 15= .int .i64 (zl.length:Int)∧ρ 16= .int .i64 (k:Int)∧Live 45 2 h.next (ZbL h.next (W+1)) g (ρ 3) (rowF (fun i=>if i<k then sumZ ls (j+1) i else sumZ ls j i) (max (mxZ ls j) k))) zl.length
     ⟨by omega,hwg,hle,by first|rfl|trivial|assumption,by first|rfl|trivial|assumption,by first|rfl|trivial|assumption,by first|rfl|trivial|assumption,by first|rfl|trivial|assumption,by first|rfl|trivial|assumption,by
      rw[show rowF (fun i=>if i<0 then sumZ ls (j+1) i else sumZ ls j i) (max (mxZ ls j) 0)=rowF (sumZ ls j) (mxZ ls j) from by rw[Nat.max_zero];exact rowF_ext fun i _=>if_neg (by omega)]
      exact hs⟩ (fun i ρ h hI=>hI.1) ?_
    clear hs q8 q9 q10 hle hwg hg
    rintro k ρ g ⟨hk2,hwg,hle,q8,q9,q10,q14,q15,q16,hs⟩
    rcases Nat.lt_or_ge k zl.length with c2|c2
    ·obtain⟨jj,l,rfl,_,_,hga,_,hR⟩:=hva.atz (by omega) c2
     obtain⟨wz,bz,xz,rfl,nwz,hzx,hxz,hone⟩:=zw_open hR
     have hWz:=hR.2
     rw[←getG_in (z:=0) c2] at hzx hxz hWz
     have hga:=H.gets_le hle hga
     have nwz:=nwz.mono hle
     obtain⟨io,co,q3⟩:=hs.form
     rw[rowF_len] at q3
     rw[q3] at hs
     simp only[go_sem,q3,q8,q9,q10,q14,q15,q16,ltT c2]
     refine⟨by omega,by omega, ?_⟩
     simp only[go_sem,hga,q3,q8,q9,q10,q14,q15,q16]
     have r3:=H.rows_new g ⟨some 45,2,[.sl none 0 0 none, .bool false]⟩
     have hl4:=H.le_new hwg (H.le_refl g) ⟨some 45,2,[.sl none 0 0 none, .bool false]⟩
     have hw4:=H.wf_new hwg ⟨some 45,2,[.sl none 0 0 none, .bool false]⟩
     simp only[List.length_cons,List.length_nil,Nat.zero_add,Nat.reduceAdd]
     have hn3:=hle.1
     have hio:=hs.io_lt hwg
     generalize hR3:g.next=R3 at*
     generalize g.new ⟨some 45,2,[.sl none 0 0 none, .bool false]⟩=g4 at*
     refine⟨by trivial,all2 hone,put2 hw hw4 (H.le_trans hle hl4) (by omega) r3 rfl fun g5 hw5 hl5 hg5 r3n e5=> ?_⟩
     have nwz:=(nwz.mono hl4).lee2 r3 e5
     have hs5:=(hs.mono ZbL.grows hl4).boxB (by intro e;have:=hio _ e;omega) r3 e5
     have hn5:=hl5.1
     have hlt5:=H.row_lt hw5 r3n
     have hio5:∀i,io=some i→i≠R3:=fun i e=>by have:=hio i e;omega
     simp only[go_sem,q3,q8,q9,q10,q14,q15,q16]
     refine cond_cut (fun ρ' g'=>g'.wf∧h.le g'∧ρ' 6= .int .i64 (k:Int)∧ρ' 7= .ptr (some (R3,0))∧ρ' 8= .sl (some ii) off ls.length c∧ρ' 9= .int .i64 (ls.length:Int)∧ρ' 10= .int .i64 (j:Int)∧ρ' 14= .sl (some jj) oa zl.length ca∧ρ' 15= .int .i64 (zl.length:Int)∧ρ' 16= .int .i64 (k:Int)∧g'.rows R3=some ⟨some 45,2,[wz, .bool bz]⟩∧Nn g' wz xz∧Live 45 2 h.next (ZbL h.next (W+1)) g' (ρ' 3) (rowF (fun i=>if i<k then sumZ ls (j+1) i else sumZ ls j i) (max (mxZ ls j) (k+1)))) ?_ ?_
     ·by_cases hke:k=max (mxZ ls j) k
      ·have hkm:mxZ ls j≤k:=by omega
       have hkk:max (mxZ ls j) k=k:=by omega
       rw[show((k:Int)==((max (mxZ ls j) k:Nat):Int))=true from eqT (by omega)]
       simp only[go_sem,q3,zeroI,bldZ (show(AV.sl none 0 0 none).one=true from rfl) (show(AV.bool false).one=true from rfl)]
       refine hs5.app2 ZbL.grows (by omega) hw5 hn5 (by rw[rowF_len]) (y:=0) ⟨Zf.zero _ _,Wz.zero _⟩ rfl (all2b rfl rfl) (by omega) (by omega) rfl fun v6 g6 hw6 hl6 hs6=> ?_
       simp only[go_sem]
       have hrow:g6.rows R3=some ⟨some 45,2,[wz, .bool bz]⟩:=hl6.2 _ _ (by
        simp only[H.del]
        rw[if_neg (fun e=>hio5 _ e.symm rfl)]
        exact r3n)
       have hnw6:Nn g6 wz xz:=by
        cases io with
        |none=>exact(nwz.mono H.del_nil).mono hl6
        |some i=>
         obtain⟨_,r,hr,ho,hz⟩:=hs5.ownz i rfl
         obtain⟨xs,h1,h2⟩:=nwz
         exact⟨xs,(IsW.delT h1 hr (by rw[ho];simp) (by rw[hz];decide)).mono hl6,h2⟩
       have hlg6:h.le g6:=⟨Nat.le_trans hl5.1 hl6.1,fun i r hr=>hl6.2 _ _ (by
        simp only[H.del]
        rw[if_neg (fun e=>by have:=(hs5.ownz i e.symm).1;have:=H.row_lt hw hr;omega)]
        exact hl5.2 _ _ hr)⟩
       refine⟨hw6,hlg6,by first|rfl|trivial|assumption,by first|rfl|trivial|assumption,by first|rfl|trivial|assumption,by first|rfl|trivial|assumption,by first|rfl|trivial|assumption,by first|rfl|trivial|assumption,by first|rfl|trivial|assumption,by first|rfl|trivial|assumption,hrow,hnw6, ?_⟩
       rw[show max (mxZ ls j) (k+1)=max (mxZ ls j) k+1 by omega,←rowF_snoc,←hke,if_neg (by omega),sumZ_out hj (by omega)]
       rw[←hke] at hs6
       exact hs6
      ·simp only[go_sem,eqF (show(k:Int)≠((max (mxZ ls j) k:Nat):Int) by omega)]
       exact⟨hw5,hl5,by first|rfl|trivial|assumption,by first|rfl|trivial|assumption,by first|rfl|trivial|assumption,by first|rfl|trivial|assumption,by first|rfl|trivial|assumption,by first|rfl|trivial|assumption,by first|rfl|trivial|assumption,by first|rfl|trivial|assumption,r3n,nwz,by rw[show max (mxZ ls j) (k+1)=max (mxZ ls j) k by omega,q3];exact hs5⟩
     ·clear hs5 hs q3 q8 q9 q10 q14 q15 q16 r3 r3n nwz hga hl4 hw4 e5 hg5 hle hwg
      rintro ρ g6 ⟨hw6,hl6,q6,q7,q8,q9,q10,q14,q15,q16,r7,nwz,hs⟩
      obtain⟨io,co,q3⟩:=hs.form
      rw[rowF_len] at q3
      rw[q3] at hs
      have hkL:k<max (mxZ ls j) (k+1):=by omega
      obtain⟨kk,lo,rfl,_,_,hgo,_,hRo⟩:=hs.getz (by omega) (j:=k) (by rw[rowF_len];exact hkL)
      rw[rowF_get hkL,if_neg (by omega)] at hRo
      have hWo:=hRo.2
      have hRo':Zf h.next g6 (.agg lo) (sumZ ls j k):=hRo.1.mono (H.del_le _)
      obtain⟨wo,bo,xo,elo,nwo,hzo,hxo,_⟩:=zf_zwB hRo' hWo (by omega)
      injection elo with elo
      subst elo
      have hB1:=hWo.big (by omega)
      have hB2:=hWz.big (by omega)
      have hB3:=hWo.bigs (hWz.le (show W≤W+1 by omega)) (by omega)
      rw[hxo] at hB1
      rw[hxz] at hB2
      rw[hxo,hxz] at hB3
      simp only[go_sem,q3,q6,q7,q8,q9,q10,q14,q15,q16]
      refine⟨by omega,by omega, ?_⟩
      simp only[go_sem,hgo,q3,q6,q7,q8,q9,q10,q14,q15,q16,(g2 r7).2.2]
      refine zAdd_calls nwo nwz hB1 hB2 hB3 fun r g8 hw8 hl8 hr=> ?_
      rw[←hzo,←hzx,←hsu] at hr
      have hs8:=hs.mono ZbL.grows hl8
      have hof:=(hr.base (d:=h.next) hl6.1).off hs8 (by decide)
      obtain⟨a0,a1,rfl,oa0,oa1⟩:=hr.two
      obtain⟨io',rr,e0',hbi,hin,hrr,ho,hz,hcl,hput⟩:=hs8.putz hw8 (by omega) (j:=k) (by rw[rowF_len];exact hkL)
      injection e0' with e0'
      subst e0'
      have hput:=hput [a0,a1] (sumZ ls (j+1) k) rfl ⟨hof,sumZ_wz hwz (by omega) hl⟩
      rw[rowF_set (G:=fun i=>if i<k+1 then sumZ ls (j+1) i else sumZ ls j i) (if_pos (by omega)) (fun i _ hi=>by
       show(if i<k+1 then _ else _)=if i<k then _ else _
       by_cases c3:i<k
       ·rw[if_pos c3,if_pos (by omega)]
       ·rw[if_neg c3,if_neg (by omega)])] at hput
      simp only[go_sem,q3,q6,q7,q8,q9,q10,q14,q15,q16]
      refine⟨by omega,by omega, ?_⟩
      simp only[go_sem,hrr,q3,q6,q7,q8,q9,q10,q14,q15,q16]
      refine⟨by trivial,all2b oa0 oa1,by rw[ho];simp,hcl, ?_⟩
      simp only[go_sem,q3,q6,q7,q8,q9,q10,q14,q15,q16,incI (i:=k) (by omega)]
      exact⟨by omega,H.wf_set hw8 hin _,H.le_set hw (H.le_trans hl6 hl8) hbi _,by first|rfl|trivial|assumption,by first|rfl|trivial|assumption,by first|rfl|trivial|assumption,by first|rfl|trivial|assumption,by first|rfl|trivial|assumption,by first|rfl|trivial|assumption,hput⟩
    ·obtain rfl:k=zl.length:=by omega
     simp only[go_sem,q15,q16,ltF (Nat.le_refl zl.length)]
     rw[rowF_ext (G:=sumZ ls (j+1)) (fun i _=>by
      show(if i<zl.length then _ else _)=_
      split
      ·rfl
      ·rw[hsu,getG_out (by omega),Int.add_zero]),←hms] at hs
     exact⟨hwg,hle,q8,q9,q10,hs⟩
   ·clear hs q8 q9 q10 hle hwg hg
    rintro ρ g ⟨hwg,hle,q8,q9,q10,hs⟩
    simp only[go_sem,q8,q9,q10,incI (i:=j) (by omega)]
    exact⟨by omega,hwg,hle,by first|rfl|trivial|assumption,by first|rfl|trivial|assumption,by first|rfl|trivial|assumption,hs⟩
  ·obtain rfl:j=ls.length:=by omega
   simp only[go_sem,q9,q10,ltF (Nat.le_refl ls.length)]
   exact⟨hwg,hle,hs⟩
 rintro ρ g ⟨hwg,hle,hs⟩
 have hmL:=hmx ls.length (Nat.le_refl _)
 simp only[go_sem]
 refine ztrim_live (by omega) hs (fun g l z hx=>hx.zw (by omega)) (by rw[rowF_len];omega) fun r ws hy hty hyl=> ?_
 simp only[go_sem]
 rw[rowF_len] at hyl
 refine fun hw'=>hk r ws g hw' hle hy (hty.congr fun i=> ?_) hyl
 rw[rowF_getD]
 split
 ·rfl
 ·rw[sumZ_out (Nat.le_refl _) (by omega)]
set_option maxHeartbeats 1000000 in
theorem zDerive_calls (hW:W≤90000) (hv:IsA 2 (ZwL W) h v zs) (hl:zs.length≤100000) (hk:∀r ws h',h'.wf→h.le h'→Live 45 2 h.next (ZbL h.next (W+1)) h' r ws→TrimG 0 (fun i=>drvI (fun i=>zs.getD i 0) i) ws→ws.length≤zs.length→K r h'):ACalls Try.prog 18 [v] h K:=by
 refine in_polyz_Derive (by simp) fun hw=> ?_
 unfold c_polyz_Derive
 simp only[go_sem]
 refine ztrim_calls (by omega) hv (by omega) fun id off c k ev hk1 hz htop=> ?_
 subst ev
 have hta:=TrimG.of hz htop
 have hca:=hv.cut (c':=c) (a:=0) (b:=k) (Nat.zero_le _) hk1
 rw[Nat.zero_mul,Nat.add_zero,Nat.sub_zero,List.drop_zero] at hca
 have hla2:(zs.take k).length=k:=by rw[List.length_take];omega
 have hdr:∀i,drvI (fun i=>zs.getD i 0) i=drvI (fun i=>(zs.take k).getD i 0) i:=fun i=>by
  show _*zs.getD (i+1) 0=_*(zs.take k).getD (i+1) 0
  rw[hta.1]
 have hk:=fun r ws h' a b c d (e:ws.length≤k)=>hk r ws h' a b c (TrimG.congr d fun i=>(hdr i).symm) (by omega)
 generalize zs.take k=us at*
 subst hla2
 clear hz htop hta hdr hv
 have hk2:us.length≤100000:=by omega
 rcases Nat.eq_zero_or_pos us.length with h0|h0
 ·have:us=[]:=List.eq_nil_of_length_eq_zero h0
  subst this
  simp only[go_sem,show(((([]:List Int).length:Nat):Int)==0)=true from rfl]
  exact fun hw'=>hk _ [] h hw' (H.le_refl h) (Live.nil _ _ _ _ _ _) ⟨fun i=>by
   show(0:Int)=((i+1:Nat):Int)*([]:List Int).getD (i+1) 0
   rw[getG_out (Nat.zero_le _),Int.mul_zero],by simp⟩ (Nat.le_refl _)
 obtain⟨n,hn⟩:∃n,us.length=n+1:=⟨us.length-1,by omega⟩
 have e0:IntKind.i64.wrap ((us.length:Int)-1)=(n:Int):=by rw[wI]<;>omega
 simp only[go_sem,eqF (show(us.length:Int)≠0 by omega),e0,Int.toNat_natCast]
 refine⟨by omega,by omega,by omega, ?_⟩
 have hl2:=H.le_new hw (H.le_refl h) ⟨some 45,2,Ab.zs [AV.sl none 0 0 none,AV.bool false] n⟩
 have hw2:=H.wf_new hw ⟨some 45,2,Ab.zs [AV.sl none 0 0 none,AV.bool false] n⟩
 have hs0:Live 45 2 h.next (ZbL h.next (W+1)) (h.new ⟨some 45,2,Ab.zs [AV.sl none 0 0 none,AV.bool false] n⟩) (.sl (some h.next) 0 n (some n)) (List.replicate n 0):=Live.madez (b:=h.next) (R:=ZbL h.next (W+1)) (x:=0) hw (Nat.le_refl _) rfl (fun g=>⟨Zf.zero _ _,Wz.zero _⟩) _
 generalize h.new ⟨some 45,2,Ab.zs [AV.sl none 0 0 none,AV.bool false] n⟩=h2 at*
 obtain⟨F,hF⟩:∃F:Nat→Int,F=fun i=>drvI (fun i=>us.getD i 0) i:=⟨_,rfl⟩
 refine loop_cut (fun ρ g=>g.wf∧h.le g∧Live 45 2 h.next (ZbL h.next (W+1)) g (ρ 3) (rowF F n)) ?_ ?_
 ·refine for_rule (fun j ρ g=>j≤n∧g.wf∧h.le g∧ρ 0= .sl id off us.length c∧ρ 3= .sl (some h.next) 0 n (some n)∧ρ 15= .int .i64 (n:Int)∧ρ 16= .int .i64 (j:Int)∧Live 45 2 h.next (ZbL h.next (W+1)) g (.sl (some h.next) 0 n (some n)) (rowF (upF F 0 j) n)) n
   ⟨by omega,hw2,hl2,by first|rfl|trivial|assumption,by first|rfl|trivial|assumption,by first|rfl|trivial|assumption,by first|rfl|trivial|assumption,by rw[upF_zero];exact hs0⟩ (fun i ρ h hI=>hI.1) ?_
  rintro j ρ g ⟨hj,hwg,hle,q0,q3,q15,q16,hs⟩
  rcases Nat.lt_or_ge j n with h3|h3
  ·obtain⟨ii,l,rfl,_,_,hg,_,hR⟩:=hca.atz (by omega) (j:=j+1) (by omega)
   have hWz:=hR.2
   obtain⟨w,bz,x,rfl,nwz,hzx,hxz,hone⟩:=zw_open hR
   have hg:=H.gets_le hle hg
   have nwz:=nwz.mono hle
   have hFj:sg bz x*((j+1:Nat):Int)=F j:=by
    rw[hF,←hzx]
    show _=((j+1:Nat):Int)*us.getD (j+1) 0
    rw[getG_in (by omega),Int.mul_comm]
   have hWF:Wz (W+1) (F j):=by
    rw[←hFj,←hzx]
    exact hWz.mul (wlen_le.2 (by rw[Nat.pow_one];show j+1<18446744073709551616;omega))
   have wx:wlen x≤100000:=by have h5:=hWz;unfold Wz at h5;rw[hxz] at h5;omega
   simp only[go_sem,q0,q3,q15,q16,ltT h3,incI (i:=j) (by omega)]
   refine⟨by omega,by omega, ?_⟩
   simp only[go_sem,hg,q0,q3,q15,q16,incI (i:=j) (by omega),wUn (x:=j+1) (by omega)]
   refine zsmall_calls (k:=j+1) nwz wx (by omega) fun r g6 hw6 hl6 hr=> ?_
   rw[hFj] at hr
   have hs6:=hs.mono ZbL.grows hl6
   have hof:=(hr.base (d:=h.next) hle.1).off hs6 (by decide)
   obtain⟨a0,a1,rfl,oa0,oa1⟩:=hr.two
   obtain⟨io',rr,e0',hbi,hin,hrr,ho,hz,hcl,hput⟩:=hs6.putz hw6 (by omega) (j:=j) (by rw[rowF_len];exact h3)
   injection e0' with e0'
   subst e0'
   have hput:=hput [a0,a1] (F j) rfl ⟨hof,hWF⟩
   rw[upF_step] at hput
   simp only[go_sem,q0,q3,q15,q16]
   refine⟨by omega,by omega, ?_⟩
   simp only[go_sem,hrr,q0,q3,q15,q16]
   refine⟨by trivial,all2b oa0 oa1,by rw[ho];simp,hcl, ?_⟩
   simp only[go_sem,q0,q3,q15,q16,incI (i:=j) (by omega)]
   exact⟨by omega,H.wf_set hw6 hin _,H.le_set hw (H.le_trans hle hl6) hbi _,by first|rfl|trivial|assumption,by first|rfl|trivial|assumption,by first|rfl|trivial|assumption,by first|rfl|trivial|assumption,hput⟩
  ·obtain rfl:j=n:=by omega
   simp only[go_sem,q3,q15,q16,ltF (Nat.le_refl j)]
   rw[upF_all] at hs
   exact⟨hwg,hle,hs⟩
 rintro ρ g ⟨hwg,hle,hs⟩
 simp only[go_sem]
 refine ztrim_live (by omega) hs (fun g l z hx=>hx.zw (by omega)) (by rw[rowF_len];omega) fun r ws hy hty hyl=> ?_
 simp only[go_sem]
 rw[rowF_len] at hyl
 refine fun hw'=>hk r ws g hw' hle hy (hty.congr fun i=> ?_) (by omega)
 rw[rowF_getD,hF]
 split
 ·rfl
 ·show(0:Int)=((i+1:Nat):Int)*us.getD (i+1) 0
  rw[getG_out (by omega),Int.mul_zero]
theorem zresidue_calls (nw:Nn h w x) (hp:0<p) (hpB:p<18446744073709551616) (hk:∀h',h'.wf→h.le h'→K (.int .u64 ((sg b x%(p:Int)).toNat:Nat)) h'):ACalls Try.prog 27 [.agg [w, .bool b], .int .u64 (p:Int)] h K:=by
 refine in_polyz_residue (by simp) fun hw=> ?_
 unfold c_polyz_residue
 simp only[go_sem]
 simp only[AV.cells,List.length_cons,List.length_nil,Nat.zero_add,Nat.reduceAdd]
 refine⟨rfl, ?_⟩
 have r1:=H.rows_new h ⟨some 45,2,[w, .bool b]⟩
 have hl1:=H.le_new hw (H.le_refl h) ⟨some 45,2,[w, .bool b]⟩
 simp only[go_sem,(g2 r1).1,Nat.add_zero]
 refine lDivWord_calls (nw.mono hl1) hpB hp fun r h2 hw2 hl2 hr=> ?_
 have r1:=hl2.2 _ _ r1
 have l02:=H.le_trans hl1 hl2
 have hm:=Nat.mod_lt x hp
 cases b
 ·rw[res_pos] at hk
  simp only[go_sem,(g2 r1).2.1,Nat.zero_add]
  exact fun hw'=>hk h2 hw' l02
 ·rw[res_neg hp] at hk
  by_cases h0:x%p=0
  ·rw[if_pos h0] at hk
   simp only[go_sem,(g2 r1).2.1,Nat.zero_add,h0,show decide ((0:Int)<((0:Nat):Int))=false from rfl]
   exact fun hw'=>hk h2 hw' l02
  ·rw[if_neg h0] at hk
   simp only[go_sem,(g2 r1).2.1,Nat.zero_add,show decide ((0:Int)<((x%p:Nat):Int))=true from decide_eq_true (by omega),show IntKind.u64.wrap ((p:Int)-((x%p:Nat):Int))=((p-x%p:Nat):Int) by rw[wU]<;>omega]
   exact fun hw'=>hk h2 hw' l02
set_option maxHeartbeats 1000000 in
theorem zReduce_calls (hv:IsA 2 (ZwL W) h v zs) (hl:zs.length≤100000) (hpB:p<18446744073709551616)
  (hk0:(p<2∨4611686018427387904≤p)→∀h',h'.wf→h.le h'→K (.tup [.sl none 0 0 none, .int .i64 3]) h')
  (hk:2≤p→p<4611686018427387904→∀r ys h',h'.wf→h.le h'→IsG h.next h' r ys→TrimF (fun i=>(zs.getD i 0%(p:Int)).toNat) ys→ys.length≤zs.length→K (.tup [r, .int .i64 0]) h'):ACalls Try.prog 6 [v, .int .u64 (p:Int)] h K:=by
 obtain⟨id,off,c,rfl⟩:=hv.form
 refine in_polyz_Reduce (by simp) fun hw=> ?_
 unfold c_polyz_Reduce
 by_cases c1:p<2
 ·simp only[go_sem,show decide ((p:Int)<2)=true from decide_eq_true (by omega)]
  exact fun hw'=>hk0 (.inl c1) h hw' (H.le_refl h)
 by_cases c2:4611686018427387904≤p
 ·simp only[go_sem,show decide ((p:Int)<2)=false from decide_eq_false (by omega),show decide ((4611686018427387904:Int)≤(p:Int))=true from decide_eq_true (by omega)]
  exact fun hw'=>hk0 (.inr c2) h hw' (H.le_refl h)
 have hk:=hk (by omega) (by omega)
 simp only[go_sem,show decide ((p:Int)<2)=false from decide_eq_false (by omega),show decide ((4611686018427387904:Int)≤(p:Int))=false from decide_eq_false (by omega),Int.toNat_natCast]
 refine⟨by omega,by omega,by omega, ?_⟩
 have hl2:=H.le_new hw (H.le_refl h) ⟨some 23,1,Ab.zs [AV.int .u64 0] zs.length⟩
 obtain⟨F,hF⟩:∃F:Nat→Nat,F=fun i=>(zs.getD i 0%(p:Int)).toNat:=⟨_,rfl⟩
 refine loop_cut (fun ρ g=>g.wf∧h.le g∧ρ 6= .sl (some h.next) 0 zs.length (some zs.length)∧IsG h.next g (.sl (some h.next) 0 zs.length (some zs.length)) (rowF F zs.length)) ?_ ?_
 ·refine for_rule (fun j ρ g=>j≤zs.length∧g.wf∧h.le g∧ρ 1= .int .u64 (p:Int)∧ρ 6= .sl (some h.next) 0 zs.length (some zs.length)∧ρ 18= .sl id off zs.length c∧ρ 19= .int .i64 (zs.length:Int)∧ρ 20= .int .i64 (j:Int)∧IsG h.next g (.sl (some h.next) 0 zs.length (some zs.length)) (rowF (upF F 0 j) zs.length)) zs.length
   ⟨by omega,H.wf_new hw _,hl2,by first|rfl|trivial|assumption,by first|rfl|trivial|assumption,by first|rfl|trivial|assumption,by first|rfl|trivial|assumption,by first|rfl|trivial|assumption,by rw[upF_zero];exact IsG.made (Nat.le_refl _) _⟩ (fun i ρ h hI=>hI.1) ?_
  rintro j ρ g ⟨hj,hwg,hle,q1,q6,q18,q19,q20,hs⟩
  rcases Nat.lt_or_ge j zs.length with h3|h3
  ·obtain⟨ii,l,rfl,_,_,hg,_,hR⟩:=hv.atz (by omega) h3
   obtain⟨w,bz,x,rfl,nwz,hzx,hxz,hone⟩:=zw_open hR
   have hg:=H.gets_le hle hg
   have nwz:=nwz.mono hle
   have hFj:(sg bz x%(p:Int)).toNat=F j:=by rw[hF,←hzx];show _=(zs.getD j 0%(p:Int)).toNat;rw[getG_in h3]
   simp only[go_sem,q1,q6,q18,q19,q20,ltT h3]
   refine⟨by omega,by omega, ?_⟩
   simp only[go_sem,hg,q1,q6,q18,q19,q20]
   have r3:=H.rows_new g ⟨some 45,2,[.sl none 0 0 none, .bool false]⟩
   have hl4:=H.le_new hwg (H.le_refl g) ⟨some 45,2,[.sl none 0 0 none, .bool false]⟩
   have hw4:=H.wf_new hwg ⟨some 45,2,[.sl none 0 0 none, .bool false]⟩
   simp only[List.length_cons,List.length_nil,Nat.zero_add,Nat.reduceAdd]
   have hn3:=hle.1
   have hrw:∃r,g.rows h.next=some r:=by
    obtain⟨_,_,e,h5⟩:=hs
    injection e with e1
    subst e1
    rcases h5 with⟨h5,_⟩|⟨i,r,h5,_,hr,_⟩
    ·cases h5
    ·injection h5 with h5
     subst h5
     exact⟨r,hr⟩
   obtain⟨_,hrw⟩:=hrw
   have hlt:=H.row_lt hwg hrw
   generalize hR3:g.next=R3 at*
   generalize g.new ⟨some 45,2,[.sl none 0 0 none, .bool false]⟩=g4 at*
   refine⟨by trivial,all2 hone,put2 hw hw4 (H.le_trans hle hl4) (by omega) r3 rfl fun g5 hw5 hl5 hg5 r3n e5=> ?_⟩
   have nwz:=(nwz.mono hl4).lee2 r3 e5
   have hs5:IsG h.next g5 (.sl (some h.next) 0 zs.length (some zs.length)) (rowF (upF F 0 j) zs.length):=by
    obtain⟨id',c',e,h5⟩:=hs.mono hl4
    injection e with e1 e2 e3 e4
    refine⟨some h.next,some zs.length,by rw[List.length_map,rowF_len], ?_⟩
    rcases h5 with⟨h5,_⟩|⟨i,r,h5,hb,hr,h6⟩
    ·rw[←e1] at h5;cases h5
    ·rw[←e1] at h5
     injection h5 with h5
     subst h5
     exact .inr ⟨h.next,r,rfl,hb,e5.2 _ _ (by omega) hr,h6⟩
   simp only[go_sem,q1,q6,q18,q19,q20,(g2 r3n).2.2]
   refine zresidue_calls nwz (by omega) (by omega) fun g6 hw6 hl6=> ?_
   rw[hFj]
   have hs6:=hs5.mono hl6
   obtain⟨io',rr,e0',hbi,_,hrr,ho,hcl,hput⟩:=hs6.put hw6 (j:=j) (by rw[rowF_len];exact h3)
   injection e0' with e0'
   subst e0'
   have hput:=hput (F j)
   rw[upF_step] at hput
   simp only[go_sem,q1,q6,q18,q19,q20]
   refine⟨by omega,by omega, ?_⟩
   simp only[go_sem,hrr]
   refine⟨ho,hcl, ?_⟩
   simp only[go_sem,q1,q6,q18,q19,q20,incI (i:=j) (by omega)]
   exact⟨by omega,H.wf_set hw6 (H.row_lt hw6 hrr) _,H.le_set hw (H.le_trans hl5 hl6) hbi _,by first|rfl|trivial|assumption,by first|rfl|trivial|assumption,by first|rfl|trivial|assumption,by first|rfl|trivial|assumption,by first|rfl|trivial|assumption,hput⟩
  ·obtain rfl:j=zs.length:=by omega
   simp only[go_sem,q19,q20,ltF (Nat.le_refl zs.length)]
   rw[upF_all] at hs
   exact⟨hwg,hle,q6,hs⟩
 rintro ρ g ⟨hwg,hle,q6,hs⟩
 have hcg:∀i,(rowF F zs.length).getD i 0=F i:=fun i=>by
  rw[rowF_getD]
  split
  ·rfl
  ·rw[hF]
   show 0=(zs.getD i 0%(p:Int)).toNat
   rw[getG_out (by omega),Int.zero_emod]
   rfl
 have hlen:(rowF F zs.length).length=zs.length:=rowF_len
 generalize rowF F zs.length=os at*
 rw[←hlen] at q6 hs
 generalize some os.length=cp at q6 hs
 rw[hF] at hcg
 simp only[go_sem]
 refine⟨fun k ρ h2=>h2=g∧ρ 6= .sl (some h.next) 0 k cp∧k≤os.length∧(∀x∈os.drop k,x=0),os.length,⟨rfl,q6,Nat.le_refl _,by simp⟩, ?_⟩
 rintro k ρ h2 ⟨rfl,q6,hk1,hz⟩
 have hvk:IsG h.next h2 (.sl (some h.next) 0 k cp) (os.take k):=hs.cut0 hk1
 have fin:(∀x,(os.take k).getLast? =some x→x≠0)→h2.wf→K (.tup [.sl (some h.next) 0 k cp, .int .i64 0]) h2:=fun hl hw'=>hk _ _ _ hw' hle hvk ((TrimG.of (z:=0) hz hl).congr hcg) (by rw[List.length_take];omega)
 rcases Nat.eq_zero_or_pos k with h0|h0
 ·subst h0
  simp only[go_sem,q6,show decide ((0:Int)<((0:Nat):Int))=false from rfl]
  exact fin (by simp)
 ·obtain⟨i,e7,_,hg⟩:=hs.isN.at (j:=k-1) (by omega)
  injection e7 with e7
  subst e7
  rw[Nat.zero_add] at hg
  have e1:IntKind.i64.wrap ((k:Int)-1)=((k-1:Nat):Int):=by rw[wI]<;>omega
  simp only[go_sem,q6,show decide ((0:Int)<(k:Int))=true from decide_eq_true (by omega),e1]
  refine⟨by omega,by omega, ?_⟩
  simp only[go_sem,hg]
  by_cases hx:os[k-1]=0
  ·simp only[go_sem,show(((os[k-1]:Nat):Int)==0)=true by simp[hx],q6,e1]
   refine⟨by omega, .inl (by omega),hvk.isN.row, ?_⟩
   exact⟨k-1,by omega,by first|rfl|trivial|assumption,by first|rfl|trivial|assumption,by omega,drop_cons h0 hk1 hx hz⟩
  ·simp only[go_sem,show(((os[k-1]:Nat):Int)==0)=false by simp;omega,q6]
   refine fin fun x hl=> ?_
   rw[take_last h0 hk1] at hl
   injection hl with hl
   rw[←hl]
   exact hx
end
end
section
section
variable {wa wb v u:AV} {ba:Bool} {xs:List Nat} {ps:List (Bool×List Nat)} {h:H} {K:AV→H→Prop}
theorem kCopy_calls (hv:IsN h v xs) (hl:xs.length≤1000000) (hk:∀r h',h'.wf→h.le h'→IsG h.next h' r xs→K r h'):ACalls Try.prog 61 [v] h K:=by
 refine in_keep_Copy (by simp) fun hw=> ?_
 unfold c_keep_Copy
 simp only[go_sem]
 refine app_num (xs:=[]) (ys:=xs) hw hw (H.le_refl h) (IsF.nil _ _ _ _ _) hv (by simp;omega) fun r h' hw' hl' hr=> ?_
 rw[List.nil_append] at hr
 simp only[go_sem]
 exact fun _=>hk r h' hw' hl' hr
theorem kIntR_calls (na:IsN h wa xs) (nb:IsN h wb xs) (hl:xs.length≤1000000) (hk:∀h',h'.wf→h.le h'→K (.bool true) h'):ACalls Try.prog 51 [.agg [wa, .bool ba], .agg [wb, .bool ba]] h K:=by
 refine in_keep_Int (by simp) fun hw=> ?_
 unfold c_keep_Int
 simp only[go_sem]
 simp only[AV.cells,List.length_cons,List.length_nil,Nat.zero_add,Nat.reduceAdd]
 refine⟨rfl,rfl, ?_⟩
 generalize hh:(h.new ⟨some 45,2,_⟩).new ⟨some 45,2,_⟩=h1
 obtain⟨hl1,hw1,hn1,r1,r2⟩:=new2 hw hh
 have hR:(h.new ⟨some 45,2,[wa, .bool ba]⟩).next=h.next+1:=rfl
 simp only[go_sem,hR,(g2 r1).1,(g2 r1).2.1,(g2 r2).1,(g2 r2).2.1,Nat.zero_add,beq_self_eq_true]
 refine kSame_calls (na.mono hl1) (nb.mono hl1) (by omega) ?_
 simp only[go_sem]
 exact fun hw'=>hk _ hw' hl1
theorem CopyInt_calls (ha:IsN h wa xs) (hl:xs.length≤1000000) (hk:∀w h',h'.wf→h.le h'→w.one=true→IsN h' w xs→K (.agg [w, .bool ba]) h'):ACalls Try.prog 33 [.agg [wa, .bool ba]] h K:=by
 refine in_keep_CopyInt (by simp) fun hw=> ?_
 unfold c_keep_CopyInt
 simp only[go_sem]
 simp only[AV.cells,List.length_cons,List.length_nil,Nat.zero_add,Nat.reduceAdd]
 refine⟨rfl, ?_⟩
 generalize hh:(h.new ⟨some 45,2,_⟩).new ⟨some 45,2,_⟩=h1
 obtain⟨hl1,hw1,hn1,r1,r2⟩:=new2 hw hh
 have hR:(h.new ⟨some 45,2,[wa, .bool ba]⟩).next=h.next+1:=rfl
 simp only[go_sem,hR,(g2 r1).1,(g2 r1).2.1,Nat.zero_add]
 refine kCopy_calls (ha.mono hl1) hl fun a h2 hw2 hl2 hca=> ?_
 have hone:a.one=true:=by obtain⟨_,_,rfl⟩:=hca.form;rfl
 have r1:=hl2.2 _ _ r1
 have r2:=hl2.2 _ _ r2
 simp only[go_sem,hR,(g2 r1).2.1,Nat.zero_add,true_and,bldI hone]
 refine⟨by trivial,all2 hone,put2 hw hw2 (H.le_trans hl1 hl2) (by omega) r2 rfl fun g hwg hlg hg _ e1=> ?_⟩
 simp only[go_sem,hg]
 exact fun _=>hk _ g hwg hlg hone (IsW.monoE r2 (by simp) (by simp) hca.isN e1)
theorem CopyInts_calls (hv:IsA 2 IsI h v ps) (hlen:ps.length≤100000) (hpl:∀p∈ps,p.2.length≤1000000) (hk:∀r h',h'.wf→h.le h'→IsA 2 IsI h' r ps→K r h'):ACalls Try.prog 10 [v] h K:=by
 obtain⟨id,off,c,rfl⟩:=hv.form
 refine in_keep_CopyInts (by simp) fun hw=> ?_
 unfold c_keep_CopyInts
 simp only[go_sem]
 refine for_rule (fun i ρ h2=>i≤ps.length∧h2.wf∧h.le h2∧ρ 0= .sl id off ps.length c∧ρ 4= .int .i64 (i:Int)∧Live 45 2 h.next IsI h2 (ρ 3) (ps.take i)) ps.length
  ⟨by omega,hw,H.le_refl _,by first|rfl|trivial|assumption,by first|rfl|trivial|assumption,Live.nil _ _ _ _ _ _⟩ (fun i ρ h hI=>hI.1) ?_
 rintro i ρ h2 ⟨hi,hw2,hle,q0,q4,hs⟩
 rcases Nat.lt_or_ge i ps.length with h1|h1
 ·obtain⟨ii,l,rfl,_,hlz,hg,_,w,rfl,hIw,hDw,hLw⟩:=hv.atz (by omega) h1
  have hg2:=H.gets_le hle hg
  obtain⟨io,co,q3⟩:=hs.form
  have hlen2:(ps.take i).length=i:=by simp;omega
  rw[hlen2] at q3
  rw[q3] at hs
  simp only[go_sem,q0,q3,q4,ltT h1]
  refine⟨by omega,by omega, ?_⟩
  simp only[go_sem,hg2,q0,q3,q4]
  refine CopyInt_calls ((show IsN h w _ from hIw).mono hle) (hpl _ (List.getElem_mem h1)) fun w2 h3 hw3 hl3 hone hn=> ?_
  have hle3:=H.le_trans hle hl3
  have hs3:=hs.mono IsI.grows hl3
  have hnd:IsN (h3.del io) w2 ps[i].2:=by
   cases io with
   |none=>exact hn.mono H.del_nil
   |some j=>
    obtain⟨_,r,hr,ho,hz⟩:=hs3.ownz j rfl
    exact IsW.delT hn hr (by rw[ho];simp) (by rw[hz];decide)
  simp only[go_sem,q0,q3,q4,bldZ hone (show(AV.bool ps[i].1).one=true from rfl)]
  refine hs3.app (K:=_) IsI.grows (by omega) hw hw3 hle3 hlen2.symm (y:=ps[i]) ⟨_,rfl,hnd,hDw,hLw⟩ rfl (all2b hone rfl) (by omega) (by omega) rfl fun v2 h4 hw4 hle4 hs4=> ?_
  simp only[go_sem,q0,q4,incI (i:=i) (by omega)]
  refine⟨by omega,hw4,hle4,by first|rfl|trivial|assumption,by first|rfl|trivial|assumption, ?_⟩
  rw[List.take_succ_eq_append_getElem h1]
  exact hs4
 ·obtain rfl:i=ps.length:=by omega
  rw[List.take_length] at hs
  simp only[go_sem,q0,q4,ltF (Nat.le_refl ps.length)]
  exact fun hw'=>hk _ h2 hw' hle (hs.isA IsI.grows)
theorem kInts_calls (ha:IsA 2 IsI h v ps) (hb:IsA 2 IsI h u ps) (hlen:ps.length≤100000) (hpl:∀p∈ps,p.2.length≤1000000) (hk:∀h',h'.wf→h.le h'→K (.bool true) h'):ACalls Try.prog 24 [v,u] h K:=by
 obtain⟨id,off,c,rfl⟩:=ha.form
 obtain⟨id2,off2,c2,rfl⟩:=hb.form
 refine in_keep_Ints (by simp) fun hw=> ?_
 unfold c_keep_Ints
 simp only[go_sem,neF (show(ps.length:Int)=ps.length from rfl)]
 refine for_rule (fun i ρ h2=>i≤ps.length∧h2.wf∧h.le h2∧ρ 0= .sl id off ps.length c∧ρ 1= .sl id2 off2 ps.length c2∧ρ 5= .int .i64 (i:Int)) ps.length
  ⟨by omega,hw,H.le_refl _,by first|rfl|trivial|assumption,by first|rfl|trivial|assumption,by first|rfl|trivial|assumption⟩ (fun i ρ h hI=>hI.1) ?_
 rintro i ρ h2 ⟨hi,hw2,hle,q0,q1,q5⟩
 rcases Nat.lt_or_ge i ps.length with h1|h1
 ·obtain⟨ii,l,rfl,_,_,hg,_,w,rfl,hIw,_,_⟩:=ha.atz (by omega) h1
  obtain⟨jj,l,rfl,_,_,hg',_,w',rfl,hIw',_,_⟩:=hb.atz (by omega) h1
  have hg:=H.gets_le hle hg
  have hg':=H.gets_le hle hg'
  simp only[go_sem,q0,q1,q5,ltT h1]
  refine⟨by omega,by omega, ?_⟩
  simp only[go_sem,hg,q0,q1,q5]
  refine⟨by omega,by omega, ?_⟩
  simp only[go_sem,hg,hg',q0,q1,q5]
  refine kIntR_calls (IsW.mono hIw hle) (IsW.mono hIw' hle) (hpl _ (List.getElem_mem h1)) fun h3 hw3 hl3=> ?_
  simp only[go_sem,q0,q1,q5,Bool.not_true,incI (i:=i) (by omega)]
  exact⟨by omega,hw3,H.le_trans hle hl3,by first|rfl|trivial|assumption,by first|rfl|trivial|assumption,by first|rfl|trivial|assumption⟩
 ·obtain rfl:i=ps.length:=by omega
  simp only[go_sem,q0,q5,ltF (Nat.le_refl ps.length)]
  exact fun hw'=>hk h2 hw' hle
end
section
variable {W j:Nat} {v va vb:AV} {zs ys:List Int} {h:H} {K:AV→H→Prop}
theorem zrat_calls (hv:IsA 2 (ZqL W) h v zs) (hk:∀w h',h'.wf→h.le h'→Num 4294967296 h' w (zs.getD j 0).natAbs→Wz W (zs.getD j 0)→K (.agg [w, .bool (decide (zs.getD j 0<0))]) h'):ACalls Try.prog 39 [v, .int .i64 (j:Int)] h K:=by
 obtain⟨id,off,c,rfl⟩:=hv.form
 refine in_ref28_at (by simp) fun hw=> ?_
 unfold c_ref28_at
 have r3:=H.rows_new h ⟨some 61,2,[.sl none 0 0 none, .bool false]⟩
 have hl4:=H.le_new hw (H.le_refl h) ⟨some 61,2,[.sl none 0 0 none, .bool false]⟩
 have hw4:=H.wf_new hw ⟨some 61,2,[.sl none 0 0 none, .bool false]⟩
 have e0:decide ((j:Int)<0)=false:=decide_eq_false (by omega)
 rcases Nat.lt_or_ge j zs.length with h1|h1
 ·obtain⟨ii,l,rfl,_,_,hg,_,hR⟩:=hv.atz (by omega) h1
  have hWz:=hR.2
  obtain⟨w,rfl,nwz,hone⟩:=zq_open hR
  have hg:=H.gets_le hl4 hg
  simp only[go_sem,e0,show decide ((zs.length:Int)≤(j:Int))=false from decide_eq_false (by omega)]
  simp only[List.length_cons,List.length_nil,Nat.zero_add,Nat.reduceAdd]
  generalize hR3:h.next=R3 at*
  generalize h.new ⟨some 61,2,[.sl none 0 0 none, .bool false]⟩=g4 at*
  refine⟨by omega,by omega, ?_⟩
  simp only[go_sem,hg]
  refine⟨by trivial,all2 hone,put2 hw hw4 hl4 (by omega) r3 rfl fun g5 hw5 hl5 hg5 r3n e5=> ?_⟩
  simp only[go_sem,hg5]
  rw[←getG_in (z:=0) h1] at hWz nwz⊢
  exact fun hw'=>hk w g5 hw' hl5 ((nwz.mono hl4).lee2 r3 e5) hWz
 ·simp only[go_sem,e0,show decide ((zs.length:Int)≤(j:Int))=true from decide_eq_true (by omega),bldn]
  simp only[List.length_cons,List.length_nil,Nat.zero_add,Nat.reduceAdd]
  generalize hR3:h.next=R3 at*
  generalize h.new ⟨some 61,2,[.sl none 0 0 none, .bool false]⟩=g4 at*
  refine⟨by trivial,by trivial,put2 hw hw4 hl4 (by omega) r3 rfl fun g5 hw5 hl5 hg5 r3n e5=> ?_⟩
  simp only[go_sem,hg5]
  have hz:=getG_out (z:=(0:Int)) h1
  rw[hz] at hk
  exact fun hw'=>hk _ g5 hw' hl5 ⟨[],IsN.nil _ _,by simp,by simp,rfl⟩ (Wz.zero _)
set_option maxHeartbeats 1000000 in
theorem zrAddP_calls (hW:W≤16000) (ha:IsA 2 (ZqL W) h va zs) (hb:IsA 2 (ZqL W) h vb ys) (hla:zs.length≤100000) (hlb:ys.length≤100000)
  (hk:∀r ws h',h'.wf→h.le h'→IsA 2 (ZqL (W+1)) h' r ws→TrimG 0 (fun i=>zs.getD i 0+ys.getD i 0) ws→ws.length≤max zs.length ys.length→K r h'):ACalls Try.prog 13 [va,vb] h K:=by
 obtain⟨id,off,c,rfl⟩:=ha.form
 obtain⟨id2,off2,c2,rfl⟩:=hb.form
 refine in_ref28_Add (by simp) fun hw=> ?_
 unfold c_ref28_Add
 obtain⟨n,hn⟩:∃n,n=max zs.length ys.length:=⟨_,rfl⟩
 obtain⟨F,hF⟩:∃F:Nat→Int,F=fun i=>zs.getD i 0+ys.getD i 0:=⟨_,rfl⟩
 obtain⟨A,hA⟩:∃A:AV,A= .sl id off zs.length c:=⟨_,rfl⟩
 obtain⟨B,hB⟩:∃B:AV,B= .sl id2 off2 ys.length c2:=⟨_,rfl⟩
 rw[←hA] at ha⊢
 rw[←hB] at hb⊢
 simp only[go_sem]
 refine loop_cut (fun ρ g=>g.wf∧h.le g∧Live 61 2 h.next (ZqL (W+1)) g (ρ 5) (rowF F n)) ?_ ?_
 ·refine for_rule (fun j ρ g=>j≤n∧g.wf∧h.le g∧ρ 0=A∧ρ 1=B∧ρ 6= .int .i64 (j:Int)∧Live 61 2 h.next (ZqL (W+1)) g (ρ 5) (rowF F j)) n
   ⟨by omega,hw,H.le_refl _,by first|rfl|trivial|assumption,by first|rfl|trivial|assumption,by first|rfl|trivial|assumption,Live.nil _ _ _ _ _ _⟩ (fun i ρ h hI=>hI.1) ?_
  rintro j ρ g ⟨hj,hwg,hle,q0,q1,q6,hs⟩
  obtain⟨io,co,q5⟩:=hs.form
  rw[rowF_len] at q5
  rw[q5] at hs
  rcases Nat.lt_or_ge j n with h3|h3
  ·simp only[go_sem,q0,q1,q5,q6,hA,hB,maxN,←hn,ltT h3]
   rw[←hA,←hB]
   refine zrat_calls (ha.mono ZqL.grows hle) fun w g1 hw1 hl1 nw wz1=> ?_
   simp only[go_sem,q0,q1,q5,q6]
   refine zrat_calls (hb.mono ZqL.grows (H.le_trans hle hl1)) fun w2 g2 hw2 hl2 nw2 wz2=> ?_
   simp only[go_sem,q0,q1,q5,q6]
   refine zrAdd_calls (nw.mono hl2) nw2 (wz1.big (by omega)) (wz2.big (by omega)) fun r g3 hw3 hl3 hr=> ?_
   rw[sg_self,sg_self,show zs.getD j 0+ys.getD j 0=F j by rw[hF]] at hr
   have hWz:Wz (W+1) (F j):=by rw[hF];exact wz1.add wz2
   have hs3:=hs.mono ZqL.grows ((H.le_trans hl1 (H.le_trans hl2 hl3)))
   have hof:=hr.off hs3
   obtain⟨o0,o1,rfl,oo0,oo1⟩:=hr.two
   simp only[go_sem,q0,q1,q5,q6,bldZ oo0 oo1]
   refine hs3.app ZqL.grows (by omega) hw hw3 ((H.le_trans hle (H.le_trans hl1 (H.le_trans hl2 hl3)))) (by rw[rowF_len]) (y:=F j) ⟨hof,hWz⟩ rfl (all2b oo0 oo1) (by omega) (by omega) rfl fun v5 h6 hw6 hl6 hs6=> ?_
   simp only[go_sem,q0,q1,q6,incI (i:=j) (by omega)]
   exact⟨by omega,hw6,hl6,by first|rfl|trivial|assumption,by first|rfl|trivial|assumption,by first|rfl|trivial|assumption,by rw[←rowF_snoc];exact hs6⟩
  ·obtain rfl:j=n:=by omega
   simp only[go_sem,q0,q1,q6,hA,hB,maxN,←hn,ltF (Nat.le_refl j)]
   exact⟨hwg,hle,by rw[q5];exact hs⟩
 rintro ρ g ⟨hwg,hle,hs⟩
 simp only[go_sem]
 refine zrnorm_calls (hs.isA ZqL.grows) (by rw[rowF_len];omega) fun r ws h3 hw3 hl3 hr ht hyl _=> ?_
 simp only[go_sem]
 rw[rowF_len] at hyl
 refine fun hw'=>hk r ws h3 hw' (H.le_trans hle hl3) hr (ht.congr fun i=> ?_) (by omega)
 rw[rowF_getD,hF]
 split
 ·rfl
 ·rw[getG_out (by omega),getG_out (by omega)]
  rfl
set_option maxHeartbeats 1000000 in
theorem zrSubP_calls (hW:W≤16000) (ha:IsA 2 (ZqL W) h va zs) (hb:IsA 2 (ZqL W) h vb ys) (hla:zs.length≤100000) (hlb:ys.length≤100000)
  (hk:∀r ws h',h'.wf→h.le h'→IsA 2 (ZqL (W+1)) h' r ws→TrimG 0 (fun i=>zs.getD i 0-ys.getD i 0) ws→ws.length≤max zs.length ys.length→K r h'):ACalls Try.prog 14 [va,vb] h K:=by
 obtain⟨id,off,c,rfl⟩:=ha.form
 obtain⟨id2,off2,c2,rfl⟩:=hb.form
 refine in_ref28_Sub (by simp) fun hw=> ?_
 unfold c_ref28_Sub
 obtain⟨n,hn⟩:∃n,n=max zs.length ys.length:=⟨_,rfl⟩
 obtain⟨F,hF⟩:∃F:Nat→Int,F=fun i=>zs.getD i 0-ys.getD i 0:=⟨_,rfl⟩
 obtain⟨A,hA⟩:∃A:AV,A= .sl id off zs.length c:=⟨_,rfl⟩
 obtain⟨B,hB⟩:∃B:AV,B= .sl id2 off2 ys.length c2:=⟨_,rfl⟩
 rw[←hA] at ha⊢
 rw[←hB] at hb⊢
 simp only[go_sem]
 refine loop_cut (fun ρ g=>g.wf∧h.le g∧Live 61 2 h.next (ZqL (W+1)) g (ρ 5) (rowF F n)) ?_ ?_
 ·refine for_rule (fun j ρ g=>j≤n∧g.wf∧h.le g∧ρ 0=A∧ρ 1=B∧ρ 6= .int .i64 (j:Int)∧Live 61 2 h.next (ZqL (W+1)) g (ρ 5) (rowF F j)) n
   ⟨by omega,hw,H.le_refl _,by first|rfl|trivial|assumption,by first|rfl|trivial|assumption,by first|rfl|trivial|assumption,Live.nil _ _ _ _ _ _⟩ (fun i ρ h hI=>hI.1) ?_
  rintro j ρ g ⟨hj,hwg,hle,q0,q1,q6,hs⟩
  obtain⟨io,co,q5⟩:=hs.form
  rw[rowF_len] at q5
  rw[q5] at hs
  rcases Nat.lt_or_ge j n with h3|h3
  ·simp only[go_sem,q0,q1,q5,q6,hA,hB,maxN,←hn,ltT h3]
   rw[←hA,←hB]
   refine zrat_calls (ha.mono ZqL.grows hle) fun w g1 hw1 hl1 nw wz1=> ?_
   simp only[go_sem,q0,q1,q5,q6]
   refine zrat_calls (hb.mono ZqL.grows (H.le_trans hle hl1)) fun w2 g2 hw2 hl2 nw2 wz2=> ?_
   simp only[go_sem,q0,q1,q5,q6]
   refine zrSub_calls (nw.mono hl2) nw2 (wz1.big (by omega)) (wz2.big (by omega)) fun r g3 hw3 hl3 hr=> ?_
   rw[sg_self,sg_self,show zs.getD j 0-ys.getD j 0=F j by rw[hF]] at hr
   have hWz:Wz (W+1) (F j):=by rw[hF];exact wz1.sub wz2
   have hs3:=hs.mono ZqL.grows ((H.le_trans hl1 (H.le_trans hl2 hl3)))
   have hof:=hr.off hs3
   obtain⟨o0,o1,rfl,oo0,oo1⟩:=hr.two
   simp only[go_sem,q0,q1,q5,q6,bldZ oo0 oo1]
   refine hs3.app ZqL.grows (by omega) hw hw3 ((H.le_trans hle (H.le_trans hl1 (H.le_trans hl2 hl3)))) (by rw[rowF_len]) (y:=F j) ⟨hof,hWz⟩ rfl (all2b oo0 oo1) (by omega) (by omega) rfl fun v5 h6 hw6 hl6 hs6=> ?_
   simp only[go_sem,q0,q1,q6,incI (i:=j) (by omega)]
   exact⟨by omega,hw6,hl6,by first|rfl|trivial|assumption,by first|rfl|trivial|assumption,by first|rfl|trivial|assumption,by rw[←rowF_snoc];exact hs6⟩
  ·obtain rfl:j=n:=by omega
   simp only[go_sem,q0,q1,q6,hA,hB,maxN,←hn,ltF (Nat.le_refl j)]
   exact⟨hwg,hle,by rw[q5];exact hs⟩
 rintro ρ g ⟨hwg,hle,hs⟩
 simp only[go_sem]
 refine zrnorm_calls (hs.isA ZqL.grows) (by rw[rowF_len];omega) fun r ws h3 hw3 hl3 hr ht hyl _=> ?_
 simp only[go_sem]
 rw[rowF_len] at hyl
 refine fun hw'=>hk r ws h3 hw' (H.le_trans hle hl3) hr (ht.congr fun i=> ?_) (by omega)
 rw[rowF_getD,hF]
 split
 ·rfl
 ·rw[getG_out (by omega),getG_out (by omega)]
  rfl
theorem zrDerive_calls (hW:W≤16000) (hv:IsA 2 (ZqL W) h v zs) (hl:zs.length≤100000)
  (hk:∀r ws h',h'.wf→h.le h'→IsA 2 (ZqL (W+1)) h' r ws→TrimG 0 (fun i=>drvI (fun i=>zs.getD i 0) i) ws→ws.length≤zs.length→K r h'):ACalls Try.prog 17 [v] h K:=by
 obtain⟨id,off,cp,rfl⟩:=hv.form
 refine in_ref28_Derive (by simp) fun hw=> ?_
 unfold c_ref28_Derive
 simp only[go_sem]
 obtain⟨F,hF⟩:∃F:Nat→Int,F=fun i=>drvI (fun i=>zs.getD i 0) i:=⟨_,rfl⟩
 obtain⟨n,hn⟩:∃n,n=zs.length-1:=⟨_,rfl⟩
 refine loop_cut (fun ρ h2=>h2.wf∧h.le h2∧Live 61 2 h.next (ZqL (W+1)) h2 (ρ 3) (rowF F n)) ?_ ?_
 ·refine for_rule (fun j ρ h2=>j≤n∧h2.wf∧h.le h2∧ρ 0= .sl id off zs.length cp∧ρ 4= .int .i64 ((j+1:Nat):Int)∧Live 61 2 h.next (ZqL (W+1)) h2 (ρ 3) (rowF F j)) n
   ⟨by omega,hw,H.le_refl _,by first|rfl|trivial|assumption,by first|rfl|trivial|assumption,Live.nil _ _ _ _ _ _⟩ (fun i ρ h hI=>hI.1) ?_
  rintro j ρ h2 ⟨hj,hw2,hle,q0,q4,hs⟩
  rcases Nat.lt_or_ge j n with h3|h3
  ·have h3':j+1<zs.length:=by omega
   obtain⟨i,l,rfl,_,_,hg,_,hR⟩:=hv.atz (by omega) h3'
   have hWz:=hR.2
   obtain⟨w,rfl,nw,_⟩:=zq_open hR
   have hg:=H.gets_le hle hg
   obtain⟨io,co,q3⟩:=hs.form
   rw[rowF_len] at q3
   rw[q3] at hs
   have hFj:zs[j+1]*((j+1:Nat):Int)=F j:=by
    rw[hF]
    show _=((j+1:Nat):Int)*zs.getD (j+1) 0
    rw[getG_in h3',Int.mul_comm]
   have hWk:Wz 1 (((j+1:Nat):Int)):=wlen_le.2 (by rw[Nat.pow_one];show j+1<18446744073709551616;omega)
   have hWF:Wz (W+1) (F j):=by
    rw[←hFj]
    exact hWz.mul hWk
   simp only[go_sem,q0,q3,q4,ltT h3']
   refine⟨by omega,by omega, ?_⟩
   simp only[go_sem,hg,q0,q3,q4]
   refine zrSmall_calls (n:=((j+1:Nat):Int)) (by omega) (by omega) fun o h4 hw4 hl4 ho=> ?_
   obtain⟨wo,rfl,no⟩:=zr_open ho
   have hg4:=H.gets_le hl4 hg
   simp only[go_sem,hg4,true_and,q0,q3,q4]
   refine zrMul_calls ((nw.mono hle).mono hl4) no (hWz.big (by omega)) (hWk.big (by omega)) fun o2 h5 hw5 hl5 ho2=> ?_
   rw[sg_self,sg_self,hFj] at ho2
   have hs5:=hs.mono ZqL.grows (H.le_trans hl4 hl5)
   have hof:=ho2.off hs5
   obtain⟨o0,o1,rfl,oo0,oo1⟩:=ho2.two
   simp only[go_sem,q0,q3,q4,bldZ oo0 oo1]
   refine hs5.app ZqL.grows (by omega) hw hw5 ((H.le_trans hle (H.le_trans hl4 hl5))) (by rw[rowF_len]) (y:=F j) ⟨hof,hWF⟩ rfl (all2b oo0 oo1) (by omega) (by omega) rfl fun v5 h6 hw6 hl6 hs6=> ?_
   simp only[go_sem,q0,q3,q4,incI (i:=j+1) (by omega)]
   exact⟨by omega,hw6,hl6,by first|rfl|trivial|assumption,by first|rfl|trivial|assumption,by rw[←rowF_snoc];exact hs6⟩
  ·obtain rfl:j=n:=by omega
   simp only[go_sem,q0,q4,ltF (show zs.length≤j+1 by omega)]
   exact⟨hw2,hle,hs⟩
 rintro ρ h2 ⟨hw2,hle,hs⟩
 simp only[go_sem]
 refine zrnorm_calls (hs.isA ZqL.grows) (by rw[rowF_len];omega) fun r ys h3 hw3 hl3 hr ht hyl _=> ?_
 simp only[go_sem]
 rw[rowF_len] at hyl
 refine fun hw'=>hk r ys h3 hw' (H.le_trans hle hl3) hr (ht.congr fun i=> ?_) (by omega)
 rw[rowF_getD,hF]
 split
 ·rfl
 ·show(0:Int)=((i+1:Nat):Int)*zs.getD (i+1) 0
  rw[getG_out (by omega),Int.mul_zero]
theorem zrHeight_calls (hW:W≤16000) (hv:IsA 2 (ZqL W) h v zs) (hl:zs.length≤1000000) (hk:K (.int .i64 (hgt zs:Nat)) h):ACalls Try.prog 23 [v] h K:=by
 obtain⟨id,off,c,rfl⟩:=hv.form
 refine in_ref28_Height (by simp) fun hw=> ?_
 unfold c_ref28_Height
 simp only[go_sem]
 refine for_rule (fun j ρ h2=>j≤zs.length∧h2=h∧ρ 0= .sl id off zs.length c∧ρ 3= .int .i64 (hgt (zs.take j):Nat)∧ρ 4= .int .i64 (j:Int)) zs.length
  ⟨by omega,rfl,by first|rfl|trivial|assumption,by first|rfl|trivial|assumption,by first|rfl|trivial|assumption⟩ (fun i ρ h hI=>hI.1) ?_
 rintro j ρ h2 ⟨hj,rfl,q0,q3,q4⟩
 rcases Nat.lt_or_ge j zs.length with h3|h3
 ·obtain⟨i,l,rfl,_,_,hg,hg1,hR⟩:=hv.atz (by omega) h3
  have hWz:=hR.2
  obtain⟨w,rfl,nw,hone⟩:=zq_open hR
  have hg0:=hg1 0 (by omega)
  simp only[go_sem,q0,q3,q4,ltT h3]
  refine⟨by omega,by omega, ?_⟩
  simp only[Nat.add_zero,List.getElem?_cons_zero] at hg0
  simp only[go_sem,hg0,Nat.add_zero,q0,q3,q4]
  refine Bits_calls nw (hWz.big (by omega)) fun L hL hBL=> ?_
  obtain rfl:=hBL.uniq (blen_spec _)
  simp only[go_sem,q0,q3,q4,maxN,incI (i:=j) (by omega)]
  rw[hgt_succ h3]
  exact⟨by omega,by first|rfl|trivial|assumption,by first|rfl|trivial|assumption,by first|rfl|trivial|assumption,by first|rfl|trivial|assumption⟩
 ·obtain rfl:j=zs.length:=by omega
  rw[List.take_length] at q3
  simp only[go_sem,q0,q3,q4,ltF (Nat.le_refl zs.length)]
  exact fun hw'=>hk
end
end
section
theorem eucR_pos {z:Int} {p:Nat} (hp:0<p):eucR z (sg false p)=z%(p:Int):=by
 show eucR z (p:Int)=_
 have h1:z=z.tmod (p:Int)+(p:Int)*z.tdiv (p:Int):=(Int.tmod_add_mul_tdiv z (p:Int)).symm
 have h2:(z.tmod (p:Int)).natAbs<p:=by
  rw[Int.natAbs_tmod]
  exact Nat.mod_lt _ hp
 unfold eucR
 generalize z.tmod (p:Int)=r at*
 generalize z.tdiv (p:Int)=q at*
 split
 ·rw[if_neg (by omega),h1,show r+(p:Int)*q=(r+p)+(p:Int)*(q-1) by rw[Int.mul_sub];omega,Int.add_mul_emod_self_left,Int.emod_eq_of_lt (by omega) (by omega)]
 ·rw[h1,Int.add_mul_emod_self_left,Int.emod_eq_of_lt (by omega) (by omega)]
section
variable {wa wp v:AV} {z:Int} {p x W:Nat} {zs:List Int} {h:H} {K:AV→H→Prop}
theorem zrNat_calls (nw:Num 4294967296 h wp x) (hk:∀h',h'.wf→h.le h'→Num 4294967296 h' wp x→K (.agg [wp, .bool false]) h'):ACalls Try.prog 59 [wp] h K:=by
 have hone:=nw.one
 refine in_ref17_Nat (by simp) fun hw=> ?_
 unfold c_ref17_Nat
 have r1:=H.rows_new h ⟨some 61,2,[.sl none 0 0 none, .bool false]⟩
 have hl1:=H.le_new hw (H.le_refl h) ⟨some 61,2,[.sl none 0 0 none, .bool false]⟩
 have hw1:=H.wf_new hw ⟨some 61,2,[.sl none 0 0 none, .bool false]⟩
 simp only[go_sem,bldI hone]
 simp only[List.length_cons,List.length_nil,Nat.zero_add,Nat.reduceAdd]
 refine⟨by trivial,all2 hone,put2 hw hw1 hl1 (by omega) r1 rfl fun g hwg hlg hg _ e1=> ?_⟩
 simp only[go_sem,hg]
 exact fun _=>hk g hwg hlg ((nw.mono hl1).lee2 r1 e1)
set_option maxHeartbeats 2000000 in
theorem zrResidue_calls (na:Num 4294967296 h wa z.natAbs) (np:Num 4294967296 h wp p) (hx:Big z.natAbs) (hpB:Big p) (hp:0<p) (hk:∀w h',h'.wf→h.le h'→Num 4294967296 h' w (z%(p:Int)).toNat→K w h'):ACalls Try.prog 31 [.agg [wa, .bool (decide (z<0))],wp] h K:=by
 refine in_ref17_Residue (by simp) fun hw=> ?_
 unfold c_ref17_Residue
 simp only[go_sem]
 simp only[AV.cells,List.length_cons,List.length_nil,Nat.zero_add,Nat.reduceAdd]
 refine⟨rfl, ?_⟩
 generalize hh:(h.new ⟨some 61,2,[wa, .bool (decide (z<0))]⟩)=g
 have rb:g.rows h.next=some ⟨some 61,2,[wa, .bool (decide (z<0))]⟩:=by rw[←hh];exact H.rows_new _ _
 have lC:h.le g:=by rw[←hh];exact H.le_new hw (H.le_refl h) _
 have hwC:g.wf:=by rw[←hh];exact H.wf_new hw _
 clear hh
 refine awp_cut (fun ρ' g'=>g'.wf∧h.le g'∧∃R b0 b1,ρ' 6= .ptr (some (R,0))∧g'.rows R=some ⟨some 61,2,[b0,b1]⟩∧Zr g' (.agg [b0,b1]) (eucR z (sg false p))) ?_ ?_
 ·have naC:=na.mono lC
  have npC:=np.mono lC
  simp only[go_sem,w_regt]
  have n1:=H.le_new hwC (H.le_refl g) ⟨some 61,2,[.sl none 0 0 none, .bool false]⟩
  have n2:=H.le_trans n1 (H.le_new (H.wf_new hwC ⟨some 61,2,[.sl none 0 0 none, .bool false]⟩) (H.le_refl _) ⟨some 61,2,[.sl none 0 0 none, .bool false]⟩)
  simp only[go_sem,(g2 rb).2.2,(g2 (n1.2 _ _ rb)).2.2,(g2 (n2.2 _ _ rb)).2.2,List.length_cons,List.length_nil,Nat.zero_add,Nat.reduceAdd,true_and,and_true]
  clear n2
  clear n1
  refine⟨?_, ?_, ?_⟩
  ·skip
   refine zrNat_calls npC fun gC1 hwx hlx hN=> ?_
   replace hwC:=hwx
   replace lC:=H.le_trans lC hlx
   replace rb:=hlx.2 _ _ rb
   replace naC:=naC.mono hlx
   replace npC:=npC.mono hlx
   have n1:=H.le_new hwC (H.le_refl gC1) ⟨some 61,2,[.sl none 0 0 none, .bool false]⟩
   have n2:=H.le_trans n1 (H.le_new (H.wf_new hwC ⟨some 61,2,[.sl none 0 0 none, .bool false]⟩) (H.le_refl _) ⟨some 61,2,[.sl none 0 0 none, .bool false]⟩)
   simp only[go_sem,(g2 rb).2.2,(g2 (n1.2 _ _ rb)).2.2,(g2 (n2.2 _ _ rb)).2.2,List.length_cons,List.length_nil,Nat.zero_add,Nat.reduceAdd,true_and,and_true]
   clear n2
   clear n1
   refine⟨?_, ?_, ?_⟩
   ·skip
    refine zrEuclid_calls naC hN hx hpB hp fun q r gC2 hwx hlx hq hr=> ?_
    rw[sg_self] at hq hr
    obtain⟨a0,a1,rfl,oa0,oa1⟩:=hq.two
    obtain⟨b0,b1,rfl,ob0,ob1⟩:=hr.two
    replace hwC:=hwx
    replace lC:=H.le_trans lC hlx
    replace rb:=hlx.2 _ _ rb
    replace naC:=naC.mono hlx
    replace npC:=npC.mono hlx
    replace hN:=hN.mono hlx
    have n1:=H.le_new hwC (H.le_refl gC2) ⟨some 61,2,[.sl none 0 0 none, .bool false]⟩
    have n2:=H.le_trans n1 (H.le_new (H.wf_new hwC ⟨some 61,2,[.sl none 0 0 none, .bool false]⟩) (H.le_refl _) ⟨some 61,2,[.sl none 0 0 none, .bool false]⟩)
    simp only[go_sem,(g2 rb).2.2,(g2 (n1.2 _ _ rb)).2.2,(g2 (n2.2 _ _ rb)).2.2,List.length_cons,List.length_nil,Nat.zero_add,Nat.reduceAdd,true_and,and_true]
    clear n2
    clear n1
    refine⟨?_, ?_⟩
    ·skip
     have r5:=H.rows_new gC2 ⟨some 61,2,[.sl none 0 0 none, .bool false]⟩
     have hlx:=H.le_new hwC (H.le_refl gC2) ⟨some 61,2,[.sl none 0 0 none, .bool false]⟩
     have lb_5:=lC.1
     replace hwC:=H.wf_new hwC ⟨some 61,2,[.sl none 0 0 none, .bool false]⟩
     generalize hR5:gC2.next=R5 at*
     generalize gC2.new ⟨some 61,2,[.sl none 0 0 none, .bool false]⟩=gA3 at*
     replace lC:=H.le_trans lC hlx
     replace rb:=hlx.2 _ _ rb
     replace naC:=naC.mono hlx
     replace npC:=npC.mono hlx
     replace hq:=hq.mono hlx
     replace hr:=hr.mono hlx
     have r6:=H.rows_new gA3 ⟨some 61,2,[.sl none 0 0 none, .bool false]⟩
     have hlx:=H.le_new hwC (H.le_refl gA3) ⟨some 61,2,[.sl none 0 0 none, .bool false]⟩
     have lt_r5_6:=H.row_lt hwC r5
     have lb_6:=lC.1
     replace hwC:=H.wf_new hwC ⟨some 61,2,[.sl none 0 0 none, .bool false]⟩
     generalize hR6:gA3.next=R6 at*
     generalize gA3.new ⟨some 61,2,[.sl none 0 0 none, .bool false]⟩=gA4 at*
     replace lC:=H.le_trans lC hlx
     replace rb:=hlx.2 _ _ rb
     replace naC:=naC.mono hlx
     replace npC:=npC.mono hlx
     replace r5:=hlx.2 _ _ r5
     replace hq:=hq.mono hlx
     replace hr:=hr.mono hlx
     refine⟨all22 oa0 oa1,put2 hw hwC lC (by omega) r5 rfl fun gS5 hwx lx _ r5n ex=> ?_⟩
     replace hwC:=hwx
     replace lC:=lx
     replace hq:=hq.lee2 r5 ex
     replace hr:=hr.lee2 r5 ex
     replace r6:=ex.2 _ _ (by omega) r6
     simp only[go_sem,List.length_cons,List.length_nil,Nat.zero_add,Nat.reduceAdd,true_and,and_true]
     refine⟨all22 ob0 ob1,put2 hw hwC lC (by omega) r6 rfl fun gS6 hwx lx _ r6n ex=> ?_⟩
     replace hwC:=hwx
     replace lC:=lx
     replace hq:=hq.lee2 r6 ex
     replace r5n:=ex.2 _ _ (by omega) r5n
     replace hr:=hr.lee2 r6 ex
     simp only[go_sem,List.length_cons,List.length_nil,Nat.zero_add,Nat.reduceAdd,true_and,and_true]
     exact⟨hwC,lC,R6,_,_,by first|rfl|trivial|assumption,r6n,hr⟩
    ·skip
     have r6:=H.rows_new gC2 ⟨some 61,2,[.sl none 0 0 none, .bool false]⟩
     have hlx:=H.le_new hwC (H.le_refl gC2) ⟨some 61,2,[.sl none 0 0 none, .bool false]⟩
     have lb_6:=lC.1
     replace hwC:=H.wf_new hwC ⟨some 61,2,[.sl none 0 0 none, .bool false]⟩
     generalize hR6:gC2.next=R6 at*
     generalize gC2.new ⟨some 61,2,[.sl none 0 0 none, .bool false]⟩=gA7 at*
     replace lC:=H.le_trans lC hlx
     replace rb:=hlx.2 _ _ rb
     replace naC:=naC.mono hlx
     replace npC:=npC.mono hlx
     replace hq:=hq.mono hlx
     replace hr:=hr.mono hlx
     have r5:=H.rows_new gA7 ⟨some 61,2,[.sl none 0 0 none, .bool false]⟩
     have hlx:=H.le_new hwC (H.le_refl gA7) ⟨some 61,2,[.sl none 0 0 none, .bool false]⟩
     have lt_r6_5:=H.row_lt hwC r6
     have lb_5:=lC.1
     replace hwC:=H.wf_new hwC ⟨some 61,2,[.sl none 0 0 none, .bool false]⟩
     generalize hR5:gA7.next=R5 at*
     generalize gA7.new ⟨some 61,2,[.sl none 0 0 none, .bool false]⟩=gA8 at*
     replace lC:=H.le_trans lC hlx
     replace rb:=hlx.2 _ _ rb
     replace naC:=naC.mono hlx
     replace npC:=npC.mono hlx
     replace r6:=hlx.2 _ _ r6
     replace hq:=hq.mono hlx
     replace hr:=hr.mono hlx
     refine⟨all22 oa0 oa1,put2 hw hwC lC (by omega) r5 rfl fun gS9 hwx lx _ r5n ex=> ?_⟩
     replace hwC:=hwx
     replace lC:=lx
     replace hq:=hq.lee2 r5 ex
     replace hr:=hr.lee2 r5 ex
     replace r6:=ex.2 _ _ (by omega) r6
     simp only[go_sem,List.length_cons,List.length_nil,Nat.zero_add,Nat.reduceAdd,true_and,and_true]
     refine⟨all22 ob0 ob1,put2 hw hwC lC (by omega) r6 rfl fun gS10 hwx lx _ r6n ex=> ?_⟩
     replace hwC:=hwx
     replace lC:=lx
     replace hq:=hq.lee2 r6 ex
     replace r5n:=ex.2 _ _ (by omega) r5n
     replace hr:=hr.lee2 r6 ex
     simp only[go_sem,List.length_cons,List.length_nil,Nat.zero_add,Nat.reduceAdd,true_and,and_true]
     exact⟨hwC,lC,R6,_,_,by first|rfl|trivial|assumption,r6n,hr⟩
   ·skip
    have r5:=H.rows_new gC1 ⟨some 61,2,[.sl none 0 0 none, .bool false]⟩
    have hlx:=H.le_new hwC (H.le_refl gC1) ⟨some 61,2,[.sl none 0 0 none, .bool false]⟩
    have lb_5:=lC.1
    replace hwC:=H.wf_new hwC ⟨some 61,2,[.sl none 0 0 none, .bool false]⟩
    generalize hR5:gC1.next=R5 at*
    generalize gC1.new ⟨some 61,2,[.sl none 0 0 none, .bool false]⟩=gA11 at*
    replace lC:=H.le_trans lC hlx
    replace rb:=hlx.2 _ _ rb
    replace naC:=naC.mono hlx
    replace npC:=npC.mono hlx
    replace hN:=hN.mono hlx
    refine⟨?_, ?_⟩
    ·skip
     refine zrEuclid_calls naC hN hx hpB hp fun q r gC12 hwx hlx hq hr=> ?_
     rw[sg_self] at hq hr
     obtain⟨a0,a1,rfl,oa0,oa1⟩:=hq.two
     obtain⟨b0,b1,rfl,ob0,ob1⟩:=hr.two
     replace hwC:=hwx
     replace lC:=H.le_trans lC hlx
     replace rb:=hlx.2 _ _ rb
     replace naC:=naC.mono hlx
     replace npC:=npC.mono hlx
     replace r5:=hlx.2 _ _ r5
     replace hN:=hN.mono hlx
     have n1:=H.le_new hwC (H.le_refl gC12) ⟨some 61,2,[.sl none 0 0 none, .bool false]⟩
     simp only[go_sem,(g2 rb).2.2,(g2 (n1.2 _ _ rb)).2.2,List.length_cons,List.length_nil,Nat.zero_add,Nat.reduceAdd,true_and,and_true]
     clear n1
     have r6:=H.rows_new gC12 ⟨some 61,2,[.sl none 0 0 none, .bool false]⟩
     have hlx:=H.le_new hwC (H.le_refl gC12) ⟨some 61,2,[.sl none 0 0 none, .bool false]⟩
     have lt_r5_6:=H.row_lt hwC r5
     have lb_6:=lC.1
     replace hwC:=H.wf_new hwC ⟨some 61,2,[.sl none 0 0 none, .bool false]⟩
     generalize hR6:gC12.next=R6 at*
     generalize gC12.new ⟨some 61,2,[.sl none 0 0 none, .bool false]⟩=gA13 at*
     replace lC:=H.le_trans lC hlx
     replace rb:=hlx.2 _ _ rb
     replace naC:=naC.mono hlx
     replace npC:=npC.mono hlx
     replace r5:=hlx.2 _ _ r5
     replace hq:=hq.mono hlx
     replace hr:=hr.mono hlx
     refine⟨all22 oa0 oa1,put2 hw hwC lC (by omega) r5 rfl fun gS14 hwx lx _ r5n ex=> ?_⟩
     replace hwC:=hwx
     replace lC:=lx
     replace hq:=hq.lee2 r5 ex
     replace hr:=hr.lee2 r5 ex
     replace r6:=ex.2 _ _ (by omega) r6
     simp only[go_sem,List.length_cons,List.length_nil,Nat.zero_add,Nat.reduceAdd,true_and,and_true]
     refine⟨all22 ob0 ob1,put2 hw hwC lC (by omega) r6 rfl fun gS15 hwx lx _ r6n ex=> ?_⟩
     replace hwC:=hwx
     replace lC:=lx
     replace hq:=hq.lee2 r6 ex
     replace r5n:=ex.2 _ _ (by omega) r5n
     replace hr:=hr.lee2 r6 ex
     simp only[go_sem,List.length_cons,List.length_nil,Nat.zero_add,Nat.reduceAdd,true_and,and_true]
     exact⟨hwC,lC,R6,_,_,by first|rfl|trivial|assumption,r6n,hr⟩
    ·skip
     have r6:=H.rows_new gA11 ⟨some 61,2,[.sl none 0 0 none, .bool false]⟩
     have hlx:=H.le_new hwC (H.le_refl gA11) ⟨some 61,2,[.sl none 0 0 none, .bool false]⟩
     have lt_r5_6:=H.row_lt hwC r5
     have lb_6:=lC.1
     replace hwC:=H.wf_new hwC ⟨some 61,2,[.sl none 0 0 none, .bool false]⟩
     generalize hR6:gA11.next=R6 at*
     generalize gA11.new ⟨some 61,2,[.sl none 0 0 none, .bool false]⟩=gA16 at*
     replace lC:=H.le_trans lC hlx
     replace rb:=hlx.2 _ _ rb
     replace naC:=naC.mono hlx
     replace npC:=npC.mono hlx
     replace r5:=hlx.2 _ _ r5
     replace hN:=hN.mono hlx
     refine zrEuclid_calls naC hN hx hpB hp fun q r gC17 hwx hlx hq hr=> ?_
     rw[sg_self] at hq hr
     obtain⟨a0,a1,rfl,oa0,oa1⟩:=hq.two
     obtain⟨b0,b1,rfl,ob0,ob1⟩:=hr.two
     replace hwC:=hwx
     replace lC:=H.le_trans lC hlx
     replace rb:=hlx.2 _ _ rb
     replace naC:=naC.mono hlx
     replace npC:=npC.mono hlx
     replace r5:=hlx.2 _ _ r5
     replace r6:=hlx.2 _ _ r6
     replace hN:=hN.mono hlx
     simp only[go_sem,(g2 rb).2.2,List.length_cons,List.length_nil,Nat.zero_add,Nat.reduceAdd,true_and,and_true]
     refine⟨all22 oa0 oa1,put2 hw hwC lC (by omega) r5 rfl fun gS18 hwx lx _ r5n ex=> ?_⟩
     replace hwC:=hwx
     replace lC:=lx
     replace hq:=hq.lee2 r5 ex
     replace hr:=hr.lee2 r5 ex
     replace r6:=ex.2 _ _ (by omega) r6
     simp only[go_sem,List.length_cons,List.length_nil,Nat.zero_add,Nat.reduceAdd,true_and,and_true]
     refine⟨all22 ob0 ob1,put2 hw hwC lC (by omega) r6 rfl fun gS19 hwx lx _ r6n ex=> ?_⟩
     replace hwC:=hwx
     replace lC:=lx
     replace hq:=hq.lee2 r6 ex
     replace r5n:=ex.2 _ _ (by omega) r5n
     replace hr:=hr.lee2 r6 ex
     simp only[go_sem,List.length_cons,List.length_nil,Nat.zero_add,Nat.reduceAdd,true_and,and_true]
     exact⟨hwC,lC,R6,_,_,by first|rfl|trivial|assumption,r6n,hr⟩
   ·skip
    have r6:=H.rows_new gC1 ⟨some 61,2,[.sl none 0 0 none, .bool false]⟩
    have hlx:=H.le_new hwC (H.le_refl gC1) ⟨some 61,2,[.sl none 0 0 none, .bool false]⟩
    have lb_6:=lC.1
    replace hwC:=H.wf_new hwC ⟨some 61,2,[.sl none 0 0 none, .bool false]⟩
    generalize hR6:gC1.next=R6 at*
    generalize gC1.new ⟨some 61,2,[.sl none 0 0 none, .bool false]⟩=gA20 at*
    replace lC:=H.le_trans lC hlx
    replace rb:=hlx.2 _ _ rb
    replace naC:=naC.mono hlx
    replace npC:=npC.mono hlx
    replace hN:=hN.mono hlx
    refine⟨?_, ?_⟩
    ·skip
     refine zrEuclid_calls naC hN hx hpB hp fun q r gC21 hwx hlx hq hr=> ?_
     rw[sg_self] at hq hr
     obtain⟨a0,a1,rfl,oa0,oa1⟩:=hq.two
     obtain⟨b0,b1,rfl,ob0,ob1⟩:=hr.two
     replace hwC:=hwx
     replace lC:=H.le_trans lC hlx
     replace rb:=hlx.2 _ _ rb
     replace naC:=naC.mono hlx
     replace npC:=npC.mono hlx
     replace r6:=hlx.2 _ _ r6
     replace hN:=hN.mono hlx
     have n1:=H.le_new hwC (H.le_refl gC21) ⟨some 61,2,[.sl none 0 0 none, .bool false]⟩
     simp only[go_sem,(g2 rb).2.2,(g2 (n1.2 _ _ rb)).2.2,List.length_cons,List.length_nil,Nat.zero_add,Nat.reduceAdd,true_and,and_true]
     clear n1
     have r5:=H.rows_new gC21 ⟨some 61,2,[.sl none 0 0 none, .bool false]⟩
     have hlx:=H.le_new hwC (H.le_refl gC21) ⟨some 61,2,[.sl none 0 0 none, .bool false]⟩
     have lt_r6_5:=H.row_lt hwC r6
     have lb_5:=lC.1
     replace hwC:=H.wf_new hwC ⟨some 61,2,[.sl none 0 0 none, .bool false]⟩
     generalize hR5:gC21.next=R5 at*
     generalize gC21.new ⟨some 61,2,[.sl none 0 0 none, .bool false]⟩=gA22 at*
     replace lC:=H.le_trans lC hlx
     replace rb:=hlx.2 _ _ rb
     replace naC:=naC.mono hlx
     replace npC:=npC.mono hlx
     replace r6:=hlx.2 _ _ r6
     replace hq:=hq.mono hlx
     replace hr:=hr.mono hlx
     refine⟨all22 oa0 oa1,put2 hw hwC lC (by omega) r5 rfl fun gS23 hwx lx _ r5n ex=> ?_⟩
     replace hwC:=hwx
     replace lC:=lx
     replace hq:=hq.lee2 r5 ex
     replace hr:=hr.lee2 r5 ex
     replace r6:=ex.2 _ _ (by omega) r6
     simp only[go_sem,List.length_cons,List.length_nil,Nat.zero_add,Nat.reduceAdd,true_and,and_true]
     refine⟨all22 ob0 ob1,put2 hw hwC lC (by omega) r6 rfl fun gS24 hwx lx _ r6n ex=> ?_⟩
     replace hwC:=hwx
     replace lC:=lx
     replace hq:=hq.lee2 r6 ex
     replace r5n:=ex.2 _ _ (by omega) r5n
     replace hr:=hr.lee2 r6 ex
     simp only[go_sem,List.length_cons,List.length_nil,Nat.zero_add,Nat.reduceAdd,true_and,and_true]
     exact⟨hwC,lC,R6,_,_,by first|rfl|trivial|assumption,r6n,hr⟩
    ·skip
     have r5:=H.rows_new gA20 ⟨some 61,2,[.sl none 0 0 none, .bool false]⟩
     have hlx:=H.le_new hwC (H.le_refl gA20) ⟨some 61,2,[.sl none 0 0 none, .bool false]⟩
     have lt_r6_5:=H.row_lt hwC r6
     have lb_5:=lC.1
     replace hwC:=H.wf_new hwC ⟨some 61,2,[.sl none 0 0 none, .bool false]⟩
     generalize hR5:gA20.next=R5 at*
     generalize gA20.new ⟨some 61,2,[.sl none 0 0 none, .bool false]⟩=gA25 at*
     replace lC:=H.le_trans lC hlx
     replace rb:=hlx.2 _ _ rb
     replace naC:=naC.mono hlx
     replace npC:=npC.mono hlx
     replace r6:=hlx.2 _ _ r6
     replace hN:=hN.mono hlx
     refine zrEuclid_calls naC hN hx hpB hp fun q r gC26 hwx hlx hq hr=> ?_
     rw[sg_self] at hq hr
     obtain⟨a0,a1,rfl,oa0,oa1⟩:=hq.two
     obtain⟨b0,b1,rfl,ob0,ob1⟩:=hr.two
     replace hwC:=hwx
     replace lC:=H.le_trans lC hlx
     replace rb:=hlx.2 _ _ rb
     replace naC:=naC.mono hlx
     replace npC:=npC.mono hlx
     replace r6:=hlx.2 _ _ r6
     replace r5:=hlx.2 _ _ r5
     replace hN:=hN.mono hlx
     simp only[go_sem,(g2 rb).2.2,List.length_cons,List.length_nil,Nat.zero_add,Nat.reduceAdd,true_and,and_true]
     refine⟨all22 oa0 oa1,put2 hw hwC lC (by omega) r5 rfl fun gS27 hwx lx _ r5n ex=> ?_⟩
     replace hwC:=hwx
     replace lC:=lx
     replace hq:=hq.lee2 r5 ex
     replace hr:=hr.lee2 r5 ex
     replace r6:=ex.2 _ _ (by omega) r6
     simp only[go_sem,List.length_cons,List.length_nil,Nat.zero_add,Nat.reduceAdd,true_and,and_true]
     refine⟨all22 ob0 ob1,put2 hw hwC lC (by omega) r6 rfl fun gS28 hwx lx _ r6n ex=> ?_⟩
     replace hwC:=hwx
     replace lC:=lx
     replace hq:=hq.lee2 r6 ex
     replace r5n:=ex.2 _ _ (by omega) r5n
     replace hr:=hr.lee2 r6 ex
     simp only[go_sem,List.length_cons,List.length_nil,Nat.zero_add,Nat.reduceAdd,true_and,and_true]
     exact⟨hwC,lC,R6,_,_,by first|rfl|trivial|assumption,r6n,hr⟩
  ·skip
   have r5:=H.rows_new g ⟨some 61,2,[.sl none 0 0 none, .bool false]⟩
   have hlx:=H.le_new hwC (H.le_refl g) ⟨some 61,2,[.sl none 0 0 none, .bool false]⟩
   have lb_5:=lC.1
   replace hwC:=H.wf_new hwC ⟨some 61,2,[.sl none 0 0 none, .bool false]⟩
   generalize hR5:g.next=R5 at*
   generalize g.new ⟨some 61,2,[.sl none 0 0 none, .bool false]⟩=gA29 at*
   replace lC:=H.le_trans lC hlx
   replace rb:=hlx.2 _ _ rb
   replace naC:=naC.mono hlx
   replace npC:=npC.mono hlx
   refine⟨?_, ?_⟩
   ·skip
    refine zrNat_calls npC fun gC30 hwx hlx hN=> ?_
    replace hwC:=hwx
    replace lC:=H.le_trans lC hlx
    replace rb:=hlx.2 _ _ rb
    replace naC:=naC.mono hlx
    replace npC:=npC.mono hlx
    replace r5:=hlx.2 _ _ r5
    have n1:=H.le_new hwC (H.le_refl gC30) ⟨some 61,2,[.sl none 0 0 none, .bool false]⟩
    simp only[go_sem,(g2 rb).2.2,(g2 (n1.2 _ _ rb)).2.2,List.length_cons,List.length_nil,Nat.zero_add,Nat.reduceAdd,true_and,and_true]
    clear n1
    refine⟨?_, ?_⟩
    ·skip
     refine zrEuclid_calls naC hN hx hpB hp fun q r gC31 hwx hlx hq hr=> ?_
     rw[sg_self] at hq hr
     obtain⟨a0,a1,rfl,oa0,oa1⟩:=hq.two
     obtain⟨b0,b1,rfl,ob0,ob1⟩:=hr.two
     replace hwC:=hwx
     replace lC:=H.le_trans lC hlx
     replace rb:=hlx.2 _ _ rb
     replace naC:=naC.mono hlx
     replace npC:=npC.mono hlx
     replace r5:=hlx.2 _ _ r5
     replace hN:=hN.mono hlx
     have n1:=H.le_new hwC (H.le_refl gC31) ⟨some 61,2,[.sl none 0 0 none, .bool false]⟩
     simp only[go_sem,(g2 rb).2.2,(g2 (n1.2 _ _ rb)).2.2,List.length_cons,List.length_nil,Nat.zero_add,Nat.reduceAdd,true_and,and_true]
     clear n1
     have r6:=H.rows_new gC31 ⟨some 61,2,[.sl none 0 0 none, .bool false]⟩
     have hlx:=H.le_new hwC (H.le_refl gC31) ⟨some 61,2,[.sl none 0 0 none, .bool false]⟩
     have lt_r5_6:=H.row_lt hwC r5
     have lb_6:=lC.1
     replace hwC:=H.wf_new hwC ⟨some 61,2,[.sl none 0 0 none, .bool false]⟩
     generalize hR6:gC31.next=R6 at*
     generalize gC31.new ⟨some 61,2,[.sl none 0 0 none, .bool false]⟩=gA32 at*
     replace lC:=H.le_trans lC hlx
     replace rb:=hlx.2 _ _ rb
     replace naC:=naC.mono hlx
     replace npC:=npC.mono hlx
     replace r5:=hlx.2 _ _ r5
     replace hq:=hq.mono hlx
     replace hr:=hr.mono hlx
     refine⟨all22 oa0 oa1,put2 hw hwC lC (by omega) r5 rfl fun gS33 hwx lx _ r5n ex=> ?_⟩
     replace hwC:=hwx
     replace lC:=lx
     replace hq:=hq.lee2 r5 ex
     replace hr:=hr.lee2 r5 ex
     replace r6:=ex.2 _ _ (by omega) r6
     simp only[go_sem,List.length_cons,List.length_nil,Nat.zero_add,Nat.reduceAdd,true_and,and_true]
     refine⟨all22 ob0 ob1,put2 hw hwC lC (by omega) r6 rfl fun gS34 hwx lx _ r6n ex=> ?_⟩
     replace hwC:=hwx
     replace lC:=lx
     replace hq:=hq.lee2 r6 ex
     replace r5n:=ex.2 _ _ (by omega) r5n
     replace hr:=hr.lee2 r6 ex
     simp only[go_sem,List.length_cons,List.length_nil,Nat.zero_add,Nat.reduceAdd,true_and,and_true]
     exact⟨hwC,lC,R6,_,_,by first|rfl|trivial|assumption,r6n,hr⟩
    ·skip
     have r6:=H.rows_new gC30 ⟨some 61,2,[.sl none 0 0 none, .bool false]⟩
     have hlx:=H.le_new hwC (H.le_refl gC30) ⟨some 61,2,[.sl none 0 0 none, .bool false]⟩
     have lt_r5_6:=H.row_lt hwC r5
     have lb_6:=lC.1
     replace hwC:=H.wf_new hwC ⟨some 61,2,[.sl none 0 0 none, .bool false]⟩
     generalize hR6:gC30.next=R6 at*
     generalize gC30.new ⟨some 61,2,[.sl none 0 0 none, .bool false]⟩=gA35 at*
     replace lC:=H.le_trans lC hlx
     replace rb:=hlx.2 _ _ rb
     replace naC:=naC.mono hlx
     replace npC:=npC.mono hlx
     replace r5:=hlx.2 _ _ r5
     replace hN:=hN.mono hlx
     refine zrEuclid_calls naC hN hx hpB hp fun q r gC36 hwx hlx hq hr=> ?_
     rw[sg_self] at hq hr
     obtain⟨a0,a1,rfl,oa0,oa1⟩:=hq.two
     obtain⟨b0,b1,rfl,ob0,ob1⟩:=hr.two
     replace hwC:=hwx
     replace lC:=H.le_trans lC hlx
     replace rb:=hlx.2 _ _ rb
     replace naC:=naC.mono hlx
     replace npC:=npC.mono hlx
     replace r5:=hlx.2 _ _ r5
     replace r6:=hlx.2 _ _ r6
     replace hN:=hN.mono hlx
     simp only[go_sem,(g2 rb).2.2,List.length_cons,List.length_nil,Nat.zero_add,Nat.reduceAdd,true_and,and_true]
     refine⟨all22 oa0 oa1,put2 hw hwC lC (by omega) r5 rfl fun gS37 hwx lx _ r5n ex=> ?_⟩
     replace hwC:=hwx
     replace lC:=lx
     replace hq:=hq.lee2 r5 ex
     replace hr:=hr.lee2 r5 ex
     replace r6:=ex.2 _ _ (by omega) r6
     simp only[go_sem,List.length_cons,List.length_nil,Nat.zero_add,Nat.reduceAdd,true_and,and_true]
     refine⟨all22 ob0 ob1,put2 hw hwC lC (by omega) r6 rfl fun gS38 hwx lx _ r6n ex=> ?_⟩
     replace hwC:=hwx
     replace lC:=lx
     replace hq:=hq.lee2 r6 ex
     replace r5n:=ex.2 _ _ (by omega) r5n
     replace hr:=hr.lee2 r6 ex
     simp only[go_sem,List.length_cons,List.length_nil,Nat.zero_add,Nat.reduceAdd,true_and,and_true]
     exact⟨hwC,lC,R6,_,_,by first|rfl|trivial|assumption,r6n,hr⟩
   ·skip
    have r6:=H.rows_new gA29 ⟨some 61,2,[.sl none 0 0 none, .bool false]⟩
    have hlx:=H.le_new hwC (H.le_refl gA29) ⟨some 61,2,[.sl none 0 0 none, .bool false]⟩
    have lt_r5_6:=H.row_lt hwC r5
    have lb_6:=lC.1
    replace hwC:=H.wf_new hwC ⟨some 61,2,[.sl none 0 0 none, .bool false]⟩
    generalize hR6:gA29.next=R6 at*
    generalize gA29.new ⟨some 61,2,[.sl none 0 0 none, .bool false]⟩=gA39 at*
    replace lC:=H.le_trans lC hlx
    replace rb:=hlx.2 _ _ rb
    replace naC:=naC.mono hlx
    replace npC:=npC.mono hlx
    replace r5:=hlx.2 _ _ r5
    refine zrNat_calls npC fun gC40 hwx hlx hN=> ?_
    replace hwC:=hwx
    replace lC:=H.le_trans lC hlx
    replace rb:=hlx.2 _ _ rb
    replace naC:=naC.mono hlx
    replace npC:=npC.mono hlx
    replace r5:=hlx.2 _ _ r5
    replace r6:=hlx.2 _ _ r6
    simp only[go_sem,(g2 rb).2.2,List.length_cons,List.length_nil,Nat.zero_add,Nat.reduceAdd,true_and,and_true]
    refine zrEuclid_calls naC hN hx hpB hp fun q r gC41 hwx hlx hq hr=> ?_
    rw[sg_self] at hq hr
    obtain⟨a0,a1,rfl,oa0,oa1⟩:=hq.two
    obtain⟨b0,b1,rfl,ob0,ob1⟩:=hr.two
    replace hwC:=hwx
    replace lC:=H.le_trans lC hlx
    replace rb:=hlx.2 _ _ rb
    replace naC:=naC.mono hlx
    replace npC:=npC.mono hlx
    replace r5:=hlx.2 _ _ r5
    replace r6:=hlx.2 _ _ r6
    replace hN:=hN.mono hlx
    simp only[go_sem,(g2 rb).2.2,List.length_cons,List.length_nil,Nat.zero_add,Nat.reduceAdd,true_and,and_true]
    refine⟨all22 oa0 oa1,put2 hw hwC lC (by omega) r5 rfl fun gS42 hwx lx _ r5n ex=> ?_⟩
    replace hwC:=hwx
    replace lC:=lx
    replace hq:=hq.lee2 r5 ex
    replace hr:=hr.lee2 r5 ex
    replace r6:=ex.2 _ _ (by omega) r6
    simp only[go_sem,List.length_cons,List.length_nil,Nat.zero_add,Nat.reduceAdd,true_and,and_true]
    refine⟨all22 ob0 ob1,put2 hw hwC lC (by omega) r6 rfl fun gS43 hwx lx _ r6n ex=> ?_⟩
    replace hwC:=hwx
    replace lC:=lx
    replace hq:=hq.lee2 r6 ex
    replace r5n:=ex.2 _ _ (by omega) r5n
    replace hr:=hr.lee2 r6 ex
    simp only[go_sem,List.length_cons,List.length_nil,Nat.zero_add,Nat.reduceAdd,true_and,and_true]
    exact⟨hwC,lC,R6,_,_,by first|rfl|trivial|assumption,r6n,hr⟩
  ·skip
   have r6:=H.rows_new g ⟨some 61,2,[.sl none 0 0 none, .bool false]⟩
   have hlx:=H.le_new hwC (H.le_refl g) ⟨some 61,2,[.sl none 0 0 none, .bool false]⟩
   have lb_6:=lC.1
   replace hwC:=H.wf_new hwC ⟨some 61,2,[.sl none 0 0 none, .bool false]⟩
   generalize hR6:g.next=R6 at*
   generalize g.new ⟨some 61,2,[.sl none 0 0 none, .bool false]⟩=gA44 at*
   replace lC:=H.le_trans lC hlx
   replace rb:=hlx.2 _ _ rb
   replace naC:=naC.mono hlx
   replace npC:=npC.mono hlx
   refine⟨?_, ?_⟩
   ·skip
    refine zrNat_calls npC fun gC45 hwx hlx hN=> ?_
    replace hwC:=hwx
    replace lC:=H.le_trans lC hlx
    replace rb:=hlx.2 _ _ rb
    replace naC:=naC.mono hlx
    replace npC:=npC.mono hlx
    replace r6:=hlx.2 _ _ r6
    have n1:=H.le_new hwC (H.le_refl gC45) ⟨some 61,2,[.sl none 0 0 none, .bool false]⟩
    simp only[go_sem,(g2 rb).2.2,(g2 (n1.2 _ _ rb)).2.2,List.length_cons,List.length_nil,Nat.zero_add,Nat.reduceAdd,true_and,and_true]
    clear n1
    refine⟨?_, ?_⟩
    ·skip
     refine zrEuclid_calls naC hN hx hpB hp fun q r gC46 hwx hlx hq hr=> ?_
     rw[sg_self] at hq hr
     obtain⟨a0,a1,rfl,oa0,oa1⟩:=hq.two
     obtain⟨b0,b1,rfl,ob0,ob1⟩:=hr.two
     replace hwC:=hwx
     replace lC:=H.le_trans lC hlx
     replace rb:=hlx.2 _ _ rb
     replace naC:=naC.mono hlx
     replace npC:=npC.mono hlx
     replace r6:=hlx.2 _ _ r6
     replace hN:=hN.mono hlx
     have n1:=H.le_new hwC (H.le_refl gC46) ⟨some 61,2,[.sl none 0 0 none, .bool false]⟩
     simp only[go_sem,(g2 rb).2.2,(g2 (n1.2 _ _ rb)).2.2,List.length_cons,List.length_nil,Nat.zero_add,Nat.reduceAdd,true_and,and_true]
     clear n1
     have r5:=H.rows_new gC46 ⟨some 61,2,[.sl none 0 0 none, .bool false]⟩
     have hlx:=H.le_new hwC (H.le_refl gC46) ⟨some 61,2,[.sl none 0 0 none, .bool false]⟩
     have lt_r6_5:=H.row_lt hwC r6
     have lb_5:=lC.1
     replace hwC:=H.wf_new hwC ⟨some 61,2,[.sl none 0 0 none, .bool false]⟩
     generalize hR5:gC46.next=R5 at*
     generalize gC46.new ⟨some 61,2,[.sl none 0 0 none, .bool false]⟩=gA47 at*
     replace lC:=H.le_trans lC hlx
     replace rb:=hlx.2 _ _ rb
     replace naC:=naC.mono hlx
     replace npC:=npC.mono hlx
     replace r6:=hlx.2 _ _ r6
     replace hq:=hq.mono hlx
     replace hr:=hr.mono hlx
     refine⟨all22 oa0 oa1,put2 hw hwC lC (by omega) r5 rfl fun gS48 hwx lx _ r5n ex=> ?_⟩
     replace hwC:=hwx
     replace lC:=lx
     replace hq:=hq.lee2 r5 ex
     replace hr:=hr.lee2 r5 ex
     replace r6:=ex.2 _ _ (by omega) r6
     simp only[go_sem,List.length_cons,List.length_nil,Nat.zero_add,Nat.reduceAdd,true_and,and_true]
     refine⟨all22 ob0 ob1,put2 hw hwC lC (by omega) r6 rfl fun gS49 hwx lx _ r6n ex=> ?_⟩
     replace hwC:=hwx
     replace lC:=lx
     replace hq:=hq.lee2 r6 ex
     replace r5n:=ex.2 _ _ (by omega) r5n
     replace hr:=hr.lee2 r6 ex
     simp only[go_sem,List.length_cons,List.length_nil,Nat.zero_add,Nat.reduceAdd,true_and,and_true]
     exact⟨hwC,lC,R6,_,_,by first|rfl|trivial|assumption,r6n,hr⟩
    ·skip
     have r5:=H.rows_new gC45 ⟨some 61,2,[.sl none 0 0 none, .bool false]⟩
     have hlx:=H.le_new hwC (H.le_refl gC45) ⟨some 61,2,[.sl none 0 0 none, .bool false]⟩
     have lt_r6_5:=H.row_lt hwC r6
     have lb_5:=lC.1
     replace hwC:=H.wf_new hwC ⟨some 61,2,[.sl none 0 0 none, .bool false]⟩
     generalize hR5:gC45.next=R5 at*
     generalize gC45.new ⟨some 61,2,[.sl none 0 0 none, .bool false]⟩=gA50 at*
     replace lC:=H.le_trans lC hlx
     replace rb:=hlx.2 _ _ rb
     replace naC:=naC.mono hlx
     replace npC:=npC.mono hlx
     replace r6:=hlx.2 _ _ r6
     replace hN:=hN.mono hlx
     refine zrEuclid_calls naC hN hx hpB hp fun q r gC51 hwx hlx hq hr=> ?_
     rw[sg_self] at hq hr
     obtain⟨a0,a1,rfl,oa0,oa1⟩:=hq.two
     obtain⟨b0,b1,rfl,ob0,ob1⟩:=hr.two
     replace hwC:=hwx
     replace lC:=H.le_trans lC hlx
     replace rb:=hlx.2 _ _ rb
     replace naC:=naC.mono hlx
     replace npC:=npC.mono hlx
     replace r6:=hlx.2 _ _ r6
     replace r5:=hlx.2 _ _ r5
     replace hN:=hN.mono hlx
     simp only[go_sem,(g2 rb).2.2,List.length_cons,List.length_nil,Nat.zero_add,Nat.reduceAdd,true_and,and_true]
     refine⟨all22 oa0 oa1,put2 hw hwC lC (by omega) r5 rfl fun gS52 hwx lx _ r5n ex=> ?_⟩
     replace hwC:=hwx
     replace lC:=lx
     replace hq:=hq.lee2 r5 ex
     replace hr:=hr.lee2 r5 ex
     replace r6:=ex.2 _ _ (by omega) r6
     simp only[go_sem,List.length_cons,List.length_nil,Nat.zero_add,Nat.reduceAdd,true_and,and_true]
     refine⟨all22 ob0 ob1,put2 hw hwC lC (by omega) r6 rfl fun gS53 hwx lx _ r6n ex=> ?_⟩
     replace hwC:=hwx
     replace lC:=lx
     replace hq:=hq.lee2 r6 ex
     replace r5n:=ex.2 _ _ (by omega) r5n
     replace hr:=hr.lee2 r6 ex
     simp only[go_sem,List.length_cons,List.length_nil,Nat.zero_add,Nat.reduceAdd,true_and,and_true]
     exact⟨hwC,lC,R6,_,_,by first|rfl|trivial|assumption,r6n,hr⟩
   ·skip
    have r5:=H.rows_new gA44 ⟨some 61,2,[.sl none 0 0 none, .bool false]⟩
    have hlx:=H.le_new hwC (H.le_refl gA44) ⟨some 61,2,[.sl none 0 0 none, .bool false]⟩
    have lt_r6_5:=H.row_lt hwC r6
    have lb_5:=lC.1
    replace hwC:=H.wf_new hwC ⟨some 61,2,[.sl none 0 0 none, .bool false]⟩
    generalize hR5:gA44.next=R5 at*
    generalize gA44.new ⟨some 61,2,[.sl none 0 0 none, .bool false]⟩=gA54 at*
    replace lC:=H.le_trans lC hlx
    replace rb:=hlx.2 _ _ rb
    replace naC:=naC.mono hlx
    replace npC:=npC.mono hlx
    replace r6:=hlx.2 _ _ r6
    refine zrNat_calls npC fun gC55 hwx hlx hN=> ?_
    replace hwC:=hwx
    replace lC:=H.le_trans lC hlx
    replace rb:=hlx.2 _ _ rb
    replace naC:=naC.mono hlx
    replace npC:=npC.mono hlx
    replace r6:=hlx.2 _ _ r6
    replace r5:=hlx.2 _ _ r5
    simp only[go_sem,(g2 rb).2.2,List.length_cons,List.length_nil,Nat.zero_add,Nat.reduceAdd,true_and,and_true]
    refine zrEuclid_calls naC hN hx hpB hp fun q r gC56 hwx hlx hq hr=> ?_
    rw[sg_self] at hq hr
    obtain⟨a0,a1,rfl,oa0,oa1⟩:=hq.two
    obtain⟨b0,b1,rfl,ob0,ob1⟩:=hr.two
    replace hwC:=hwx
    replace lC:=H.le_trans lC hlx
    replace rb:=hlx.2 _ _ rb
    replace naC:=naC.mono hlx
    replace npC:=npC.mono hlx
    replace r6:=hlx.2 _ _ r6
    replace r5:=hlx.2 _ _ r5
    replace hN:=hN.mono hlx
    simp only[go_sem,(g2 rb).2.2,List.length_cons,List.length_nil,Nat.zero_add,Nat.reduceAdd,true_and,and_true]
    refine⟨all22 oa0 oa1,put2 hw hwC lC (by omega) r5 rfl fun gS57 hwx lx _ r5n ex=> ?_⟩
    replace hwC:=hwx
    replace lC:=lx
    replace hq:=hq.lee2 r5 ex
    replace hr:=hr.lee2 r5 ex
    replace r6:=ex.2 _ _ (by omega) r6
    simp only[go_sem,List.length_cons,List.length_nil,Nat.zero_add,Nat.reduceAdd,true_and,and_true]
    refine⟨all22 ob0 ob1,put2 hw hwC lC (by omega) r6 rfl fun gS58 hwx lx _ r6n ex=> ?_⟩
    replace hwC:=hwx
    replace lC:=lx
    replace hq:=hq.lee2 r6 ex
    replace r5n:=ex.2 _ _ (by omega) r5n
    replace hr:=hr.lee2 r6 ex
    simp only[go_sem,List.length_cons,List.length_nil,Nat.zero_add,Nat.reduceAdd,true_and,and_true]
    exact⟨hwC,lC,R6,_,_,by first|rfl|trivial|assumption,r6n,hr⟩
 rintro ρ g ⟨hwg,hle,R,b0,b1,q6,r6,hr⟩
 obtain⟨wr,er,nr⟩:=zr_open hr
 injection er with er
 injection er with er1 er2
 injection er2 with er2
 subst er1 er2
 rw[eucR_pos hp] at nr
 have e0:(z%(p:Int)).natAbs=(z%(p:Int)).toNat:=by
  have:=Int.emod_nonneg z (show(p:Int)≠0 by omega)
  omega
 rw[e0] at nr
 simp only[go_sem,q6,(g2 r6).1]
 exact fun hw'=>hk _ g hw' hle nr
set_option maxHeartbeats 1000000 in
theorem zrReduce_calls (hW:W≤16000) (hv:IsA 2 (ZqL W) h v zs) (hl:zs.length≤100000) (hp:0<p) (hpB:p<18446744073709551616)
  (hk:∀r ys h',h'.wf→h.le h'→IsG h.next h' r ys→TrimF (fun i=>(zs.getD i 0%(p:Int)).toNat) ys→ys.length≤zs.length→K r h'):ACalls Try.prog 9 [v, .int .u64 (p:Int)] h K:=by
 obtain⟨id,off,c,rfl⟩:=hv.form
 refine in_ref28_Reduce (by simp) fun hw=> ?_
 unfold c_ref28_Reduce
 obtain⟨F,hF⟩:∃F:Nat→Nat,F=fun i=>(zs.getD i 0%(p:Int)).toNat:=⟨_,rfl⟩
 have hBp:Big p:=by
  have h5:Wz 1 (p:Int):=wlen_le.2 (by rw[Nat.pow_one];exact hpB)
  exact h5.big (by omega)
 simp only[go_sem]
 refine loop_cut (fun ρ g=>g.wf∧h.le g∧IsG h.next g (ρ 5) (rowF F zs.length)) ?_ ?_
 ·refine for_rule (fun j ρ g=>j≤zs.length∧g.wf∧h.le g∧ρ 0= .sl id off zs.length c∧ρ 1= .int .u64 (p:Int)∧ρ 6= .int .i64 (j:Int)∧IsG h.next g (ρ 5) (rowF F j)) zs.length
   ⟨by omega,hw,H.le_refl _,by first|rfl|trivial|assumption,by first|rfl|trivial|assumption,by first|rfl|trivial|assumption,IsF.nil _ _ _ _ _⟩ (fun i ρ h hI=>hI.1) ?_
  rintro j ρ g ⟨hj,hwg,hle,q0,q1,q6,hs⟩
  rcases Nat.lt_or_ge j zs.length with h3|h3
  ·obtain⟨ii,l,rfl,_,_,hg,_,hR⟩:=hv.atz (by omega) h3
   have hWz:=hR.2
   obtain⟨w,rfl,nw,hone⟩:=zq_open hR
   have hg:=H.gets_le hle hg
   have hFj:(zs[j]%(p:Int)).toNat=F j:=by rw[hF];show _=(zs.getD j 0%(p:Int)).toNat;rw[getG_in h3]
   have hFp:F j<p:=by
    rw[←hFj]
    have h5:=Int.emod_lt_of_pos zs[j] (show(0:Int)<(p:Int) by omega)
    have h6:=Int.emod_nonneg zs[j] (show(p:Int)≠0 by omega)
    omega
   simp only[go_sem,q0,q1,q6,ltT h3]
   refine⟨by omega,by omega, ?_⟩
   simp only[go_sem,hg,q0,q1,q6]
   refine Small_calls (x:=p) hpB fun o h4 hw4 hl4 ho=> ?_
   have hg4:=H.gets_le hl4 hg
   simp only[go_sem,hg4,true_and,q0,q1,q6]
   refine zrResidue_calls ((nw.mono hle).mono hl4) ho (hWz.big (by omega)) hBp hp fun o2 h5 hw5 hl5 ho2=> ?_
   rw[hFj] at ho2
   have hFB:F j<18446744073709551616:=by omega
   have hBF:Big (F j):=by
    have h5:Wz 1 (F j:Int):=wlen_le.2 (by rw[Nat.pow_one];exact hFB)
    exact h5.big (by omega)
   simp only[go_sem,q0,q1,q6]
   refine To_calls ho2 hBF fun o3 h6 hw6 hl6 ho3=> ?_
   obtain⟨ws,hws,hwd,hwt,hwv⟩:=ho3
   have hwl:ws.length≤1:=by
    rw[top_len hwd hwt,hwv]
    exact wlen_le.2 (by rw[Nat.pow_one];exact hFB)
   have l06:=(H.le_trans hle (H.le_trans hl4 (H.le_trans hl5 hl6)))
   have hs6:=hs.mono ((H.le_trans hl4 (H.le_trans hl5 hl6)))
   obtain⟨iw,cw,rfl⟩:=hws.form
   obtain⟨V,hV⟩:∃V,V=ρ 5:=⟨_,rfl⟩
   rw[←hV] at hs6
   simp only[go_sem,q0,q1,q6]
   refine cond_cut (fun ρ' g'=>g'=h6∧ρ' 0= .sl (some ii) off zs.length c∧ρ' 1= .int .u64 (p:Int)∧ρ' 6= .int .i64 (j:Int)∧ρ' 5=V∧ρ' 8= .int .u64 ((F j:Nat):Int)) ?_ ?_
   ·rcases ws with _|⟨d,ws⟩
    ·have e0:F j=0:=hwv.symm
     simp only[go_sem,show decide ((0:Int)<((([]:List Nat).length:Nat):Int))=false from rfl,q0,q1,q6]
     exact⟨by first|rfl|trivial|assumption,by first|rfl|trivial|assumption,by first|rfl|trivial|assumption,by first|rfl|trivial|assumption,hV.symm,by rw[e0];rfl⟩
    ·obtain⟨i9,e9,_,hg9⟩:=hws.isN.at (j:=0) (by simp)
     subst e9
     have hws0:ws=[]:=List.eq_nil_of_length_eq_zero (by rw[List.length_cons] at hwl;omega)
     subst hws0
     have ed:d=F j:=by rw[←hwv];simp[val]
     simp only[go_sem,show decide ((0:Int)<((([d]:List Nat).length:Nat):Int))=true from rfl,q0,q1,q6]
     refine⟨by omega,by simp, ?_⟩
     simp only[List.getElem_cons_zero,Nat.zero_add,ed] at hg9
     simp only[go_sem,hg9,q0,q1,q6]
     exact⟨by first|rfl|trivial|assumption,by first|rfl|trivial|assumption,by first|rfl|trivial|assumption,by first|rfl|trivial|assumption,hV.symm,by first|rfl|trivial|assumption⟩
   ·clear q0 q1 q6
    rintro ρ' h7 ⟨rfl,q0,q1,q6,q5,q8⟩
    rw[←q5] at hs6
    simp only[go_sem,q0,q1,q6,q8]
    refine app_lit [F j] hw hw6 l06 hs6 rfl rfl (by rw[rowF_len];simp;omega) fun v' h8 hw8 hle8 hv8=> ?_
    simp only[go_sem,q0,q1,q6,incI (i:=j) (by omega)]
    exact⟨by omega,hw8,hle8,by first|rfl|trivial|assumption,by first|rfl|trivial|assumption,by first|rfl|trivial|assumption,by rw[←rowF_snoc];exact hv8⟩
  ·obtain rfl:j=zs.length:=by omega
   simp only[go_sem,q0,q6,ltF (Nat.le_refl zs.length)]
   exact⟨hwg,hle,hs⟩
 rintro ρ g ⟨hwg,hle,hs⟩
 have hcg:∀i,(rowF F zs.length).getD i 0=F i:=fun i=>by
  rw[rowF_getD]
  split
  ·rfl
  ·rw[hF]
   show 0=(zs.getD i 0%(p:Int)).toNat
   rw[getG_out (by omega),Int.zero_emod]
   rfl
 have hlen:(rowF F zs.length).length=zs.length:=rowF_len
 generalize rowF F zs.length=os at*
 obtain⟨ir,cr,q5⟩:=hs.form
 rw[q5] at hs
 rw[hF] at hcg
 simp only[go_sem]
 refine⟨fun k ρ h2=>h2=g∧ρ 5= .sl ir 0 k cr∧k≤os.length∧(∀x∈os.drop k,x=0),os.length,⟨rfl,q5,Nat.le_refl _,by simp⟩, ?_⟩
 clear q5
 rintro k ρ h2 ⟨rfl,q5,hk1,hz⟩
 have hvk:IsG h.next h2 (.sl ir 0 k cr) (os.take k):=hs.cut0 hk1
 have fin:(∀x,(os.take k).getLast? =some x→x≠0)→h2.wf→K (.sl ir 0 k cr) h2:=fun hl hw'=>hk _ _ _ hw' hle hvk ((TrimG.of (z:=0) hz hl).congr hcg) (by rw[List.length_take];omega)
 rcases Nat.eq_zero_or_pos k with h0|h0
 ·subst h0
  simp only[go_sem,q5,show decide ((0:Int)<((0:Nat):Int))=false from rfl]
  exact fin (by simp)
 ·obtain⟨i,e7,_,hg⟩:=hs.isN.at (j:=k-1) (by omega)
  subst e7
  rw[Nat.zero_add] at hg
  have e1:IntKind.i64.wrap ((k:Int)-1)=((k-1:Nat):Int):=by rw[wI]<;>omega
  simp only[go_sem,q5,show decide ((0:Int)<(k:Int))=true from decide_eq_true (by omega),e1]
  refine⟨by omega,by omega, ?_⟩
  simp only[go_sem,hg]
  by_cases hx:os[k-1]=0
  ·simp only[go_sem,show(((os[k-1]:Nat):Int)==0)=true by simp[hx],q5,e1]
   refine⟨by omega, .inl (by omega),hvk.isN.row, ?_⟩
   exact⟨k-1,by omega,by first|rfl|trivial|assumption,by first|rfl|trivial|assumption,by omega,drop_cons h0 hk1 hx hz⟩
  ·simp only[go_sem,show(((os[k-1]:Nat):Int)==0)=false by simp;omega,q5]
   refine fin fun x hl=> ?_
   rw[take_last h0 hk1] at hl
   injection hl with hl
   rw[←hl]
   exact hx
end
end
end Ab
end Go.Proofs.Ytkbglkjpdndkiaa
