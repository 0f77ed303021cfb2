/- Joined texts: R15 R16 R17 T1 T2 W1 W2 W3 W4 W5. No condition. -/
import Derived.Test.YtnlkbdmmoplkoaaGreatDoorZ10
namespace Go.Proofs.YtnlkbdmmoplkoaaGreatDoor
namespace Ab
open Go Go.RowKit
set_option linter.unusedSimpArgs false
set_option linter.unusedVariables false
attribute [local go_sem ↓] x_mv x_pick x_bin x_beq x_peq x_seq x_cat x_aeq x_idxS x_idxV x_un x_cvI x_bts x_idx x_idxA x_fld x_ld x_st x_nn x_prt x_slc x_mk x_bsl x_bld x_box x_alloc x_len x_capo x_mnx x_app x_cpy x_mkf x_ext x_call x_callV x_bad s_none s_some s_nil s_cons s_chks w_skip w_reg tP_fin tP_no tP_alt w_seq w_cond w_block w_exit w_ret t_normal t_exit t_ret b_normal b_ret b_exit n_normal n_exit n_ret p_normal p_ret f_nil f_t f_c k_ops k_chk k_fin
attribute [local go_sem] e_t e_c e_f u_some u_none u_at env_at k_v k_pick k_add k_sub k_mul k_quo k_rem k_and k_or k_xor k_shl k_shr k_eql k_neq k_lss k_leq k_gtr k_geq k_beq k_peqn k_peqs k_neg k_not k_com k_cvI k_idxS k_idxV1 k_idxVn k_idx k_idxA k_idxG k_ldG k_gld k_seq k_cat k_aeq k_eqs k_fld k_ld1 k_ldn k_get k_gets k_sti k_stb k_stp k_sts k_stf k_sta k_put k_nn k_prt1 k_prtn k_slc_a k_slc_b k_slc_c k_mk k_agg k_bsl k_box k_len k_lenS k_cap k_max k_min k_ext k_callV k_true k_false k_gtt k_gtf k_gft k_gsk k_gff k_lit1i k_lit2i k_lit3i k_c0 k_c1 k_ck List.getElem?_cons_zero List.getElem?_cons_succ List.getElem?_nil Option.getD_some Option.getD_none tupOf List.map_cons List.map_nil Option.map_some Option.map_none List.nil_append List.cons_append List.append_nil Nat.mul_one Int.toNat_natCast Nat.zero_add
attribute [local go_sem] e_t e_c e_f u_some u_none u_at env_at k_v k_pick k_add k_sub k_mul k_quo k_rem k_and k_or k_xor k_shl k_shr k_eql k_neq k_lss k_leq k_gtr k_geq k_beq k_peqn k_peqs k_neg k_not k_com k_cvI k_idxS k_idxV1 k_idxVn k_idx k_idxA k_idxG k_ldG k_gld k_seq k_cat k_aeq k_eqs k_fld k_ld1 k_ldn k_get k_gets k_sti k_stb k_stp k_sts k_stf k_sta k_put k_nn k_prt1 k_prtn k_slc_a k_slc_b k_slc_c k_mk k_agg k_bsl k_box k_len k_lenS k_cap k_max k_min k_ext k_callV k_true k_false k_gtt k_gtf k_gft k_gsk k_gff k_lit1i k_lit2i k_lit3i k_c0 k_c1 k_ck List.getElem?_cons_zero List.getElem?_cons_succ List.getElem?_nil Option.getD_some Option.getD_none tupOf List.map_cons List.map_nil Option.map_some Option.map_none List.nil_append List.cons_append List.append_nil Nat.mul_one Int.toNat_natCast Nat.zero_add
--what a store into a cell of two leaves
attribute [local go_sem_proc] Nat.reduceEqDiff Nat.reduceAdd Int.reduceToNat
attribute [local go_sem_proc ↓] reduceIte
attribute [local go_sem] Bool.false_eq_true
section
section
variable {h:H} {K:AV→H→Prop}
theorem Carry_calls {v:AV} {ws:List (List Nat)} (hv:IsC 3 h v ws.length (tri ws)) (hw3:∀w∈ws,w.length=3) (hwd:∀w∈ws,Dig w) (hn:ws.length≤1048576) (hk:∀r h',h'.wf→h.le h'→Nf h.next h' r (val 18446744073709551616 (ws.map (val 18446744073709551616)))→K r h'):ACalls Tryz.prog 187 [v] h K:=by
 obtain⟨id,off,c,rfl⟩:=hv.form
 refine in_conv_Carry (by simp) fun hw=> ?_
 unfold c_conv_Carry
 have e1:IntKind.i64.wrap ((ws.length:Int)+4)=((ws.length+4:Nat):Int):=by rw[wI]<;>omega
 simp only[go_sem,e1]
 refine⟨by omega,by omega,by omega, ?_⟩
 have hs1:=IsG.made (b:=h.next) (h:=h) (Nat.le_refl _) (ws.length+4)
 refine for_rule (fun i ρ h'=>i≤ws.length∧h'.wf∧h.le h'∧ρ 3= .sl (some h.next) 0 (ws.length+4) (some (ws.length+4))∧ρ 13= .sl id off ws.length c∧ρ 14= .int .i64 (ws.length:Int)∧ρ 15= .int .i64 (i:Int)∧
  ∃out,IsG h.next h' (.sl (some h.next) 0 (ws.length+4) (some (ws.length+4))) out∧Dig out∧out.length=ws.length+4∧val 18446744073709551616 out=val 18446744073709551616 ((ws.take i).map (val 18446744073709551616))) ws.length
  ⟨by omega,H.wf_new hw _,H.le_new hw (H.le_refl h) _,by first|rfl|trivial|assumption,rfl,rfl,rfl,_,hs1,Dig.zeros _,by simp,by rw[val_zero _ _ (fun x hx=>List.eq_of_mem_replicate hx)];rfl⟩ (fun i ρ h hI=>hI.1) ?_
 rintro i ρ h1 ⟨hi,hw1,hl1,q3,q13,q14,q15,out,hG,hd,hol,hov⟩
 rcases Nat.lt_or_ge i ws.length with h2|h2
 ·obtain⟨j,rfl,_,hgs⟩:=(hv.mono hl1).ats (j:=i*3) (w:=3) (by omega) (by omega)
  rw[tri_get hw3 h2] at hgs
  have hwl:=hw3 _ (List.getElem_mem h2)
  have hwdd:=hwd _ (List.getElem_mem h2)
  have hti:val 18446744073709551616 ((ws.take (i+1)).map (val 18446744073709551616))=val 18446744073709551616 ((ws.take i).map (val 18446744073709551616))+18446744073709551616^i*val 18446744073709551616 ws[i]:=by
   rw[List.take_succ_eq_append_getElem h2,List.map_append,val_append]
   simp[val,Nat.min_eq_left hi]
  have hbd:val 18446744073709551616 ((ws.take (i+1)).map (val 18446744073709551616))<18446744073709551616^(i+4):=by
   have:=sums_lt (B:=18446744073709551616) (by decide) (vs:=(ws.take (i+1)).map (val 18446744073709551616)) (fun x hx=>by
    obtain⟨w,hw,rfl⟩:=List.mem_map.1 hx
    have:=val_lt 18446744073709551616 (by decide) w (hwd w (List.mem_of_mem_take hw))
    rw[hw3 w (List.mem_of_mem_take hw)] at this
    exact this)
   rw[List.length_map,List.length_take,Nat.min_eq_left (by omega)] at this
   exact this
  generalize ws[i]=w at*
  match w,hwl with
  |[a,b,d],_=>
   simp only[go_sem,q3,q13,q14,q15,ltT h2]
   refine⟨by omega,by omega, ?_⟩
   simp only[go_sem,q3,q13,q14,q15,hgs,Int.toNat_natCast]
   refine⟨rfl,rfl, ?_⟩
   rw[H.rows_new]
   simp only[go_sem]
   refine⟨by simp,by simp[W], ?_⟩
   generalize hh:(h1.new ⟨some _,_,_⟩).set h1.next ⟨some _,_,_⟩=h2'
   obtain⟨hl2,hw2,hr2⟩:=new_agg2 (Z:=[.int .u64 0, .int .u64 0, .int .u64 0]) (L:=W .u64 [(a:Int),(b:Int),(d:Int)]) hw1 rfl hh
   have hG2:=hG.mono hl2
   have hnx:=H.row_lt hw2 hr2
   obtain⟨_,eo,_,hgx⟩:=hG.isN.at (j:=0) (by omega)
   have hnx0:h.next<h1.next:=by
    injection eo with eo
    subst eo
    unfold H.get at hgx
    cases hrr:h1.rows h.next with
    |none=>rw[hrr] at hgx;cases hgx
    |some r=>exact H.row_lt hw1 hrr
   refine⟨fun s ρ h'=>s≤5∧h'.wf∧h.le h'∧ρ 3= .sl (some h.next) 0 (ws.length+4) (some (ws.length+4))∧ρ 13= .sl (some j) off ws.length c∧ρ 14= .int .i64 (ws.length:Int)∧ρ 15= .int .i64 (i:Int)∧ρ 4= .int .i64 (i:Int)∧ρ 5= .ptr (some (h1.next,0))∧ρ 7= .int .i64 ((5-s:Nat):Int)∧h'.rows h1.next=some ⟨some 251,3,W .u64 [(a:Int),(b:Int),(d:Int)]⟩∧∃cc:Nat,ρ 6= .int .u64 (cc:Int)∧cc≤1∧
    ∃out',IsG h.next h' (.sl (some h.next) 0 (ws.length+4) (some (ws.length+4))) out'∧Dig out'∧out'.length=ws.length+4∧val 18446744073709551616 out'+18446744073709551616^(i+(5-s))*cc=val 18446744073709551616 out+18446744073709551616^i*val 18446744073709551616 ([a,b,d].take (5-s)),5,
    ⟨by omega,hw2,H.le_trans hl1 hl2,by first|rfl|trivial|assumption,by first|rfl|trivial|assumption,by first|rfl|trivial|assumption,by first|rfl|trivial|assumption,by first|rfl|trivial|assumption,by first|rfl|trivial|assumption,rfl,hr2,0,rfl,by omega,out,hG2,hd,hol,by simp[val]⟩, ?_⟩
   rintro s ρ h3 ⟨hs,hw3',hl3,q3,q13,q14,q15,q4,q5,q7,hrw,cc,q6,hcc,ou,hGo,hdo,hlo,hvo⟩
   obtain⟨jj,hjj⟩:∃jj,jj=5-s:=⟨_,rfl⟩
   rw[←hjj] at q7 hvo
   have hval:val 18446744073709551616 ou+18446744073709551616^(i+jj)*cc<18446744073709551616^(i+4)∨jj<3:=by
    rcases Nat.lt_or_ge jj 3 with h|h
    ·exact .inr h
    ·left
     have ht3: [a,b,d].take jj=[a,b,d]:=List.take_of_length_le (by simpa using h)
     rw[hvo,hov,ht3,←hti]
     exact hbd
   have hjs:jj=5-s:=hjj
   have hw3s:h1.next<h3.next:=H.row_lt hw3' hrw
   have hi4:jj<4→i+jj<ou.length:=fun h=>by omega
   rcases Nat.lt_or_ge jj 3 with h5|h5
   ·have hi4:=hi4 (by omega)
    obtain⟨i2,e2,_,hgo⟩:=hGo.isN.at hi4
    injection e2 with e2
    subst e2
    obtain⟨i3,r3,e3,hb3,hn3,hr3,ho3,hc3,hput⟩:=hGo.put hw3' hi4
    injection e3 with e3
    subst e3
    have hob:=hdo _ (List.getElem_mem hi4)
    have hset:=fun s c'=>carry_step (B:=18446744073709551616) (j:=jj) (w:=[a,b,d]) (s:=s) (c':=c') hi4 hvo
    generalize ou[i+jj]=o at*
    have hwj:h3.get h1.next jj=some (.int .u64 (([a,b,d].getD jj 0:Nat):Int)):=by
     rw[H.get_of hrw]
     match jj,h5 with
     |0,_=>rfl
     |1,_=>rfl
     |2,_=>rfl
    have hwb: [a,b,d].getD jj 0<18446744073709551616:=by
     match jj,h5 with
     |0,_=>exact hwdd _ (by simp)
     |1,_=>exact hwdd _ (by simp)
     |2,_=>exact hwdd _ (by simp)
    generalize [a,b,d].getD jj 0=w at*
    rw[Nat.zero_add] at hgo
    simp only[go_sem,q3,q13,q14,q15,q4,q5,q7,q6,show decide ((jj:Int)<3)=true from decide_eq_true (by omega)]
    refine⟨by omega,by omega, ?_⟩
    simp only[go_sem,q3,q13,q14,q15,q4,q5,q7,q6,hwj,Int.toNat_natCast]
    have a4:=addI (a:=i) (b:=jj) (by omega)
    simp only[go_sem,q3,q13,q14,q15,q4,q5,q7,q6,a4]
    refine⟨by omega,by omega, ?_⟩
    simp only[go_sem,hgo,Nat.mul_one,q6]
    refine Add64_calls hob hwb hcc ?_
    simp only[go_sem,q3,q13,q14,q15,q4,q5,q7,a4]
    refine⟨by omega,by omega, ?_⟩
    simp only[go_sem,hr3,Nat.mul_one]
    refine⟨ho3,by omega, ?_⟩
    have p1:=Nat.mod_lt (o+w+cc) (show 0<18446744073709551616 by decide)
    have p2:=div_parts (B:=18446744073709551616) (x:=o+w+cc)
    have p3:(o+w+cc)/18446744073709551616≤1:=by
     have:=(Nat.div_lt_iff_lt_mul (x:=o+w+cc) (y:=2) (show 0<18446744073709551616 by decide)).2 (by omega)
     omega
    have hpu:=hput ((o+w+cc)%18446744073709551616)
    have hst:=hset _ _ p2
    generalize (o+w+cc)%18446744073709551616=s1 at*
    generalize (o+w+cc)/18446744073709551616=c1 at*
    have hw4:=H.wf_set hw3' hn3 {r3 with cells:=putAt r3.cells (i+jj) [AV.int .u64 (s1:Int)]}
    have hl4:=H.le_set hw hl3 hb3 {r3 with cells:=putAt r3.cells (i+jj) [AV.int .u64 (s1:Int)]}
    have hr4:(h3.set h.next {r3 with cells:=putAt r3.cells (i+jj) [AV.int .u64 (s1:Int)]}).rows h1.next=h3.rows h1.next:=H.rows_set_ne (by have:=hl1.1;have:=hnx0;omega)
    rw[hrw] at hr4
    generalize h3.set h.next {r3 with cells:=putAt r3.cells (i+jj) [AV.int .u64 (s1:Int)]}=h4 at*
    simp only[go_sem,q3,q13,q14,q15,q4,q5,q7,incI (i:=jj) (by omega)]
    exact⟨s-1,by omega,by omega,hw4,hl4,by first|rfl|trivial|assumption,by first|rfl|trivial|assumption,by first|rfl|trivial|assumption,by first|rfl|trivial|assumption,by first|rfl|trivial|assumption,by first|rfl|trivial|assumption,by rw[show 5-(s-1)=jj+1 by omega],hr4,c1,by first|rfl|trivial|assumption,p3,_,hpu,hdo.set _ p1,by simpa using hlo,by rw[show 5-(s-1)=jj+1 by omega];exact hst⟩
   ·rcases Nat.eq_zero_or_pos cc with h6|h6
    ·subst h6
     simp only[go_sem,q3,q13,q14,q15,q4,q5,q7,q6,show decide ((jj:Int)<3)=false from decide_eq_false (by omega),show decide (((0:Nat):Int)>0)=false from rfl,incI (i:=i) (by omega)]
     refine⟨by omega,hw3',hl3,by first|rfl|trivial|assumption,by first|rfl|trivial|assumption,by first|rfl|trivial|assumption,by first|rfl|trivial|assumption,ou,hGo,hdo,hlo, ?_⟩
     have ht3: [a,b,d].take jj=[a,b,d]:=List.take_of_length_le (by simpa using h5)
     rw[Nat.mul_zero,Nat.add_zero,ht3,hov,←hti] at hvo
     exact hvo
    ·have hj4:jj<4:=carry_end (B:=18446744073709551616) (by decide) h6 rfl (hval.resolve_right (by omega))
     have hi4:=hi4 (by omega)
     obtain⟨i2,e2,_,hgo⟩:=hGo.isN.at hi4
     injection e2 with e2
     subst e2
     obtain⟨i3,r3,e3,hb3,hn3,hr3,ho3,hc3,hput⟩:=hGo.put hw3' hi4
     injection e3 with e3
     subst e3
     have hob:=hdo _ (List.getElem_mem hi4)
     have hset:=fun s c'=>carry_step (B:=18446744073709551616) (j:=jj) (w:=[a,b,d]) (s:=s) (c':=c') hi4 hvo
     rw[show [a,b,d].getD jj 0=0 from by have hj:jj=3:=(by omega);subst hj;rfl] at hset
     generalize ou[i+jj]=o at*
     rw[Nat.zero_add] at hgo
     simp only[go_sem,q3,q13,q14,q15,q4,q5,q7,q6,show decide ((jj:Int)<3)=false from decide_eq_false (by omega),show decide ((cc:Int)>0)=true from decide_eq_true (by omega)]
     have a4:=addI (a:=i) (b:=jj) (by omega)
     simp only[go_sem,q3,q13,q14,q15,q4,q5,q7,q6,a4]
     refine⟨by omega,by omega, ?_⟩
     simp only[go_sem,hgo,Nat.mul_one,q6]
     refine Add64_calls (y:=0) hob (by decide) hcc ?_
     simp only[go_sem,q3,q13,q14,q15,q4,q5,q7,a4]
     refine⟨by omega,by omega, ?_⟩
     simp only[go_sem,hr3,Nat.mul_one]
     refine⟨ho3,by omega, ?_⟩
     have p1:=Nat.mod_lt (o+0+cc) (show 0<18446744073709551616 by decide)
     have p2:=div_parts (B:=18446744073709551616) (x:=o+0+cc)
     have p3:(o+0+cc)/18446744073709551616≤1:=by
      have:=(Nat.div_lt_iff_lt_mul (x:=o+0+cc) (y:=2) (show 0<18446744073709551616 by decide)).2 (by omega)
      omega
     have hpu:=hput ((o+0+cc)%18446744073709551616)
     have hst:=hset _ _ p2
     generalize (o+0+cc)%18446744073709551616=s1 at*
     generalize (o+0+cc)/18446744073709551616=c1 at*
     have hw4:=H.wf_set hw3' hn3 {r3 with cells:=putAt r3.cells (i+jj) [AV.int .u64 (s1:Int)]}
     have hl4:=H.le_set hw hl3 hb3 {r3 with cells:=putAt r3.cells (i+jj) [AV.int .u64 (s1:Int)]}
     have hr4:(h3.set h.next {r3 with cells:=putAt r3.cells (i+jj) [AV.int .u64 (s1:Int)]}).rows h1.next=h3.rows h1.next:=H.rows_set_ne (by have:=hl1.1;have:=hnx0;omega)
     rw[hrw] at hr4
     generalize h3.set h.next {r3 with cells:=putAt r3.cells (i+jj) [AV.int .u64 (s1:Int)]}=h4 at*
     simp only[go_sem,q3,q13,q14,q15,q4,q5,q7,incI (i:=jj) (by omega)]
     exact⟨s-1,by omega,by omega,hw4,hl4,by first|rfl|trivial|assumption,by first|rfl|trivial|assumption,by first|rfl|trivial|assumption,by first|rfl|trivial|assumption,by first|rfl|trivial|assumption,by first|rfl|trivial|assumption,by rw[show 5-(s-1)=jj+1 by omega],hr4,c1,by first|rfl|trivial|assumption,p3,_,hpu,hdo.set _ p1,by simpa using hlo,by rw[show 5-(s-1)=jj+1 by omega];exact hst⟩
 ·obtain rfl:i=ws.length:=by omega
  rw[List.take_length] at hov
  simp only[go_sem,q3,q13,q14,q15,ltF h2]
  refine Norm_calls ⟨out,hG.isN,hd,by omega,hov⟩ fun r h3 hw3 hl3 hr=> ?_
  simp only[go_sem]
  refine fun hw'=>hk r h3 hw' (H.le_trans hl1 hl3) ?_
  obtain⟨zs,z1,z2⟩:=hr
  exact⟨zs,IsF.base z1 hl1.1,z2⟩
end
end
section
def p3 (k:Nat):Nat:=match k with
 |0=>180143985094819841
 |1=>1945555039024054273
 |_=>4179340454199820289
theorem p3_ok:∀k,k<3→∃g,PrimeOK (p3 k) g
 |0,_=>⟨_,prime1⟩
 |1,_=>⟨_,prime2⟩
 |2,_=>⟨_,prime3⟩
theorem p3_mul:2^20*(18446744073709551616*18446744073709551616)<p3 0*p3 1*p3 2:=by decide
theorem H.lee_put {u A:Nat} {h h':H} (hw:h.wf) (hl:H.lee u h h') (hA:h.next≤A) (r:Row):H.lee u h (h'.set A r):=⟨hl.1,fun i q hi hq=>by
 rw[H.rows_set_ne (by have:=H.row_lt hw hq;omega)]
 exact hl.2 i q hi hq⟩
theorem Tune.put {u A m nw dp:Nat} {t:Tb} {h:H} (ht:Tune h u m nw dp t) (hA:u≠A) (r:Row):Tune (h.set A r) u m nw dp t:=by
 unfold Tune
 rw[H.rows_set_ne hA]
 exact ht
theorem CR.put {h:H} {A c p0 p1 p2:Nat} {ra:Row} (hc:CR h c p0 p1 p2) (ha:h.rows A=some ra) (hl:ra.cells.length=3) (r:Row):CR (h.set A r) c p0 p1 p2:=by
 obtain⟨m0,m1,m2,i01,i2,hi,lo,h1,h2,h3,h4,h5⟩:=hc
 have hne:∀{i:Nat} {r:Row},h.rows i=some r→r.cells.length≠3→i≠A:=by
  rintro i r hr hlen rfl
  rw[ha] at hr
  injection hr with hr
  rw[←hr] at hlen
  exact hlen hl
 have hM:∀{i p:Nat},MW h i p→i≠A:=by
  rintro i p ⟨ng,h1,_⟩
  exact hne h1 (by simp)
 have hle:=H.lee_set (u:=A) (h:=h) r
 exact⟨m0,m1,m2,i01,i2,hi,lo,hle.2 _ _ (hne h1 (by simp)) h1,h2.monoE (hM h2) hle,h3.monoE (hM h3) hle,h4.monoE (hM h4) hle,h5⟩
theorem CR.pk {h:H} {c:Nat} (hc:CR h c (p3 0) (p3 1) (p3 2)):∀k,k<3→h.get c k=some (.int .u64 (p3 k:Nat)):=by
 obtain⟨m0,m1,m2,i01,i2,hi,lo,h1,_⟩:=hc
 intro k hk
 rw[H.get_of h1]
 match k,hk with
 |0,_=>rfl
 |1,_=>rfl
 |2,_=>rfl
theorem putAt_tri {ws:List (List Nat)} {k a b c:Nat} (hw:∀w∈ws,w.length=3):putAt (tri ws++List.replicate ((k+1)*3) (.int .u64 0)) (ws.length*3) [.int .u64 (a:Int), .int .u64 (b:Int), .int .u64 (c:Int)]=tri (ws++[[a,b,c]])++List.replicate (k*3) (.int .u64 0):=by
 have hl:(tri ws).length=ws.length*3:=by
  clear k a b c
  induction ws with
  |nil=>rfl
  |cons w ws ih=>
   have:=ih fun x hx=>hw x (by simp[hx])
   have h3:=hw w (by simp)
   simp only[tri,List.flatMap_cons,List.length_append,List.length_cons] at this⊢
   rw[this]
   simp[W,h3]
   omega
 unfold putAt
 rw[List.take_append_of_le_length (by omega),List.take_of_length_le (by omega),List.drop_append,List.drop_of_length_le (by simp;omega),hl]
 simp only[List.length_cons,List.length_nil,List.nil_append,List.drop_replicate,List.append_assoc,tri,List.flatMap_append,List.flatMap_cons,List.flatMap_nil,List.append_nil]
 rw[show(k+1)*3-(ws.length*3+(0+1+1+1)-ws.length*3)=k*3 by omega]
 simp[W]
theorem zs3 (n:Nat) (a:AV):zs [a,a,a] n=List.replicate (n*3) a:=by
 unfold zs
 simp only
 induction n with
 |zero=>rfl
 |succ n ih=>
  rw[List.replicate_succ,List.flatten_cons,ih,Nat.add_mul,Nat.one_mul,Nat.add_comm,←List.replicate_append_replicate]
  rfl
def OneOK (f:FuncId) (first caps:List AV) (h0:H) (u L n C:Nat) (tb:Tb) (tgt:Nat→Nat):Prop:=
 ∀(h1:H) (p T w v m nw dp:Nat) (K:AV→H→Prop),3≤p→h1.wf→H.lee u h0 h1→PL h1 T u p L w v→Tune h1 u m nw dp tb→
  (∀r zs h',h'.wf→H.lee u h1 h'→Tune h' u (m+C) nw dp tb→IsG h1.next h' r zs→n≤zs.length→(∀i,i<n→zs[i]? =some (tgt i%p))→K (.tup [r, .bool true]) h')→ACalls Tryz.prog f (first++[.ptr (some (T,0))]++caps) h1 K
section
variable {u m nw dp n size L C:Nat} {tb:Tb} {tgt:Nat→Nat} {f:FuncId} {first caps:List AV} {h:H} {K:AV→H→Prop}
theorem cjoined_calls (ht:Tune h u m nw dp tb) (hn:n≤size) (h1:1≤size) (h2:size≤1048576) (hL:lgOK size L) (hone:OneOK f first caps h u L n C tb tgt) (hB:∀i,i<n→tgt i<2^20*(18446744073709551616*18446744073709551616))
  (hk:∀r (ws:List (List Nat)) h',h'.wf→H.lee u h h'→Tune h' u (m+3*C+6*2^L) nw dp tb→IsC 3 h' r ws.length (tri ws)→(∀w∈ws,w.length=3)→(∀w∈ws,Dig w)→ws.map (val 18446744073709551616)=(List.range n).map tgt→K (.tup [r, .bool true]) h'):
  ACalls Tryz.prog 184 [.ptr (some (u,0)), .int .i64 (n:Int), .int .i64 (size:Int), .fn f first caps] h K:=by
 refine in_conv_joined (by simp) fun hw=> ?_
 unfold c_conv_joined
 have hul:=H.row_lt hw ht
 simp only[go_sem]
 refine begun_calls fun c g1 hw1 hl1 hcn hC=> ?_
 have hC:CR g1 c (p3 0) (p3 1) (p3 2):=hC
 simp only[go_sem]
 have hA:h.next≤g1.next:=hl1.1
 obtain⟨A,hAe⟩:∃A,A=g1.next:=⟨_,rfl⟩
 have hl2:=H.le_new hw1 (H.le_refl g1) ⟨some 248,3,[.sl none 0 0 none, .sl none 0 0 none, .sl none 0 0 none]⟩
 have hr2:=H.rows_new g1 ⟨some 248,3,[.sl none 0 0 none, .sl none 0 0 none, .sl none 0 0 none]⟩
 have hw2:=H.wf_new hw1 ⟨some 248,3,[.sl none 0 0 none, .sl none 0 0 none, .sl none 0 0 none]⟩
 simp only[List.length_cons,List.length_nil,Nat.zero_add,Nat.reduceAdd]
 rw[←hAe] at hr2⊢
 rw[←hAe] at hA
 generalize g1.new ⟨some 248,3,[.sl none 0 0 none, .sl none 0 0 none, .sl none 0 0 none]⟩=g2 at*
 have hAu:u≠A:=by omega
 refine loop_cut (fun ρ h'=>h'.wf∧H.lee u h h'∧Tune h' u (m+3*C) nw dp tb∧ρ 0= .ptr (some (u,0))∧ρ 1= .int .i64 (n:Int)∧ρ 2= .int .i64 (size:Int)∧ρ 10= .ptr (some (c,0))∧ρ 11= .ptr (some (A,0))∧CR h' c (p3 0) (p3 1) (p3 2)∧
  ∃cells,h'.rows A=some ⟨some 248,3,cells⟩∧cells.length=3∧∀i,i<3→∃v zs,cells[i]? =some v∧IsN h' v zs∧n≤zs.length∧∀j,j<n→zs[j]? =some (tgt j%p3 i)) ?_ ?_
 ·refine for_rule (fun k ρ h'=>k≤3∧h'.wf∧H.lee u h h'∧Tune h' u (m+k*C) nw dp tb∧ρ 0= .ptr (some (u,0))∧ρ 1= .int .i64 (n:Int)∧ρ 2= .int .i64 (size:Int)∧ρ 3= .fn f first caps∧ρ 10= .ptr (some (c,0))∧ρ 11= .ptr (some (A,0))∧ρ 20= .int .i64 (k:Int)∧CR h' c (p3 0) (p3 1) (p3 2)∧
   ∃cells,h'.rows A=some ⟨some 248,3,cells⟩∧cells.length=3∧∀i,i<k→∃v zs,cells[i]? =some v∧IsN h' v zs∧n≤zs.length∧∀j,j<n→zs[j]? =some (tgt j%p3 i)) 3
   ⟨by omega,hw2,(H.le_trans hl1 hl2).lee,by rw[Nat.zero_mul,Nat.add_zero];exact(ht.mono hl1).mono hl2,by first|rfl|trivial|assumption,by first|rfl|trivial|assumption,by first|rfl|trivial|assumption,by first|rfl|trivial|assumption,by first|rfl|trivial|assumption,by first|rfl|trivial|assumption,by first|rfl|trivial|assumption,hC.mono hl2,_,hr2,rfl,fun i hi=>absurd hi (by omega)⟩ (fun i ρ h hI=>hI.1) ?_
  rintro k ρ h3 ⟨hk3,hw3,hl3,ht3,q0,q1,q2,q3,q10,q11,q20,hC3,cells,hrA,hcl,hcs⟩
  rcases Nat.lt_or_ge k 3 with h5|h5
  ·have hpk:=hC3.pk k h5
   obtain⟨g,hP⟩:=p3_ok k h5
   simp only[go_sem,q0,q1,q2,q3,q10,q11,q20,show decide ((k:Int)<3)=true from decide_eq_true (by omega)]
   refine⟨by omega,by omega, ?_⟩
   simp only[go_sem,q0,q1,q2,q3,q10,q11,q20,Int.toNat_natCast,Nat.mul_one,Nat.zero_add,hpk]
   refine clog_calls h1 h2 fun L' hL'=> ?_
   obtain rfl:=lg_one hL hL'
   simp only[go_sem,q0,q1,q2,q3,q10,q11,q20,Int.toNat_natCast,Nat.mul_one,Nat.zero_add,hpk]
   refine⟨by simp, ?_⟩
   refine nttNew_calls hP hL.2.2 (H.row_lt hw3 ht3) fun T w v g4 hw4 hl4 hTn hPL=> ?_
   simp only[go_sem,q0,q1,q2,q3,q10,q11,q20,show((0:Int) !=0)=false from rfl]
   refine hone g4 (p3 k) T w v _ _ _ _ hP.1 hw4 (hl3.trans hl4.lee) hPL (ht3.mono hl4) fun r zs g5 hw5 hl5 ht5 hG hzl hzv=> ?_
   have hrA5:=hl5.2 A _ (by omega) (hl4.2 _ _ hrA)
   have hC5:=(hC3.mono hl4).monoU hw4 hl5 (ht3.mono hl4)
   simp only[go_sem,q0,q1,q2,q3,q10,q11,q20,Bool.not_true]
   refine⟨by omega,by omega, ?_⟩
   obtain⟨ix,cx,rfl⟩:=hG.form
   simp only[go_sem,hrA5,Int.toNat_natCast,Nat.mul_one,Nat.zero_add]
   refine⟨by simp,by omega, ?_⟩
   have hw6:=H.wf_set hw5 (H.row_lt hw5 hrA5) ⟨some 248,3,putAt cells k [AV.sl ix 0 zs.length cx]⟩
   have hl6:=H.lee_put hw ((hl3.trans hl4.lee).trans hl5) hA ⟨some 248,3,putAt cells k [AV.sl ix 0 zs.length cx]⟩
   have ht6:=ht5.put hAu ⟨some 248,3,putAt cells k [AV.sl ix 0 zs.length cx]⟩
   have hC6:=hC5.put hrA5 hcl ⟨some 248,3,putAt cells k [AV.sl ix 0 zs.length cx]⟩
   have hr6:=H.rows_set g5 A ⟨some 248,3,putAt cells k [AV.sl ix 0 zs.length cx]⟩
   have hv6:∀{v:AV} {xs:List Nat},IsN g5 v xs→IsN (g5.set A ⟨some 248,3,putAt cells k [AV.sl ix 0 zs.length cx]⟩) v xs:=fun hv=>hv.setP hrA5 (by simp) (by simp)
   generalize g5.set A ⟨some 248,3,putAt cells k [AV.sl ix 0 zs.length cx]⟩=g6 at*
   simp only[go_sem,q0,q1,q2,q3,q10,q11,q20,incI (i:=k) (by omega)]
   have hpl:(putAt cells k [AV.sl ix 0 zs.length cx]).length=3:=by rw[putAt_len (by simp;omega)];exact hcl
   refine⟨by omega,hw6,hl6,by rw[Nat.add_mul,Nat.one_mul,←Nat.add_assoc];exact ht6,by first|rfl|trivial|assumption,by first|rfl|trivial|assumption,by first|rfl|trivial|assumption,by first|rfl|trivial|assumption,by first|rfl|trivial|assumption,by first|rfl|trivial|assumption,by first|rfl|trivial|assumption,hC6,_,hr6,hpl,fun i hi=> ?_⟩
   rw[putAt_get (by simp;omega)]
   rcases Nat.lt_or_ge i k with h6|h6
   ·obtain⟨v',zs',e1,e2,e3,e4⟩:=hcs i h6
    rw[if_neg (by omega)]
    exact⟨v',zs',e1,hv6 ((e2.mono hl4).monoE (ht3.mono hl4) hl5),e3,e4⟩
   ·obtain rfl:i=k:=by omega
    rw[if_pos (by simp),Nat.sub_self]
    exact⟨_,zs,rfl,hv6 hG.isN,hzl,hzv⟩
  ·obtain rfl:k=3:=by omega
   simp only[go_sem,q0,q1,q2,q3,q10,q11,q20,show decide (((3:Nat):Int)<3)=false from rfl]
   exact⟨hw3,hl3,ht3,by first|rfl|trivial|assumption,by first|rfl|trivial|assumption,by first|rfl|trivial|assumption,by first|rfl|trivial|assumption,by first|rfl|trivial|assumption,hC3,cells,hrA,hcl,hcs⟩
 rintro ρ h3 ⟨hw3,hl3,ht3,q0,q1,q2,q10,q11,hC3,cells,hrA,hcl,hcs⟩
 simp only[go_sem,q0,q1,q2,q10,q11]
 refine clog_calls h1 h2 fun L' hL'=> ?_
 obtain rfl:=lg_one hL hL'
 have hLL:=hL.2.2
 have hpl:2^L≤2^20:=Nat.pow_le_pow_right (by decide) hLL
 have e2:IntKind.u64.wrap (L:Int)=(L:Int):=wUn (by omega)
 have e3:bShl .i64 6 L=((6*2^L:Nat):Int):=by
  unfold bShl
  rw[show IntKind.i64.bits=64 from rfl,Nat.min_eq_left (by omega)]
  have:((2:Int)^L)=((2^L:Nat):Int):=by simp
  rw[this]
  clear this
  generalize 2^L=N at*
  rw[wI]<;>omega
 simp only[go_sem,q0,q1,q2,q10,q11,e2,Int.toNat_natCast,e3]
 refine⟨by omega, ?_⟩
 refine Spend_calls ht3 fun g4 hw4 hl4 hn4 ht4=> ?_
 have hrA4:=hl4.2 A _ (by omega) hrA
 have hC4:=hC3.monoU hw3 hl4 ht3
 have hcs4:∀i,i<3→∃v zs,cells[i]? =some v∧IsN g4 v zs∧n≤zs.length∧∀j,j<n→zs[j]? =some (tgt j%p3 i):=fun i hi=>by
  obtain⟨v',zs',e1,e2,e3,e4⟩:=hcs i hi
  exact⟨v',zs',e1,e2.monoE ht3 hl4,e3,e4⟩
 simp only[go_sem,q0,q1,q2,q10,q11]
 refine⟨by omega,by omega,by omega, ?_⟩
 have z3:=zs3 n (.int .u64 0)
 have hG5:=IsCF.made (t:=251) (z:=3) (b:=g4.next) (h:=g4) (zero:=[AV.int .u64 0,AV.int .u64 0,AV.int .u64 0]) (Nat.le_refl _) rfl n
 rw[z3] at hG5
 have hl5:=H.le_new hw4 (H.le_refl g4) ⟨some 251,3,zs [AV.int .u64 0,AV.int .u64 0,AV.int .u64 0] n⟩
 have hw5:=H.wf_new hw4 ⟨some 251,3,zs [AV.int .u64 0,AV.int .u64 0,AV.int .u64 0] n⟩
 rw[z3] at hl5 hw5
 rw[z3]
 generalize g4.new ⟨some 251,3,List.replicate (n*3) (.int .u64 0)⟩=g5 at*
 refine loop_cut (fun ρ h'=>h'.wf∧g4.le h'∧ρ 17= .sl (some g4.next) 0 n (some n)∧∃ws:List (List Nat),IsCF 251 3 g4.next h' (.sl (some g4.next) 0 n (some n)) n (tri ws)∧ws.length=n∧(∀w∈ws,w.length=3)∧(∀w∈ws,Dig w)∧ws.map (val 18446744073709551616)=(List.range n).map tgt) ?_ ?_
 ·refine for_rule (fun i ρ h'=>i≤n∧h'.wf∧g4.le h'∧ρ 10= .ptr (some (c,0))∧ρ 11= .ptr (some (A,0))∧ρ 17= .sl (some g4.next) 0 n (some n)∧ρ 59= .int .i64 (n:Int)∧ρ 60= .int .i64 (i:Int)∧∃ws:List (List Nat),IsCF 251 3 g4.next h' (.sl (some g4.next) 0 n (some n)) n (tri ws++List.replicate ((n-i)*3) (.int .u64 0))∧ws.length=i∧(∀w∈ws,w.length=3)∧(∀w∈ws,Dig w)∧ws.map (val 18446744073709551616)=(List.range i).map tgt) n
   ⟨by omega,hw5,hl5,by first|rfl|trivial|assumption,by first|rfl|trivial|assumption,by first|rfl|trivial|assumption,by first|rfl|trivial|assumption,by first|rfl|trivial|assumption,[],by simpa [tri] using hG5,rfl,by simp,by simp,rfl⟩ (fun i ρ h hI=>hI.1) ?_
  rintro i ρ h6 ⟨hi,hw6,hl6,q10,q11,q17,q59,q60,ws,hG,hwl,hw3',hwd,hwv⟩
  rcases Nat.lt_or_ge i n with h7|h7
  ·have hrA6:=hl6.2 _ _ hrA4
   have hC6:=hC4.mono hl6
   obtain⟨v0,z0,a0,b0,c0,d0⟩:=hcs4 0 (by omega)
   obtain⟨v1,z1,a1,b1,c1,d1⟩:=hcs4 1 (by omega)
   obtain⟨v2,z2,a2,b2,c2,d2⟩:=hcs4 2 (by omega)
   have k0:h6.get A 0=some v0:=by rw[H.get_of hrA6];exact a0
   have k1:h6.get A 1=some v1:=by rw[H.get_of hrA6];exact a1
   have k2:h6.get A 2=some v2:=by rw[H.get_of hrA6];exact a2
   obtain⟨x0,o0,y0,rfl⟩:=b0.form
   obtain⟨x1,o1,y1,rfl⟩:=b1.form
   obtain⟨x2,o2,y2,rfl⟩:=b2.form
   obtain⟨j0,rfl,_,s0⟩:=(b0.mono hl6).at (j:=i) (by omega)
   obtain⟨j1,rfl,_,s1⟩:=(b1.mono hl6).at (j:=i) (by omega)
   obtain⟨j2,rfl,_,s2⟩:=(b2.mono hl6).at (j:=i) (by omega)
   have d0:=d0 i h7
   have d1:=d1 i h7
   have d2:=d2 i h7
   rw[List.getElem?_eq_getElem (by omega)] at d0 d1 d2
   injection d0 with d0
   injection d1 with d1
   injection d2 with d2
   rw[d0] at s0
   rw[d1] at s1
   rw[d2] at s2
   simp only[go_sem,q10,q11,q17,q59,q60,ltT h7,show(0:Int).toNat=0 from rfl,show(1:Int).toNat=1 from rfl,show(2:Int).toNat=2 from rfl]
   refine⟨by decide,by decide, ?_⟩
   simp only[go_sem,q10,q11,q17,q59,q60,k0,Nat.zero_mul,Nat.zero_add]
   refine⟨by omega,by omega, ?_⟩
   simp only[go_sem,q10,q11,q17,q59,q60,s0,Int.toNat_natCast,Nat.mul_one]
   refine⟨by decide,by decide, ?_⟩
   simp only[go_sem,q10,q11,q17,q59,q60,k1,show(1:Int).toNat=1 from rfl,Nat.one_mul,Nat.zero_add]
   refine⟨by omega,by omega, ?_⟩
   simp only[go_sem,q10,q11,q17,q59,q60,s1,Int.toNat_natCast,Nat.mul_one]
   refine⟨by decide,by decide, ?_⟩
   simp only[go_sem,q10,q11,q17,q59,q60,k2,show(2:Int).toNat=2 from rfl,Nat.mul_one,Nat.zero_add]
   refine⟨by omega,by omega, ?_⟩
   simp only[go_sem,q10,q11,q17,q59,q60,s2,Int.toNat_natCast,Nat.mul_one]
   refine three_calls hC6 (Nat.lt_trans (hB i h7) p3_mul) fun e0 e1 e2 he0 he1 he2 hev g7 hw7 hl7=> ?_
   simp only[go_sem,q10,q11,q17,q59,q60]
   refine⟨by omega,by omega, ?_⟩
   have hG7:=hG.mono hl7
   obtain⟨jj,rr,ej,hbj,hltj,hrj,hoj,_,hfj,hpj⟩:=hG7.put hw7 (k:=i*3) (w:=3) (by omega) (by omega)
   injection ej with ej
   subst ej
   simp only[go_sem,hrj,Int.toNat_natCast,Nat.zero_add]
   simp only[AV.held,AV.cells,List.all_cons,List.all_nil,AV.one,Bool.and_true,List.length_cons,List.length_nil,Nat.zero_add,Nat.reduceAdd,true_and]
   refine⟨hoj,by omega, ?_⟩
   have hpj:=hpj [.int .u64 (e0:Int), .int .u64 (e1:Int), .int .u64 (e2:Int)] rfl
   have hpt:=putAt_tri (k:=n-(i+1)) (a:=e0) (b:=e1) (c:=e2) hw3'
   rw[show n-(i+1)+1=n-i by omega,hwl] at hpt
   rw[hpt] at hpj
   have hw8:=H.wf_set hw7 hltj {rr with cells:=putAt rr.cells (i*3) [.int .u64 (e0:Int), .int .u64 (e1:Int), .int .u64 (e2:Int)]}
   have hl8:=H.le_set hw4 (H.le_trans hl6 hl7) (Nat.le_refl _) {rr with cells:=putAt rr.cells (i*3) [.int .u64 (e0:Int), .int .u64 (e1:Int), .int .u64 (e2:Int)]}
   generalize g7.set g4.next {rr with cells:=putAt rr.cells (i*3) [.int .u64 (e0:Int), .int .u64 (e1:Int), .int .u64 (e2:Int)]}=g8 at*
   simp only[go_sem,q10,q11,q17,q59,q60,incI (i:=i) (by omega)]
   refine⟨by omega,hw8,hl8,by first|rfl|trivial|assumption,by first|rfl|trivial|assumption,by first|rfl|trivial|assumption,by first|rfl|trivial|assumption,by first|rfl|trivial|assumption,_,hpj,by simp[hwl],fun w hw=> ?_,fun w hw=> ?_, ?_⟩
   ·rcases List.mem_append.1 hw with hw|hw
    ·exact hw3' w hw
    ·simp at hw;subst hw;rfl
   ·rcases List.mem_append.1 hw with hw|hw
    ·exact hwd w hw
    ·simp at hw;subst hw
     intro x hx
     simp at hx
     omega
   ·rw[List.map_append,hwv]
    simp[List.range_succ,hev]
  ·obtain rfl:i=n:=by omega
   rw[Nat.sub_self,Nat.zero_mul,List.replicate_zero,List.append_nil] at hG
   simp only[go_sem,q10,q11,q17,q59,q60,ltF h7]
   exact⟨hw6,hl6,by first|rfl|trivial|assumption,ws,hG,hwl,hw3',hwd,hwv⟩
 ·rintro ρ h6 ⟨hw6,hl6,q17,ws,hG,hwl,hw3',hwd,hwv⟩
  simp only[go_sem,q17]
  refine fun hw'=>hk _ ws h6 hw' (hl3.trans (hl4.trans hl6.lee)) (ht4.mono hl6) ?_ hw3' hwd hwv
  rw[hwl]
  exact hG.isC
end
end
section
theorem cvL_bound {xs ys:List Nat} (hx:Dig xs) (hy:Dig ys) (hl:xs.length≤1048575) (i:Nat):(cvL xs ys).getD i 0<2^20*(18446744073709551616*18446744073709551616):=by
 have h1:∀z∈cvL xs ys,z≤xs.length*(18446744073709551616*18446744073709551616):=cvL_le fun x hx' y hy'=>Nat.mul_le_mul (Nat.le_of_lt (hx x hx')) (Nat.le_of_lt (hy y hy'))
 have h2:xs.length*(18446744073709551616*18446744073709551616)≤1048575*(18446744073709551616*18446744073709551616):=Nat.mul_le_mul_right _ hl
 rcases Nat.lt_or_ge i (cvL xs ys).length with h|h
 ·have:=h1 _ (List.getElem_mem h)
  rw[List.getD_eq_getElem?_getD,List.getElem?_eq_getElem h,Option.getD_some]
  omega
 ·rw[List.getD_eq_getElem?_getD,List.getElem?_eq_none h,Option.getD_none]
  decide
theorem map_getD {l:List Nat} {n:Nat} (h:l.length=n):(List.range n).map (fun i=>l.getD i 0)=l:=by
 subst h
 apply List.ext_getElem (by simp)
 intro i h1 h2
 simp[List.getD_eq_getElem?_getD,List.getElem?_eq_getElem h2]
section
variable {u m nw dp L:Nat} {tb:Tb} {va vb:AV} {xs ys:List Nat} {h:H} {K:AV→H→Prop}
theorem Words_calls (ht:Tune h u m nw dp tb) (ha:IsN h va xs) (hb:IsN h vb ys) (hxd:Dig xs) (hyd:Dig ys) (hx:0<xs.length) (hy:0<ys.length) (hxy:xs.length+ys.length≤1048576) (hL:lgOK (xs.length+ys.length) L)
  (hk:∀r (ws:List (List Nat)) h',h'.wf→H.lee u h h'→Tune h' u (m+3*convCost L+6*2^L) nw dp tb→IsC 3 h' r ws.length (tri ws)→(∀w∈ws,w.length=3)→(∀w∈ws,Dig w)→ws.map (val 18446744073709551616)=cvL xs ys→K (.tup [r, .bool true]) h'):
  ACalls Tryz.prog 190 [.ptr (some (u,0)),va,vb] h K:=by
 obtain⟨ia,oa,ca,rfl⟩:=ha.form
 obtain⟨ib,ob,cb,rfl⟩:=hb.form
 refine in_conv_Words (by simp) fun hw=> ?_
 unfold c_conv_Words
 have hul:=H.row_lt hw ht
 simp only[go_sem]
 refine⟨rfl,rfl, ?_⟩
 simp only[AV.cells,List.length_cons,List.length_nil,Nat.zero_add]
 have hl1:=H.le_new hw (H.le_refl h) ⟨some 24,1,[AV.sl ia oa xs.length ca]⟩
 have hw1:=H.wf_new hw ⟨some 24,1,[AV.sl ia oa xs.length ca]⟩
 have hr1:=H.rows_new h ⟨some 24,1,[AV.sl ia oa xs.length ca]⟩
 have hn1:(h.new ⟨some 24,1,[AV.sl ia oa xs.length ca]⟩).next=h.next+1:=rfl
 generalize h.new ⟨some 24,1,[AV.sl ia oa xs.length ca]⟩=h1 at*
 have hl2:=H.le_new hw1 (H.le_refl h1) ⟨some 24,1,[AV.sl ib ob ys.length cb]⟩
 have hw2:=H.wf_new hw1 ⟨some 24,1,[AV.sl ib ob ys.length cb]⟩
 have hr2:=H.rows_new h1 ⟨some 24,1,[AV.sl ib ob ys.length cb]⟩
 generalize h1.new ⟨some 24,1,[AV.sl ib ob ys.length cb]⟩=h2 at*
 rw[hn1] at hr2⊢
 have hr1':=hl2.2 _ _ hr1
 have g1:h2.get h.next 0=some (.sl ia oa xs.length ca):=by rw[H.get_of hr1'];rfl
 have g2:h2.get (h.next+1) 0=some (.sl ib ob ys.length cb):=by rw[H.get_of hr2];rfl
 simp only[go_sem,g1,g2]
 refine cmay_calls ?_ (by omega) (by omega)
 rw[decide_eq_true ⟨hx,hy,hxy⟩]
 have a1:=addI (a:=xs.length) (b:=ys.length) (by omega)
 have a2:IntKind.i64.wrap (((xs.length+ys.length:Nat):Int)-1)=((xs.length+ys.length-1:Nat):Int):=by rw[wI]<;>omega
 simp only[go_sem,Bool.not_true,g1,g2,a1,a2]
 have hl02:=H.le_trans hl1 hl2
 refine cjoined_calls (C:=convCost L) (tgt:=fun i=>(cvL xs ys).getD i 0) (ht.mono hl02) (by omega) (by omega) hxy hL ?_ (fun i _=>cvL_bound hxd hyd (by omega) i) fun r ws h3 hw3 hl3 ht3 hr hw3' hwd hwv=> ?_
 ·intro g1' p T w v m' nw' dp' K' hp hg1 hlg hPL ht' hk'
  have:NeZero p:=⟨by omega⟩
  refine in_conv_Words_1 (by simp) fun hw=> ?_
  unfold c_conv_Words_1
  have k1:g1'.get h.next 0=some (.sl ia oa xs.length ca):=by rw[H.get_of (hlg.2 _ _ (by omega) hr1')];rfl
  have k2:g1'.get (h.next+1) 0=some (.sl ib ob ys.length cb):=by rw[H.get_of (hlg.2 _ _ (by omega) hr2)];rfl
  simp only[go_sem,k1,k2]
  have hpw:=hL.1
  refine plConv_calls hPL ht' ((ha.mono hl02).monoE (ht.mono hl02) hlg) ((hb.mono hl02).monoE (ht.mono hl02) hlg) hx hy (by omega) fun r zs h' hw' hl' ht'' hG hzl hzv=> ?_
  simp only[go_sem]
  exact fun hw''=>hk' r zs h' hw'' hl' ht'' hG (by omega) hzv
 ·simp only[go_sem]
  rw[map_getD (cvL_len hy hx)] at hwv
  exact fun hw'=>hk r ws h3 hw' (hl02.lee.trans hl3) ht3 hr hw3' hwd hwv
theorem cMul_calls (ht:Tune h u m nw dp tb) (ha:IsN h va xs) (hb:IsN h vb ys) (hxd:Dig xs) (hyd:Dig ys) (hx:0<xs.length) (hy:0<ys.length) (hxy:xs.length+ys.length≤1048576) (hL:lgOK (xs.length+ys.length) L)
  (hk:∀r h',h'.wf→H.lee u h h'→Tune h' u (m+3*convCost L+6*2^L) nw dp tb→Nf h.next h' r (val 18446744073709551616 xs*val 18446744073709551616 ys)→K (.tup [r, .bool true]) h'):
  ACalls Tryz.prog 169 [.ptr (some (u,0)),va,vb] h K:=by
 refine in_conv_Mul (by simp) fun hw=> ?_
 unfold c_conv_Mul
 simp only[go_sem]
 refine Words_calls ht ha hb hxd hyd hx hy hxy hL fun r ws h1 hw1 hl1 ht1 hr hw3 hwd hwv=> ?_
 have hwl:ws.length=xs.length+ys.length-1:=by rw[←cvL_len hy hx,←hwv,List.length_map]
 simp only[go_sem,Bool.not_true]
 refine Carry_calls hr hw3 hwd (by omega) fun q h2 hw2 hl2 hq=> ?_
 rw[hwv,cvL_val] at hq
 simp only[go_sem]
 exact fun hw'=>hk q h2 hw' (hl1.trans hl2.lee) (ht1.mono hl2) (hq.base hl1.1)
end
end
section
theorem val_chunks {B M:Nat}:∀(k:Nat) (xs:List Nat),xs.length≤k*M→val (B^M) ((List.range k).map fun j=>val B ((xs.drop (j*M)).take M))=val B xs
 |0,xs,h=>by
  have:xs=[]:=List.eq_nil_of_length_eq_zero (by omega)
  subst this
  rfl
 |k+1,xs,h=>by
  rw[Nat.add_mul,Nat.one_mul] at h
  have ih:=val_chunks (B:=B) (M:=M) k (xs.drop M) (by simp;omega)
  rw[List.range_succ_eq_map,List.map_cons,List.map_map]
  simp only[val,Nat.zero_mul,List.drop_zero]
  have e:((List.range k).map ((fun j=>val B ((xs.drop (j*M)).take M)) ∘ Nat.succ))=(List.range k).map fun j=>val B (((xs.drop M).drop (j*M)).take M):=by
   apply List.map_congr_left
   intro j _
   show val B ((xs.drop ((j+1)*M)).take M)=_
   rw[List.drop_drop,Nat.add_mul,Nat.one_mul,Nat.add_comm]
  rw[e,ih]
  rcases Nat.lt_or_ge xs.length M with h1|h1
  ·rw[List.take_of_length_le (by omega),List.drop_of_length_le (by omega)]
   simp[val]
  ·exact(val_cut B xs M h1).symm
theorem val_scale {B y:Nat}:∀xs:List Nat,val B (xs.map (· *y))=val B xs*y
 |[]=>by simp[val]
 |x::xs=>by
  simp only[List.map_cons,val,val_scale xs,Nat.add_mul,Nat.mul_assoc]
def NfB (b:Nat) (h:H) (l:List AV) (x:Nat):Prop:=∃v,l=[v]∧Nf b h v x∧Big x
theorem NfB.grows {b:Nat}:Grows (NfB b):=by
 rintro h h' c x ⟨v,e,h1,h2⟩ hl
 exact⟨v,e,h1.mono hl,h2⟩
theorem NfB.nn {b:Nat} {h:H} {c:List AV} {x:Nat} (hx:NfB b h c x):NnL h c x:=by
 obtain⟨v,e,h1,h2⟩:=hx
 exact⟨v,e,h1.nn h2⟩
theorem NfB.big {b:Nat} {h:H} {v:AV} {xs:List Nat} (hv:IsA 1 (NfB b) h v xs):∀x∈xs,Big x:=by
 obtain⟨cs,_,h2⟩:=hv
 intro x hx
 obtain⟨i,hi,rfl⟩:=List.getElem_of_mem hx
 obtain⟨v,_,_,h3⟩:=h2.2 i _ (List.getElem?_eq_getElem hi)
 exact h3
theorem IsA.imp {α:Type} {z:Nat} {R R':H→List AV→α→Prop} {h:H} {v:AV} {xs:List α} (hv:IsA z R h v xs) (hr:∀c x,R h c x→R' h c x):IsA z R' h v xs:=by
 obtain⟨cs,h1,h2⟩:=hv
 exact⟨cs,h1,h2.mono hr⟩
section
variable {e u m0 nw dp a b x y N top:Nat} {t:Tb} {va vb:AV} {C L:Nat→Nat→Nat} {h:H} {K:AV→H→Prop}
theorem pieces_calls (he:Eng 4 h e u) (ht:Tune h u m0 nw dp t) (nv:Wn h va a x) (nu:Wn h vb b y) (ha:0<a) (hb:0<b) (ha2:a≤16384) (hb2:b≤16384)
  (hin:InOK 123 [.ptr (some (e,0))] [] h u t N top C L) (hN:min a b≤N) (D:Nat) (hD:∀p,p≤min a b→L p (min a b)≤D) (htop:nw+D≤top)
  (hk:∀r h' m' dp',h'.wf→H.lee u h h'→Tune h' u m' nw dp' t→Sp m0 dp m' dp' nw (max a b/min a b*C (min a b) (min a b)+C (max a b%min a b) (min a b)) D→Nf h.next h' r (x*y)→K r h'):
  ACalls Tryz.prog 165 [.ptr (some (e,0)),va,vb, .int .i64 ((min a b:Nat):Int)] h K:=by
 refine in_mul_Engine_pieces (by simp) fun hw=> ?_
 unfold c_mul_Engine_pieces
 obtain⟨ida,offa,ca,rfl⟩:=nv.form
 obtain⟨idb,offb,cb,rfl⟩:=nu.form
 have hul:=H.row_lt hw ht
 simp only[go_sem]
 refine cond_cut (fun ρ' h2=>h2=h∧ρ' 0= .ptr (some (e,0))∧ρ' 3= .int .i64 ((min a b:Nat):Int)∧∃v1 v2 x1 y1,ρ' 1=v1∧ρ' 2=v2∧Wn h v1 (max a b) x1∧Wn h v2 (min a b) y1∧x1*y1=x*y) ?_ ?_
 ·rcases Nat.lt_or_ge a b with h1|h1
  ·simp only[go_sem,ltT h1]
   refine⟨trivial,trivial,trivial,_,_,y,x,rfl,rfl, ?_, ?_,Nat.mul_comm _ _⟩
   ·rw[Nat.max_eq_right (by omega)];exact nu
   ·rw[Nat.min_eq_left (by omega)];exact nv
  ·simp only[go_sem,ltF h1]
   refine⟨trivial,trivial,trivial,_,_,x,y,rfl,rfl, ?_, ?_,rfl⟩
   ·rw[Nat.max_eq_left (by omega)];exact nv
   ·rw[Nat.min_eq_right (by omega)];exact nu
 rintro ρ h0 ⟨rfl,q0,q3,v1,v2,x1,y1,q1,q2,nv,nu,hxy⟩
 rw[←hxy] at hk
 have hmn:min a b≤max a b:=by omega
 have hmx:max a b≤16384:=by omega
 have hm0:0<min a b:=by omega
 clear hxy
 generalize max a b=n at*
 generalize min a b=M at*
 obtain⟨xs,hv,hxd,hxl,rfl⟩:=nv
 obtain⟨ida,offa,ca,rfl⟩:=hv.form
 obtain⟨idb,offb,cb,rfl⟩:=nu.form
 rw[hxl] at q1 hv
 have hdm:=Nat.div_add_mod n M
 have hmod:=Nat.mod_lt n hm0
 obtain⟨k,hkk⟩:∃k,k=n/M:=⟨_,rfl⟩
 obtain⟨rest,hrr⟩:∃rest,rest=n%M:=⟨_,rfl⟩
 rw[←hkk,←hrr] at hdm hk
 rw[←hrr] at hmod
 have hkn:k≤n:=by rw[hkk];exact Nat.div_le_self _ _
 have hy1:=nu.lt
 have fit:∀i,i≤k+1→i*M≤40000:=fun i hi=>by
  have:=Nat.mul_le_mul_right M hi
  rw[Nat.add_mul,Nat.one_mul,Nat.mul_comm k M] at this
  omega
 have full:∀i,i≤k→i*M≤n:=fun i hi=>by
  have:=Nat.mul_le_mul_right M hi
  rw[Nat.mul_comm k M] at this
  omega
 simp only[go_sem,q0,q1,q2,q3]
 refine loop_cut (fun ρ h'=>h'.wf∧H.lee u h0 h'∧(∃m dp',Tune h' u m nw dp' t∧Sp m0 dp m dp' nw (k*C M M+C rest M) D)∧ρ 3= .int .i64 (M:Int)∧∃ps,IsA 1 (NfB h0.next) h' (ρ 9) ps∧ps.length≤40000∧val (18446744073709551616^M) ps=val 18446744073709551616 xs*y1) ?_ ?_
 ·refine for_rule (fun i ρ h'=>i≤k+1∧h'.wf∧H.lee u h0 h'∧(∃m dp',Tune h' u m nw dp' t∧Sp m0 dp m dp' nw (min i k*C M M+if i≤k then 0 else C rest M) D)∧ρ 0= .ptr (some (e,0))∧ρ 1= .sl ida offa n ca∧ρ 2= .sl idb offb M cb∧ρ 3= .int .i64 (M:Int)∧ρ 10= .int .i64 ((i*M:Nat):Int)∧
   Live 25 1 h0.next (NfB h0.next) h' (ρ 9) ((List.range i).map fun j=>val 18446744073709551616 ((xs.drop (j*M)).take M)*y1)) (k+1)
   ⟨by omega,hw,H.lee_refl _ _,⟨_,_,ht,by simpa using Sp.refl m0 dp nw 0 D⟩,q0,q1,q2,q3,by simp;rfl,Live.nil _ _ _ _ _ _⟩ (fun i ρ h hI=>hI.1) ?_
  rintro i ρ h2 ⟨hi,hw2,hle,⟨m,dp',ht2,hsp⟩,q0,q1,q2,q3,q10,hs⟩
  have hf:=fit i hi
  have hlen:((List.range i).map fun j=>val 18446744073709551616 ((xs.drop (j*M)).take M)*y1).length=i:=by simp
  rcases Nat.lt_or_ge (i*M) n with h1|h1
  ·have hik:i≤k:=by
    rcases Nat.lt_or_ge k i with h|h
    ·have:=Nat.mul_le_mul_right M (show k+1≤i from h)
     rw[Nat.add_mul,Nat.one_mul,Nat.mul_comm k M] at this
     omega
    ·exact h
   have a1:=addI (a:=i*M) (b:=M) (by omega)
   obtain⟨io,co,q9⟩:=hs.form
   rw[hlen] at q9
   rw[q9] at hs
   have hv2:=hv.monoE ht hle
   have hcut:=hv2.cut (c':=ca.map (· -i*M)) (a:=i*M) (b:=min n (i*M+M)) (by omega) (by omega)
   simp only[go_sem,q0,q1,q2,q3,q9,q10,ltT h1,a1,minN]
   refine⟨by omega,by omega,by omega, .inl (by omega),hv2.row, ?_⟩
   have ep:(xs.take (min n (i*M+M))).drop (i*M)=(xs.drop (i*M)).take M:=by
    apply List.ext_getElem?
    intro j
    rw[List.getElem?_drop,List.getElem?_take,List.getElem?_take,List.getElem?_drop]
    by_cases hj:j<M
    ·rw[if_pos hj]
     split
     ·rfl
     ·rw[List.getElem?_eq_none (by omega)]
    ·rw[if_neg hj,if_neg (by omega)]
   rw[ep] at hcut
   have hpd:Dig ((xs.drop (i*M)).take M):=fun z hz=>hxd z (List.mem_of_mem_drop (List.mem_of_mem_take hz))
   have hpl:((xs.drop (i*M)).take M).length=if i=k then rest else M:=by
    simp only[List.length_take,List.length_drop,hxl]
    split
    ·rename_i hik'
     subst hik'
     rw[Nat.mul_comm i M] at h1⊢
     omega
    ·have:=full (i+1) (by omega)
     rw[Nat.add_mul,Nat.one_mul] at this
     omega
   generalize hz:(xs.drop (i*M)).take M=zs at*
   have hpl2:zs.length≤M:=by rw[hpl];split<;>omega
   have hpv:=val_lt 18446744073709551616 (by omega) zs hpd
   have hpm:min n (i*M+M)-i*M=zs.length:=by
    rw[hpl]
    split
    ·rename_i hik'
     subst hik'
     rw[Nat.mul_comm i M] at h1⊢
     omega
    ·have:=full (i+1) (by omega)
     rw[Nat.add_mul,Nat.one_mul] at this
     omega
   rw[hpm] at hcut
   simp only[go_sem,Int.toNat_natCast,Nat.mul_one,hpm]
   refine app_num (a:=h2) (xs:=[]) hw2 hw2 (H.le_refl _) (IsF.nil _ _ _ _ _) hcut (by simp;omega) fun v3 h3 hw3 hl3 hs3=> ?_
   have hle3:=hle.trans hl3.lee
   have ht3:=ht2.mono hl3
   simp only[go_sem,q0,q1,q2,q3,q9,q10]
   refine hin h3 m nw dp' zs.length M (val 18446744073709551616 zs) y1 _ _ _ hle3 ht3 ⟨zs,hs3.isN,hpd,rfl,rfl⟩ (nu.monoE ht hle3) (by omega) hN (by have:=hD _ hpl2;omega) fun r h4 m4 dp4 hw4 hl4 ht4 hsp4 hr=> ?_
   have hiol:=hs.io_lt hw2
   have hs4:=(hs.mono NfB.grows hl3).monoE (fun⟨v,e,hx,hb⟩ hl=>⟨v,e,hx.monoE hul hl,hb⟩) hul hl4
   have hr1:r.one=true:=by
    obtain⟨rs,hr,_⟩:=hr
    obtain⟨x1,x2,rfl⟩:=hr.form
    rfl
   have hle4:=hle3.trans hl4
   have hbig:Big (val 18446744073709551616 zs*y1):=by
    have h5:val 18446744073709551616 zs*y1<18446744073709551616^zs.length*18446744073709551616^M:=Nat.mul_lt_mul_of_lt_of_le hpv (Nat.le_of_lt hy1) (Nat.pow_pos (by omega))
    rw[←Nat.pow_add] at h5
    exact lt_bigW h5 (by omega)
   simp only[go_sem,q0,q1,q2,q3,q9,q10,k_lit1 hr1]
   refine Live.app (a:=h4.upto h0.next) NfB.grows (by omega) (H.upto_wf _ _) hw4 (H.upto_le hle4.1) (by rw[H.upto_next];exact hs4) hlen.symm (y:=val 18446744073709551616 zs*y1) ⟨r,rfl,(hr.del fun j hj=>by have:=hiol j hj;have:=hl3.1;omega).base hle3.1,hbig⟩ rfl (by simp[hr1]) (by omega) (by omega) rfl fun v5 h5 hw5 hle5 hs5=> ?_
   rw[H.upto_next] at hs5
   simp only[go_sem,q0,q1,q2,q3,q9,q10,a1]
   refine⟨by omega,hw5,lee_upto hw hle4 hle5,⟨_,_,ht4.upto hul hle5, ?_⟩,by first|rfl|trivial|assumption,by first|rfl|trivial|assumption,by first|rfl|trivial|assumption,by first|rfl|trivial|assumption,by rw[Nat.add_mul,Nat.one_mul], ?_⟩
   ·refine(hsp.trans hsp4).le ?_ (by have:=hD _ hpl2;omega)
    rw[hpl]
    rcases Nat.lt_or_ge i k with h6|h6
    ·rw[if_neg (show¬i=k by omega),if_pos (show i≤k by omega),if_pos (show i+1≤k by omega),Nat.min_eq_left (show i≤k by omega),Nat.min_eq_left (show i+1≤k by omega),Nat.add_mul,Nat.one_mul]
     omega
    ·obtain rfl:i=k:=by omega
     rw[if_pos rfl,if_pos (Nat.le_refl i),if_neg (show¬i+1≤i by omega),Nat.min_self,Nat.min_eq_right (show i≤i+1 by omega)]
     omega
   ·rw[←hz] at hs5
    simpa [List.range_succ] using hs5
  ·simp only[go_sem,q0,q1,q2,q3,q10,ltF h1]
   have hsA:=hs.isA NfB.grows
   refine⟨hw2,hle,⟨m,dp',ht2,hsp.le ?_ (Nat.le_refl _)⟩,by first|rfl|trivial|assumption,_,hsA,by rw[hlen];omega, ?_⟩
   ·have:=Nat.mul_le_mul_right (C M M) (Nat.min_le_right i k)
    split<;>omega
   ·have e1:((List.range i).map fun j=>val 18446744073709551616 ((xs.drop (j*M)).take M)*y1)=((List.range i).map fun j=>val 18446744073709551616 ((xs.drop (j*M)).take M)).map (· *y1):=by rw[List.map_map];rfl
    rw[e1,val_scale,val_chunks _ _ (by omega)]
 ·rintro ρ h2 ⟨hw2,hle,⟨m,dp',ht2,hsp⟩,q3,ps,hA,hpl,hval⟩
  simp only[go_sem,q3]
  refine Join_calls (xs:=ps) (by omega) (hA.imp fun c x hx=>hx.nn) (NfB.big hA) (by omega) fun r h3 hw3 hl3 hr=> ?_
  rw[hval] at hr
  simp only[go_sem]
  exact fun hw'=>hk r h3 m dp' hw' (hle.trans hl3.lee) (ht2.mono hl3) hsp (hr.base hle.1)
theorem block_calls (he:Eng 4 h e u) (ht:Tune h u m0 nw dp t) (nv:Wn h va a x) (nu:Wn h vb b y) (ha:0<a) (hb:0<b) (ha2:a≤16384) (hb2:b≤16384) (hnw:nw≤1000000000)
  (hin:InOK 123 [.ptr (some (e,0))] [] h u t N top C L) (hN:min a b≤N) (D:Nat) (hD:∀p,p≤min a b→L p (min a b)≤D) (htop:nw+1+D≤top)
  (hk:∀r h' m' dp',h'.wf→H.lee u h h'→Tune h' u m' nw dp' t→Sp m0 dp m' dp' nw (max a b/min a b*C (min a b) (min a b)+C (max a b%min a b) (min a b)) (D+1)→Nf h.next h' r (x*y)→K r h'):
  ACalls Tryz.prog 166 [.ptr (some (e,0)),va,vb] h K:=by
 refine in_mul_Engine_block (by simp) fun hw=> ?_
 unfold c_mul_Engine_block
 obtain⟨ida,offa,ca,rfl⟩:=nv.form
 obtain⟨idb,offb,cb,rfl⟩:=nu.form
 obtain⟨e1,he1,G1⟩:=he.open ht
 obtain⟨e2,he2,G2⟩:=he1.open ht
 obtain⟨e3,he3,G3⟩:=he2.open ht
 obtain⟨e4,he4,G4⟩:=he3.open ht
 obtain rfl:e4=u:=he4
 have g1:=G1 h (H.lee_refl _ _)
 have g2:=G2 h (H.lee_refl _ _)
 have g3:=G3 h (H.lee_refl _ _)
 have g4:=G4 h (H.lee_refl _ _)
 have hul:=H.row_lt hw ht
 simp only[go_sem,g1,g2,g3,g4]
 refine Enter_calls ht (by omega) fun _ h1 hw1 hl1 hn1 ht1=> ?_
 simp only[go_sem,minN]
 have hin1:InOK 123 [.ptr (some (e,0))] [] h1 e4 t N top C L:=fun g m0 nw dp n m x y va vb K hl=>hin g m0 nw dp n m x y va vb K (hl1.trans hl)
 refine pieces_calls (he.monoE ht hl1) ht1 (nv.monoE ht hl1) (nu.monoE ht hl1) ha hb ha2 hb2 hin1 hN D hD htop fun r h2 m2 dp2 hw2 hl2 ht2 hsp hr=> ?_
 have hl02:=hl1.trans hl2
 simp only[go_sem,G1 _ hl02,G2 _ hl02,G3 _ hl02,G4 _ hl02]
 refine Leave_calls ht2 (by omega) fun _ h3 hw3 hl3 hn3 ht3=> ?_
 simp only[go_sem]
 exact fun hw'=>hk r h3 _ _ hw' (hl02.trans hl3) ht3 hsp.deep ((hr.base hl1.1).monoE hul hl3)
end
end
section
def lev (n:Nat):Nat:=if h:n<4 then 0 else lev ((n+1)/2+1)+1
termination_by n
decreasing_by omega
theorem lev_small {n:Nat} (h:n<4):lev n=0:=by rw[lev,dif_pos h]
theorem lev_big {n:Nat} (h:4≤n):lev n=lev ((n+1)/2+1)+1:=by rw[lev,dif_neg (by omega)]
theorem lev_mono:∀m n:Nat,n≤m→lev n≤lev m:=by
 intro m
 induction m using Nat.strongRecOn with
 |_ m ih=>
  intro n hn
  rcases Nat.lt_or_ge n 4 with h|h
  ·rw[lev_small h];omega
  ·rw[lev_big h,lev_big (n:=m) (by omega)]
   have:=ih ((m+1)/2+1) (by omega) ((n+1)/2+1) (by omega)
   omega
theorem lev_le:∀n:Nat,lev n≤n:=by
 intro n
 induction n using Nat.strongRecOn with
 |_ n ih=>
  rcases Nat.lt_or_ge n 4 with h|h
  ·rw[lev_small h];omega
  ·rw[lev_big h]
   have:=ih ((n+1)/2+1) (by omega)
   omega
def lev2 (n m:Nat):Nat:=lev (max n m)
theorem costT_at {t:Tb} {n m f:Nat} (hm:m≤n) (hf:n<f) (hn:n<20000):costF (clampT t).base.toNat (clampT t).toom.toNat (clampT t).ntt.toNat f n m=costT t n m:=by
 unfold costT
 rw[Nat.max_eq_left hm,Nat.min_eq_right hm]
 exact cost_same (clamp_isT t).ok hm hf hn
theorem costT_succ {t:Tb} {n m:Nat} (hm:m≤n):costT t n m=costF (clampT t).base.toNat (clampT t).toom.toNat (clampT t).ntt.toNat (19999+1) n m:=by
 unfold costT
 rw[Nat.max_eq_left hm,Nat.min_eq_right hm]
theorem routeT_at {t:Tb} {n m:Nat} (hm:m≤n) (hn:n≤16384):routeT t n m=routeF (clampT t).base.toNat (clampT t).toom.toNat (clampT t).ntt.toNat n m:=by
 rw[routeT_nat hn (by omega),Nat.max_eq_left hm,Nat.min_eq_right hm]
theorem costT_2 {t:Tb} {n m:Nat} (hm:m≤n) (hn:n≤16384) (h0:0<m) (e:routeT t n m=2):costT t n m=n/m*costT t m m+costT t (n%m) m:=by
 rw[routeT_at hm hn] at e
 have hlt:=Nat.mod_lt n h0
 rw[costT_succ hm,cost_2 e,costT_at (Nat.le_refl m) (by omega) (by omega),costT_at (Nat.le_of_lt hlt) (by omega) (by omega),costT_comm (n:=m) (m:=n%m)]
theorem costT_3 {t:Tb} {n m:Nat} (hm:m≤n) (hn:n≤16384) (h4:4≤m) (e:routeT t n m=3):costT t n m=costT t ((n+1)/2) ((n+1)/2)+costT t (n-(n+1)/2) (m-(n+1)/2)+costT t ((n+1)/2+1) ((n+1)/2+1):=by
 rw[routeT_at hm hn] at e
 rw[costT_succ hm,cost_3 e,costT_at (Nat.le_refl ((n+1)/2)) (by omega) (by omega),costT_at (show m-(n+1)/2≤n-(n+1)/2 by omega) (by omega) (by omega),costT_at (Nat.le_refl ((n+1)/2+1)) (by omega) (by omega)]
theorem costT_4 {t:Tb} {n m:Nat} (hm:m≤n) (hn:n≤16384) (h4:4≤m) (e:routeT t n m=4):costT t n m=costT t ((n+2)/3) ((n+2)/3)+3*costT t ((n+2)/3+1) ((n+2)/3+1)+costT t (n-2*((n+2)/3)) (m-2*((n+2)/3)):=by
 rw[routeT_at hm hn] at e
 rw[costT_succ hm,cost_4 e,costT_at (Nat.le_refl ((n+2)/3)) (by omega) (by omega),costT_at (show m-2*((n+2)/3)≤n-2*((n+2)/3) by omega) (by omega) (by omega),costT_at (Nat.le_refl ((n+2)/3+1)) (by omega) (by omega)]
theorem costT_1 {t:Tb} {n m:Nat} (hm:m≤n) (hn:n≤16384) (e:routeT t n m=1):costT t n m=n*m:=by
 rw[routeT_at hm hn] at e
 rw[costT_succ hm,cost_1 e]
theorem costT_5 {t:Tb} {n m:Nat} (hm:m≤n) (hn:n≤16384) (e:routeT t n m=5):costT t n m=transF n m 3:=by
 rw[routeT_at hm hn] at e
 rw[costT_succ hm,cost_5 e]
theorem costT_mm {t:Tb} {n m:Nat}:costT t (max n m) (min n m)=costT t n m:=by
 rcases Nat.le_total n m with h|h
 ·rw[Nat.max_eq_right h,Nat.min_eq_left h,costT_comm]
 ·rw[Nat.max_eq_left h,Nat.min_eq_right h]
theorem routeT_mm {t:Tb} {n m:Nat}:routeT t (max n m:Nat) (min n m:Nat)=routeT t n m:=by
 rcases Nat.le_total n m with h|h
 ·rw[Nat.max_eq_right h,Nat.min_eq_left h,routeT_comm]
 ·rw[Nat.max_eq_left h,Nat.min_eq_right h]
theorem lg_blen {n:Nat} (h1:1≤n) (h2:n≤1048576):lgOK n (blen (n-1)):=by
 have hb:=blen_spec (n-1)
 refine⟨by have:=hb.1;omega,fun h0=> ?_,blen_le (by omega)⟩
 rcases hb.2 with h|h<;>omega
section
variable {e u m nw dp a b x y N:Nat} {t:Tb} {va vb:AV} {h:H} {K:AV→H→Prop}
theorem tRoute2_calls {n m':Int} (ht:Tune h u m nw dp t) (hk:∀h',h'.wf→h.le h'→K (.int .i64 (routeT t n m':Nat)) h'):
  ACalls Tryz.prog 142 [.ptr (some (u,0)), .int .i64 n, .int .i64 m'] h K:=by
 refine in_table_Tune_Route (by simp) fun hw=> ?_
 unfold c_table_Tune_Route
 have hr:h.rows u=some (tuneRow m nw dp t):=ht
 have hg:h.gets u 3 11=some t.cells:=by rw[H.gets_of hr (by simp[tuneRow,cells_len])];simp[tuneRow,Tb.cells]
 simp only[go_sem,hg]
 refine Route_calls fun h1 hw1 hl1=> ?_
 simp only[go_sem]
 exact fun _=>hk h1 hw1 hl1
theorem mwords_calls (nv:Nn h va x) (hk:∀r,Wn h r (wlen x) x→K r h):ACalls Tryz.prog 124 [va] h K:=by
 obtain⟨xs,hv,hd,hl,rfl⟩:=nv
 obtain⟨id,off,c,rfl⟩:=hv.form
 refine in_mul_words (by simp) fun hw=> ?_
 unfold c_mul_words
 simp only[go_sem]
 refine Len_calls hv hd (by omega) ?_
 have hle:=wlen_len hd
 simp only[go_sem]
 refine⟨by omega, .inl (by omega),hv.row,fun _=> ?_⟩
 have h1:=hv.take (c':=c) (b:=wlen (val 18446744073709551616 xs)) hle
 refine hk _ ⟨_,by simpa using h1,hd.take _,by simp;omega,(top_cut hd).2⟩
theorem gone_calls (he:Eng 4 h e u) (ht:Tune h u m nw dp t) (nv:Wn h va a x) (nu:Wn h vb b y) (ha:a≤16384) (hb:b≤16384) (hnw:nw+lev2 a b≤1000000000) (hN:4≤max a b→(max a b+1)/2+1≤N)
  (hin:4≤max a b→InOK 123 [.ptr (some (e,0))] [] h u t N 1000000000 (costT t) lev2)
  (hk:∀r h' m' dp',h'.wf→H.lee u h h'→Tune h' u m' nw dp' t→Sp m dp m' dp' nw (costT t a b) (lev2 a b)→Nf h.next h' r (x*y)→K (.tup [r, .bool true]) h'):
  ACalls Tryz.prog 141 [.ptr (some (e,0)), .int .i64 (routeT t a b:Nat),va,vb] h K:=by
 refine in_mul_Engine_gone (by simp) fun hw=> ?_
 unfold c_mul_Engine_gone
 obtain⟨e1,he1,G1⟩:=he.open ht
 obtain⟨e2,he2,G2⟩:=he1.open ht
 obtain⟨e3,he3,G3⟩:=he2.open ht
 obtain⟨e4,he4,G4⟩:=he3.open ht
 obtain rfl:e4=u:=he4
 have g1:=G1 h (H.lee_refl _ _)
 have g2:=G2 h (H.lee_refl _ _)
 have g3:=G3 h (H.lee_refl _ _)
 have g4:=G4 h (H.lee_refl _ _)
 have hmn:min a b≤max a b:=by omega
 have hmx:max a b≤16384:=by omega
 have cm:=costT_mm (t:=t) (n:=a) (m:=b)
 have rm:=routeT_mm (t:=t) (n:=a) (m:=b)
 rw[←rm]
 rw[←cm] at hk
 clear rm cm
 have hra:=routeT_at (t:=t) hmn hmx
 have hok:=(clamp_isT t).ok
 have hB:=hok.b1
 have lmono:∀p q,max p q≤(max a b+1)/2+1→4≤max a b→lev2 p q≤lev ((max a b+1)/2+1):=fun p q h _=>lev_mono _ _ h
 rcases route_cases (B:=(clampT t).base.toNat) (T:=(clampT t).toom.toNat) (N:=(clampT t).ntt.toNat) (max a b) (min a b) with⟨r0,c0⟩|⟨r0,c0,c1⟩|⟨r0,c0,c1,c2⟩|⟨r0,c0,c1,c2,c3⟩|⟨r0,c0,c1,c2,c3,c4,c5⟩|⟨r0,c0,c1,c2,c3,c4⟩
 ·rw[r0] at hra
  rw[hra]
  simp only[go_sem,show(((0:Nat):Int)==0)=true from rfl]
  have e0:x*y=0:=by
   have h1:=nv.lt
   have h2:=nu.lt
   rcases Nat.le_total a b with h|h
   ·obtain rfl:a=0:=by omega
    obtain rfl:x=0:=by omega
    simp
   ·obtain rfl:b=0:=by omega
    obtain rfl:y=0:=by omega
    simp
  refine fun hw'=>hk _ h m dp hw' (H.lee_refl _ _) ht ((Sp.refl m dp nw 0 0).le (by omega) (by omega)) ?_
  rw[e0]
  exact Nf.nil _ _ _
 ·rw[r0] at hra
  rw[costT_1 hmn hmx hra] at hk
  rw[hra]
  obtain⟨xs,hv,hxd,hxl,rfl⟩:=nv
  obtain⟨ys,hu,hyd,hyl,rfl⟩:=nu
  simp only[go_sem,show(((1:Nat):Int)==0)=false from rfl,show(((1:Nat):Int)==1)=true from rfl,g1,g2,g3]
  refine sMul_calls he3 ht hv hxd (by omega) hu hyd (by omega) fun r h1 hw1 hl1 ht1 hr=> ?_
  simp only[go_sem]
  have ec:max a b*min a b=xs.length*ys.length:=by
   rw[hxl,hyl]
   rcases Nat.le_total a b with h|h
   ·rw[Nat.max_eq_right h,Nat.min_eq_left h,Nat.mul_comm]
   ·rw[Nat.max_eq_left h,Nat.min_eq_right h]
  rw[ec] at hk
  exact fun hw'=>hk r h1 _ _ hw' hl1 ht1 ⟨by omega,by omega,by omega,by omega⟩ hr
 ·rw[r0] at hra
  rw[costT_2 hmn hmx c0 hra] at hk
  rw[hra]
  have h4:4≤max a b:=by omega
  have hN:=hN h4
  have hlv:lev2 a b=lev ((max a b+1)/2+1)+1:=lev_big h4
  simp only[go_sem,show(((2:Nat):Int)==0)=false from rfl,show(((2:Nat):Int)==1)=false from rfl,show(((2:Nat):Int)==2)=true from rfl]
  refine block_calls he ht nv nu (by omega) (by omega) ha hb (by omega) (hin h4) (by omega) (lev ((max a b+1)/2+1)) (fun p hp=>lmono _ _ (by omega) h4) (by omega) fun r h1 m1 dp1 hw1 hl1 ht1 hsp hr=> ?_
  simp only[go_sem]
  exact fun hw'=>hk r h1 _ _ hw' hl1 ht1 (hsp.le (Nat.le_refl _) (by omega)) hr
 ·rw[r0] at hra
  rw[costT_3 hmn hmx (by omega) hra] at hk
  rw[hra]
  have h4:4≤max a b:=by omega
  have hN:=hN h4
  have hlv:lev2 a b=lev ((max a b+1)/2+1)+1:=lev_big h4
  simp only[go_sem,show(((3:Nat):Int)==0)=false from rfl,show(((3:Nat):Int)==1)=false from rfl,show(((3:Nat):Int)==2)=false from rfl,show(((3:Nat):Int)==3)=true from rfl,g1,g2]
  refine Kara_calls he2 ht nv nu (by omega) ha hb (hin h4) hN (lev ((max a b+1)/2+1)) (lmono _ _ (by omega) h4) (lmono _ _ (by omega) h4) (lmono _ _ (by omega) h4) (by omega) (by omega) fun r h1 m1 dp1 hw1 hl1 ht1 hsp hr=> ?_
  simp only[go_sem]
  exact fun hw'=>hk r h1 _ _ hw' hl1 ht1 (hsp.le (Nat.le_refl _) (by omega)) hr
 ·rw[r0] at hra
  rw[costT_4 hmn hmx (by omega) hra] at hk
  rw[hra]
  have h4:4≤max a b:=by omega
  have hN:=hN h4
  have hlv:lev2 a b=lev ((max a b+1)/2+1)+1:=lev_big h4
  simp only[go_sem,show(((4:Nat):Int)==0)=false from rfl,show(((4:Nat):Int)==1)=false from rfl,show(((4:Nat):Int)==2)=false from rfl,show(((4:Nat):Int)==3)=false from rfl,show(((4:Nat):Int)==4)=true from rfl,g1]
  refine Toom_calls he1 ht nv nu c5 ha hb (hin h4) (by omega) (lev ((max a b+1)/2+1)) (lmono _ _ (by omega) h4) (lmono _ _ (by omega) h4) (lmono _ _ (by omega) h4) (by omega) (by omega) fun r h1 m1 dp1 hw1 hl1 ht1 hsp hr=> ?_
  simp only[go_sem]
  exact fun hw'=>hk r h1 _ _ hw' hl1 ht1 (hsp.le (Nat.le_refl _) (by omega)) hr
 ·rw[r0] at hra
  rw[costT_5 hmn hmx hra] at hk
  rw[hra]
  obtain⟨xs,hv,hxd,hxl,rfl⟩:=nv
  obtain⟨ys,hu,hyd,hyl,rfl⟩:=nu
  simp only[go_sem,show(((5:Nat):Int)==0)=false from rfl,show(((5:Nat):Int)==1)=false from rfl,show(((5:Nat):Int)==2)=false from rfl,show(((5:Nat):Int)==3)=false from rfl,show(((5:Nat):Int)==4)=false from rfl,show(((5:Nat):Int)==5)=true from rfl,g1,g2,g3,g4]
  have hL:=lg_blen (n:=xs.length+ys.length) (by omega) (by omega)
  refine cMul_calls ht hv hu hxd hyd (by omega) (by omega) (by omega) hL fun r h1 hw1 hl1 ht1 hr=> ?_
  simp only[go_sem]
  have ec:transF (max a b) (min a b) 3=3*convCost (blen (xs.length+ys.length-1))+6*2^blen (xs.length+ys.length-1):=by
   have:max a b+min a b=xs.length+ys.length:=by omega
   unfold transF transC convCost
   rw[this,Nat.mul_assoc]
  rw[ec] at hk
  exact fun hw'=>hk r h1 _ _ hw' hl1 ht1 ⟨by omega,by omega,by omega,by omega⟩ hr
theorem times_ok:∀(M:Nat),M≤16384→∀(h:H) (m nw dp:Nat),Eng 4 h e u→Tune h u m nw dp t→InOK 123 [.ptr (some (e,0))] [] h u t M 1000000000 (costT t) lev2:=by
 intro M
 induction M using Nat.strongRecOn with
 |_ M ih=>
  intro hM h m nw dp he ht h1 m1 nw1 dp1 a b x y va vb K hl1 ht1 nv nu ha hb htop hk
  have he1:=he.monoE ht hl1
  refine in_mul_Engine_times (by simp) fun hw=> ?_
  unfold c_mul_Engine_times
  obtain⟨ida,offa,ca,rfl⟩:=nv.form
  obtain⟨idb,offb,cb,rfl⟩:=nu.form
  obtain⟨e1,he1',G1⟩:=he1.open ht1
  obtain⟨e2,he2,G2⟩:=he1'.open ht1
  obtain⟨e3,he3,G3⟩:=he2.open ht1
  obtain⟨e4,he4,G4⟩:=he3.open ht1
  obtain rfl:e4=u:=he4
  have g1:=G1 h1 (H.lee_refl _ _)
  have g2:=G2 h1 (H.lee_refl _ _)
  have g3:=G3 h1 (H.lee_refl _ _)
  have g4:=G4 h1 (H.lee_refl _ _)
  simp only[List.cons_append,List.nil_append]
  simp only[go_sem,show decide ((a:Int)>16384)=false from decide_eq_false (by omega),show decide ((b:Int)>16384)=false from decide_eq_false (by omega),g1,g2,g3,g4]
  refine tRoute2_calls ht1 fun h2 hw2 hl2=> ?_
  simp only[go_sem]
  refine gone_calls (N:=(max a b+1)/2+1) (he1.mono hl2) (ht1.mono hl2) (nv.mono hl2) (nu.mono hl2) (by omega) (by omega) htop (fun _=>Nat.le_refl _) ?_ fun r h3 m3 dp3 hw3 hl3 ht3 hsp hr=> ?_
  ·exact fun h5=>ih ((max a b+1)/2+1) (by omega) (by omega) h2 _ _ _ (he1.mono hl2) (ht1.mono hl2)
  ·simp only[go_sem,Bool.not_true]
   exact fun hw'=>hk r h3 _ _ hw' (hl2.lee.trans hl3) ht3 hsp (hr.base hl2.1)
theorem Mul2_calls (he:Eng 4 h e u) (ht:Tune h u m nw dp t) (nv:Nn h va x) (nu:Nn h vb y) (hx:wlen x≤16384) (hy:wlen y≤16384) (hnw:nw≤900000000)
  (hk:∀r h' m' dp',h'.wf→H.lee u h h'→Tune h' u m' nw dp' t→Sp m dp m' dp' nw (costT t (wlen x) (wlen y)) (lev2 (wlen x) (wlen y))→Nf h.next h' r (x*y)→K r h'):
  ACalls Tryz.prog 104 [.ptr (some (e,0)),va,vb] h K:=by
 refine in_mul_Engine_Mul (by simp) fun hw=> ?_
 unfold c_mul_Engine_Mul
 simp only[go_sem]
 refine mwords_calls nv fun r1 n1=> ?_
 simp only[go_sem]
 refine mwords_calls nu fun r2 n2=> ?_
 simp only[go_sem]
 have hlv:lev2 (wlen x) (wlen y)≤max (wlen x) (wlen y):=lev_le _
 refine times_ok 16384 (Nat.le_refl _) h m nw dp he ht h m nw dp _ _ x y r1 r2 _ (H.lee_refl _ _) ht n1 n2 hx hy (by omega) fun r h' m' dp' hw' hl' ht' hsp hr=> ?_
 simp only[go_sem]
 exact fun hw''=>hk r h' m' dp' hw'' hl' ht' hsp hr
end
end
def SqOK (f:FuncId) (first caps:List AV) (h0:H) (u:Nat) (t:Tb) (N top:Nat):Prop:=
 ∀(h1:H) (m0 nw dp n x:Nat) (va:AV) (K:AV→H→Prop),H.lee u h0 h1→Tune h1 u m0 nw dp t→Wn h1 va n x→n≤N→nw+lev n≤top→
  (∀r h' m' dp',h'.wf→H.lee u h1 h'→Tune h' u m' nw dp' t→Nf h1.next h' r (x*x)→K r h')→ACalls Tryz.prog f (first++[va]++caps) h1 K
theorem KaraSqr_calls {e u m0 nw dp n x N top:Nat} {t:Tb} {va:AV} {f:FuncId} {first caps:List AV} {h:H} {K:AV→H→Prop} (he:Eng 2 h e u) (ht:Tune h u m0 nw dp t) (nv:Wn h va n x) (hn2:2≤n) (hn:n≤16384)
  (hin:SqOK f first caps h u t N top) (hN:(n+1)/2+1≤N) (htop:nw+1+lev ((n+1)/2+1)≤top) (hnw:nw≤1000000000)
  (hk:∀r h' m' dp',h'.wf→H.lee u h h'→Tune h' u m' nw dp' t→Nf h.next h' r (x*x)→K (.tup [r, .bool true]) h'):
  ACalls Tryz.prog 155 [.ptr (some (e,0)),va, .fn f first caps] h K:=by
 refine in_kara_Engine_KaraSqr (by simp) fun hw=> ?_
 unfold c_kara_Engine_KaraSqr
 obtain⟨η,hH⟩:∃η,η=(n+1)/2:=⟨_,rfl⟩
 rw[←hH] at hN htop
 have lm1:lev η≤lev (η+1):=lev_mono _ _ (by omega)
 have lm2:lev (n-η)≤lev (η+1):=lev_mono _ _ (by omega)
 obtain⟨xs,hv,hxd,hxl,hxv⟩:=nv
 obtain⟨ida,offa,ca,rfl⟩:=hv.form
 obtain⟨e1,he1,G1⟩:=he.open ht
 obtain⟨e2,he2,G2⟩:=he1.open ht
 obtain rfl:e2=u:=he2
 have g1:=G1 h (H.lee_refl _ _)
 have g2:=G2 h (H.lee_refl _ _)
 have a1:IntKind.i64.wrap ((n:Int)+1)=((n+1:Nat):Int):=incI (by omega)
 have a2:IntKind.i64.wrap (((n+1:Nat):Int).tdiv 2)=(η:Int):=by
  have e:((n+1:Nat):Int).tdiv 2=(((n+1)/2:Nat):Int):=tdivN (a:=n+1) (b:=2)
  rw[e,←hH,wI]<;>omega
 have a3:decide ((n:Int)<2)=false:=decide_eq_false (by omega)
 have a4:=subI (a:=n) (b:=η) (by omega) (by omega)
 have a6:=incI (i:=η) (by omega)
 simp only[go_sem,hxl,a1,a2,a3,g1,g2]
 refine⟨by decide, ?_⟩
 refine Enter_calls ht (by omega) fun _ h1 hw1 hl1 hn1 ht1=> ?_
 have hv1:=hv.monoE ht hl1
 rw[hxl] at hv1
 simp only[go_sem,a4]
 refine piece_calls (from_:=0) hv1 hxd (by omega) (by omega) fun A0 h2 hw2 hl2 pA0=> ?_
 simp only[go_sem,a4,a6]
 refine piece_calls (from_:=η) (hv1.mono hl2) hxd (by omega) (by omega) fun A1 h3 hw3 hl3 pA1=> ?_
 have ex:x=val 18446744073709551616 ((xs.drop 0).take η)+18446744073709551616^η*val 18446744073709551616 ((xs.drop η).take (n-η)):=by
  rw[←hxv,List.drop_zero,List.take_of_length_le (l:=xs.drop η) (by simp;omega)]
  exact val_cut 18446744073709551616 xs η (by omega)
 have sA0:=pA0.wn.mono hl3
 have sA1:=pA1.wn
 generalize val 18446744073709551616 ((xs.drop 0).take η)=α0 at*
 generalize val 18446744073709551616 ((xs.drop η).take (n-η))=α1 at*
 have lα0:=sA0.lt
 have lα1:=sA1.lt
 have pH:18446744073709551616^(n-η)≤18446744073709551616^η:=Nat.pow_le_pow_right (by omega) (by omega)
 have pH3:18446744073709551616^(η+1)=18446744073709551616^η*18446744073709551616:=Nat.pow_succ ..
 simp only[go_sem,a4,a6]
 refine lAdd_calls (sA0.nn (by omega)) (sA1.nn (by omega)) fun S h6 hw6 hl6 nS=> ?_
 simp only[go_sem,a4,a6]
 refine wide_calls (n:=η+1) nS (by omega) (by omega) fun SA h9 hw9 hl9 pSA=> ?_
 have l19:=(H.le_trans hl2 (H.le_trans hl3 (H.le_trans hl6 hl9)))
 have l09:H.lee e2 h h9:=hl1.trans l19.lee
 have ht9:=ht1.mono l19
 have sA0:=sA0.mono (H.le_trans hl6 hl9)
 have sA1:=sA1.mono (H.le_trans hl6 hl9)
 have sSA:=pSA.wn
 have hul:=H.row_lt hw ht
 simp only[go_sem,a4,a6]
 refine hin h9 _ _ _ _ _ _ _ l09 ht9 sA0 (by omega) (by omega) fun low h10 m1 d1 hw10 hl10 ht10 nlow=> ?_
 simp only[go_sem,a4,a6]
 refine hin h10 _ _ _ _ _ _ _ (l09.trans hl10) ht10 (sA1.monoE ht9 hl10) (by omega) (by omega) fun high h11 m2 d2 hw11 hl11 ht11 nhigh=> ?_
 simp only[go_sem,a4,a6]
 have l911:=hl10.trans hl11
 refine hin h11 _ _ _ _ _ _ _ (l09.trans l911) ht11 (sSA.monoE ht9 l911) (by omega) (by omega) fun both h12 m3 d3 hw12 hl12 ht12 nboth=> ?_
 have l012:=(l09.trans l911).trans hl12
 simp only[go_sem,G1 _ l012,G2 _ l012]
 refine Leave_calls ht12 (by omega) fun _ h13 hw13 hl13 hn13 ht13=> ?_
 have l1013:=(hl11.trans hl12).trans hl13
 have nlow13:=nlow.monoE (u:=e2) (by have:=l09.1;omega) l1013
 have nhigh13:=nhigh.monoE (u:=e2) (by have:=(l09.trans hl10).1;omega) (hl12.trans hl13)
 have nboth13:=nboth.monoE (u:=e2) (by have:=(l09.trans l911).1;omega) hl13
 have plow:α0*α0<18446744073709551616^η*18446744073709551616^η:=Nat.mul_lt_mul_of_lt_of_le lα0 (Nat.le_of_lt lα0) (Nat.pow_pos (by omega))
 have phigh:α1*α1<18446744073709551616^η*18446744073709551616^η:=Nat.mul_lt_mul_of_lt_of_le (by omega) (by omega) (Nat.pow_pos (by omega))
 have pboth:(α0+α1)*(α0+α1)<18446744073709551616^(η+1)*18446744073709551616^(η+1):=Nat.mul_lt_mul_of_lt_of_le (by omega) (by omega) (Nat.pow_pos (by omega))
 rw[←Nat.pow_add] at plow phigh pboth
 have bl:Big (α0*α0):=lt_bigW plow (by omega)
 have bh:Big (α1*α1):=lt_bigW phigh (by omega)
 have bb:Big ((α0+α1)*(α0+α1)):=lt_bigW pboth (by omega)
 obtain⟨km1,km2⟩:=kara_mid (a0:=α0) (a1:=α1) (b0:=α0) (b1:=α1)
 simp only[go_sem]
 refine lAdd_calls (nlow13.nn bl) (nhigh13.nn bh) fun s h14 hw14 hl14 ns=> ?_
 simp only[go_sem]
 refine lSub_calls ((nboth13.mono hl14).nn bb) (ns.nn (bb.le km2)) (fun hc=>by omega) fun _ mid h15 hw15 hl15 nmid=> ?_
 rw[km1] at nmid
 have l15:=(H.le_trans hl14 hl15)
 have s1:=(nlow13.mono l15)
 have s3:=(nhigh13.mono l15)
 simp only[go_sem,lit3 s1.one nmid.one s3.one]
 have hl16:=H.le_new hw15 (H.le_refl h15) ⟨some 25,1,[low,mid,high]⟩
 have bm:Big (α0*α1+α1*α0):=bb.le (by rw[←km1];omega)
 refine Join_calls (xs:=[α0*α0,α0*α1+α1*α0,α1*α1]) (by omega) (nnl_lit rfl rfl ?_) (fun z hz=> ?_) (by simp) fun r h17 hw17 hl17 nr=> ?_
 ·intro j c z h1 h2
  match j with
  |0=>simp at h1 h2;subst h1;subst h2;exact(s1.mono hl16).nn bl
  |1=>simp at h1 h2;subst h1;subst h2;exact(nmid.mono hl16).nn bm
  |2=>simp at h1 h2;subst h1;subst h2;exact(s3.mono hl16).nn bh
  |j+3=>simp at h1
 ·simp at hz
  rcases hz with rfl|rfl|rfl
  ·exact bl
  ·exact bm
  ·exact bh
 ·have ev:val (18446744073709551616^η) [α0*α0,α0*α1+α1*α0,α1*α1]=x*x:=by
   rw[ex,kara_val]
   simp only[val]
   generalize 18446744073709551616^η=X
   grind
  rw[ev] at nr
  have l1317:=(H.le_trans hl14 (H.le_trans hl15 (H.le_trans hl16 hl17)))
  simp only[go_sem]
  exact fun _=>hk r h17 _ _ hw17 (l012.trans (hl13.trans l1317.lee)) (ht13.mono l1317) (nr.base (by have:=l012.1;have:=hl13.1;have:=hl14.1;have:=hl15.1;have:=hl16.1;omega))
theorem ToomSqr_calls {e u m0 nw dp n x N top:Nat} {t:Tb} {va:AV} {f:FuncId} {first caps:List AV} {h:H} {K:AV→H→Prop} (he:Eng 3 h e u) (ht:Tune h u m0 nw dp t) (nv:Wn h va n x) (hlen:2*((n+2)/3)<n) (hn:n≤16384)
  (hin:SqOK f first caps h u t N top) (hN:(n+2)/3+1≤N) (htop:nw+1+lev ((n+2)/3+1)≤top) (hnw:nw≤1000000000)
  (hk:∀r h' m' dp',h'.wf→H.lee u h h'→Tune h' u m' nw dp' t→Nf h.next h' r (x*x)→K (.tup [r, .bool true]) h'):
  ACalls Tryz.prog 156 [.ptr (some (e,0)),va, .fn f first caps] h K:=by
 refine in_toom_Engine_ToomSqr (by simp) fun hw=> ?_
 unfold c_toom_Engine_ToomSqr
 obtain⟨ida,offa,ca,rfl⟩:=nv.form
 obtain⟨k,hH⟩:∃k,k=(n+2)/3:=⟨_,rfl⟩
 rw[←hH] at hlen hN htop
 have lm1:lev k≤lev (k+1):=lev_mono _ _ (by omega)
 have lm2:lev (n-2*k)≤lev (k+1):=lev_mono _ _ (by omega)
 obtain⟨e1,he1,G1⟩:=he.open ht
 obtain⟨e2,he2,G2⟩:=he1.open ht
 obtain⟨e3,he3,G3⟩:=he2.open ht
 obtain rfl:e3=u:=he3
 have g1:=G1 h (H.lee_refl _ _)
 have g2:=G2 h (H.lee_refl _ _)
 have g3:=G3 h (H.lee_refl _ _)
 have hul:=H.row_lt hw ht
 have a1:IntKind.i64.wrap ((n:Int)+2)=((n+2:Nat):Int):=by rw[wI]<;>omega
 have a2:IntKind.i64.wrap (((n+2:Nat):Int).tdiv 3)=(k:Int):=by
  have e:((n+2:Nat):Int).tdiv 3=(((n+2)/3:Nat):Int):=tdivN (a:=n+2) (b:=3)
  rw[e,←hH,wI]<;>omega
 have a3:IntKind.i64.wrap (2*(k:Int))=((2*k:Nat):Int):=mulI (a:=2) (b:=k) (by omega)
 have a4:decide ((n:Int)≤((2*k:Nat):Int))=false:=leF (by omega)
 have a5:=incI (i:=k) (by omega)
 have a6:=subI (a:=n) (b:=2*k) (by omega) (by omega)
 simp only[go_sem,a1,a2,a3,a4,g1,g2,g3]
 refine⟨by decide, ?_⟩
 refine Enter_calls ht (by omega) fun _ h1 hw1 hl1 hn1 ht1=> ?_
 simp only[go_sem,a1,a2,a3,a4,a5,a6]
 refine Points_calls (nv.monoE ht hl1) (by omega) (by omega) (by omega) fun A0 A1 Am A2 Ai α0 α1 α2 h2 hw2 hl2 ex lα0 lα1 lα2 nA0 nA1 nAm nA2 nAi=> ?_
 have s0:=PSt.five (l:=[AV.sl none 0 0 none, .bool false]) hw2
 simp only[go_sem,a1,a2,a3,a4,a5,a6,H.next_new]
 simp only[Nat.add_assoc,Nat.reduceAdd]
 have hn02:h.next≤h2.next:=(hl1.trans hl2.lee).1
 have hno:∀i,h2.rows (h2.next+i)=none:=fun i=>hw2 _ (by omega)
 refine s0.st2 (v:=A0) (w:= .bool false) (i:=0) hw2 (Nat.le_refl _) (by omega) (hno 0) rfl nA0.one rfl fun i1 s1 _=> ?_
 simp only[go_sem]
 refine s1.st2 (v:=A1) (w:= .bool false) (i:=1) hw2 (Nat.le_refl _) (by omega) (hno 1) rfl nA1.one rfl fun i2 s2 _=> ?_
 simp only[go_sem]
 refine s2.st2 (v:=Am) (w:= .bool (decide (α0+α2<α1))) (i:=2) hw2 (Nat.le_refl _) (by omega) (hno 2) rfl nAm.one rfl fun i3 s3 _=> ?_
 simp only[go_sem]
 refine s3.st2 (v:=A2) (w:= .bool false) (i:=3) hw2 (Nat.le_refl _) (by omega) (hno 3) rfl nA2.one rfl fun i4 s4 _=> ?_
 simp only[go_sem]
 refine s4.st2 (v:=Ai) (w:= .bool false) (i:=4) hw2 (Nat.le_refl _) (by omega) (hno 4) rfl nAi.one rfl fun j5 s5 _=> ?_
 have l2j:h2.le j5:=s5.le
 have l0j:H.lee e3 h j5:=hl1.trans (H.le_trans hl2 l2j).lee
 have tj:Tune j5 e3 m0 (nw+1) (max dp (nw+1)) t:=ht1.mono (H.le_trans hl2 l2j)
 have hu1:e3<h1.next:=Nat.lt_of_lt_of_le hul hl1.1
 have hu2:e3<h2.next:=Nat.lt_of_lt_of_le hu1 hl2.1
 rw[show α0+α2+α1=α0+α1+α2 by omega] at nA1
 have fa:=fun(i j:Nat) (g:H) (hi:i<5) (hl:H.lee e3 j5 g)=>s5.getE (i:=i) (j:=j) hi hu2 hl
 have na:∀{v:AV} {z:Nat} {g:H},Nf h1.next h2 v z→H.lee e3 j5 g→Nt g v z:=fun hn hl=>(hn.monoE hu1 (l2j.lee.trans hl)).nt
 have pk:18446744073709551616^(k+1)=18446744073709551616^k*18446744073709551616:=Nat.pow_succ ..
 have pn:18446744073709551616^(n-2*k)≤18446744073709551616^k:=Nat.pow_le_pow_right (by omega) (by omega)
 have am:am1 (α0+α2) α1≤α0+α2+α1:=am1_le
 clear s0 s1 s2 s3 s4 hno
 simp only[go_sem,a1,a2,a3,a4,a5,a6,show j5.get (h2.next) 0=some A0 from fa 0 0 j5 (by omega) (H.lee_refl e3 j5)]
 refine twide_calls (n:=k) (na nA0 (H.lee_refl e3 j5)) (by omega) (by omega) fun WA0 z0 hwz0 hlz0 pA0=> ?_
 have lz0:=(H.lee_refl e3 j5).trans hlz0.lee
 have tz0:=tj.mono hlz0
 simp only[go_sem,a1,a2,a3,a4,a5,a6]
 refine hin z0 _ _ _ _ _ _ _ (l0j.trans lz0) tz0 pA0.wn (by omega) (by omega) fun R0 X0 m0 d0 hwx0 hlx0 tx0 nR0=> ?_
 have lx0:=lz0.trans hlx0
 simp only[go_sem,a1,a2,a3,a4,a5,a6,show X0.get (h2.next+1) 0=some A1 from fa 1 0 X0 (by omega) lx0]
 refine twide_calls (n:=k+1) (na nA1 lx0) (by omega) (by omega) fun WA1 z1 hwz1 hlz1 pA1=> ?_
 have lz1:=lx0.trans hlz1.lee
 have tz1:=tx0.mono hlz1
 simp only[go_sem,a1,a2,a3,a4,a5,a6]
 refine hin z1 _ _ _ _ _ _ _ (l0j.trans lz1) tz1 pA1.wn (by omega) (by omega) fun R1 X1 m1 d1 hwx1 hlx1 tx1 nR1=> ?_
 have lx1:=lz1.trans hlx1
 simp only[go_sem,a1,a2,a3,a4,a5,a6,show X1.get (h2.next+2) 0=some Am from fa 2 0 X1 (by omega) lx1]
 refine twide_calls (n:=k+1) (na nAm lx1) (by omega) (by omega) fun WA2 z2 hwz2 hlz2 pA2=> ?_
 have lz2:=lx1.trans hlz2.lee
 have tz2:=tx1.mono hlz2
 simp only[go_sem,a1,a2,a3,a4,a5,a6]
 refine hin z2 _ _ _ _ _ _ _ (l0j.trans lz2) tz2 pA2.wn (by omega) (by omega) fun Rm X2 m2 d2 hwx2 hlx2 tx2 nRm=> ?_
 have lx2:=lz2.trans hlx2
 simp only[go_sem,a1,a2,a3,a4,a5,a6,show X2.get (h2.next+3) 0=some A2 from fa 3 0 X2 (by omega) lx2]
 refine twide_calls (n:=k+1) (na nA2 lx2) (by omega) (by omega) fun WA3 z3 hwz3 hlz3 pA3=> ?_
 have lz3:=lx2.trans hlz3.lee
 have tz3:=tx2.mono hlz3
 simp only[go_sem,a1,a2,a3,a4,a5,a6]
 refine hin z3 _ _ _ _ _ _ _ (l0j.trans lz3) tz3 pA3.wn (by omega) (by omega) fun R2 X3 m3 d3 hwx3 hlx3 tx3 nR2=> ?_
 have lx3:=lz3.trans hlx3
 simp only[go_sem,a1,a2,a3,a4,a5,a6,show X3.get (h2.next+4) 0=some Ai from fa 4 0 X3 (by omega) lx3]
 refine twide_calls (n:=n-2*k) (na nAi lx3) (by omega) (by omega) fun WA4 z4 hwz4 hlz4 pA4=> ?_
 have lz4:=lx3.trans hlz4.lee
 have tz4:=tx3.mono hlz4
 simp only[go_sem,a1,a2,a3,a4,a5,a6]
 refine hin z4 _ _ _ _ _ _ _ (l0j.trans lz4) tz4 pA4.wn (by omega) (by omega) fun Ri X4 m4 d4 hwx4 hlx4 tx4 nRi=> ?_
 have lx4:=lz4.trans hlx4
 have l05:=l0j.trans lx4
 simp only[go_sem,a1,a2,a3,a4,a5,a6,G1 _ l05,G2 _ l05,G3 _ l05]
 refine Leave_calls tx4 (by omega) fun _ X hwX hlX hnX tX=> ?_
 have lX:=lx4.trans hlX
 have b0:e3<z0.next:=Nat.lt_of_lt_of_le hu2 (H.le.lee (u:=e3) l2j|>.trans lz0).1
 have b1:e3<z1.next:=Nat.lt_of_lt_of_le hu2 (H.le.lee (u:=e3) l2j|>.trans lz1).1
 have b2:e3<z2.next:=Nat.lt_of_lt_of_le hu2 (H.le.lee (u:=e3) l2j|>.trans lz2).1
 have b3:e3<z3.next:=Nat.lt_of_lt_of_le hu2 (H.le.lee (u:=e3) l2j|>.trans lz3).1
 have b4:e3<z4.next:=Nat.lt_of_lt_of_le hu2 (H.le.lee (u:=e3) l2j|>.trans lz4).1
 have c4:=hlX
 have c3:H.lee e3 X3 X:=hlz4.lee.trans (hlx4.trans c4)
 have c2:H.lee e3 X2 X:=hlz3.lee.trans (hlx3.trans c3)
 have c1:H.lee e3 X1 X:=hlz2.lee.trans (hlx2.trans c2)
 have c0:H.lee e3 X0 X:=hlz1.lee.trans (hlx1.trans c1)
 have nR0:=(nR0.monoE b0 c0).nt
 have nR1:=(nR1.monoE b1 c1).nt
 have nRm:=(nRm.monoE b2 c2).nt
 have nR2:=(nR2.monoE b3 c3).nt
 have nRi:=(nRi.monoE b4 c4).nt
 have five:=five_of (a0:=α0) (a1:=α1) (a2:=α2) (b0:=α0) (b1:=α1) (b2:=α2)
 have p2k:18446744073709551616^(k+1)*18446744073709551616^(k+1)=18446744073709551616^(2*k+2):=by rw[←Nat.pow_add];congr 1;omega
 have g1:(α0+α1+α2)*(α0+α1+α2)<18446744073709551616^(2*k+2):=by
  rw[←p2k]
  exact Nat.mul_lt_mul_of_lt_of_le (by omega) (by omega) (Nat.pow_pos (by omega))
 have g2:(α0+2*α1+4*α2)*(α0+2*α1+4*α2)<18446744073709551616^(2*k+2):=by
  rw[←p2k]
  exact Nat.mul_lt_mul_of_lt_of_le (by omega) (by omega) (Nat.pow_pos (by omega))
 have bR:∀{z:Nat},z<18446744073709551616^(2*k+2)→Big z:=fun hz=>lt_bigW hz (by omega)
 have gm:am1 (α0+α2) α1*am1 (α0+α2) α1<18446744073709551616^(2*k+2):=by
  rw[←p2k]
  exact Nat.mul_lt_mul_of_lt_of_le (by omega) (by omega) (Nat.pow_pos (by omega))
 have g0:α0*α0<18446744073709551616^(2*k+2):=by
  rw[←p2k]
  exact Nat.mul_lt_mul_of_lt_of_le (by omega) (by omega) (Nat.pow_pos (by omega))
 have gi:α2*α2<18446744073709551616^(2*k+2):=by
  rw[←p2k]
  exact Nat.mul_lt_mul_of_lt_of_le (by omega) (by omega) (Nat.pow_pos (by omega))
 rw[show(decide (α0+α2<α1) !=decide (α0+α2<α1))=false by simp] at five
 simp only[go_sem,a1,a2,a3,a4,a5,a6]
 refine joined_calls (k:=k) (by omega) five (nR0.nn (bR g0)) (nR1.nn (bR g1)) (nRm.nn (bR gm)) (nR2.nn (bR g2)) (nRi.nn (bR gi)) (κ:=2*k+2) (by omega) g1 g2 fun r Y hwY hlY hr=> ?_
 have ev:val (18446744073709551616^k) [α0*α0,α0*α1+α1*α0,α0*α2+α1*α1+α2*α0,α1*α2+α2*α1,α2*α2]=x*x:=by
  rw[ex,toom_val]
  simp only[val]
  generalize 18446744073709551616^k=X
  grind
 rw[ev] at hr
 simp only[go_sem]
 exact fun _=>hk r Y _ _ hwY (l05.trans (hlX.trans hlY.lee)) (tX.mono hlY) (hr.base (l05.trans hlX).1)
section
theorem getD_pad {xs:List Nat} {n k:Nat}:(xs++List.replicate n 0).getD k 0=xs.getD k 0:=by
 rw[List.getD_eq_getElem?_getD,List.getD_eq_getElem?_getD]
 rcases Nat.lt_or_ge k xs.length with h|h
 ·rw[List.getElem?_append_left h]
 ·rw[List.getElem?_append_right h,List.getElem?_eq_none h,List.getElem?_replicate]
  split<;>rfl
def autoCost (log:Nat):Nat:=2*(2^log/2*log)+2*2^log
section
variable {p u log T w v m nw dp:Nat} [NeZero p] {tb:Tb} {h:H} {K:AV→H→Prop}
theorem Fwd2_calls {a:AV} {xs:List Nat} (hP:PL h T u p log w v) (ht:Tune h u m nw dp tb) (ha:IsN h a xs) (hx:xs.length=2^log)
  (hk:∀r zs h',h'.wf→H.lee u h h'→Tune h' u (m+2^log/2*log) nw dp tb→IsG h.next h' r zs→zs.length=2^log→(∀i,i<2^log→∃z,zs[i]? =some z∧z<p∧zp p z=fsum (2^log) (fun k=>zp p (xs.getD k 0)*(zp p w^i)^k))→K (.tup [r, .bool true]) h'):
  ACalls Tryz.prog 209 [.ptr (some (T,0)),a] h K:=by
 have hP0:=hP
 obtain⟨mm,up,dn,ups,dns,part,hr,hM,hup,hdn,hups,hdns,h7,h8,h9,hwr,hwp,hvp,hl,h14,h15⟩:=hP
 obtain⟨ia,oa,ca,rfl⟩:=ha.form
 refine in_ntt_Plan_Forward (by simp) fun hw=> ?_
 unfold c_ntt_Plan_Forward
 have g2:h.get T 2=some (.int .i64 (log:Int)):=by rw[H.get_of hr];rfl
 simp only[go_sem]
 refine plSize_calls g2 hl ?_
 simp only[go_sem,neF (show(xs.length:Int)=(2^log:Nat) by rw[hx])]
 refine fwd_calls hP0 ht ha (by omega) fun r zs h1 hw1 hl1 ht1 hG hzl hzv=> ?_
 simp only[go_sem]
 exact fun hw'=>hk r zs h1 hw' hl1 ht1 hG hzl hzv
theorem Inv2_calls {a:AV} {xs:List Nat} (hP:PL h T u p log w v) (ht:Tune h u m nw dp tb) (ha:IsN h a xs) (hx:xs.length=2^log)
  (hk:∀r zs h' part,h'.wf→H.lee u h h'→Tune h' u (m+2^log/2*log+2^log) nw dp tb→IsG h.next h' r zs→zs.length=2^log→2^log*part%p=1→(∀i,i<2^log→∃z,zs[i]? =some z∧z<p∧zp p z=fsum (2^log) (fun k=>zp p (xs.getD k 0)*(zp p v^i)^k)*zp p part)→K (.tup [r, .bool true]) h'):
  ACalls Tryz.prog 211 [.ptr (some (T,0)),a] h K:=by
 have hP0:=hP
 obtain⟨mm,up,dn,ups,dns,part,hr,hM,hup,hdn,hups,hdns,h7,h8,h9,hwr,hwp,hvp,hl,h14,h15⟩:=hP
 obtain⟨ia,oa,ca,rfl⟩:=ha.form
 refine in_ntt_Plan_Inverse (by simp) fun hw=> ?_
 unfold c_ntt_Plan_Inverse
 have g2:h.get T 2=some (.int .i64 (log:Int)):=by rw[H.get_of hr];rfl
 simp only[go_sem]
 refine plSize_calls g2 hl ?_
 simp only[go_sem,neF (show(xs.length:Int)=(2^log:Nat) by rw[hx])]
 refine inv_calls hP0 ht ha (by omega) fun r zs h1 part hw1 hl1 ht1 hG hzl hpart hzv=> ?_
 simp only[go_sem]
 exact fun hw'=>hk r zs h1 part hw' hl1 ht1 hG hzl hpart hzv
theorem auto_calls {a:AV} {xs:List Nat} (hP:PL h T u p log w v) (ht:Tune h u m nw dp tb) (ha:IsN h a xs) (hx:0<xs.length) (hxy:xs.length+xs.length-1≤2^log)
  (hk:∀r zs h',h'.wf→H.lee u h h'→Tune h' u (m+autoCost log) nw dp tb→IsG h.next h' r zs→zs.length=2^log→(∀i,i<2^log→zs[i]? =some ((cvL xs xs).getD i 0%p))→K (.tup [r, .bool true]) h'):
  ACalls Tryz.prog 186 [.ptr (some (T,0)),a] h K:=by
 have hP0:=hP
 obtain⟨mm,up,dn,ups,dns,part0,hr,hM,hup,hdn,hups,hdns,h7,h8,h9,hwr,hwp,hvp,hl,h14,h15⟩:=hP
 obtain⟨ia,oa,ca,rfl⟩:=ha.form
 refine in_conv_auto (by simp) fun hw=> ?_
 unfold c_conv_auto
 have hpl:2^log≤2^20:=Nat.pow_le_pow_right (by decide) hl
 have hp:=hM.p0
 have hub:=H.row_lt hw ht
 have g2:h.get T 2=some (.int .i64 (log:Int)):=by rw[H.get_of hr];rfl
 simp only[go_sem]
 refine plSize_calls g2 hl ?_
 simp only[go_sem]
 refine⟨by omega,by omega,by omega, ?_⟩
 have hl1:=H.le_new hw (H.le_refl h) ⟨some 54,1,zs [AV.int .u64 0] (2^log)⟩
 have hw1:=H.wf_new hw ⟨some 54,1,zs [AV.int .u64 0] (2^log)⟩
 have hG:=IsG.made (b:=h.next) (h:=h) (Nat.le_refl _) (2^log)
 refine cpy_num (b:=h.next) hw1 hG (ha.mono hl1) (by simp;omega) fun h1 hw1 hn1 hle1 hs1=> ?_
 have l01:h.le h1:=hle1 h hw hl1 (Nat.le_refl _)
 rw[List.drop_replicate] at hs1
 have hwl:(xs++List.replicate (2^log-xs.length) 0).length=2^log:=by simp;omega
 simp only[go_sem]
 refine Fwd2_calls (hP0.mono l01) (ht.mono l01) hs1.isN hwl fun x X h2 hw2 hl2 ht2 hX hXl hXv=> ?_
 have hXv:∀i,i<2^log→∃z,X[i]? =some z∧z<p∧zp p z=fsum (2^log) (fun k=>zp p (xs.getD k 0)*(zp p w^i)^k):=fun i hi=>by
  obtain⟨z,z1,z2,z3⟩:=hXv i hi
  exact⟨z,z1,z2,by rw[z3];exact fsum_congr fun k _=>by rw[getD_pad]⟩
 have l02:H.lee u h h2:=l01.lee.trans hl2
 have hX:IsG h.next h2 x X:=IsF.base hX l01.1
 obtain⟨ix,cx,rfl⟩:=hX.form
 rw[hXl] at hX⊢
 have hpos:0<2^log:=Nat.pow_pos (by decide)
 obtain⟨ix,rfl,-⟩:=hX.isN.at (j:=0) (by omega)
 have hix:=hX.id hw2 (by omega)
 simp only[go_sem,Bool.not_true]
 refine loop_cut (fun ρ h'=>h'.wf∧H.lee u h h'∧Tune h' u (m+2^log/2*log) nw dp tb∧ρ 0= .ptr (some (T,0))∧ρ 7= .sl (some ix) 0 (2^log) cx∧
  ∃Z,IsG h.next h' (.sl (some ix) 0 (2^log) cx) Z∧Z.length=2^log∧∀i,i<2^log→Z[i]? =some (X.getD i 0*X.getD i 0%p)) ?_ ?_
 ·refine for_rule (fun k ρ h'=>k≤2^log∧h'.wf∧H.lee u h h'∧Tune h' u (m+2^log/2*log) nw dp tb∧ρ 0= .ptr (some (T,0))∧ρ 7= .sl (some ix) 0 (2^log) cx∧ρ 25= .int .i64 ((2^log:Nat):Int)∧ρ 26= .int .i64 (k:Int)∧
   ∃Z,IsG h.next h' (.sl (some ix) 0 (2^log) cx) Z∧Z.length=2^log∧∀i,i<2^log→Z[i]? =some (if i<k then X.getD i 0*X.getD i 0%p else X.getD i 0)) (2^log)
   ⟨by omega,hw2,l02,ht2,by first|rfl|trivial|assumption,by first|rfl|trivial|assumption,rfl,rfl,X,hX,hXl,fun i hi=>by rw[if_neg (by omega),List.getD_eq_getElem?_getD,List.getElem?_eq_getElem (by omega)];rfl⟩ (fun i ρ h hI=>hI.1) ?_
  rintro k ρ h3 ⟨hkn,hw3,hl3,ht3,q0,q7,q17,q18,Z,hZ,hZl,hZv⟩
  have g0':h3.get T 0=some (.ptr (some (mm,0))):=by rw[H.get_of (hl3.2 _ _ h15 hr)];rfl
  have hM3:=hM.monoE h14 hl3
  generalize 2^log=N at*
  rcases Nat.lt_or_ge k N with h1'|h1'
  ·obtain⟨j,ej,_,hg⟩:=hZ.isN.at (j:=k) (by omega)
   injection ej with ej
   subst ej
   have hv:=hZv k h1'
   rw[if_neg (by omega),List.getElem?_eq_getElem (by omega)] at hv
   injection hv with hv
   rw[hv,Nat.zero_add] at hg
   obtain⟨j2,r2,ej,bj,lj,hrj,oj,fj,pj⟩:=hZ.put hw3 (j:=k) (by omega)
   injection ej with ej
   subst ej
   simp only[go_sem,q0,q7,q17,q18,ltT h1']
   simp only[go_sem,q0,q7,q17,q18,g0',Int.toNat_natCast]
   refine⟨by omega,by omega, ?_⟩
   simp only[go_sem,q0,q7,q17,q18,hg,Int.toNat_natCast]
   refine⟨by omega,by omega, ?_⟩
   refine mMul_calls hM3 ?_
   simp only[go_sem,q0,q7,q17,q18,Int.toNat_natCast]
   refine⟨by omega,by omega, ?_⟩
   simp only[go_sem,hrj,q0,q7,q17,q18]
   refine⟨oj,by omega, ?_⟩
   have pj:=pj (X.getD k 0*X.getD k 0%p)
   have hw4:=H.wf_set hw3 lj {r2 with cells:=putAt r2.cells k [AV.int .u64 ((X.getD k 0*X.getD k 0%p:Nat):Int)]}
   have hl4:H.lee u h (h3.set ix {r2 with cells:=putAt r2.cells k [AV.int .u64 ((X.getD k 0*X.getD k 0%p:Nat):Int)]}):=⟨hl3.1,fun i q hi hq=>by
    rw[H.rows_set_ne (by have:=H.row_lt hw hq;omega)]
    exact hl3.2 i q hi hq⟩
   have ht4:Tune (h3.set ix {r2 with cells:=putAt r2.cells k [AV.int .u64 ((X.getD k 0*X.getD k 0%p:Nat):Int)]}) u (m+N/2*log) nw dp tb:=by
    unfold Tune
    rw[H.rows_set_ne (by omega)]
    exact ht3
   generalize h3.set ix {r2 with cells:=putAt r2.cells k [AV.int .u64 ((X.getD k 0*X.getD k 0%p:Nat):Int)]}=h4 at*
   simp only[go_sem,q0,q7,q17,q18,incI (i:=k) (by omega)]
   refine⟨by omega,hw4,hl4,ht4,by first|rfl|trivial|assumption,by first|rfl|trivial|assumption,by first|rfl|trivial|assumption,by first|rfl|trivial|assumption,_,pj,by simp[hZl],fun i hi=> ?_⟩
   by_cases c1:i=k
   ·subst c1
    rw[List.getElem?_set_self (by omega),if_pos (by omega)]
   ·rw[List.getElem?_set_ne (Ne.symm c1),hZv i hi]
    by_cases c2:i<k
    ·rw[if_pos c2,if_pos (by omega)]
    ·rw[if_neg c2,if_neg (by omega)]
  ·obtain rfl:k=N:=by omega
   simp only[go_sem,q0,q7,q17,q18,ltF h1']
   exact⟨hw3,hl3,ht3,by first|rfl|trivial|assumption,by first|rfl|trivial|assumption,Z,hZ,hZl,fun i hi=>by rw[hZv i hi,if_pos hi]⟩
 ·rintro ρ h3 ⟨hw3,hl3,ht3,q0,q7,Z,hZ,hZl,hZv⟩
  have g1':h3.get T 1=some (.ptr (some (u,0))):=by rw[H.get_of (hl3.2 _ _ h15 hr)];rfl
  simp only[go_sem,q0,q7,g1']
  refine Spend_calls ht3 fun h4 hw4 hl4 hn4 ht4=> ?_
  have hl04:=H.lee.trans hl3 hl4
  simp only[go_sem,q0,q7]
  refine Inv2_calls (hP0.monoE ht hl04) ht4 (hZ.isN.monoE ht3 hl4) hZl fun r zs h5 part hw5 hl5 ht5 hG5 hzl hpart hzv=> ?_
  simp only[go_sem]
  have hN:=hl04.1
  refine fun hw'=>hk r zs h5 hw' (H.lee.trans hl04 hl5) ?_ (IsF.base hG5 hN) hzl fun i hi=> ?_
  ·have:m+2^log/2*log+2^log+2^log/2*log+2^log=m+autoCost log:=by unfold autoCost;omega
   rw[this] at ht5
   exact ht5
  ·obtain⟨z,z1,z2,z3⟩:=hzv i hi
   rw[conv_math (xs:=xs) (ys:=xs) h9 hwr (by omega) hpart hx hx hxy (fun j hj=>by
    obtain⟨a,a1,a2,a3⟩:=hXv j hj
    rw[List.getD_eq_getElem?_getD,hZv j hj,Option.getD_some,zp_mod,zp_mul,List.getD_eq_getElem?_getD,a1,Option.getD_some,a3]) hi] at z3
   have z4:=zp_iff.1 z3
   rw[Nat.mod_eq_of_lt z2] at z4
   rw[z1,z4]
end
section
variable {u m nw dp L:Nat} {tb:Tb} {va:AV} {xs:List Nat} {h:H} {K:AV→H→Prop}
theorem cSqr_calls (ht:Tune h u m nw dp tb) (ha:IsN h va xs) (hxd:Dig xs) (hx:0<xs.length) (hxy:xs.length+xs.length≤1048576) (hL:lgOK (xs.length+xs.length) L)
  (hk:∀r h',h'.wf→H.lee u h h'→Tune h' u (m+3*autoCost L+6*2^L) nw dp tb→Nf h.next h' r (val 18446744073709551616 xs*val 18446744073709551616 xs)→K (.tup [r, .bool true]) h'):
  ACalls Tryz.prog 157 [.ptr (some (u,0)),va] h K:=by
 obtain⟨ia,oa,ca,rfl⟩:=ha.form
 refine in_conv_Sqr (by simp) fun hw=> ?_
 unfold c_conv_Sqr
 have hul:=H.row_lt hw ht
 simp only[go_sem]
 refine⟨rfl, ?_⟩
 simp only[AV.cells,List.length_cons,List.length_nil,Nat.zero_add]
 have hl1:=H.le_new hw (H.le_refl h) ⟨some 25,1,[AV.sl ia oa xs.length ca]⟩
 have hw1:=H.wf_new hw ⟨some 25,1,[AV.sl ia oa xs.length ca]⟩
 have hr1:=H.rows_new h ⟨some 25,1,[AV.sl ia oa xs.length ca]⟩
 generalize h.new ⟨some 25,1,[AV.sl ia oa xs.length ca]⟩=h1 at*
 have g1:h1.get h.next 0=some (.sl ia oa xs.length ca):=by rw[H.get_of hr1];rfl
 simp only[go_sem,g1]
 refine cmay_calls ?_ (by omega) (by omega)
 rw[decide_eq_true ⟨hx,hx,hxy⟩]
 have a1:IntKind.i64.wrap (2*(xs.length:Int))=((xs.length+xs.length:Nat):Int):=by rw[wI]<;>omega
 have a2:IntKind.i64.wrap (((xs.length+xs.length:Nat):Int)-1)=((xs.length+xs.length-1:Nat):Int):=by rw[wI]<;>omega
 simp only[go_sem,Bool.not_true,g1,a1,a2]
 refine cjoined_calls (C:=autoCost L) (tgt:=fun i=>(cvL xs xs).getD i 0) (ht.mono hl1) (by omega) (by omega) hxy hL ?_ (fun i _=>cvL_bound hxd hxd (by omega) i) fun r ws h3 hw3 hl3 ht3 hr hw3' hwd hwv=> ?_
 ·intro g1' p T w v m' nw' dp' K' hp hg1 hlg hPL ht' hk'
  have:NeZero p:=⟨by omega⟩
  refine in_conv_Sqr_1 (by simp) fun hw=> ?_
  unfold c_conv_Sqr_1
  have k1:g1'.get h.next 0=some (.sl ia oa xs.length ca):=by rw[H.get_of (hlg.2 _ _ (by omega) hr1)];rfl
  simp only[go_sem,k1]
  have hpw:=hL.1
  refine auto_calls hPL ht' ((ha.mono hl1).monoE (ht.mono hl1) hlg) hx (by omega) fun r zs h' hw' hl' ht'' hG hzl hzv=> ?_
  simp only[go_sem]
  exact fun hw''=>hk' r zs h' hw'' hl' ht'' hG (by omega) fun i hi=>hzv i (by omega)
 ·simp only[go_sem,Bool.not_true]
  rw[map_getD (cvL_len hx hx)] at hwv
  have hwl:ws.length=xs.length+xs.length-1:=by rw[←cvL_len hx hx,←hwv,List.length_map]
  refine Carry_calls hr hw3' hwd (by omega) fun q h4 hw4 hl4 hq=> ?_
  rw[hwv,cvL_val] at hq
  simp only[go_sem]
  exact fun hw'=>hk q h4 hw' ((hl1.lee.trans hl3).trans hl4.lee) (ht3.mono hl4) (hq.base (hl1.lee.trans hl3).1)
end
end
def crossF (xs:List Nat):Nat→Nat
 |0=>0
 |i+1=>crossF xs i+18446744073709551616^i*(xs.getD i 0*(val 18446744073709551616 xs-val 18446744073709551616 (xs.take (i+1))))
def selfF (xs:List Nat):Nat→Nat
 |0=>0
 |i+1=>selfF xs i+18446744073709551616^(2*i)*(xs.getD i 0*xs.getD i 0)
theorem val_take_le {B:Nat} (xs:List Nat) (i:Nat) (hi:i≤xs.length):val B (xs.take i)≤val B xs:=by
 rw[val_cut B xs i hi];exact Nat.le_add_right _ _
theorem cross_step {T S V W z p w:Nat} (h:2*T+S+V*V=2*(V*W)) (hz:z=p*w) (hle:V+z≤W):2*(T+p*(w*(W-(V+z))))+(S+p*p*(w*w))+(V+z)*(V+z)=2*((V+z)*W):=by
 obtain⟨D,rfl⟩:∃D,W=V+z+D:=⟨W-(V+z),by omega⟩
 rw[show V+z+D-(V+z)=D by omega]
 subst hz
 grind
theorem cross_self {xs:List Nat}:∀i,i≤xs.length→2*crossF xs i+selfF xs i+val 18446744073709551616 (xs.take i)*val 18446744073709551616 (xs.take i)=2*(val 18446744073709551616 (xs.take i)*val 18446744073709551616 xs):=by
 intro i
 induction i with
 |zero=>intro _;simp[crossF,selfF,val]
 |succ i ih=>
  intro hi
  have ih:=ih (by omega)
  have h1:=val_take_succ 18446744073709551616 xs i (by omega)
  have h2:=val_take_le (B:=18446744073709551616) xs (i+1) hi
  have e1:xs.getD i 0=xs[i]:=by rw[List.getD_eq_getElem?_getD,List.getElem?_eq_getElem (by omega)];rfl
  have e2:18446744073709551616^(2*i)=18446744073709551616^i*18446744073709551616^i:=by rw[←Nat.pow_add];congr 1;omega
  rw[crossF,selfF,e1,e2,h1]
  rw[h1] at h2
  exact cross_step ih rfl h2
theorem cross_all {xs:List Nat}:2*crossF xs xs.length+selfF xs xs.length=val 18446744073709551616 xs*val 18446744073709551616 xs:=by
 have h:=cross_self (xs:=xs) xs.length (Nat.le_refl _)
 rw[List.take_length] at h
 omega
theorem dbl_words {x y w high c hi lo s1 d s2 c':Nat} (hx:x<18446744073709551616) (hy:y<18446744073709551616) (hw:hi*18446744073709551616+lo=w*w) (h1:s1+18446744073709551616*d=x*2%18446744073709551616+high+lo+c) (h2:s2+18446744073709551616*c'=y*2%18446744073709551616+x/2^63+hi+d):
  s1+18446744073709551616*s2+18446744073709551616*18446744073709551616*(c'+y/2^63)=2*(x+18446744073709551616*y)+high+c+w*w:=by
 have hb:18446744073709551616=18446744073709551616:=rfl
 have e1:x*2=x*2%18446744073709551616+18446744073709551616*(x/2^63):=by omega
 have e2:y*2=y*2%18446744073709551616+18446744073709551616*(y/2^63):=by omega
 generalize x*2%18446744073709551616=X at*
 generalize y*2%18446744073709551616=Y at*
 generalize x/2^63=xt at*
 generalize y/2^63=yt at*
 generalize w*w=q at*
 generalize 18446744073709551616=B at*
 grind
theorem take_mono_val {xs:List Nat} {i j:Nat} (h:i≤j) (hj:j≤xs.length):val 18446744073709551616 (xs.take i)≤val 18446744073709551616 (xs.take j):=by
 have:=val_take_le (B:=18446744073709551616) (xs.take j) i (by rw[List.length_take];omega)
 rwa[List.take_take,Nat.min_eq_left h] at this
theorem twoset {os:List Nat} {i a b:Nat} (h:2*i+1<os.length):((os.set (2*i) a).set (2*i+1) b).take (2*(i+1))=os.take (2*i)++[a,b]:=by
 apply List.ext_getElem?
 intro j
 rw[List.getElem?_take]
 rcases Nat.lt_or_ge j (2*i) with h1|h1
 ·rw[if_pos (by omega),List.getElem?_set_ne (by omega),List.getElem?_set_ne (by omega),List.getElem?_append_left (by rw[List.length_take];omega),List.getElem?_take,if_pos h1]
 ·rw[List.getElem?_append_right (by rw[List.length_take];omega),List.length_take,Nat.min_eq_left (by omega)]
  rcases(show j=2*i∨j=2*i+1∨2*i+2≤j by omega) with h2|h2|h2
  ·subst h2
   rw[if_pos (by omega),List.getElem?_set_ne (by omega),List.getElem?_set_self (by omega),Nat.sub_self]
   rfl
  ·subst h2
   rw[if_pos (by omega),List.getElem?_set_self (by rw[List.length_set];omega),show 2*i+1-2*i=1 by omega]
   rfl
  ·rw[if_neg (by omega),List.getElem?_eq_none (by simp;omega)]
theorem twoset_drop {os:List Nat} {i a b:Nat}:((os.set (2*i) a).set (2*i+1) b).drop (2*(i+1))=os.drop (2*(i+1)):=by
 rw[dropset (by omega),dropset (by omega)]
theorem dbl_step {V U S P s1 s2 c' yh x y high c w:Nat} (h:V+P*(high+c)=2*U+S) (hd:s1+18446744073709551616*s2+18446744073709551616*18446744073709551616*(c'+yh)=2*(x+18446744073709551616*y)+high+c+w*w):
  V+P*(s1+18446744073709551616*s2)+P*(18446744073709551616*18446744073709551616)*(yh+c')=2*(U+P*(x+18446744073709551616*y))+(S+P*(w*w)):=by
 generalize 18446744073709551616=B at*
 have e:=congrArg (fun z=>P*z) hd
 simp only[Nat.mul_add] at e h⊢
 have e1:P*(B*B*c')+P*(B*B*yh)=P*(B*B)*yh+P*(B*B)*c':=by grind
 grind
theorem val_two {B a b:Nat}:val B [a,b]=a+B*b:=by simp[val]
set_option maxHeartbeats 2000000 in
theorem sSqr_calls {e u m0 nw dp:Nat} {t:Tb} {va:AV} {xs:List Nat} {h:H} {K:AV→H→Prop} (he:Eng 1 h e u) (ht:Tune h u m0 nw dp t) (hv:IsN h va xs) (hxd:Dig xs) (hxl:xs.length≤1073741824)
  (hk:∀r h' m',h'.wf→H.lee u h h'→Tune h' u m' nw dp t→Nf h.next h' r (val 18446744073709551616 xs*val 18446744073709551616 xs)→K r h'):
  ACalls Tryz.prog 158 [.ptr (some (e,0)),va] h K:=by
 obtain⟨id,off,c,rfl⟩:=hv.form
 refine in_school_Engine_Sqr (by simp) fun hw=> ?_
 unfold c_school_Engine_Sqr
 simp only[Eng] at he
 obtain⟨r1,e1,hr1,hc1,rfl⟩:=he
 have g1:h.get e 0=some (.ptr (some (e1,0))):=by rw[H.get_of hr1,hc1];rfl
 obtain⟨n,hn⟩:∃n,n=xs.length:=⟨_,rfl⟩
 have hmul:n*(n+1)≤1073741824*1073741825:=Nat.mul_le_mul (by omega) (by omega)
 have a0:=incI (i:=n) (by omega)
 have a1:=mulI (a:=n) (b:=n+1) (by omega)
 have a2:((n*(n+1):Nat):Int).tdiv 2=((n*(n+1)/2:Nat):Int):=tdivN (a:=n*(n+1)) (b:=2)
 have a3:=wNI (n:=n*(n+1)/2) (by omega)
 have a4:IntKind.i64.wrap (2*(n:Int))=((2*n:Nat):Int):=mulI (a:=2) (b:=n) (by omega)
 rw[←hn]
 simp only[go_sem,g1,a0,a1,a2,a3]
 refine⟨by decide, ?_⟩
 refine Spend_calls ht fun h1 hw1 hl1 hn1 ht1=> ?_
 have hv1:=hv.monoE ht hl1
 rw[←hn] at hv1
 simp only[go_sem,a4]
 refine⟨by omega,by omega,by omega, ?_⟩
 obtain⟨N,hN⟩:∃N,N=2*n:=⟨_,rfl⟩
 rw[←hN]
 have hl2:=H.le_new hw1 (H.le_refl h1) ⟨some 54,1,zs [AV.int .u64 0] N⟩
 refine loop_cut (fun ρ h'=>h'.wf∧h1.le h'∧ρ 1= .sl id off n c∧ρ 6= .sl (some h1.next) 0 N (some N)∧∃os,IsG h1.next h' (.sl (some h1.next) 0 N (some N)) os∧Dig os∧os.length=N∧val 18446744073709551616 os=crossF xs n) ?_ ?_
 ·refine for_rule (fun i ρ h'=>i≤n∧h'.wf∧h1.le h'∧ρ 1= .sl id off n c∧ρ 5= .int .i64 (n:Int)∧ρ 6= .sl (some h1.next) 0 N (some N)∧ρ 42= .sl id off n c∧ρ 43= .int .i64 (n:Int)∧ρ 44= .int .i64 (i:Int)∧∃os,IsG h1.next h' (.sl (some h1.next) 0 N (some N)) os∧Dig os∧os.length=N∧(∀x∈os.drop (i+n),x=0)∧val 18446744073709551616 os=crossF xs i) n
   ⟨by omega,H.wf_new hw1 _,hl2,by first|rfl|trivial|assumption,by first|rfl|trivial|assumption,by first|rfl|trivial|assumption,by first|rfl|trivial|assumption,by first|rfl|trivial|assumption,by first|rfl|trivial|assumption,_,IsG.made (Nat.le_refl _) _,Dig.zeros _,by simp,fun x hx=>by rw[List.drop_replicate] at hx;exact List.eq_of_mem_replicate hx,by rw[val_zero _ _ (fun x hx=>List.eq_of_mem_replicate hx)];rfl⟩ (fun i ρ h hI=>hI.1) ?_
  rintro i ρ h' ⟨hi,hw',hle,q1,q5,q6,q42,q43,q44,os,hs,hod,hol,hz,hov⟩
  rcases Nat.lt_or_ge i n with hxi|hxi
  ·have hxi':i<xs.length:=by omega
   obtain⟨ja,rfl,_,hga⟩:=(hv1.mono hle).at hxi'
   have hxb:=hxd _ (List.getElem_mem hxi')
   have hgd:xs.getD i 0=xs[i]:=by rw[List.getD_eq_getElem?_getD,List.getElem?_eq_getElem hxi'];rfl
   simp only[go_sem,q1,q5,q6,q42,q43,q44,ltT hxi]
   refine⟨by omega,by omega, ?_⟩
   simp only[go_sem,hga,q1,q5,q6,q42,q43,q44,incI (i:=i) (by omega)]
   have hcr:crossF xs (i+1)=crossF xs i+18446744073709551616^i*(xs[i]*(val 18446744073709551616 xs-val 18446744073709551616 (xs.take (i+1)))):=by rw[crossF,hgd]
   generalize xs[i]=w at*
   refine loop_cut (fun ρ h'=>h'.wf∧h1.le h'∧ρ 1= .sl (some ja) off n c∧ρ 5= .int .i64 (n:Int)∧ρ 6= .sl (some h1.next) 0 N (some N)∧ρ 42= .sl (some ja) off n c∧ρ 43= .int .i64 (n:Int)∧ρ 44= .int .i64 (i:Int)∧ρ 7= .int .i64 (i:Int)∧∃os cc,ρ 9= .int .u64 (cc:Nat)∧cc<18446744073709551616∧IsG h1.next h' (.sl (some h1.next) 0 N (some N)) os∧Dig os∧os.length=N∧(∀x∈os.drop (i+n),x=0)∧val 18446744073709551616 os+18446744073709551616^(i+n)*cc=crossF xs (i+1)) ?_ ?_
   ·refine for_rule (fun k ρ h'=>k≤n-(i+1)∧h'.wf∧h1.le h'∧ρ 1= .sl (some ja) off n c∧ρ 5= .int .i64 (n:Int)∧ρ 6= .sl (some h1.next) 0 N (some N)∧ρ 42= .sl (some ja) off n c∧ρ 43= .int .i64 (n:Int)∧ρ 44= .int .i64 (i:Int)∧ρ 7= .int .i64 (i:Int)∧ρ 8= .int .u64 (w:Int)∧ρ 10= .int .i64 ((i+1+k:Nat):Int)∧∃os cc,ρ 9= .int .u64 (cc:Nat)∧cc<18446744073709551616∧IsG h1.next h' (.sl (some h1.next) 0 N (some N)) os∧Dig os∧os.length=N∧(∀x∈os.drop (i+n),x=0)∧val 18446744073709551616 os+18446744073709551616^(i+(i+1+k))*cc=crossF xs i+18446744073709551616^i*(w*(val 18446744073709551616 (xs.take (i+1+k))-val 18446744073709551616 (xs.take (i+1))))) (n-(i+1))
     ⟨Nat.zero_le _,hw',hle,q1,q5,q6,by first|rfl|trivial|assumption,q43,q44,by first|rfl|trivial|assumption,by first|rfl|trivial|assumption,by first|rfl|trivial|assumption,os,0,rfl,by omega,hs,hod,hol,hz,by simp[hov]⟩ (fun i ρ h hI=>hI.1) ?_
    rintro k ρ h2 ⟨hj,hw2,hle2,q1,q5,q6,q42,q43,q44,q7,q8,q10,os,cc,q9,hcc,hs,hod,hol,hz,hov⟩
    obtain⟨j,hjj⟩:∃j,j=i+1+k:=⟨_,rfl⟩
    rw[←hjj] at q10 hov
    rcases Nat.lt_or_ge j n with hyj|hyj
    ·have hyj':j<xs.length:=by omega
     obtain⟨jb,ejb,_,hgb⟩:=(hv1.mono hle2).at hyj'
     injection ejb with ejb
     subst ejb
     have hyb:=hxd _ (List.getElem_mem hyj')
     have hvy:=val_take_succ 18446744073709551616 xs j hyj'
     have hmon:=take_mono_val (xs:=xs) (i:=i+1) (j:=j) (by omega) (by omega)
     generalize xs[j]=v at*
     have hkN:i+j<os.length:=by omega
     have hob:=hod _ (List.getElem_mem hkN)
     have hset:=fun d=>valset (B:=18446744073709551616) (d:=d) hkN
     obtain⟨jo,eo,_,hgo⟩:=hs.isN.at hkN
     injection eo with eo
     subst eo
     obtain⟨i2,r2,e2,hb2,hlt2,hr2,ho2,hf2,hp2⟩:=hs.put hw2 hkN
     injection e2 with e2
     subst e2
     have ast:=addmul_step (b:=w) (w:=v) (c:=cc) (a:=os[i+j]) hxb hyb hcc hob
     generalize os[i+j]=o at*
     rw[Nat.zero_add] at hgo
     simp only[go_sem,q1,q5,q6,q42,q43,q44,q7,q8,q9,q10,ltT hyj]
     refine⟨by omega,by omega, ?_⟩
     simp only[go_sem,hgb,q8]
     refine Mul64_calls hxb hyb ?_
     simp only[go_sem,q9]
     have b1:w*v/18446744073709551616<18446744073709551616:=by
      rw[Nat.div_lt_iff_lt_mul (by omega)]
      exact Nat.mul_lt_mul_of_lt_of_le hxb (Nat.le_of_lt hyb) (by omega)
     refine Add64_calls (c:=0) (Nat.mod_lt _ (by omega)) hcc (by omega) ?_
     have b3:w*v/18446744073709551616+(w*v%18446744073709551616+cc)/18446744073709551616<18446744073709551616:=Nat.lt_of_le_of_lt (Nat.le_add_right _ _) ast.2
     have a3:IntKind.u64.wrap (((w*v/18446744073709551616:Nat):Int)+(((w*v%18446744073709551616+cc+0)/18446744073709551616:Nat):Int))=((w*v/18446744073709551616+(w*v%18446744073709551616+cc)/18446744073709551616:Nat):Int):=by rw[Nat.add_zero];exact adU b3
     have a4:=addI (a:=i) (b:=j) (by omega)
     simp only[go_sem,a3,a4,q6,q7,q10]
     refine⟨by omega,by omega, ?_⟩
     simp only[go_sem,hgo,Nat.add_zero]
     refine Add64_calls (c:=0) hob (Nat.mod_lt _ (by omega)) (by omega) ?_
     have a5:IntKind.u64.wrap (((w*v/18446744073709551616+(w*v%18446744073709551616+cc)/18446744073709551616:Nat):Int)+(((o+(w*v%18446744073709551616+cc)%18446744073709551616+0)/18446744073709551616:Nat):Int))=((w*v/18446744073709551616+(w*v%18446744073709551616+cc)/18446744073709551616+(o+(w*v%18446744073709551616+cc)%18446744073709551616)/18446744073709551616:Nat):Int):=by rw[Nat.add_zero];exact adU ast.2
     simp only[go_sem,a4,q6,q7,q10]
     refine⟨by omega,by omega, ?_⟩
     simp only[go_sem,hr2]
     refine⟨ho2,by omega, ?_⟩
     simp only[go_sem,a5,q1,q5,q6,q42,q43,q44,q7,q8,q10,incI (i:=j) (by omega)]
     refine⟨by omega,H.wf_set hw2 hlt2 _,H.le_set hw1 hle2 hb2 _,by first|rfl|trivial|assumption,by first|rfl|trivial|assumption,by first|rfl|trivial|assumption,by first|rfl|trivial|assumption,by first|rfl|trivial|assumption,by first|rfl|trivial|assumption,by first|rfl|trivial|assumption,by first|rfl|trivial|assumption,by rw[show i+1+(k+1)=j+1 by omega],_,_,by first|rfl|trivial|assumption,ast.2,hp2 ((o+(w*v%18446744073709551616+cc)%18446744073709551616+0)%18446744073709551616),hod.set _ (Nat.mod_lt _ (by omega)),by rw[List.length_set];exact hol,by rw[dropset (by omega)];exact hz, ?_⟩
     rw[show i+1+(k+1)=j+1 by omega,hvy,show val 18446744073709551616 (xs.take j)+18446744073709551616^j*v-val 18446744073709551616 (xs.take (i+1))=(val 18446744073709551616 (xs.take j)-val 18446744073709551616 (xs.take (i+1)))+18446744073709551616^j*v by omega,←Nat.add_assoc i j 1]
     refine schoolstep hov (hset _) ?_ rfl
     rw[Nat.add_zero,ast.1,Nat.mul_comm v w]
    ·obtain rfl:j=n:=by omega
     rw[show xs.take j=xs by rw[hn];exact List.take_length,←hcr] at hov
     simp only[go_sem,q1,q5,q6,q42,q43,q44,q7,q10,ltF (Nat.le_refl j)]
     exact⟨hw2,hle2,by first|rfl|trivial|assumption,by first|rfl|trivial|assumption,by first|rfl|trivial|assumption,by first|rfl|trivial|assumption,by first|rfl|trivial|assumption,by first|rfl|trivial|assumption,by first|rfl|trivial|assumption,os,cc,q9,hcc,hs,hod,hol,hz,hov⟩
   ·rintro ρ h2 ⟨hw2,hle2,q1,q5,q6,q42,q43,q44,q7,os,cc,q9,hcc,hs,hod,hol,hz,hov⟩
    have hkN:i+n<os.length:=by omega
    have a4:=addI (a:=i) (b:=n) (by omega)
    obtain⟨i2,r2,e2,hb2,hlt2,hr2,ho2,hf2,hp2⟩:=hs.put hw2 hkN
    injection e2 with e2
    subst e2
    have hset:=valset (B:=18446744073709551616) (d:=cc) hkN
    have h0:os[i+n]=0:=hz _ (by have:=List.getElem_mem (l:=os.drop (i+n)) (n:=0) (by simp;omega);simpa using this)
    rw[h0,Nat.mul_zero,Nat.add_zero] at hset
    simp only[go_sem,q1,q5,q6,q7,q9,a4]
    refine⟨by omega,by omega, ?_⟩
    simp only[go_sem,hr2]
    refine⟨ho2,by omega, ?_⟩
    simp only[go_sem,q1,q5,q6,q42,q43,q44,incI (i:=i) (by omega)]
    refine⟨by omega,H.wf_set hw2 hlt2 _,H.le_set hw1 hle2 hb2 _,by first|rfl|trivial|assumption,by first|rfl|trivial|assumption,by first|rfl|trivial|assumption,by first|rfl|trivial|assumption,by first|rfl|trivial|assumption,by first|rfl|trivial|assumption,_,hp2 cc,hod.set _ hcc,by rw[List.length_set];exact hol,fun x hx=> ?_, ?_⟩
    ·rw[show i+1+n=i+n+1 by omega,dropset (by omega)] at hx
     exact hz x (by rw[List.drop_eq_getElem_cons hkN];exact List.mem_cons_of_mem _ hx)
    ·rw[hset,hov]
  ·obtain rfl:i=n:=by omega
   simp only[go_sem,q1,q5,q6,q42,q43,q44,ltF (Nat.le_refl i)]
   exact⟨hw',hle,by first|rfl|trivial|assumption,by first|rfl|trivial|assumption,os,hs,hod,hol,hov⟩
 ·rintro ρ h2 ⟨hw2,hle2,q1,q6,os0,hs0,hod0,hol0,hov0⟩
  simp only[go_sem,q1,q6]
  refine loop_cut (fun ρ h'=>h'.wf∧h1.le h'∧ρ 6= .sl (some h1.next) 0 N (some N)∧∃os,IsG h1.next h' (.sl (some h1.next) 0 N (some N)) os∧Dig os∧os.length=N∧val 18446744073709551616 os=val 18446744073709551616 xs*val 18446744073709551616 xs) ?_ ?_
  ·refine for_rule (fun i ρ h'=>i≤n∧h'.wf∧h1.le h'∧ρ 6= .sl (some h1.next) 0 N (some N)∧ρ 100= .sl id off n c∧ρ 101= .int .i64 (n:Int)∧ρ 102= .int .i64 (i:Int)∧∃os cc hh,ρ 15= .int .u64 (cc:Nat)∧ρ 16= .int .u64 (hh:Nat)∧cc≤1∧hh≤1∧IsG h1.next h' (.sl (some h1.next) 0 N (some N)) os∧Dig os∧os.length=N∧os.drop (2*i)=os0.drop (2*i)∧val 18446744073709551616 (os.take (2*i))+18446744073709551616^(2*i)*(hh+cc)=2*val 18446744073709551616 (os0.take (2*i))+selfF xs i) n
    ⟨by omega,hw2,hle2,by first|rfl|trivial|assumption,by first|rfl|trivial|assumption,by first|rfl|trivial|assumption,by first|rfl|trivial|assumption,os0,0,0,by first|rfl|trivial|assumption,by first|rfl|trivial|assumption,by omega,by omega,hs0,hod0,hol0,rfl,by simp[val,selfF]⟩ (fun i ρ h hI=>hI.1) ?_
   rintro i ρ h3 ⟨hi,hw3,hle3,q6,q100,q101,q102,os,cc,hh,q15,q16,hcc,hhh,hs,hod,hol,hdr,hov⟩
   rcases Nat.lt_or_ge i n with hxi|hxi
   ·have hxi':i<xs.length:=by omega
    obtain⟨ja,rfl,_,hga⟩:=(hv1.mono hle3).at hxi'
    have hxb:=hxd _ (List.getElem_mem hxi')
    have hgd:xs.getD i 0=xs[i]:=by rw[List.getD_eq_getElem?_getD,List.getElem?_eq_getElem hxi'];rfl
    have hsf:selfF xs (i+1)=selfF xs i+18446744073709551616^(2*i)*(xs[i]*xs[i]):=by rw[selfF,hgd]
    have k1:2*i<os.length:=by omega
    have k2:2*i+1<os.length:=by omega
    have k3:2*i<os0.length:=by omega
    have k4:2*i+1<os0.length:=by omega
    have x1:os0[2*i]=os[2*i]:=by
     have h5:=congrArg (fun l=>l[0]?) hdr
     simp only[List.getElem?_drop,Nat.add_zero,List.getElem?_eq_getElem k1,List.getElem?_eq_getElem k3] at h5
     injection h5 with h5
     exact h5.symm
    have x2:os0[2*i+1]=os[2*i+1]:=by
     have h5:=congrArg (fun l=>l[1]?) hdr
     simp only[List.getElem?_drop,List.getElem?_eq_getElem k2,List.getElem?_eq_getElem k4] at h5
     injection h5 with h5
     exact h5.symm
    have v1:=val_take_succ 18446744073709551616 os0 (2*i) k3
    have v2:=val_take_succ 18446744073709551616 os0 (2*i+1) k4
    rw[x1] at v1
    rw[x2,v1] at v2
    have hxx:=hod _ (List.getElem_mem k1)
    have hyy:=hod _ (List.getElem_mem k2)
    obtain⟨jo,eo,_,hg1⟩:=hs.isN.at k1
    injection eo with eo
    subst eo
    obtain⟨jo,eo,_,hg2⟩:=hs.isN.at k2
    injection eo with eo
    subst eo
    obtain⟨i2,r2,e2,hb2,hlt2,hr2,ho2,hf2,hp2⟩:=hs.put hw3 k1
    injection e2 with e2
    subst e2
    rw[Nat.zero_add] at hg1 hg2
    generalize xs[i]=w at*
    generalize os[2*i]=x at*
    generalize os[2*i+1]=y at*
    have m1:IntKind.i64.wrap (2*(i:Int))=((2*i:Nat):Int):=mulI (a:=2) (b:=i) (by omega)
    have m2:=incI (i:=2*i) (by omega)
    have s1:=shl64 (w:=x) (s:=1) (t:=hh) hxx (by omega) (by omega)
    have s2:=shl64 (w:=y) (s:=1) (t:=x/2^63) hyy (by omega) (by omega)
    rw[bOr_comm,Nat.pow_one] at s1 s2
    have s3:bShr .u64 (x:Int) 63=((x/2^63:Nat):Int):=shrU (by omega)
    have s4:bShr .u64 (y:Int) 63=((y/2^63:Nat):Int):=shrU (by omega)
    simp only[go_sem,q6,q100,q101,q102,ltT hxi]
    refine⟨by omega,by omega, ?_⟩
    simp only[go_sem,hga,q6,q100,q101,q102]
    refine Mul64_calls hxb hxb ?_
    simp only[go_sem,q6,m1,m2]
    refine⟨by omega,by omega, ?_⟩
    simp only[go_sem,q6,hg1,m1,m2]
    refine⟨by omega,by omega, ?_⟩
    simp only[go_sem,q6,hg2,m1,m2,q16,q15,show(1:Int).toNat=1 from rfl,s1.1]
    have b1:w*w/18446744073709551616<18446744073709551616:=by
     rw[Nat.div_lt_iff_lt_mul (by omega)]
     exact Nat.mul_lt_mul_of_lt_of_le hxb (Nat.le_of_lt hxb) (by omega)
    refine⟨by omega, ?_⟩
    refine Add64_calls s1.2.1 (Nat.mod_lt _ (by omega)) hcc ?_
    have hd1:(x*2%18446744073709551616+hh+w*w%18446744073709551616+cc)/18446744073709551616≤1:=by
     have:=s1.2.1
     omega
    simp only[go_sem,q6,m1,m2]
    refine⟨by omega,by omega, ?_⟩
    simp only[go_sem,hr2]
    refine⟨ho2,by omega, ?_⟩
    obtain⟨z1,hz1⟩:∃z,z=(x*2%18446744073709551616+hh+w*w%18446744073709551616+cc)%18446744073709551616:=⟨_,rfl⟩
    obtain⟨d1,hd1'⟩:∃z,z=(x*2%18446744073709551616+hh+w*w%18446744073709551616+cc)/18446744073709551616:=⟨_,rfl⟩
    have hsum1:z1+18446744073709551616*d1=x*2%18446744073709551616+hh+w*w%18446744073709551616+cc:=by rw[hz1,hd1'];exact Nat.mod_add_div _ _
    have hz1b:z1<18446744073709551616:=by rw[hz1];exact Nat.mod_lt _ (by omega)
    have hG4:=hp2 z1
    rw[←hz1,←hd1']
    rw[←hd1'] at hd1
    have hw4:=H.wf_set hw3 hlt2 {r2 with cells:=putAt r2.cells (2*i) [AV.int .u64 (z1:Int)]}
    have hl4:=H.le_set hw1 hle3 hb2 {r2 with cells:=putAt r2.cells (2*i) [AV.int .u64 (z1:Int)]}
    generalize h3.set h1.next {r2 with cells:=putAt r2.cells (2*i) [AV.int .u64 (z1:Int)]}=h4 at*
    refine⟨by decide,by decide, ?_⟩
    rw[s3,s2.1]
    refine Add64_calls s2.2.1 b1 hd1 ?_
    obtain⟨z2,hz2⟩:∃z,z=(y*2%18446744073709551616+x/2^63+w*w/18446744073709551616+d1)%18446744073709551616:=⟨_,rfl⟩
    obtain⟨c2,hc2⟩:∃z,z=(y*2%18446744073709551616+x/2^63+w*w/18446744073709551616+d1)/18446744073709551616:=⟨_,rfl⟩
    have hsum2:z2+18446744073709551616*c2=y*2%18446744073709551616+x/2^63+w*w/18446744073709551616+d1:=by rw[hz2,hc2];exact Nat.mod_add_div _ _
    have hz2b:z2<18446744073709551616:=by rw[hz2];exact Nat.mod_lt _ (by omega)
    have hc2b:c2≤1:=by
     have:=s2.2.1
     omega
    have hyb:y/2^63≤1:=by omega
    rw[←hz2,←hc2]
    obtain⟨i3,r3,e3,hb3,hlt3,hr3,ho3,hf3,hp3⟩:=hG4.put hw4 (j:=2*i+1) (by rw[List.length_set];omega)
    injection e3 with e3
    subst e3
    simp only[go_sem,q6,m1,m2]
    refine⟨by omega,by omega, ?_⟩
    simp only[go_sem,hr3]
    refine⟨ho3,by omega, ?_⟩
    simp only[go_sem,s4,q6,q100,q101,q102,incI (i:=i) (by omega)]
    have hdw:=dbl_words hxx hyy (Nat.div_add_mod' (w*w) 18446744073709551616) hsum1 hsum2
    have e2i:18446744073709551616^(2*i+1)=18446744073709551616^(2*i)*18446744073709551616:=Nat.pow_succ ..
    have e2j:18446744073709551616^(2*(i+1))=18446744073709551616^(2*i)*(18446744073709551616*18446744073709551616):=by rw[show 2*(i+1)=2*i+1+1 by omega,Nat.pow_succ,e2i,Nat.mul_assoc]
    refine⟨by decide,by omega,H.wf_set hw4 hlt3 _,H.le_set hw1 hl4 hb3 _,by first|rfl|trivial|assumption,by first|rfl|trivial|assumption,by first|rfl|trivial|assumption,by first|rfl|trivial|assumption,_,c2,y/2^63,by first|rfl|trivial|assumption,by first|rfl|trivial|assumption,hc2b,hyb,hp3 z2,(hod.set _ hz1b).set _ hz2b,by rw[List.length_set,List.length_set];exact hol, ?_, ?_⟩
    ·rw[twoset_drop,show 2*(i+1)=2*i+2 by omega,←List.drop_drop,hdr,List.drop_drop]
    ·rw[twoset k2,val_append,List.length_take,Nat.min_eq_left (by omega),val_two,e2j,hsf,show 2*(i+1)=2*i+1+1 by omega,v2,e2i,Nat.add_assoc (val 18446744073709551616 (os0.take (2*i))),Nat.mul_assoc (18446744073709551616^(2*i)) 18446744073709551616 y,←Nat.mul_add]
     exact dbl_step hov hdw
   ·obtain rfl:i=n:=by omega
    rw[List.take_of_length_le (by omega),List.take_of_length_le (by omega),hov0] at hov
    have hca:=cross_all (xs:=xs)
    rw[←hn] at hca
    rw[hca] at hov
    have hvl:=val_lt 18446744073709551616 (by omega) xs hxd
    rw[←hn] at hvl
    have hv2:val 18446744073709551616 xs*val 18446744073709551616 xs<18446744073709551616^i*18446744073709551616^i:=Nat.mul_lt_mul_of_lt_of_le hvl (Nat.le_of_lt hvl) (Nat.pow_pos (by omega))
    rw[←Nat.pow_add,show i+i=2*i by omega] at hv2
    have hz:hh+cc=0:=by
     rcases Nat.eq_zero_or_pos (hh+cc) with h5|h5
     ·exact h5
     ·have:=Nat.le_mul_of_pos_right (18446744073709551616^(2*i)) h5
      omega
    rw[hz,Nat.mul_zero,Nat.add_zero] at hov
    simp only[go_sem,q6,q100,q101,q102,ltF (Nat.le_refl i)]
    exact⟨hw3,hle3,by first|rfl|trivial|assumption,os,hs,hod,hol,hov⟩
  ·rintro ρ h3 ⟨hw3,hle3,q6,os,hs,hod,hol,hov⟩
   simp only[go_sem,q6]
   refine Norm_calls ⟨os,hs.isN,hod,by omega,hov⟩ fun r h4 hw4 hl4 hr=> ?_
   simp only[go_sem]
   exact fun _=>hk r h4 _ hw4 (hl1.trans (H.le_trans hle3 hl4).lee) ((ht1.mono hle3).mono hl4) (hr.base (by have:=hle3.1;omega))
end Ab
end Go.Proofs.YtnlkbdmmoplkoaaGreatDoor
