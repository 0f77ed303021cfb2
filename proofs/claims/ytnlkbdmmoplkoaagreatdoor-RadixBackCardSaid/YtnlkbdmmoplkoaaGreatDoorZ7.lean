/- Joined texts: L3 H6 C6 M7 G1 G5 G7. No condition. -/
import Derived.Test.YtnlkbdmmoplkoaaGreatDoorZ6
import Derived.Carry
import Derived.Deep.Slices
import Derived.Test.YtnlkbdmmoplkoaaGreatDoorProg
import Derived.KernelRfl
namespace Go.Proofs.YtnlkbdmmoplkoaaGreatDoor
namespace Ab
open Go Go.RowKit
set_option linter.unusedSimpArgs false
set_option linter.unusedVariables false
attribute [local go_sem ↓] x_mv x_pick x_bin x_beq x_peq x_seq x_cat x_aeq x_idxS x_idxV x_un x_cvI x_bts x_idx x_idxA x_fld x_ld x_st x_nn x_prt x_slc x_mk x_bsl x_bld x_box x_alloc x_len x_capo x_mnx x_app x_cpy x_mkf x_ext x_call x_callV x_bad s_none s_some s_nil s_cons s_chks w_skip w_reg tP_fin tP_no tP_alt w_seq w_cond w_block w_exit w_ret t_normal t_exit t_ret b_normal b_ret b_exit n_normal n_exit n_ret p_normal p_ret f_nil f_t f_c k_ops k_chk k_fin
attribute [local go_sem] e_t e_c e_f u_some u_none u_at env_at k_v k_pick k_add k_sub k_mul k_quo k_rem k_and k_or k_xor k_shl k_shr k_eql k_neq k_lss k_leq k_gtr k_geq k_beq k_peqn k_peqs k_neg k_not k_com k_cvI k_idxS k_idxV1 k_idxVn k_idx k_idxA k_idxG k_ldG k_gld k_seq k_cat k_aeq k_eqs k_fld k_ld1 k_ldn k_get k_gets k_sti k_stb k_stp k_sts k_stf k_sta k_put k_nn k_prt1 k_prtn k_slc_a k_slc_b k_slc_c k_mk k_agg k_bsl k_box k_len k_lenS k_cap k_max k_min k_ext k_callV k_true k_false k_gtt k_gtf k_gft k_gsk k_gff k_lit1i k_lit2i k_lit3i k_c0 k_c1 k_ck List.getElem?_cons_zero List.getElem?_cons_succ List.getElem?_nil Option.getD_some Option.getD_none tupOf List.map_cons List.map_nil Option.map_some Option.map_none List.nil_append List.cons_append List.append_nil Nat.mul_one Int.toNat_natCast Nat.zero_add
attribute [local go_sem] e_t e_c e_f u_some u_none u_at env_at k_v k_pick k_add k_sub k_mul k_quo k_rem k_and k_or k_xor k_shl k_shr k_eql k_neq k_lss k_leq k_gtr k_geq k_beq k_peqn k_peqs k_neg k_not k_com k_cvI k_idxS k_idxV1 k_idxVn k_idx k_idxA k_idxG k_ldG k_gld k_seq k_cat k_aeq k_eqs k_fld k_ld1 k_ldn k_get k_gets k_sti k_stb k_stp k_sts k_stf k_sta k_put k_nn k_prt1 k_prtn k_slc_a k_slc_b k_slc_c k_mk k_agg k_bsl k_box k_len k_lenS k_cap k_max k_min k_ext k_callV k_true k_false k_gtt k_gtf k_gft k_gsk k_gff k_lit1i k_lit2i k_lit3i k_c0 k_c1 k_ck List.getElem?_cons_zero List.getElem?_cons_succ List.getElem?_nil Option.getD_some Option.getD_none tupOf List.map_cons List.map_nil Option.map_some Option.map_none List.nil_append List.cons_append List.append_nil Nat.mul_one Int.toNat_natCast Nat.zero_add
--what a store into a cell of two leaves
attribute [local go_sem_proc] Nat.reduceEqDiff Nat.reduceAdd Int.reduceToNat
attribute [local go_sem_proc ↓] reduceIte
attribute [local go_sem] Bool.false_eq_true
section
set_option maxRecDepth 100000
section
variable {h:H} {u:AV}
theorem reads_int {t:TypeId} {k:IntKind} (ht:Tryz.prog.underlying t=some (.int k)) (r:ReadsV Tryz.prog h t u):∃n:Int,u= .int k n∧(Lit.int k n).wf=true:=by
 unfold ReadsV at r
 rw[ht] at r
 cases r with
 |int ht' hw=>rw[ht] at ht';injection ht' with e;injection e with e;subst e;exact⟨_,rfl,hw⟩
 |bool ht'=>rw[ht] at ht';cases ht'
 |str ht'=>rw[ht] at ht';cases ht'
 |snil ht'=>rw[ht] at ht';cases ht'
 |sl ht'=>rw[ht] at ht';cases ht'
 |struct ht'=>rw[ht] at ht';cases ht'
theorem reads_u64 (r:ReadsV Tryz.prog h 54 u):∃n:Nat,u= .int .u64 (n:Int)∧n<18446744073709551616:=by
 obtain⟨n,rfl,hw⟩:=reads_int Tryz.underlying54 r
 obtain⟨m,rfl,hm⟩:=wf_u64 hw
 exact⟨m,rfl,hm⟩
theorem reads_i64 (r:ReadsV Tryz.prog h 3 u):∃n:Int,u= .int .i64 n∧-9223372036854775808≤n∧n<9223372036854775808:=by
 obtain⟨n,rfl,hw⟩:=reads_int Tryz.underlying3 r
 exact⟨n,rfl,wf_i64 hw⟩
theorem reads_bool (r:ReadsV Tryz.prog h 4 u):∃b:Bool,u= .bool b:=by
 have ht:=Tryz.underlying4
 unfold ReadsV at r
 rw[ht] at r
 cases r with
 |int ht' hw=>rw[ht] at ht';cases ht'
 |bool ht'=>exact⟨_,rfl⟩
 |str ht'=>rw[ht] at ht';cases ht'
 |snil ht'=>rw[ht] at ht';cases ht'
 |sl ht'=>rw[ht] at ht';cases ht'
 |struct ht'=>rw[ht] at ht';cases ht'
theorem cell_int {t:TypeId} {k:IntKind} (ht:Tryz.prog.underlying t=some (.int k)) {l:List AV} (r:Reads Tryz.prog h t l):∃n:Int,l=[.int k n]∧(Lit.int k n).wf=true:=by
 cases r with
 |int ht' hw=>rw[ht] at ht';injection ht' with e;injection e with e;subst e;exact⟨_,rfl,hw⟩
 |bool ht'=>rw[ht] at ht';cases ht'
 |str ht'=>rw[ht] at ht';cases ht'
 |snil ht'=>rw[ht] at ht';cases ht'
 |sl ht'=>rw[ht] at ht';cases ht'
 |struct ht'=>rw[ht] at ht';cases ht'
theorem cell_ints {t e:TypeId} {k:IntKind} (ht:Tryz.prog.underlying t=some (.slice e)) (he:Tryz.prog.underlying e=some (.int k)) (hz:Tryz.prog.cellsOf e=1) {l:List AV} (r:Reads Tryz.prog h t l):∃v xs,l=[v]∧IsW k h v xs∧(∀x∈xs,(Lit.int k x).wf=true)∧xs.length≤maxLen:=by
 cases r with
 |int ht' hw=>rw[ht] at ht';cases ht'
 |bool ht'=>rw[ht] at ht';cases ht'
 |str ht'=>rw[ht] at ht';cases ht'
 |snil ht'=>exact⟨_,[],rfl,⟨none,0,none,rfl, .inl ⟨rfl,rfl,rfl⟩⟩,fun x hx=>(by cases hx),sM⟩
 |struct ht'=>rw[ht] at ht';cases ht'
 | @sl _ e' id len r ht' hr ho hlen hl hall=>
  rw[ht] at ht'
  injection ht' with e1
  injection e1 with e1
  subst e1
  rw[hz,Nat.mul_one] at hl
  have hall':∀i,(hi:i<len)→∃n:Int,r.cells[i]? =some (.int k n)∧(Lit.int k n).wf=true:=by
   intro i hi
   obtain⟨n,e2,hw⟩:=cell_int he (hall i hi)
   refine⟨n, ?_,hw⟩
   rw[hz,Nat.mul_one] at e2
   have:=congrArg (fun l=>l[0]?) e2
   simpa [List.getElem?_take,List.getElem?_drop] using this
  let xs:List Int:=r.cells.map fun v=>match v with| .int _ n=>n|_=>0
  have hx:∀i:Nat,i<len→∃n,r.cells[i]? =some (.int k n)∧xs[i]? =some n∧(Lit.int k n).wf=true:=by
   intro i hi
   obtain⟨n,h1,h2⟩:=hall' i hi
   exact⟨n,h1,by simp[xs,h1],h2⟩
  have hxl:xs.length=len:=by simp[xs,hl]
  refine⟨_,xs,rfl,⟨some id,0,none,by rw[hxl], .inr ⟨id,r,rfl,hr, .inl ho,oM, ?_⟩⟩,fun x hm=> ?_,by rw[hxl];exact hlen⟩
  ·rw[List.drop_zero,List.take_of_length_le oM]
   apply List.ext_getElem?
   intro i
   rw[W_get]
   rcases Nat.lt_or_ge i len with hi|hi
   ·obtain⟨n,h1,h2,_⟩:=hx i hi
    rw[h1,h2];rfl
   ·rw[List.getElem?_eq_none oM,List.getElem?_eq_none oM];rfl
  ·obtain⟨i,hi,rfl⟩:=List.getElem_of_mem hm
   obtain⟨n,_,h2,h3⟩:=hx i oM
   rw[List.getElem?_eq_getElem hi] at h2
   injection h2 with h2
   rw[h2]
   exact h3
theorem readsV_slice {t e:TypeId} (ht:Tryz.prog.underlying t=some (.slice e)) (r:ReadsV Tryz.prog h t u):Reads Tryz.prog h t [u]:=by
 unfold ReadsV at r
 rw[ht] at r
 exact r
theorem nats {xs:List Int} (hx:∀x∈xs,(Lit.int .u64 x).wf=true):∃ys:List Nat,xs=ys.map (fun n:Nat=>(n:Int))∧∀y∈ys,y<18446744073709551616:=by
 induction xs with
 |nil=>exact⟨[],rfl,sM⟩
 |cons x xs ih=>
  obtain⟨ys,e,hy⟩:=ih (fun z hz=>hx z (by simp[hz]))
  obtain⟨m,rfl,hm⟩:=wf_u64 (hx x sM)
  refine⟨m::ys,by simp[e],fun y hy2=> ?_⟩
  rcases List.mem_cons.1 hy2 with rfl|h2
  ·exact hm
  ·exact hy y h2
theorem cell_words {t:TypeId} (ht:Tryz.prog.underlying t=some (.slice 54)) {l:List AV} (r:Reads Tryz.prog h t l):∃v xs,l=[v]∧IsN h v xs∧(∀x∈xs,x<18446744073709551616)∧xs.length≤maxLen:=by
 obtain⟨v,xs,rfl,h1,h2,h3⟩:=cell_ints ht Tryz.underlying54 (by kernel_rfl) r
 obtain⟨ys,rfl,hy⟩:=nats h2
 exact⟨v,ys,rfl,h1,hy,by simpa using h3⟩
theorem reads_words (r:ReadsV Tryz.prog h 24 u):∃xs,IsN h u xs∧(∀x∈xs,x<18446744073709551616)∧xs.length≤maxLen:=by
 obtain⟨v,xs,e,h1,h2,h3⟩:=cell_words (by kernel_rfl) (readsV_slice (e:=54) (by kernel_rfl) r)
 injection e with e
 subst e
 exact⟨xs,h1,h2,h3⟩
end
end
def tuneCells (t:Tb):List AV:=[.int .i64 0, .int .i64 0, .int .i64 0]++t.cells
theorem New_calls {t:Tb} {h:H} {K:AV→H→Prop} (hk:∀id h',h'.wf→h.le h'→h.next≤id→h'.rows id=some ⟨some 180,14,tuneCells (clampT t)⟩→K (.ptr (some (id,0))) h'):ACalls Tryz.prog 247 [t.av] h K:=by
 refine in_table_New sM fun hw=> ?_
 unfold c_table_New
 have hl1:=H.le_new hw (H.le_refl h) ⟨some 23,11,t.cells⟩
 simp only[go_sem,av_held,av_cells,cells_len,true_and,gsT (H.rows_new h _)]
 refine Clamp_calls fun h1 hw1 hl2=> ?_
 simp only[go_sem]
 simp only[bld14,go_sem]
 exact⟨rfl,fun hw'=>hk _ _ hw' (H.le_new hw1 (H.le_trans hl1 hl2) _) (Nat.le_trans (Nat.le_succ _) hl2.1) (H.rows_new _ _)⟩
theorem routeT_comm {t:Tb} {n m:Int}:routeT t n m=routeT t m n:=by
 unfold routeT
 rw[Int.max_comm,Int.min_comm]
 congr 1
 simp only[eq_iff_iff]
 omega
theorem costT_comm {t:Tb} {n m:Nat}:costT t n m=costT t m n:=by unfold costT;rw[Nat.max_comm,Nat.min_comm]
theorem costT_le {t:Tb} {n m:Nat} (hn:n≤16384) (hm:m≤16384):costT t n m≤8*(n*m):=by
 have:=cost_bound (clamp_isT t).ok 20000 (max n m) (min n m) oM oM oM
 have e:max n m*min n m=n*m:=by
  rcases Nat.le_total n m with h|h
  ·rw[Nat.max_eq_right h,Nat.min_eq_left h,Nat.mul_comm]
  ·rw[Nat.max_eq_left h,Nat.min_eq_right h]
 rw[e] at this
 exact this
section
open Go
def c_divs_Engine_Long:AC:= .seq (.reg [o 6 (.mv (.c (.sl none 0 0 none))),o 7 (.mv (.c (.sl none 0 0 none))),o 8 (.mv (i64 0))]) (.seq (.reg [mv 21 1,o 22 (.call 52 [.t 21]),mv 23 2,o 24 (.call 52 [.t 23]),mv 9 22,mv 10 24]) (.seq (.seq (.reg [mv 25 10,o 26 (.bin .eql (.t 25) (i64 0))]) (.cond (.t 26) (.seq (.reg [o 6 (.mv (.c (.sl none 0 0 none))),o 7 (.mv (.c (.sl none 0 0 none))),o 8 (.mv (i64 2))]) .ret) .skip)) (.seq (.seq (.reg [mv 27 9,mv 28 10,bn 29 .lss 27 28]) (.cond (.t 29) (.seq (.reg [mv 30 1,o 31 (.call 107 [.t 30]),o 6 (.mv (.c (.sl none 0 0 none))),mv 7 31,o 8 (.mv (i64 0))]) .ret) .skip)) (.seq (.reg [mv 32 0,o 33 (.nn (.t 32)),o 34 (.fld 0 (.t 33)),o 35 (.ld none (.t 34)),o 36 (.nn (.t 35)),o 37 (.fld 0 (.t 36)),o 38 (.ld none (.t 37)),o 39 (.nn (.t 38)),o 40 (.fld 0 (.t 39)),o 41 (.ld none (.t 40)),o 42 (.nn (.t 41)),o 43 (.fld 0 (.t 42)),o 44 (.ld none (.t 43)),o 45 (.nn (.t 44)),o 46 (.fld 0 (.t 45)),o 47 (.ld none (.t 46)),o 48 (.nn (.t 47)),o 49 (.fld 0 (.t 48)),mv 50 9,mv 51 10,bn 52 .sub 50 51,o 53 (.bin .add (.t 52) (i64 1)),mv 54 10,o 55 (.bin .add (.t 54) (i64 1)),bn 56 .mul 53 55,o 57 (.call 144 [.t 49, .t 56])]) (.seq (.seq (.reg [mv 58 10,o 59 (.bin .eql (.t 58) (i64 1))]) (.cond (.t 59) (.seq (.reg [mv 61 1,mv 62 2,o 63 (.idx 1 (.t 62) (i64 0)),o 64 (.ld none (.t 63)),o 65 (.call 145 [.t 61, .t 64]),mv 60 65,o 66 (.ext (.t 60) 0),o 67 (.ext (.t 60) 1),o 68 (.ext (.t 60) 2),mv 11 66,mv 12 67,mv 13 68]) (.seq (.reg [mv 69 11,mv 70 12,o 71 (.call 97 [.t 70]),mv 6 69,mv 7 71,o 8 (.mv (i64 0))]) .ret)) .skip)) (.seq (.reg [mv 72 2,mv 73 10,o 74 (.bin .sub (.t 73) (i64 1)),o 75 (.idx 1 (.t 72) (.t 74)),o 76 (.ld none (.t 75)),o 77 (.call 146 [.t 76]),mv 14 77]) (.seq (.reg [mv 78 2,mv 79 14,o 80 (.call 147 [.t 78, .t 79]),mv 15 80]) (.seq (.reg [mv 81 9,o 82 (.bin .add (.t 81) (i64 1)),o 83 (.mk 54 1 8 [.int .u64 0] (.t 82) (.t 82)),mv 16 83]) (.seq (.reg [mv 84 16,mv 85 1,mv 86 14,o 87 (.call 147 [.t 85, .t 86]),o 88 (.cpy 1 (.t 84) (.t 87))]) (.seq (.reg [mv 90 15,mv 91 10,o 92 (.bin .sub (.t 91) (i64 1)),o 93 (.idx 1 (.t 90) (.t 92)),o 94 (.ld none (.t 93)),mv 95 15,mv 96 10,o 97 (.bin .sub (.t 96) (i64 2)),o 98 (.idx 1 (.t 95) (.t 97)),o 99 (.ld none (.t 98)),o 100 (.call 148 [.t 94, .t 99]),mv 89 100,o 101 (.ext (.t 89) 0),o 102 (.ext (.t 89) 1),mv 17 101,mv 18 102]) (.seq (.reg [mv 103 9,mv 104 10,bn 105 .sub 103 104,o 106 (.bin .add (.t 105) (i64 1)),o 107 (.mk 54 1 8 [.int .u64 0] (.t 106) (.t 106)),mv 19 107]) (.seq (.seq (.reg [mv 108 9,mv 109 10,bn 110 .sub 108 109,mv 20 110]) (.block 0 (.loop (.seq (.seq (.reg [mv 111 20,o 112 (.bin .geq (.t 111) (i64 0))]) (.cond (.t 112) .skip (.exit 0))) (.seq (.block 1 (.reg [mv 115 19,mv 116 20,mv 117 16,mv 118 20,mv 119 20,mv 120 10,bn 121 .add 119 120,o 122 (.bin .add (.t 121) (i64 1)),o 123 (.slc 1 (.t 117) (some (.t 118)) (some (.t 122))),mv 124 15,mv 125 17,o 126 (.call 149 [.t 123, .t 124, .t 125]),o 127 (.idx 1 (.t 115) (.t 116)),od (.st 1 (.t 127) (.t 126))])) (.reg [mv 113 20,o 114 (.bin .sub (.t 113) (i64 1)),mv 20 114])))))) (.seq (.reg [mv 128 19,o 129 (.call 107 [.t 128]),mv 130 16,mv 131 14,o 132 (.call 150 [.t 130, .t 131]),mv 6 129,mv 7 132,o 8 (.mv (i64 0))]) .ret)))))))))))))
theorem in_divs_Engine_Long:Ent 126 133 c_divs_Engine_Long [.t 6, .t 7, .t 8]:=en Tryz.func126 rfl
def c_divs_digit:AC:= .seq (.reg [o 6 (.mv (u64 0))]) (.seq (.reg [mv 20 1,o 21 (.len false (.t 20)),mv 7 21]) (.seq (.reg [mv 23 0,mv 24 7,o 25 (.idx 1 (.t 23) (.t 24)),o 26 (.ld none (.t 25)),mv 27 0,mv 28 7,o 29 (.bin .sub (.t 28) (i64 1)),o 30 (.idx 1 (.t 27) (.t 29)),o 31 (.ld none (.t 30)),mv 32 0,mv 33 7,o 34 (.bin .sub (.t 33) (i64 2)),o 35 (.idx 1 (.t 32) (.t 34)),o 36 (.ld none (.t 35)),mv 37 1,mv 38 7,o 39 (.bin .sub (.t 38) (i64 1)),o 40 (.idx 1 (.t 37) (.t 39)),o 41 (.ld none (.t 40)),mv 42 1,mv 43 7,o 44 (.bin .sub (.t 43) (i64 2)),o 45 (.idx 1 (.t 42) (.t 44)),o 46 (.ld none (.t 45)),mv 47 2,o 48 (.call 174 [.t 26, .t 31, .t 36, .t 41, .t 46, .t 47]),mv 22 48,o 49 (.ext (.t 22) 0),o 50 (.ext (.t 22) 1),o 51 (.ext (.t 22) 2),o 52 (.ext (.t 22) 3),mv 8 49,mv 9 50,mv 10 51,mv 11 52]) (.seq (.seq (.reg [mv 53 11,o 54 (.un .not (.t 53))]) (.cond (.t 54) (.reg [o 8 (.mv (u64 18446744073709551615))]) .skip)) (.seq (.reg [o 12 (.mv (u64 0))]) (.seq (.seq (.reg [o 13 (.mv (i64 0))]) (.block 0 (.loop (.seq (.seq (.reg [mv 55 13,mv 56 7,bn 57 .lss 55 56]) (.cond (.t 57) .skip (.exit 0))) (.seq (.block 1 (.seq (.reg [mv 61 8,mv 62 1,mv 63 13,o 64 (.idx 1 (.t 62) (.t 63)),o 65 (.ld none (.t 64)),o 66 (.call 164 [.t 61, .t 65]),mv 60 66,o 67 (.ext (.t 60) 0),o 68 (.ext (.t 60) 1),mv 14 67,mv 15 68]) (.seq (.reg [mv 70 15,mv 71 12,o 72 (.call 131 [.t 70, .t 71,u64 0]),mv 69 72,o 73 (.ext (.t 69) 0),o 74 (.ext (.t 69) 1),mv 15 73,mv 16 74]) (.seq (.reg [mv 75 14,mv 76 16,bn 77 .add 75 76,mv 14 77]) (.seq (.reg [mv 79 0,mv 80 13,mv 81 0,mv 82 13,o 83 (.idx 1 (.t 81) (.t 82)),o 84 (.ld none (.t 83)),mv 85 15,o 86 (.call 132 [.t 84, .t 85,u64 0]),mv 78 86,o 87 (.ext (.t 78) 0),o 88 (.ext (.t 78) 1),o 89 (.idx 1 (.t 79) (.t 80)),od (.st 1 (.t 89) (.t 87)),mv 16 88]) (.reg [mv 90 14,mv 91 16,bn 92 .add 90 91,mv 12 92])))))) (.reg [mv 58 13,o 59 (.bin .add (.t 58) (i64 1)),mv 13 59])))))) (.seq (.reg [mv 94 0,mv 95 7,o 96 (.idx 1 (.t 94) (.t 95)),o 97 (.ld none (.t 96)),mv 98 12,o 99 (.call 132 [.t 97, .t 98,u64 0]),mv 93 99,o 100 (.ext (.t 93) 0),o 101 (.ext (.t 93) 1),mv 17 100,mv 18 101]) (.seq (.reg [mv 102 0,mv 103 7,mv 104 17,o 105 (.idx 1 (.t 102) (.t 103)),od (.st 1 (.t 105) (.t 104))]) (.seq (.block 2 (.loop (.seq (.seq (.reg [mv 106 18,o 107 (.bin .neq (.t 106) (u64 0))]) (.cond (.t 107) .skip (.exit 2))) (.block 3 (.seq (.reg [mv 108 8,o 109 (.bin .sub (.t 108) (u64 1)),mv 8 109]) (.seq (.reg [o 12 (.mv (u64 0))]) (.seq (.seq (.reg [o 19 (.mv (i64 0))]) (.block 4 (.loop (.seq (.seq (.reg [mv 110 19,mv 111 7,bn 112 .lss 110 111]) (.cond (.t 112) .skip (.exit 4))) (.seq (.block 5 (.reg [mv 116 0,mv 117 19,mv 118 0,mv 119 19,o 120 (.idx 1 (.t 118) (.t 119)),o 121 (.ld none (.t 120)),mv 122 1,mv 123 19,o 124 (.idx 1 (.t 122) (.t 123)),o 125 (.ld none (.t 124)),mv 126 12,o 127 (.call 131 [.t 121, .t 125, .t 126]),mv 115 127,o 128 (.ext (.t 115) 0),o 129 (.ext (.t 115) 1),o 130 (.idx 1 (.t 116) (.t 117)),od (.st 1 (.t 130) (.t 128)),mv 12 129])) (.reg [mv 113 19,o 114 (.bin .add (.t 113) (i64 1)),mv 19 114])))))) (.seq (.reg [mv 132 0,mv 133 7,mv 134 0,mv 135 7,o 136 (.idx 1 (.t 134) (.t 135)),o 137 (.ld none (.t 136)),mv 138 12,o 139 (.call 131 [.t 137,u64 0, .t 138]),mv 131 139,o 140 (.ext (.t 131) 0),o 141 (.ext (.t 131) 1),o 142 (.idx 1 (.t 132) (.t 133)),od (.st 1 (.t 142) (.t 140)),mv 12 141]) (.reg [mv 143 18,mv 144 12,bn 145 .sub 143 144,mv 18 145]))))))))) (.seq (.reg [mv 146 8,mv 6 146]) .ret)))))))))
theorem in_divs_digit:Ent 149 147 c_divs_digit [.t 6]:=en Tryz.func149 rfl
def c_divs_New:AC:= .seq (.reg [o 1 (.box 23 (.t 0)),o 2 (.mv (.c (.ptr none)))]) (.seq (.reg [o 3 (.ld (some 11) (.t 1)),o 4 (.call 212 [.t 3]),o 5 (.bld [.ptr none] [(0,1, .t 4)]),o 6 (.box 142 (.t 5)),mv 2 6]) .ret)
theorem in_divs_New:Ent 188 7 c_divs_New [.t 2]:=en Tryz.func188 rfl
def c_mul_Engine_Mul:AC:= .seq (.reg [o 6 (.mv (.c (.sl none 0 0 none)))]) (.seq (.reg [mv 7 0,mv 8 1,o 9 (.call 124 [.t 8]),mv 10 2,o 11 (.call 124 [.t 10]),o 12 (.call 123 [.t 7, .t 9, .t 11]),mv 6 12]) .ret)
theorem in_mul_Engine_Mul:Ent 104 13 c_mul_Engine_Mul [.t 6]:=en Tryz.func104 rfl
def c_mul_Engine_Sqr:AC:= .seq (.reg [o 4 (.mv (.c (.sl none 0 0 none)))]) (.seq (.reg [mv 5 0,mv 6 1,o 7 (.call 124 [.t 6]),o 8 (.call 133 [.t 5, .t 7]),mv 4 8]) .ret)
theorem in_mul_Engine_Sqr:Ent 115 9 c_mul_Engine_Sqr [.t 4]:=en Tryz.func115 rfl
def c_mul_Engine_times:AC:= .seq (.reg [o 6 (.mv (.c (.sl none 0 0 none)))]) (.seq (.seq (.reg [mv 9 1,o 10 (.len false (.t 9)),o 11 (.bin .gtr (.t 10) (i64 16384)),mv 12 11,og 13 12 false (.mv (.t 2)),og 14 12 false (.len false (.t 13)),og 15 12 false (.bin .gtr (.t 14) (i64 16384)),o 16 (.pick (.t 12) (.c (.bool true)) (.t 15))]) (.cond (.t 16) (.seq (.reg [mv 17 0,mv 18 1,mv 19 2,o 20 (.call 140 [.t 17, .t 18, .t 19]),mv 6 20]) .ret) .skip)) (.seq (.reg [mv 22 0,mv 23 0,o 24 (.nn (.t 23)),o 25 (.fld 0 (.t 24)),o 26 (.ld none (.t 25)),o 27 (.nn (.t 26)),o 28 (.fld 0 (.t 27)),o 29 (.ld none (.t 28)),o 30 (.nn (.t 29)),o 31 (.fld 0 (.t 30)),o 32 (.ld none (.t 31)),o 33 (.nn (.t 32)),o 34 (.fld 0 (.t 33)),o 35 (.ld none (.t 34)),mv 36 1,o 37 (.len false (.t 36)),mv 38 2,o 39 (.len false (.t 38)),o 40 (.call 142 [.t 35, .t 37, .t 39]),mv 41 1,mv 42 2,o 43 (.call 141 [.t 22, .t 40, .t 41, .t 42]),mv 21 43,o 44 (.ext (.t 21) 0),o 45 (.ext (.t 21) 1),mv 7 44,mv 8 45]) (.seq (.seq (.reg [mv 46 8,o 47 (.un .not (.t 46))]) (.cond (.t 47) (.seq (.reg [mv 48 0,o 49 (.nn (.t 48)),o 50 (.fld 0 (.t 49)),o 51 (.ld none (.t 50)),o 52 (.nn (.t 51)),o 53 (.fld 0 (.t 52)),o 54 (.ld none (.t 53)),o 55 (.nn (.t 54)),o 56 (.fld 0 (.t 55)),o 57 (.ld none (.t 56)),mv 58 1,mv 59 2,o 60 (.call 143 [.t 57, .t 58, .t 59]),mv 6 60]) .ret) .skip)) (.seq (.reg [mv 61 7,mv 6 61]) .ret))))
theorem in_mul_Engine_times:Ent 123 62 c_mul_Engine_times [.t 6]:=en Tryz.func123 rfl
def c_mul_words:AC:= .seq (.reg [o 2 (.mv (.c (.sl none 0 0 none)))]) (.seq (.reg [mv 3 0,mv 4 0,o 5 (.call 52 [.t 4]),o 6 (.slc 1 (.t 3) none (some (.t 5))),mv 2 6]) .ret)
theorem in_mul_words:Ent 124 7 c_mul_words [.t 2]:=en Tryz.func124 rfl
def c_mul_Engine_square:AC:= .seq (.reg [o 4 (.mv (.c (.sl none 0 0 none)))]) (.seq (.reg [o 5 (.mv (.c (.sl none 0 0 none)))]) (.seq (.reg [o 6 (.mv (.c (.bool false)))]) (.seq (.seq (.reg [mv 7 0,o 8 (.nn (.t 7)),o 9 (.fld 0 (.t 8)),o 10 (.ld none (.t 9)),o 11 (.nn (.t 10)),o 12 (.fld 0 (.t 11)),o 13 (.ld none (.t 12)),o 14 (.nn (.t 13)),o 15 (.fld 0 (.t 14)),o 16 (.ld none (.t 15)),o 17 (.nn (.t 16)),o 18 (.fld 0 (.t 17)),o 19 (.ld none (.t 18)),mv 20 1,o 21 (.len false (.t 20)),mv 22 1,o 23 (.len false (.t 22)),o 24 (.call 142 [.t 19, .t 21, .t 23])]) (.block 0 (.seq (.reg [o 26 (.bin .eql (.t 24) (i64 0)),mv 25 26]) (.cond (.t 25) (.seq (.reg [mv 27 0,mv 28 1,mv 29 1,o 30 (.call 123 [.t 27, .t 28, .t 29]),mv 4 30]) .ret) (.seq (.reg [o 32 (.bin .eql (.t 24) (i64 3)),mv 31 32]) (.cond (.t 31) (.reg [mv 34 0,o 35 (.nn (.t 34)),o 36 (.fld 0 (.t 35)),o 37 (.ld none (.t 36)),o 38 (.nn (.t 37)),o 39 (.fld 0 (.t 38)),o 40 (.ld none (.t 39)),mv 41 1,mv 42 0,o 43 (.mkf 133 [.t 42] []),o 44 (.call 155 [.t 40, .t 41, .t 43]),mv 33 44,o 45 (.ext (.t 33) 0),o 46 (.ext (.t 33) 1),mv 5 45,mv 6 46]) (.seq (.reg [o 48 (.bin .eql (.t 24) (i64 4)),mv 47 48]) (.cond (.t 47) (.reg [mv 50 0,o 51 (.nn (.t 50)),o 52 (.fld 0 (.t 51)),o 53 (.ld none (.t 52)),mv 54 1,mv 55 0,o 56 (.mkf 133 [.t 55] []),o 57 (.call 156 [.t 53, .t 54, .t 56]),mv 49 57,o 58 (.ext (.t 49) 0),o 59 (.ext (.t 49) 1),mv 5 58,mv 6 59]) (.seq (.reg [o 61 (.bin .eql (.t 24) (i64 5)),mv 60 61]) (.cond (.t 60) (.reg [mv 63 0,o 64 (.nn (.t 63)),o 65 (.fld 0 (.t 64)),o 66 (.ld none (.t 65)),o 67 (.nn (.t 66)),o 68 (.fld 0 (.t 67)),o 69 (.ld none (.t 68)),o 70 (.nn (.t 69)),o 71 (.fld 0 (.t 70)),o 72 (.ld none (.t 71)),o 73 (.nn (.t 72)),o 74 (.fld 0 (.t 73)),o 75 (.ld none (.t 74)),o 76 (.nn (.t 75)),o 77 (.fld 0 (.t 76)),mv 78 1,o 79 (.call 157 [.t 77, .t 78]),mv 62 79,o 80 (.ext (.t 62) 0),o 81 (.ext (.t 62) 1),mv 5 80,mv 6 81]) .skip)))))))))) (.seq (.seq (.reg [mv 82 6,o 83 (.un .not (.t 82))]) (.cond (.t 83) (.seq (.reg [mv 84 0,o 85 (.nn (.t 84)),o 86 (.fld 0 (.t 85)),o 87 (.ld none (.t 86)),o 88 (.nn (.t 87)),o 89 (.fld 0 (.t 88)),o 90 (.ld none (.t 89)),o 91 (.nn (.t 90)),o 92 (.fld 0 (.t 91)),o 93 (.ld none (.t 92)),mv 94 1,o 95 (.call 158 [.t 93, .t 94]),mv 4 95]) .ret) .skip)) (.seq (.reg [mv 96 5,mv 4 96]) .ret)))))
theorem in_mul_Engine_square:Ent 133 97 c_mul_Engine_square [.t 4]:=en Tryz.func133 rfl
def c_mul_Engine_gone:AC:= .seq (.reg [o 8 (.mv (.c (.sl none 0 0 none))),o 9 (.mv (.c (.bool false)))]) (.seq (.seq (.reg [mv 10 1]) (.block 0 (.seq (.reg [o 12 (.bin .eql (.t 10) (i64 0)),mv 11 12]) (.cond (.t 11) (.seq (.reg [o 8 (.mv (.c (.sl none 0 0 none))),o 9 (.mv (.c (.bool true)))]) .ret) (.seq (.reg [o 14 (.bin .eql (.t 10) (i64 1)),mv 13 14]) (.cond (.t 13) (.seq (.reg [mv 15 0,o 16 (.nn (.t 15)),o 17 (.fld 0 (.t 16)),o 18 (.ld none (.t 17)),o 19 (.nn (.t 18)),o 20 (.fld 0 (.t 19)),o 21 (.ld none (.t 20)),o 22 (.nn (.t 21)),o 23 (.fld 0 (.t 22)),o 24 (.ld none (.t 23)),mv 25 2,mv 26 3,o 27 (.call 143 [.t 24, .t 25, .t 26]),mv 8 27,o 9 (.mv (.c (.bool true)))]) .ret) (.seq (.reg [o 29 (.bin .eql (.t 10) (i64 2)),mv 28 29]) (.cond (.t 28) (.seq (.reg [mv 30 0,mv 31 2,mv 32 3,o 33 (.call 166 [.t 30, .t 31, .t 32]),mv 8 33,o 9 (.mv (.c (.bool true)))]) .ret) (.seq (.reg [o 35 (.bin .eql (.t 10) (i64 3)),mv 34 35]) (.cond (.t 34) (.seq (.reg [mv 36 0,o 37 (.nn (.t 36)),o 38 (.fld 0 (.t 37)),o 39 (.ld none (.t 38)),o 40 (.nn (.t 39)),o 41 (.fld 0 (.t 40)),o 42 (.ld none (.t 41)),mv 43 2,mv 44 3,mv 45 0,o 46 (.mkf 123 [.t 45] []),o 47 (.call 167 [.t 42, .t 43, .t 44, .t 46]),o 48 (.ext (.t 47) 0),o 49 (.ext (.t 47) 1),mv 8 48,mv 9 49]) .ret) (.seq (.reg [o 51 (.bin .eql (.t 10) (i64 4)),mv 50 51]) (.cond (.t 50) (.seq (.reg [mv 52 0,o 53 (.nn (.t 52)),o 54 (.fld 0 (.t 53)),o 55 (.ld none (.t 54)),mv 56 2,mv 57 3,mv 58 0,o 59 (.mkf 123 [.t 58] []),o 60 (.call 168 [.t 55, .t 56, .t 57, .t 59]),o 61 (.ext (.t 60) 0),o 62 (.ext (.t 60) 1),mv 8 61,mv 9 62]) .ret) (.seq (.reg [o 64 (.bin .eql (.t 10) (i64 5)),mv 63 64]) (.cond (.t 63) (.seq (.reg [mv 65 0,o 66 (.nn (.t 65)),o 67 (.fld 0 (.t 66)),o 68 (.ld none (.t 67)),o 69 (.nn (.t 68)),o 70 (.fld 0 (.t 69)),o 71 (.ld none (.t 70)),o 72 (.nn (.t 71)),o 73 (.fld 0 (.t 72)),o 74 (.ld none (.t 73)),o 75 (.nn (.t 74)),o 76 (.fld 0 (.t 75)),o 77 (.ld none (.t 76)),o 78 (.nn (.t 77)),o 79 (.fld 0 (.t 78)),mv 80 2,mv 81 3,o 82 (.call 169 [.t 79, .t 80, .t 81]),o 83 (.ext (.t 82) 0),o 84 (.ext (.t 82) 1),mv 8 83,mv 9 84]) .ret) .skip)))))))))))))) (.seq (.reg [o 8 (.mv (.c (.sl none 0 0 none))),o 9 (.mv (.c (.bool false)))]) .ret))
theorem in_mul_Engine_gone:Ent 141 85 c_mul_Engine_gone [.t 8, .t 9]:=en Tryz.func141 rfl
def c_mul_Engine_pieces:AC:= .seq (.reg [o 8 (.mv (.c (.sl none 0 0 none)))]) (.seq (.seq (.reg [mv 11 1,o 12 (.len false (.t 11)),mv 13 2,o 14 (.len false (.t 13)),bn 15 .lss 12 14]) (.cond (.t 15) (.reg [mv 16 2,mv 17 1,mv 1 16,mv 2 17]) .skip)) (.seq (.reg [o 9 (.mv (.c (.sl none 0 0 none)))]) (.seq (.seq (.reg [o 10 (.mv (i64 0))]) (.block 0 (.loop (.seq (.seq (.reg [mv 18 10,mv 19 1,o 20 (.len false (.t 19)),bn 21 .lss 18 20]) (.cond (.t 21) .skip (.exit 0))) (.seq (.block 1 (.reg [mv 25 9,mv 26 0,mv 27 1,mv 28 10,mv 29 1,o 30 (.len false (.t 29)),mv 31 10,mv 32 3,bn 33 .add 31 32,o 34 (.mnx false (.t 30) [.t 33]),o 35 (.slc 1 (.t 27) (some (.t 28)) (some (.t 34))),o 36 (.app 54 1 8 (.c (.sl none 0 0 none)) (.t 35)),mv 37 2,o 38 (.call 123 [.t 26, .t 36, .t 37]),o 39 (.bsl 25 1 1 [.sl none 0 0 none] [(0, .t 38)]),o 40 (.app 25 1 24 (.t 25) (.t 39)),mv 9 40])) (.reg [mv 22 10,mv 23 3,bn 24 .add 22 23,mv 10 24])))))) (.seq (.reg [mv 41 3,mv 42 9,o 43 (.call 153 [.t 41, .t 42]),mv 8 43]) .ret))))
theorem in_mul_Engine_pieces:Ent 165 44 c_mul_Engine_pieces [.t 8]:=en Tryz.func165 rfl
def c_mul_Engine_block:AC:= .seq (.reg [o 6 (.mv (.c (.sl none 0 0 none)))]) (.seq (.reg [mv 8 0,o 9 (.nn (.t 8)),o 10 (.fld 0 (.t 9)),o 11 (.ld none (.t 10)),o 12 (.nn (.t 11)),o 13 (.fld 0 (.t 12)),o 14 (.ld none (.t 13)),o 15 (.nn (.t 14)),o 16 (.fld 0 (.t 15)),o 17 (.ld none (.t 16)),o 18 (.nn (.t 17)),o 19 (.fld 0 (.t 18)),o 20 (.ld none (.t 19)),o 21 (.nn (.t 20)),o 22 (.fld 0 (.t 21)),o 23 (.call 161 [.t 22])]) (.seq (.reg [mv 24 0,mv 25 1,mv 26 2,mv 27 1,o 28 (.len false (.t 27)),mv 29 2,o 30 (.len false (.t 29)),o 31 (.mnx false (.t 28) [.t 30]),o 32 (.call 165 [.t 24, .t 25, .t 26, .t 31]),mv 7 32]) (.seq (.reg [mv 33 0,o 34 (.nn (.t 33)),o 35 (.fld 0 (.t 34)),o 36 (.ld none (.t 35)),o 37 (.nn (.t 36)),o 38 (.fld 0 (.t 37)),o 39 (.ld none (.t 38)),o 40 (.nn (.t 39)),o 41 (.fld 0 (.t 40)),o 42 (.ld none (.t 41)),o 43 (.nn (.t 42)),o 44 (.fld 0 (.t 43)),o 45 (.ld none (.t 44)),o 46 (.nn (.t 45)),o 47 (.fld 0 (.t 46)),o 48 (.call 162 [.t 47])]) (.seq (.reg [mv 49 7,mv 6 49]) .ret))))
theorem in_mul_Engine_block:Ent 166 50 c_mul_Engine_block [.t 6]:=en Tryz.func166 rfl
def c_mul_New:AC:= .seq (.reg [o 1 (.box 23 (.t 0)),o 2 (.mv (.c (.ptr none)))]) (.seq (.reg [o 3 (.ld (some 11) (.t 1)),o 4 (.call 226 [.t 3]),o 5 (.bld [.ptr none] [(0,1, .t 4)]),o 6 (.box 167 (.t 5)),mv 2 6]) .ret)
theorem in_mul_New:Ent 212 7 c_mul_New [.t 2]:=en Tryz.func212 rfl
def c_toom_Engine_ToomSqr:AC:= .seq (.reg [o 6 (.mv (.c (.sl none 0 0 none))),o 7 (.mv (.c (.bool false)))]) (.seq (.reg [mv 20 1,o 21 (.len false (.t 20)),mv 8 21]) (.seq (.reg [mv 22 8,o 23 (.bin .add (.t 22) (i64 2)),o 24 (.bin .quo (.t 23) (i64 3)),mv 9 24]) (.seq (.seq (.reg [mv 25 8,mv 26 9,o 27 (.bin .mul (i64 2) (.t 26)),bn 28 .leq 25 27]) (.cond (.t 28) (.seq (.reg [o 6 (.mv (.c (.sl none 0 0 none))),o 7 (.mv (.c (.bool false)))]) .ret) .skip)) (.seq (.reg [mv 29 0,o 30 (.nn (.t 29)),o 31 (.fld 0 (.t 30)),o 32 (.ld none (.t 31)),o 33 (.nn (.t 32)),o 34 (.fld 0 (.t 33)),o 35 (.ld none (.t 34)),o 36 (.nn (.t 35)),o 37 (.fld 0 (.t 36)),o 38 (.ld none (.t 37)),o 39 (.nn (.t 38)),o 40 (.fld 0 (.t 39)),o 41 (.call 161 [.t 40])]) (.seq (.reg [mv 43 1,mv 44 9,o 45 (.call 180 [.t 43, .t 44]),mv 42 45,o 46 (.ext (.t 42) 0),o 47 (.ext (.t 42) 1),o 48 (.ext (.t 42) 2),o 49 (.ext (.t 42) 3),o 50 (.ext (.t 42) 4),o 10 (.alloc 27 [.sl none 0 0 none, .bool false]),o 11 (.alloc 27 [.sl none 0 0 none, .bool false]),o 12 (.alloc 27 [.sl none 0 0 none, .bool false]),o 13 (.alloc 27 [.sl none 0 0 none, .bool false]),o 14 (.alloc 27 [.sl none 0 0 none, .bool false]),od (.st 2 (.t 10) (.t 46)),od (.st 2 (.t 11) (.t 47)),od (.st 2 (.t 12) (.t 48)),od (.st 2 (.t 13) (.t 49)),od (.st 2 (.t 14) (.t 50))]) (.seq (.reg [mv 51 2,o 52 (.fld 0 (.t 10)),o 53 (.ld none (.t 52)),mv 54 9,o 55 (.call 181 [.t 53, .t 54]),o 56 (.callV (.t 51) [.t 55]),mv 15 56]) (.seq (.reg [mv 57 2,o 58 (.fld 0 (.t 11)),o 59 (.ld none (.t 58)),mv 60 9,o 61 (.bin .add (.t 60) (i64 1)),o 62 (.call 181 [.t 59, .t 61]),o 63 (.callV (.t 57) [.t 62]),mv 16 63]) (.seq (.reg [mv 64 2,o 65 (.fld 0 (.t 12)),o 66 (.ld none (.t 65)),mv 67 9,o 68 (.bin .add (.t 67) (i64 1)),o 69 (.call 181 [.t 66, .t 68]),o 70 (.callV (.t 64) [.t 69]),mv 17 70]) (.seq (.reg [mv 71 2,o 72 (.fld 0 (.t 13)),o 73 (.ld none (.t 72)),mv 74 9,o 75 (.bin .add (.t 74) (i64 1)),o 76 (.call 181 [.t 73, .t 75]),o 77 (.callV (.t 71) [.t 76]),mv 18 77]) (.seq (.reg [mv 78 2,o 79 (.fld 0 (.t 14)),o 80 (.ld none (.t 79)),mv 81 8,mv 82 9,o 83 (.bin .mul (i64 2) (.t 82)),bn 84 .sub 81 83,o 85 (.call 181 [.t 80, .t 84]),o 86 (.callV (.t 78) [.t 85]),mv 19 86]) (.seq (.reg [mv 87 0,o 88 (.nn (.t 87)),o 89 (.fld 0 (.t 88)),o 90 (.ld none (.t 89)),o 91 (.nn (.t 90)),o 92 (.fld 0 (.t 91)),o 93 (.ld none (.t 92)),o 94 (.nn (.t 93)),o 95 (.fld 0 (.t 94)),o 96 (.ld none (.t 95)),o 97 (.nn (.t 96)),o 98 (.fld 0 (.t 97)),o 99 (.call 162 [.t 98])]) (.seq (.reg [mv 100 9,mv 101 15,mv 102 16,mv 103 17,mv 104 18,mv 105 19,o 106 (.call 182 [.t 100, .t 101, .t 102, .t 103, .t 104, .t 105, .c (.bool false)]),mv 6 106,o 7 (.mv (.c (.bool true)))]) .ret))))))))))))
theorem in_toom_Engine_ToomSqr:Ent 156 107 c_toom_Engine_ToomSqr [.t 6, .t 7]:=en Tryz.func156 rfl
def c_toom_Engine_Toom:AC:= .seq (.reg [o 8 (.mv (.c (.sl none 0 0 none))),o 9 (.mv (.c (.bool false)))]) (.seq (.seq (.reg [mv 28 1,o 29 (.len false (.t 28)),mv 30 2,o 31 (.len false (.t 30)),bn 32 .lss 29 31]) (.cond (.t 32) (.reg [mv 33 2,mv 34 1,mv 1 33,mv 2 34]) .skip)) (.seq (.reg [mv 35 1,o 36 (.len false (.t 35)),mv 37 2,o 38 (.len false (.t 37)),mv 10 36,mv 11 38]) (.seq (.reg [mv 39 10,o 40 (.bin .add (.t 39) (i64 2)),o 41 (.bin .quo (.t 40) (i64 3)),mv 12 41]) (.seq (.seq (.reg [mv 42 11,mv 43 12,o 44 (.bin .mul (i64 2) (.t 43)),bn 45 .leq 42 44]) (.cond (.t 45) (.seq (.reg [o 8 (.mv (.c (.sl none 0 0 none))),o 9 (.mv (.c (.bool false)))]) .ret) .skip)) (.seq (.reg [mv 46 0,o 47 (.nn (.t 46)),o 48 (.fld 0 (.t 47)),o 49 (.ld none (.t 48)),o 50 (.nn (.t 49)),o 51 (.fld 0 (.t 50)),o 52 (.ld none (.t 51)),o 53 (.nn (.t 52)),o 54 (.fld 0 (.t 53)),o 55 (.ld none (.t 54)),o 56 (.nn (.t 55)),o 57 (.fld 0 (.t 56)),o 58 (.call 161 [.t 57])]) (.seq (.reg [mv 60 1,mv 61 12,o 62 (.call 180 [.t 60, .t 61]),mv 59 62,o 63 (.ext (.t 59) 0),o 64 (.ext (.t 59) 1),o 65 (.ext (.t 59) 2),o 66 (.ext (.t 59) 3),o 67 (.ext (.t 59) 4),o 13 (.alloc 27 [.sl none 0 0 none, .bool false]),o 14 (.alloc 27 [.sl none 0 0 none, .bool false]),o 15 (.alloc 27 [.sl none 0 0 none, .bool false]),o 16 (.alloc 27 [.sl none 0 0 none, .bool false]),o 17 (.alloc 27 [.sl none 0 0 none, .bool false]),od (.st 2 (.t 13) (.t 63)),od (.st 2 (.t 14) (.t 64)),od (.st 2 (.t 15) (.t 65)),od (.st 2 (.t 16) (.t 66)),od (.st 2 (.t 17) (.t 67))]) (.seq (.reg [mv 69 2,mv 70 12,o 71 (.call 180 [.t 69, .t 70]),mv 68 71,o 72 (.ext (.t 68) 0),o 73 (.ext (.t 68) 1),o 74 (.ext (.t 68) 2),o 75 (.ext (.t 68) 3),o 76 (.ext (.t 68) 4),o 18 (.alloc 27 [.sl none 0 0 none, .bool false]),o 19 (.alloc 27 [.sl none 0 0 none, .bool false]),o 20 (.alloc 27 [.sl none 0 0 none, .bool false]),o 21 (.alloc 27 [.sl none 0 0 none, .bool false]),o 22 (.alloc 27 [.sl none 0 0 none, .bool false]),od (.st 2 (.t 18) (.t 72)),od (.st 2 (.t 19) (.t 73)),od (.st 2 (.t 20) (.t 74)),od (.st 2 (.t 21) (.t 75)),od (.st 2 (.t 22) (.t 76))]) (.seq (.reg [mv 77 3,o 78 (.fld 0 (.t 13)),o 79 (.ld none (.t 78)),mv 80 12,o 82 (.fld 0 (.t 18)),o 83 (.ld none (.t 82)),mv 84 12,⟨some 81,none, .call 181 [.t 79, .t 80],[(some 83,none, .ld none (.t 82))]⟩,o 85 (.call 181 [.t 83, .t 84]),o 86 (.callV (.t 77) [.t 81, .t 85]),mv 23 86]) (.seq (.reg [mv 87 3,o 88 (.fld 0 (.t 14)),o 89 (.ld none (.t 88)),mv 90 12,o 91 (.bin .add (.t 90) (i64 1)),o 93 (.fld 0 (.t 19)),o 94 (.ld none (.t 93)),mv 95 12,o 96 (.bin .add (.t 95) (i64 1)),⟨some 92,none, .call 181 [.t 89, .t 91],[(some 94,none, .ld none (.t 93))]⟩,o 97 (.call 181 [.t 94, .t 96]),o 98 (.callV (.t 87) [.t 92, .t 97]),mv 24 98]) (.seq (.reg [mv 99 3,o 100 (.fld 0 (.t 15)),o 101 (.ld none (.t 100)),mv 102 12,o 103 (.bin .add (.t 102) (i64 1)),o 105 (.fld 0 (.t 20)),o 106 (.ld none (.t 105)),mv 107 12,o 108 (.bin .add (.t 107) (i64 1)),⟨some 104,none, .call 181 [.t 101, .t 103],[(some 106,none, .ld none (.t 105))]⟩,o 109 (.call 181 [.t 106, .t 108]),o 110 (.callV (.t 99) [.t 104, .t 109]),mv 25 110]) (.seq (.reg [mv 111 3,o 112 (.fld 0 (.t 16)),o 113 (.ld none (.t 112)),mv 114 12,o 115 (.bin .add (.t 114) (i64 1)),o 117 (.fld 0 (.t 21)),o 118 (.ld none (.t 117)),mv 119 12,o 120 (.bin .add (.t 119) (i64 1)),⟨some 116,none, .call 181 [.t 113, .t 115],[(some 118,none, .ld none (.t 117))]⟩,o 121 (.call 181 [.t 118, .t 120]),o 122 (.callV (.t 111) [.t 116, .t 121]),mv 26 122]) (.seq (.reg [mv 123 3,o 124 (.fld 0 (.t 17)),o 125 (.ld none (.t 124)),mv 126 10,mv 127 12,o 128 (.bin .mul (i64 2) (.t 127)),bn 129 .sub 126 128,o 131 (.fld 0 (.t 22)),o 132 (.ld none (.t 131)),mv 133 11,mv 134 12,o 135 (.bin .mul (i64 2) (.t 134)),bn 136 .sub 133 135,⟨some 130,none, .call 181 [.t 125, .t 129],[(some 132,none, .ld none (.t 131))]⟩,o 137 (.call 181 [.t 132, .t 136]),o 138 (.callV (.t 123) [.t 130, .t 137]),mv 27 138]) (.seq (.reg [mv 139 0,o 140 (.nn (.t 139)),o 141 (.fld 0 (.t 140)),o 142 (.ld none (.t 141)),o 143 (.nn (.t 142)),o 144 (.fld 0 (.t 143)),o 145 (.ld none (.t 144)),o 146 (.nn (.t 145)),o 147 (.fld 0 (.t 146)),o 148 (.ld none (.t 147)),o 149 (.nn (.t 148)),o 150 (.fld 0 (.t 149)),o 151 (.call 162 [.t 150])]) (.seq (.reg [mv 152 12,mv 153 23,mv 154 24,mv 155 25,mv 156 26,mv 157 27,o 158 (.fld 1 (.t 15)),o 159 (.ld none (.t 158)),o 160 (.fld 1 (.t 20)),o 161 (.ld none (.t 160)),o 162 (.beq true (.t 159) (.t 161)),o 163 (.call 182 [.t 152, .t 153, .t 154, .t 155, .t 156, .t 157, .t 162]),mv 8 163,o 9 (.mv (.c (.bool true)))]) .ret))))))))))))))
theorem in_toom_Engine_Toom:Ent 168 164 c_toom_Engine_Toom [.t 8, .t 9]:=en Tryz.func168 rfl
def c_toom_Points:AC:= .seq (.reg [o 4 (.alloc 27 [.sl none 0 0 none, .bool false]),o 5 (.alloc 27 [.sl none 0 0 none, .bool false]),o 6 (.alloc 27 [.sl none 0 0 none, .bool false]),o 7 (.alloc 27 [.sl none 0 0 none, .bool false]),o 8 (.alloc 27 [.sl none 0 0 none, .bool false])]) (.seq (.reg [mv 13 1,o 14 (.mnx false (.t 13) [i64 16384]),o 15 (.mnx true (i64 1) [.t 14]),mv 1 15]) (.seq (.reg [mv 16 0,o 17 (.call 107 [.t 16]),mv 0 17]) (.seq (.reg [mv 18 0,mv 19 1,o 20 (.call 198 [.t 18,i64 0, .t 19]),mv 21 0,mv 22 1,mv 23 1,o 24 (.bin .mul (i64 2) (.t 23)),o 25 (.call 198 [.t 21, .t 22, .t 24]),mv 26 0,mv 27 1,o 28 (.bin .mul (i64 2) (.t 27)),mv 29 0,o 30 (.len false (.t 29)),o 31 (.call 198 [.t 26, .t 28, .t 30]),mv 9 20,mv 10 25,mv 11 31]) (.seq (.reg [mv 32 9,mv 33 11,o 34 (.call 111 [.t 32, .t 33]),mv 12 34]) (.seq (.reg [mv 35 9,o 36 (.call 107 [.t 35]),o 37 (.fld 0 (.t 4)),od (.st 1 (.t 37) (.t 36))]) (.seq (.reg [mv 38 12,mv 39 10,o 40 (.call 111 [.t 38, .t 39]),o 41 (.fld 0 (.t 5)),od (.st 1 (.t 41) (.t 40))]) (.seq (.reg [mv 42 12,mv 43 10,o 44 (.call 199 [.t 42, .t 43]),od (.st 2 (.t 6) (.t 44))]) (.seq (.reg [mv 45 9,mv 46 10,o 47 (.call 147 [.t 46,i64 1]),mv 48 11,o 49 (.call 147 [.t 48,i64 2]),o 50 (.bsl 25 1 3 [.sl none 0 0 none] [(0, .t 45),(1, .t 47),(2, .t 49)]),o 51 (.call 200 [.t 50]),o 52 (.fld 0 (.t 7)),od (.st 1 (.t 52) (.t 51))]) (.seq (.reg [mv 53 11,o 54 (.call 107 [.t 53]),o 55 (.fld 0 (.t 8)),od (.st 1 (.t 55) (.t 54))]) (.seq (.reg [o 56 (.ld (some 2) (.t 4)),o 57 (.ld (some 2) (.t 5)),o 58 (.ld (some 2) (.t 6)),o 59 (.ld (some 2) (.t 7)),o 60 (.ld (some 2) (.t 8)),⟨none,none, .st 2 (.t 4) (.t 56),[(some 57,none, .ld (some 2) (.t 5)),(some 58,none, .ld (some 2) (.t 6)),(some 59,none, .ld (some 2) (.t 7)),(some 60,none, .ld (some 2) (.t 8))]⟩,⟨none,none, .st 2 (.t 5) (.t 57),[(some 58,none, .ld (some 2) (.t 6)),(some 59,none, .ld (some 2) (.t 7)),(some 60,none, .ld (some 2) (.t 8))]⟩,⟨none,none, .st 2 (.t 6) (.t 58),[(some 59,none, .ld (some 2) (.t 7)),(some 60,none, .ld (some 2) (.t 8))]⟩,⟨none,none, .st 2 (.t 7) (.t 59),[(some 60,none, .ld (some 2) (.t 8))]⟩,od (.st 2 (.t 8) (.t 60))]) .ret))))))))))
theorem in_toom_Points:Ent 180 61 c_toom_Points [.c 4 (some 2), .c 5 (some 2), .c 6 (some 2), .c 7 (some 2), .c 8 (some 2)]:=en Tryz.func180 rfl
def c_toom_wide:AC:= .seq (.reg [o 4 (.mv (.c (.sl none 0 0 none)))]) (.seq (.reg [mv 6 1,o 7 (.mk 54 1 8 [.int .u64 0] (.t 6) (.t 6)),mv 5 7]) (.seq (.reg [mv 8 5,mv 9 0,mv 10 0,o 11 (.call 52 [.t 10]),o 12 (.slc 1 (.t 9) none (some (.t 11))),o 13 (.cpy 1 (.t 8) (.t 12))]) (.seq (.reg [mv 14 5,mv 4 14]) .ret)))
theorem in_toom_wide:Ent 181 15 c_toom_wide [.t 4]:=en Tryz.func181 rfl
def c_toom_joined:AC:= .seq (.reg [o 14 (.mv (.c (.sl none 0 0 none)))]) (.seq (.reg [mv 22 2,mv 23 3,o 24 (.call 111 [.t 22, .t 23]),mv 25 2,mv 26 3,o 27 (.call 201 [.t 25, .t 26]),mv 15 24,mv 16 27]) (.seq (.seq (.reg [mv 28 6]) (.cond (.t 28) (.reg [mv 29 16,mv 30 15,mv 15 29,mv 16 30]) .skip)) (.seq (.reg [mv 31 15,o 32 (.call 150 [.t 31,i64 1]),mv 33 16,o 34 (.call 150 [.t 33,i64 1]),mv 15 32,mv 16 34]) (.seq (.reg [mv 35 15,mv 36 1,mv 37 5,o 38 (.bsl 25 1 2 [.sl none 0 0 none] [(0, .t 36),(1, .t 37)]),o 39 (.call 202 [.t 35, .t 38]),mv 17 39]) (.seq (.reg [mv 40 4,mv 41 1,mv 42 17,o 43 (.call 147 [.t 42,i64 2]),mv 44 5,o 45 (.call 147 [.t 44,i64 4]),o 46 (.bsl 25 1 3 [.sl none 0 0 none] [(0, .t 41),(1, .t 43),(2, .t 45)]),o 47 (.call 202 [.t 40, .t 46]),o 48 (.call 150 [.t 47,i64 1]),mv 18 48]) (.seq (.reg [mv 50 18,mv 51 16,o 52 (.bsl 25 1 1 [.sl none 0 0 none] [(0, .t 51)]),o 53 (.call 202 [.t 50, .t 52]),o 54 (.call 203 [.t 53]),mv 49 54,o 55 (.ext (.t 49) 0),o 56 (.ext (.t 49) 1),mv 19 55,mv 20 56]) (.seq (.reg [mv 57 16,mv 58 19,o 59 (.bsl 25 1 1 [.sl none 0 0 none] [(0, .t 58)]),o 60 (.call 202 [.t 57, .t 59]),mv 21 60]) (.seq (.reg [mv 61 0,mv 62 1,mv 63 21,mv 64 17,mv 65 19,mv 66 5,o 67 (.bsl 25 1 5 [.sl none 0 0 none] [(0, .t 62),(1, .t 63),(2, .t 64),(3, .t 65),(4, .t 66)]),o 68 (.call 153 [.t 61, .t 67]),mv 14 68]) .ret))))))))
theorem in_toom_joined:Ent 182 69 c_toom_joined [.t 14]:=en Tryz.func182 rfl
def c_toom_part:AC:= .seq (.reg [o 6 (.mv (.c (.sl none 0 0 none)))]) (.seq (.seq (.reg [mv 7 1,mv 8 0,o 9 (.len false (.t 8)),bn 10 .geq 7 9]) (.cond (.t 10) (.seq (.reg [o 6 (.mv (.c (.sl none 0 0 none)))]) .ret) .skip)) (.seq (.reg [mv 11 0,mv 12 1,mv 13 2,mv 14 0,o 15 (.len false (.t 14)),o 16 (.mnx false (.t 13) [.t 15]),o 17 (.slc 1 (.t 11) (some (.t 12)) (some (.t 16))),mv 6 17]) .ret))
theorem in_toom_part:Ent 198 18 c_toom_part [.t 6]:=en Tryz.func198 rfl
def c_toom_less:AC:= .seq (.reg [o 4 (.alloc 27 [.sl none 0 0 none, .bool false])]) (.seq (.seq (.reg [mv 10 0,mv 11 1,o 12 (.call 112 [.t 10, .t 11]),mv 9 12,o 13 (.ext (.t 9) 0),o 14 (.ext (.t 9) 1),mv 5 13,mv 6 14]) (.seq (.reg [mv 15 6]) (.cond (.t 15) (.seq (.reg [mv 16 5,o 17 (.bld [.sl none 0 0 none, .bool false] [(0,1, .t 16)]),od (.st 2 (.t 4) (.t 17))]) .ret) .skip))) (.seq (.reg [mv 19 1,mv 20 0,o 21 (.call 112 [.t 19, .t 20]),mv 18 21,o 22 (.ext (.t 18) 0),o 23 (.ext (.t 18) 1),mv 7 22,mv 8 23]) (.seq (.reg [mv 24 7,o 25 (.bld [.sl none 0 0 none, .bool false] [(0,1, .t 24),(1,1, .c (.bool true))]),od (.st 2 (.t 4) (.t 25))]) .ret)))
theorem in_toom_less:Ent 199 26 c_toom_less [.c 4 (some 2)]:=en Tryz.func199 rfl
def c_toom_sub2:AC:= .seq (.reg [o 4 (.mv (.c (.sl none 0 0 none)))]) (.seq (.reg [mv 8 0,mv 9 1,o 10 (.call 112 [.t 8, .t 9]),mv 7 10,o 11 (.ext (.t 7) 0),o 12 (.ext (.t 7) 1),mv 5 11,mv 6 12]) (.seq (.reg [mv 13 5,mv 4 13]) .ret))
theorem in_toom_sub2:Ent 201 14 c_toom_sub2 [.t 4]:=en Tryz.func201 rfl
def c_toom_sub:AC:= .seq (.reg [o 4 (.mv (.c (.sl none 0 0 none)))]) (.seq (.reg [mv 8 0,mv 9 1,o 10 (.call 200 [.t 9]),o 11 (.call 112 [.t 8, .t 10]),mv 7 11,o 12 (.ext (.t 7) 0),o 13 (.ext (.t 7) 1),mv 5 12,mv 6 13]) (.seq (.reg [mv 14 5,mv 4 14]) .ret))
theorem in_toom_sub:Ent 202 15 c_toom_sub [.t 4]:=en Tryz.func202 rfl
def c_toom_Third:AC:= .seq (.reg [o 2 (.mv (.c (.sl none 0 0 none))),o 3 (.mv (.c (.bool false)))]) (.seq (.reg [mv 12 0,o 13 (.call 107 [.t 12]),mv 0 13]) (.seq (.reg [o 4 (.mv (u64 0))]) (.seq (.seq (.reg [mv 14 0,o 15 (.len false (.t 14)),o 16 (.mv (i64 0))]) (.block 0 (.loop (.seq (.reg [bn 17 .lss 16 15]) (.seq (.cond (.t 17) .skip (.exit 0)) (.seq (.block 1 (.seq (.reg [mv 18 16,o 19 (.idx 1 (.t 14) (.t 16)),o 20 (.ld none (.t 19)),mv 5 18,mv 6 20]) (.seq (.reg [mv 22 6,mv 23 4,o 24 (.call 132 [.t 22, .t 23,u64 0]),mv 21 24,o 25 (.ext (.t 21) 0),o 26 (.ext (.t 21) 1),mv 7 25,mv 8 26]) (.seq (.reg [mv 27 7,o 28 (.bin .mul (.t 27) (u64 12297829382473034411)),mv 9 28]) (.seq (.reg [mv 29 0,mv 30 5,mv 31 9,o 32 (.idx 1 (.t 29) (.t 30)),od (.st 1 (.t 32) (.t 31))]) (.seq (.reg [mv 34 9,o 35 (.call 164 [.t 34,u64 3]),mv 33 35,o 36 (.ext (.t 33) 0),o 37 (.ext (.t 33) 1),mv 10 36,mv 11 37]) (.reg [mv 38 10,mv 39 8,bn 40 .add 38 39,mv 4 40]))))))) (.reg [o 41 (.bin .add (.t 16) (i64 1)),mv 16 41]))))))) (.seq (.seq (.reg [mv 42 4,o 43 (.bin .neq (.t 42) (u64 0))]) (.cond (.t 43) (.seq (.reg [o 2 (.mv (.c (.sl none 0 0 none))),o 3 (.mv (.c (.bool false)))]) .ret) .skip)) (.seq (.reg [mv 44 0,o 45 (.call 107 [.t 44]),mv 2 45,o 3 (.mv (.c (.bool true)))]) .ret)))))
theorem in_toom_Third:Ent 203 46 c_toom_Third [.t 2, .t 3]:=en Tryz.func203 rfl
def c_toom_New:AC:= .seq (.reg [o 1 (.box 23 (.t 0)),o 2 (.mv (.c (.ptr none)))]) (.seq (.reg [o 3 (.ld (some 11) (.t 1)),o 4 (.call 235 [.t 3]),o 5 (.bld [.ptr none] [(0,1, .t 4)]),o 6 (.box 170 (.t 5)),mv 2 6]) .ret)
theorem in_toom_New:Ent 226 7 c_toom_New [.t 2]:=en Tryz.func226 rfl
def c_kara_Engine_KaraSqr:AC:= .seq (.reg [o 6 (.mv (.c (.sl none 0 0 none))),o 7 (.mv (.c (.bool false)))]) (.seq (.reg [mv 18 1,o 19 (.len false (.t 18)),mv 8 19]) (.seq (.seq (.reg [mv 20 8,o 21 (.bin .lss (.t 20) (i64 2))]) (.cond (.t 21) (.seq (.reg [o 6 (.mv (.c (.sl none 0 0 none))),o 7 (.mv (.c (.bool false)))]) .ret) .skip)) (.seq (.reg [mv 22 8,o 23 (.bin .add (.t 22) (i64 1)),o 24 (.bin .quo (.t 23) (i64 2)),mv 9 24]) (.seq (.reg [mv 25 0,o 26 (.nn (.t 25)),o 27 (.fld 0 (.t 26)),o 28 (.ld none (.t 27)),o 29 (.nn (.t 28)),o 30 (.fld 0 (.t 29)),o 31 (.ld none (.t 30)),o 32 (.nn (.t 31)),o 33 (.fld 0 (.t 32)),o 34 (.call 161 [.t 33])]) (.seq (.reg [mv 35 1,mv 36 9,o 37 (.call 178 [.t 35,i64 0, .t 36]),mv 38 1,mv 39 9,mv 40 8,mv 41 9,bn 42 .sub 40 41,o 43 (.call 178 [.t 38, .t 39, .t 42]),mv 10 37,mv 11 43]) (.seq (.reg [mv 44 10,mv 45 11,o 46 (.call 111 [.t 44, .t 45]),mv 47 9,o 48 (.bin .add (.t 47) (i64 1)),o 49 (.call 179 [.t 46, .t 48]),mv 12 49]) (.seq (.reg [mv 50 2,mv 51 10,o 52 (.callV (.t 50) [.t 51]),mv 53 2,mv 54 11,o 55 (.callV (.t 53) [.t 54]),mv 13 52,mv 14 55]) (.seq (.reg [mv 56 2,mv 57 12,o 58 (.callV (.t 56) [.t 57]),mv 15 58]) (.seq (.reg [mv 59 0,o 60 (.nn (.t 59)),o 61 (.fld 0 (.t 60)),o 62 (.ld none (.t 61)),o 63 (.nn (.t 62)),o 64 (.fld 0 (.t 63)),o 65 (.ld none (.t 64)),o 66 (.nn (.t 65)),o 67 (.fld 0 (.t 66)),o 68 (.call 162 [.t 67])]) (.seq (.reg [mv 70 15,mv 71 13,mv 72 14,o 73 (.call 111 [.t 71, .t 72]),o 74 (.call 112 [.t 70, .t 73]),mv 69 74,o 75 (.ext (.t 69) 0),o 76 (.ext (.t 69) 1),mv 16 75,mv 17 76]) (.seq (.reg [mv 77 9,mv 78 13,mv 79 16,mv 80 14,o 81 (.bsl 25 1 3 [.sl none 0 0 none] [(0, .t 78),(1, .t 79),(2, .t 80)]),o 82 (.call 153 [.t 77, .t 81]),mv 6 82,o 7 (.mv (.c (.bool true)))]) .ret)))))))))))
theorem in_kara_Engine_KaraSqr:Ent 155 83 c_kara_Engine_KaraSqr [.t 6, .t 7]:=en Tryz.func155 rfl
def c_kara_Engine_Kara:AC:= .seq (.reg [o 8 (.mv (.c (.sl none 0 0 none))),o 9 (.mv (.c (.bool false)))]) (.seq (.seq (.reg [mv 24 1,o 25 (.len false (.t 24)),mv 26 2,o 27 (.len false (.t 26)),bn 28 .lss 25 27]) (.cond (.t 28) (.reg [mv 29 2,mv 30 1,mv 1 29,mv 2 30]) .skip)) (.seq (.reg [mv 31 1,o 32 (.len false (.t 31)),mv 33 2,o 34 (.len false (.t 33)),mv 10 32,mv 11 34]) (.seq (.reg [mv 35 10,o 36 (.bin .add (.t 35) (i64 1)),o 37 (.bin .quo (.t 36) (i64 2)),mv 12 37]) (.seq (.seq (.reg [mv 38 11,mv 39 12,bn 40 .leq 38 39]) (.cond (.t 40) (.seq (.reg [o 8 (.mv (.c (.sl none 0 0 none))),o 9 (.mv (.c (.bool false)))]) .ret) .skip)) (.seq (.reg [mv 41 0,o 42 (.nn (.t 41)),o 43 (.fld 0 (.t 42)),o 44 (.ld none (.t 43)),o 45 (.nn (.t 44)),o 46 (.fld 0 (.t 45)),o 47 (.ld none (.t 46)),o 48 (.nn (.t 47)),o 49 (.fld 0 (.t 48)),o 50 (.call 161 [.t 49])]) (.seq (.reg [mv 51 1,mv 52 12,o 53 (.call 178 [.t 51,i64 0, .t 52]),mv 54 1,mv 55 12,mv 56 10,mv 57 12,bn 58 .sub 56 57,o 59 (.call 178 [.t 54, .t 55, .t 58]),mv 13 53,mv 14 59]) (.seq (.reg [mv 60 2,mv 61 12,o 62 (.call 178 [.t 60,i64 0, .t 61]),mv 63 2,mv 64 12,mv 65 11,mv 66 12,bn 67 .sub 65 66,o 68 (.call 178 [.t 63, .t 64, .t 67]),mv 15 62,mv 16 68]) (.seq (.reg [mv 69 13,mv 70 14,o 71 (.call 111 [.t 69, .t 70]),mv 72 12,o 73 (.bin .add (.t 72) (i64 1)),o 74 (.call 179 [.t 71, .t 73]),mv 75 15,mv 76 16,o 77 (.call 111 [.t 75, .t 76]),mv 78 12,o 79 (.bin .add (.t 78) (i64 1)),o 80 (.call 179 [.t 77, .t 79]),mv 17 74,mv 18 80]) (.seq (.reg [mv 81 3,mv 82 13,mv 83 15,o 84 (.callV (.t 81) [.t 82, .t 83]),mv 85 3,mv 86 14,mv 87 16,o 88 (.callV (.t 85) [.t 86, .t 87]),mv 19 84,mv 20 88]) (.seq (.reg [mv 89 3,mv 90 17,mv 91 18,o 92 (.callV (.t 89) [.t 90, .t 91]),mv 21 92]) (.seq (.reg [mv 93 0,o 94 (.nn (.t 93)),o 95 (.fld 0 (.t 94)),o 96 (.ld none (.t 95)),o 97 (.nn (.t 96)),o 98 (.fld 0 (.t 97)),o 99 (.ld none (.t 98)),o 100 (.nn (.t 99)),o 101 (.fld 0 (.t 100)),o 102 (.call 162 [.t 101])]) (.seq (.reg [mv 104 21,mv 105 19,mv 106 20,o 107 (.call 111 [.t 105, .t 106]),o 108 (.call 112 [.t 104, .t 107]),mv 103 108,o 109 (.ext (.t 103) 0),o 110 (.ext (.t 103) 1),mv 22 109,mv 23 110]) (.seq (.reg [mv 111 12,mv 112 19,mv 113 22,mv 114 20,o 115 (.bsl 25 1 3 [.sl none 0 0 none] [(0, .t 112),(1, .t 113),(2, .t 114)]),o 116 (.call 153 [.t 111, .t 115]),mv 8 116,o 9 (.mv (.c (.bool true)))]) .ret)))))))))))))
theorem in_kara_Engine_Kara:Ent 167 117 c_kara_Engine_Kara [.t 8, .t 9]:=en Tryz.func167 rfl
def c_kara_piece:AC:= .seq (.reg [o 6 (.mv (.c (.sl none 0 0 none)))]) (.seq (.reg [mv 8 2,o 9 (.mk 54 1 8 [.int .u64 0] (.t 8) (.t 8)),mv 7 9]) (.seq (.seq (.reg [mv 10 1,mv 11 0,o 12 (.len false (.t 11)),bn 13 .lss 10 12]) (.cond (.t 13) (.reg [mv 14 7,mv 15 0,mv 16 1,mv 17 0,o 18 (.len false (.t 17)),mv 19 1,mv 20 2,bn 21 .add 19 20,o 22 (.mnx false (.t 18) [.t 21]),o 23 (.slc 1 (.t 15) (some (.t 16)) (some (.t 22))),o 24 (.cpy 1 (.t 14) (.t 23))]) .skip)) (.seq (.reg [mv 25 7,mv 6 25]) .ret)))
theorem in_kara_piece:Ent 178 26 c_kara_piece [.t 6]:=en Tryz.func178 rfl
def c_kara_wide:AC:= .seq (.reg [o 4 (.mv (.c (.sl none 0 0 none)))]) (.seq (.reg [mv 5 0,mv 6 1,o 7 (.call 178 [.t 5,i64 0, .t 6]),mv 4 7]) .ret)
theorem in_kara_wide:Ent 179 8 c_kara_wide [.t 4]:=en Tryz.func179 rfl
def c_kara_New:AC:= .seq (.reg [o 1 (.box 23 (.t 0)),o 2 (.mv (.c (.ptr none)))]) (.seq (.reg [o 3 (.ld (some 11) (.t 1)),o 4 (.call 243 [.t 3]),o 5 (.bld [.ptr none] [(0,1, .t 4)]),o 6 (.box 173 (.t 5)),mv 2 6]) .ret)
theorem in_kara_New:Ent 235 7 c_kara_New [.t 2]:=en Tryz.func235 rfl
def c_school_Engine_Mul:AC:= .seq (.reg [o 6 (.mv (.c (.sl none 0 0 none)))]) (.seq (.reg [mv 17 0,o 18 (.nn (.t 17)),o 19 (.fld 0 (.t 18)),o 20 (.ld none (.t 19)),o 21 (.nn (.t 20)),o 22 (.fld 0 (.t 21)),mv 23 1,o 24 (.len false (.t 23)),mv 25 2,o 26 (.len false (.t 25)),bn 27 .mul 24 26,o 28 (.call 144 [.t 22, .t 27])]) (.seq (.reg [mv 29 1,o 30 (.len false (.t 29)),mv 31 2,o 32 (.len false (.t 31)),bn 33 .add 30 32,o 34 (.mk 54 1 8 [.int .u64 0] (.t 33) (.t 33)),mv 7 34]) (.seq (.seq (.reg [mv 35 1,o 36 (.len false (.t 35)),o 37 (.mv (i64 0))]) (.block 0 (.loop (.seq (.reg [bn 38 .lss 37 36]) (.seq (.cond (.t 38) .skip (.exit 0)) (.seq (.block 1 (.seq (.reg [mv 39 37,o 40 (.idx 1 (.t 35) (.t 37)),o 41 (.ld none (.t 40)),mv 8 39,mv 9 41]) (.seq (.reg [o 10 (.mv (u64 0))]) (.seq (.seq (.reg [mv 42 2,o 43 (.len false (.t 42)),o 44 (.mv (i64 0))]) (.block 2 (.loop (.seq (.reg [bn 45 .lss 44 43]) (.seq (.cond (.t 45) .skip (.exit 2)) (.seq (.block 3 (.seq (.reg [mv 46 44,o 47 (.idx 1 (.t 42) (.t 44)),o 48 (.ld none (.t 47)),mv 11 46,mv 12 48]) (.seq (.reg [mv 50 9,mv 51 12,o 52 (.call 164 [.t 50, .t 51]),mv 49 52,o 53 (.ext (.t 49) 0),o 54 (.ext (.t 49) 1),mv 13 53,mv 14 54]) (.seq (.reg [mv 56 14,mv 57 10,o 58 (.call 131 [.t 56, .t 57,u64 0]),mv 55 58,o 59 (.ext (.t 55) 0),o 60 (.ext (.t 55) 1),mv 15 59,mv 16 60]) (.seq (.reg [mv 61 13,mv 62 16,bn 63 .add 61 62,mv 13 63]) (.seq (.reg [mv 65 7,mv 66 8,mv 67 11,bn 68 .add 66 67,mv 69 7,mv 70 8,mv 71 11,bn 72 .add 70 71,o 73 (.idx 1 (.t 69) (.t 72)),o 74 (.ld none (.t 73)),mv 75 15,o 76 (.call 131 [.t 74, .t 75,u64 0]),mv 64 76,o 77 (.ext (.t 64) 0),o 78 (.ext (.t 64) 1),o 79 (.idx 1 (.t 65) (.t 68)),od (.st 1 (.t 79) (.t 77)),mv 16 78]) (.reg [mv 80 13,mv 81 16,bn 82 .add 80 81,mv 10 82]))))))) (.reg [o 83 (.bin .add (.t 44) (i64 1)),mv 44 83]))))))) (.reg [mv 84 7,mv 85 8,mv 86 2,o 87 (.len false (.t 86)),bn 88 .add 85 87,mv 89 10,o 90 (.idx 1 (.t 84) (.t 88)),od (.st 1 (.t 90) (.t 89))]))))) (.reg [o 91 (.bin .add (.t 37) (i64 1)),mv 37 91]))))))) (.seq (.reg [mv 92 7,o 93 (.call 107 [.t 92]),mv 6 93]) .ret))))
theorem in_school_Engine_Mul:Ent 143 94 c_school_Engine_Mul [.t 6]:=en Tryz.func143 rfl
def c_school_Engine_Sqr:AC:= .seq (.reg [o 4 (.mv (.c (.sl none 0 0 none)))]) (.seq (.reg [mv 25 1,o 26 (.len false (.t 25)),mv 5 26]) (.seq (.reg [mv 27 0,o 28 (.nn (.t 27)),o 29 (.fld 0 (.t 28)),o 30 (.ld none (.t 29)),o 31 (.nn (.t 30)),o 32 (.fld 0 (.t 31)),mv 33 5,mv 34 5,o 35 (.bin .add (.t 34) (i64 1)),bn 36 .mul 33 35,o 37 (.bin .quo (.t 36) (i64 2)),o 38 (.call 144 [.t 32, .t 37])]) (.seq (.reg [mv 39 5,o 40 (.bin .mul (i64 2) (.t 39)),o 41 (.mk 54 1 8 [.int .u64 0] (.t 40) (.t 40)),mv 6 41]) (.seq (.seq (.reg [mv 42 1,o 43 (.len false (.t 42)),o 44 (.mv (i64 0))]) (.block 0 (.loop (.seq (.reg [bn 45 .lss 44 43]) (.seq (.cond (.t 45) .skip (.exit 0)) (.seq (.block 1 (.seq (.reg [mv 46 44,o 47 (.idx 1 (.t 42) (.t 44)),o 48 (.ld none (.t 47)),mv 7 46,mv 8 48]) (.seq (.reg [o 9 (.mv (u64 0))]) (.seq (.seq (.reg [mv 49 7,o 50 (.bin .add (.t 49) (i64 1)),mv 10 50]) (.block 2 (.loop (.seq (.seq (.reg [mv 51 10,mv 52 5,bn 53 .lss 51 52]) (.cond (.t 53) .skip (.exit 2))) (.seq (.block 3 (.seq (.reg [mv 57 8,mv 58 1,mv 59 10,o 60 (.idx 1 (.t 58) (.t 59)),o 61 (.ld none (.t 60)),o 62 (.call 164 [.t 57, .t 61]),mv 56 62,o 63 (.ext (.t 56) 0),o 64 (.ext (.t 56) 1),mv 11 63,mv 12 64]) (.seq (.reg [mv 66 12,mv 67 9,o 68 (.call 131 [.t 66, .t 67,u64 0]),mv 65 68,o 69 (.ext (.t 65) 0),o 70 (.ext (.t 65) 1),mv 13 69,mv 14 70]) (.seq (.reg [mv 71 11,mv 72 14,bn 73 .add 71 72,mv 11 73]) (.seq (.reg [mv 75 6,mv 76 7,mv 77 10,bn 78 .add 76 77,mv 79 6,mv 80 7,mv 81 10,bn 82 .add 80 81,o 83 (.idx 1 (.t 79) (.t 82)),o 84 (.ld none (.t 83)),mv 85 13,o 86 (.call 131 [.t 84, .t 85,u64 0]),mv 74 86,o 87 (.ext (.t 74) 0),o 88 (.ext (.t 74) 1),o 89 (.idx 1 (.t 75) (.t 78)),od (.st 1 (.t 89) (.t 87)),mv 14 88]) (.reg [mv 90 11,mv 91 14,bn 92 .add 90 91,mv 9 92])))))) (.reg [mv 54 10,o 55 (.bin .add (.t 54) (i64 1)),mv 10 55])))))) (.reg [mv 93 6,mv 94 7,mv 95 5,bn 96 .add 94 95,mv 97 9,o 98 (.idx 1 (.t 93) (.t 96)),od (.st 1 (.t 98) (.t 97))]))))) (.reg [o 99 (.bin .add (.t 44) (i64 1)),mv 44 99]))))))) (.seq (.reg [o 15 (.mv (u64 0))]) (.seq (.reg [o 16 (.mv (u64 0))]) (.seq (.seq (.reg [mv 100 1,o 101 (.len false (.t 100)),o 102 (.mv (i64 0))]) (.block 4 (.loop (.seq (.reg [bn 103 .lss 102 101]) (.seq (.cond (.t 103) .skip (.exit 4)) (.seq (.block 5 (.seq (.reg [mv 104 102,o 105 (.idx 1 (.t 100) (.t 102)),o 106 (.ld none (.t 105)),mv 17 104,mv 18 106]) (.seq (.reg [mv 108 18,mv 109 18,o 110 (.call 164 [.t 108, .t 109]),mv 107 110,o 111 (.ext (.t 107) 0),o 112 (.ext (.t 107) 1),mv 19 111,mv 20 112]) (.seq (.reg [mv 113 6,mv 114 17,o 115 (.bin .mul (i64 2) (.t 114)),o 116 (.idx 1 (.t 113) (.t 115)),o 117 (.ld none (.t 116)),mv 118 6,mv 119 17,o 120 (.bin .mul (i64 2) (.t 119)),o 121 (.bin .add (.t 120) (i64 1)),o 122 (.idx 1 (.t 118) (.t 121)),o 123 (.ld none (.t 122)),mv 21 117,mv 22 123]) (.seq (.reg [mv 125 21,o 126 (.bin .shl (.t 125) (u64 1)),mv 127 16,bn 128 .or 126 127,mv 129 20,mv 130 15,o 131 (.call 131 [.t 128, .t 129, .t 130]),mv 124 131,o 132 (.ext (.t 124) 0),o 133 (.ext (.t 124) 1),mv 23 132,mv 24 133]) (.seq (.reg [mv 134 6,mv 135 17,o 136 (.bin .mul (i64 2) (.t 135)),mv 137 23,o 138 (.idx 1 (.t 134) (.t 136)),od (.st 1 (.t 138) (.t 137))]) (.seq (.reg [mv 140 22,o 141 (.bin .shl (.t 140) (u64 1)),mv 142 21,o 143 (.bin .shr (.t 142) (u64 63)),bn 144 .or 141 143,mv 145 19,mv 146 24,o 147 (.call 131 [.t 144, .t 145, .t 146]),mv 139 147,o 148 (.ext (.t 139) 0),o 149 (.ext (.t 139) 1),mv 23 148,mv 15 149]) (.seq (.reg [mv 150 6,mv 151 17,o 152 (.bin .mul (i64 2) (.t 151)),o 153 (.bin .add (.t 152) (i64 1)),mv 154 23,o 155 (.idx 1 (.t 150) (.t 153)),od (.st 1 (.t 155) (.t 154))]) (.reg [mv 156 22,o 157 (.bin .shr (.t 156) (u64 63)),mv 16 157]))))))))) (.reg [o 158 (.bin .add (.t 102) (i64 1)),mv 102 158]))))))) (.seq (.reg [mv 159 6,o 160 (.call 107 [.t 159]),mv 4 160]) .ret))))))))
theorem in_school_Engine_Sqr:Ent 158 161 c_school_Engine_Sqr [.t 4]:=en Tryz.func158 rfl
def c_school_New:AC:= .seq (.reg [o 1 (.box 23 (.t 0)),o 2 (.mv (.c (.ptr none)))]) (.seq (.reg [o 3 (.ld (some 11) (.t 1)),o 4 (.call 247 [.t 3]),o 5 (.bld [.ptr none] [(0,1, .t 4)]),o 6 (.box 176 (.t 5)),mv 2 6]) .ret)
theorem in_school_New:Ent 243 7 c_school_New [.t 2]:=en Tryz.func243 rfl
def c_radix_New:AC:= .seq (.reg [o 1 (.box 23 (.t 0)),o 2 (.mv (.c (.ptr none)))]) (.seq (.reg [o 3 (.ld (some 11) (.t 1)),o 4 (.call 116 [.t 3]),o 5 (.bld [.ptr none] [(0,1, .t 4)]),o 6 (.box 130 (.t 5)),mv 2 6]) .ret)
theorem in_radix_New:Ent 84 7 c_radix_New [.t 2]:=en Tryz.func84 rfl
def c_radix_Engine_Text:AC:= .seq (.reg [o 6 (.mv (.c (.str ⟨#[]⟩))),o 7 (.mv (i64 0))]) (.seq (.seq (.reg [mv 13 2,o 14 (.bin .lss (.t 13) (i64 2)),mv 15 14,og 16 15 false (.mv (.t 2)),og 17 15 false (.bin .gtr (.t 16) (i64 36)),o 18 (.pick (.t 15) (.c (.bool true)) (.t 17))]) (.cond (.t 18) (.seq (.reg [o 6 (.mv (.c (.str ⟨#[]⟩))),o 7 (.mv (i64 1))]) .ret) .skip)) (.seq (.reg [mv 19 0,mv 20 1,mv 21 2,o 22 (.cvI .u64 (.t 21)),o 23 (.call 117 [.t 19, .t 20, .t 22]),mv 8 23]) (.seq (.seq (.reg [mv 24 8,o 25 (.len false (.t 24)),o 26 (.bin .eql (.t 25) (i64 0))]) (.cond (.t 26) (.seq (.reg [o 6 (.mv (.c (.str ⟨#[48]⟩))),o 7 (.mv (i64 0))]) .ret) .skip)) (.seq (.reg [mv 27 8,o 28 (.len false (.t 27)),o 29 (.mk 5 1 1 [.int .u8 0] (.t 28) (.t 28)),mv 9 29]) (.seq (.seq (.reg [mv 30 8,o 31 (.len false (.t 30)),o 32 (.mv (i64 0))]) (.block 0 (.loop (.seq (.reg [bn 33 .lss 32 31]) (.seq (.cond (.t 33) .skip (.exit 0)) (.seq (.block 1 (.seq (.reg [mv 34 32,o 35 (.idx 1 (.t 30) (.t 32)),o 36 (.ld none (.t 35)),mv 10 34,mv 11 36]) (.seq (.reg [mv 37 11,o 38 (.bin .add (u64 48) (.t 37)),o 39 (.cvI .u8 (.t 38)),mv 12 39]) (.seq (.seq (.reg [mv 40 11,o 41 (.bin .gtr (.t 40) (u64 9))]) (.cond (.t 41) (.reg [mv 42 11,o 43 (.bin .add (u64 97) (.t 42)),o 44 (.bin .sub (.t 43) (u64 10)),o 45 (.cvI .u8 (.t 44)),mv 12 45]) .skip)) (.reg [mv 46 9,mv 47 8,o 48 (.len false (.t 47)),o 49 (.bin .sub (.t 48) (i64 1)),mv 50 10,bn 51 .sub 49 50,mv 52 12,o 53 (.idx 1 (.t 46) (.t 51)),od (.st 1 (.t 53) (.t 52))]))))) (.reg [o 54 (.bin .add (.t 32) (i64 1)),mv 32 54]))))))) (.seq (.reg [mv 55 9,o 56 (.bts (.t 55)),mv 6 56,o 7 (.mv (i64 0))]) .ret))))))
theorem in_radix_Engine_Text:Ent 85 57 c_radix_Engine_Text [.t 6, .t 7]:=en Tryz.func85 rfl
def c_radix_Engine_Parse:AC:= .seq (.reg [o 6 (.mv (.c (.sl none 0 0 none))),o 7 (.mv (i64 0))]) (.seq (.seq (.reg [mv 12 2,o 13 (.bin .lss (.t 12) (i64 2)),mv 14 13,og 15 14 false (.mv (.t 2)),og 16 14 false (.bin .gtr (.t 15) (i64 36)),o 17 (.pick (.t 14) (.c (.bool true)) (.t 16))]) (.cond (.t 17) (.seq (.reg [o 6 (.mv (.c (.sl none 0 0 none))),o 7 (.mv (i64 1))]) .ret) .skip)) (.seq (.seq (.reg [mv 18 1,o 19 (.seq false (.t 18) (.c (.str ⟨#[]⟩))),mv 20 19,og 21 20 false (.mv (.t 1)),og 22 20 false (.len true (.t 21)),og 23 20 false (.bin .gtr (.t 22) (i64 65536)),o 24 (.pick (.t 20) (.c (.bool true)) (.t 23))]) (.cond (.t 24) (.seq (.reg [o 6 (.mv (.c (.sl none 0 0 none))),o 7 (.mv (i64 11))]) .ret) .skip)) (.seq (.reg [mv 25 1,o 26 (.len true (.t 25)),o 27 (.mk 54 1 8 [.int .u64 0] (.t 26) (.t 26)),mv 8 27]) (.seq (.seq (.reg [o 9 (.mv (i64 0))]) (.block 0 (.loop (.seq (.seq (.reg [mv 28 9,mv 29 1,o 30 (.len true (.t 29)),bn 31 .lss 28 30]) (.cond (.t 31) .skip (.exit 0))) (.seq (.block 1 (.seq (.reg [mv 35 1,mv 36 9,o 37 (.idxS (.t 35) (.t 36)),mv 38 2,o 39 (.call 119 [.t 37, .t 38]),mv 34 39,o 40 (.ext (.t 34) 0),o 41 (.ext (.t 34) 1),mv 10 40,mv 11 41]) (.seq (.seq (.reg [mv 42 11,o 43 (.un .not (.t 42))]) (.cond (.t 43) (.seq (.reg [o 6 (.mv (.c (.sl none 0 0 none))),o 7 (.mv (i64 11))]) .ret) .skip)) (.reg [mv 44 8,mv 45 1,o 46 (.len true (.t 45)),o 47 (.bin .sub (.t 46) (i64 1)),mv 48 9,bn 49 .sub 47 48,mv 50 10,o 51 (.idx 1 (.t 44) (.t 49)),od (.st 1 (.t 51) (.t 50))])))) (.reg [mv 32 9,o 33 (.bin .add (.t 32) (i64 1)),mv 9 33])))))) (.seq (.reg [mv 52 0,mv 53 2,o 54 (.cvI .u64 (.t 53)),mv 55 8,o 56 (.call 120 [.t 52, .t 54, .t 55]),mv 6 56,o 7 (.mv (i64 0))]) .ret)))))
theorem in_radix_Engine_Parse:Ent 89 57 c_radix_Engine_Parse [.t 6, .t 7]:=en Tryz.func89 rfl
def c_radix_Engine_Digits:AC:= .seq (.reg [o 6 (.mv (.c (.sl none 0 0 none))),o 7 (.mv (i64 0))]) (.seq (.seq (.reg [mv 8 2,o 9 (.bin .lss (.t 8) (u64 2))]) (.cond (.t 9) (.seq (.reg [o 6 (.mv (.c (.sl none 0 0 none))),o 7 (.mv (i64 1))]) .ret) .skip)) (.seq (.reg [mv 10 0,mv 11 1,mv 12 2,o 13 (.call 117 [.t 10, .t 11, .t 12]),mv 6 13,o 7 (.mv (i64 0))]) .ret))
theorem in_radix_Engine_Digits:Ent 91 14 c_radix_Engine_Digits [.t 6, .t 7]:=en Tryz.func91 rfl
def c_radix_Engine_Value:AC:= .seq (.reg [o 6 (.mv (.c (.sl none 0 0 none))),o 7 (.mv (i64 0))]) (.seq (.seq (.reg [mv 10 1,o 11 (.bin .lss (.t 10) (u64 2))]) (.cond (.t 11) (.seq (.reg [o 6 (.mv (.c (.sl none 0 0 none))),o 7 (.mv (i64 1))]) .ret) .skip)) (.seq (.seq (.reg [mv 12 2,o 13 (.len false (.t 12)),o 14 (.mv (i64 0))]) (.block 0 (.loop (.seq (.reg [bn 15 .lss 14 13]) (.seq (.cond (.t 15) .skip (.exit 0)) (.seq (.block 1 (.seq (.reg [o 16 (.idx 1 (.t 12) (.t 14)),o 17 (.ld none (.t 16)),mv 9 17]) (.seq (.reg [mv 18 9,mv 19 1,bn 20 .geq 18 19]) (.cond (.t 20) (.seq (.reg [o 6 (.mv (.c (.sl none 0 0 none))),o 7 (.mv (i64 1))]) .ret) .skip)))) (.reg [o 21 (.bin .add (.t 14) (i64 1)),mv 14 21]))))))) (.seq (.reg [mv 22 0,mv 23 1,mv 24 2,o 25 (.call 120 [.t 22, .t 23, .t 24]),mv 6 25,o 7 (.mv (i64 0))]) .ret)))
theorem in_radix_Engine_Value:Ent 94 26 c_radix_Engine_Value [.t 6, .t 7]:=en Tryz.func94 rfl
def c_radix_Engine_digits:AC:= .seq (.reg [o 6 (.mv (.c (.sl none 0 0 none)))]) (.seq (.reg [mv 10 1,o 11 (.call 107 [.t 10]),mv 1 11]) (.seq (.reg [mv 12 0,mv 13 2,mv 14 1,o 15 (.call 32 [.t 14]),o 16 (.call 135 [.t 12, .t 13, .t 15]),mv 7 16]) (.seq (.reg [mv 17 7,o 18 (.nn (.t 17)),o 19 (.fld 3 (.t 18)),o 20 (.ld none (.t 19)),o 21 (.len false (.t 20)),mv 8 21]) (.seq (.reg [mv 22 0,mv 23 7,mv 24 1,mv 25 8,o 26 (.call 136 [.t 22, .t 23, .t 24, .t 25, .c (.sl none 0 0 none)]),mv 9 26]) (.seq (.block 0 (.loop (.seq (.seq (.reg [mv 27 9,o 28 (.len false (.t 27)),o 29 (.bin .gtr (.t 28) (i64 0)),mv 30 29,og 31 30 true (.mv (.t 9)),og 32 30 true (.mv (.t 9)),og 33 30 true (.len false (.t 32)),og 34 30 true (.bin .sub (.t 33) (i64 1)),og 35 30 true (.idx 1 (.t 31) (.t 34)),og 36 30 true (.ld none (.t 35)),og 37 30 true (.bin .eql (.t 36) (u64 0)),o 38 (.pick (.t 30) (.t 37) (.c (.bool false)))]) (.cond (.t 38) .skip (.exit 0))) (.block 1 (.reg [mv 39 9,mv 40 9,o 41 (.len false (.t 40)),o 42 (.bin .sub (.t 41) (i64 1)),o 43 (.slc 1 (.t 39) none (some (.t 42))),mv 9 43]))))) (.seq (.reg [mv 44 9,mv 6 44]) .ret))))))
theorem in_radix_Engine_digits:Ent 117 45 c_radix_Engine_digits [.t 6]:=en Tryz.func117 rfl
def c_radix_digit:AC:= .seq (.reg [o 4 (.mv (u64 0)),o 5 (.mv (.c (.bool false)))]) (.seq (.reg [o 6 (.mv (i64 99))]) (.seq (.block 0 (.seq (.reg [mv 8 0,o 9 (.bin .geq (.t 8) (.c (.int .u8 48))),mv 10 9,og 11 10 true (.mv (.t 0)),og 12 10 true (.bin .leq (.t 11) (.c (.int .u8 57))),o 13 (.pick (.t 10) (.t 12) (.c (.bool false))),mv 7 13]) (.cond (.t 7) (.reg [mv 14 0,o 15 (.bin .sub (.t 14) (.c (.int .u8 48))),o 16 (.cvI .i64 (.t 15)),mv 6 16]) (.seq (.reg [mv 18 0,o 19 (.bin .geq (.t 18) (.c (.int .u8 97))),mv 20 19,og 21 20 true (.mv (.t 0)),og 22 20 true (.bin .leq (.t 21) (.c (.int .u8 122))),o 23 (.pick (.t 20) (.t 22) (.c (.bool false))),mv 17 23]) (.cond (.t 17) (.reg [mv 24 0,o 25 (.bin .sub (.t 24) (.c (.int .u8 97))),o 26 (.cvI .i64 (.t 25)),o 27 (.bin .add (.t 26) (i64 10)),mv 6 27]) .skip))))) (.seq (.reg [mv 28 6,o 29 (.cvI .u64 (.t 28)),mv 30 6,mv 31 1,bn 32 .lss 30 31,mv 4 29,mv 5 32]) .ret)))
theorem in_radix_digit:Ent 119 33 c_radix_digit [.t 4, .t 5]:=en Tryz.func119 rfl
def c_radix_Engine_number:AC:= .seq (.reg [o 6 (.mv (.c (.sl none 0 0 none)))]) (.seq (.block 0 (.loop (.seq (.seq (.reg [mv 10 2,o 11 (.len false (.t 10)),o 12 (.bin .gtr (.t 11) (i64 0)),mv 13 12,og 14 13 true (.mv (.t 2)),og 15 13 true (.mv (.t 2)),og 16 13 true (.len false (.t 15)),og 17 13 true (.bin .sub (.t 16) (i64 1)),og 18 13 true (.idx 1 (.t 14) (.t 17)),og 19 13 true (.ld none (.t 18)),og 20 13 true (.bin .eql (.t 19) (u64 0)),o 21 (.pick (.t 13) (.t 20) (.c (.bool false)))]) (.cond (.t 21) .skip (.exit 0))) (.block 1 (.reg [mv 22 2,mv 23 2,o 24 (.len false (.t 23)),o 25 (.bin .sub (.t 24) (i64 1)),o 26 (.slc 1 (.t 22) none (some (.t 25))),mv 2 26]))))) (.seq (.reg [mv 27 1,o 28 (.bld [.int .u64 0, .int .i64 0, .int .u64 0, .sl none 0 0 none] [(0,1, .t 27)]),o 29 (.box 192 (.t 28)),mv 7 29]) (.seq (.reg [mv 31 7,mv 32 7,mv 33 1,o 34 (.call 137 [.t 33]),mv 30 34,o 35 (.ext (.t 30) 0),o 36 (.ext (.t 30) 1),o 37 (.nn (.t 31)),o 38 (.fld 1 (.t 37)),od (.st 1 (.t 38) (.t 35)),o 39 (.nn (.t 32)),o 40 (.fld 2 (.t 39)),od (.st 1 (.t 40) (.t 36))]) (.seq (.reg [o 8 (.mv (i64 0))]) (.seq (.reg [mv 41 7,o 42 (.nn (.t 41)),o 43 (.fld 2 (.t 42)),o 44 (.ld none (.t 43)),o 45 (.call 97 [.t 44]),mv 9 45]) (.seq (.block 2 (.loop (.seq (.seq (.reg [mv 46 7,o 47 (.nn (.t 46)),o 48 (.fld 1 (.t 47)),o 49 (.ld none (.t 48)),mv 50 8,o 51 (.cvI .u64 (.t 50)),bn 52 .shl 49 51,mv 53 2,o 54 (.len false (.t 53)),bn 55 .lss 52 54]) (.cond (.t 55) .skip (.exit 2))) (.block 3 (.seq (.reg [mv 56 7,mv 57 7,o 58 (.nn (.t 57)),o 59 (.fld 3 (.t 58)),o 60 (.ld none (.t 59)),mv 61 9,o 62 (.bsl 25 1 1 [.sl none 0 0 none] [(0, .t 61)]),o 63 (.app 25 1 24 (.t 60) (.t 62)),o 64 (.nn (.t 56)),o 65 (.fld 3 (.t 64)),od (.st 1 (.t 65) (.t 63))]) (.seq (.reg [mv 66 8,o 67 (.bin .add (.t 66) (i64 1)),mv 8 67]) (.seq (.reg [mv 68 7,o 69 (.nn (.t 68)),o 70 (.fld 1 (.t 69)),o 71 (.ld none (.t 70)),mv 72 8,o 73 (.cvI .u64 (.t 72)),bn 74 .shl 71 73,mv 75 2,o 76 (.len false (.t 75)),bn 77 .lss 74 76]) (.cond (.t 77) (.reg [mv 78 0,o 79 (.nn (.t 78)),o 80 (.fld 0 (.t 79)),o 81 (.ld none (.t 80)),o 82 (.nn (.t 81)),o 83 (.fld 0 (.t 82)),o 84 (.ld none (.t 83)),o 85 (.nn (.t 84)),o 86 (.fld 0 (.t 85)),o 87 (.ld none (.t 86)),o 88 (.nn (.t 87)),o 89 (.fld 0 (.t 88)),o 90 (.ld none (.t 89)),o 91 (.nn (.t 90)),o 92 (.fld 0 (.t 91)),o 93 (.ld none (.t 92)),mv 94 9,o 95 (.call 115 [.t 93, .t 94]),mv 9 95]) .skip)))))))) (.seq (.reg [mv 96 0,mv 97 7,mv 98 2,mv 99 8,o 100 (.call 138 [.t 96, .t 97, .t 98, .t 99]),mv 6 100]) .ret)))))))
theorem in_radix_Engine_number:Ent 120 101 c_radix_Engine_number [.t 6]:=en Tryz.func120 rfl
def c_radix_Engine_grown:AC:= .seq (.reg [o 6 (.mv (.c (.ptr none)))]) (.seq (.reg [mv 9 1,o 10 (.bld [.int .u64 0, .int .i64 0, .int .u64 0, .sl none 0 0 none] [(0,1, .t 9)]),o 11 (.box 192 (.t 10)),mv 7 11]) (.seq (.reg [mv 13 7,mv 14 7,mv 15 1,o 16 (.call 137 [.t 15]),mv 12 16,o 17 (.ext (.t 12) 0),o 18 (.ext (.t 12) 1),o 19 (.nn (.t 13)),o 20 (.fld 1 (.t 19)),od (.st 1 (.t 20) (.t 17)),o 21 (.nn (.t 14)),o 22 (.fld 2 (.t 21)),od (.st 1 (.t 22) (.t 18))]) (.seq (.reg [mv 23 7,o 24 (.nn (.t 23)),o 25 (.fld 2 (.t 24)),o 26 (.ld none (.t 25)),o 27 (.call 97 [.t 26]),mv 8 27]) (.seq (.reg [mv 28 7,mv 29 7,o 30 (.nn (.t 29)),o 31 (.fld 3 (.t 30)),o 32 (.ld none (.t 31)),mv 33 8,o 34 (.bsl 25 1 1 [.sl none 0 0 none] [(0, .t 33)]),o 35 (.app 25 1 24 (.t 32) (.t 34)),o 36 (.nn (.t 28)),o 37 (.fld 3 (.t 36)),od (.st 1 (.t 37) (.t 35))]) (.seq (.block 0 (.loop (.seq (.seq (.reg [mv 38 8,o 39 (.call 32 [.t 38]),o 40 (.bin .mul (i64 2) (.t 39)),mv 41 2,o 42 (.bin .add (.t 41) (i64 2)),bn 43 .lss 40 42]) (.cond (.t 43) .skip (.exit 0))) (.block 1 (.seq (.reg [mv 44 0,o 45 (.nn (.t 44)),o 46 (.fld 0 (.t 45)),o 47 (.ld none (.t 46)),o 48 (.nn (.t 47)),o 49 (.fld 0 (.t 48)),o 50 (.ld none (.t 49)),o 51 (.nn (.t 50)),o 52 (.fld 0 (.t 51)),o 53 (.ld none (.t 52)),o 54 (.nn (.t 53)),o 55 (.fld 0 (.t 54)),o 56 (.ld none (.t 55)),o 57 (.nn (.t 56)),o 58 (.fld 0 (.t 57)),o 59 (.ld none (.t 58)),mv 60 8,o 61 (.call 115 [.t 59, .t 60]),mv 8 61]) (.reg [mv 62 7,mv 63 7,o 64 (.nn (.t 63)),o 65 (.fld 3 (.t 64)),o 66 (.ld none (.t 65)),mv 67 8,o 68 (.bsl 25 1 1 [.sl none 0 0 none] [(0, .t 67)]),o 69 (.app 25 1 24 (.t 66) (.t 68)),o 70 (.nn (.t 62)),o 71 (.fld 3 (.t 70)),od (.st 1 (.t 71) (.t 69))])))))) (.seq (.reg [mv 72 7,mv 6 72]) .ret))))))
theorem in_radix_Engine_grown:Ent 135 73 c_radix_Engine_grown [.t 6]:=en Tryz.func135 rfl
def c_radix_Engine_down:AC:= .seq (.reg [o 10 (.mv (.c (.sl none 0 0 none)))]) (.seq (.seq (.reg [mv 14 3,o 15 (.bin .eql (.t 14) (i64 0)),mv 16 15,og 17 16 false (.mv (.t 2)),og 19 16 false (.mv (.t 0)),og 20 16 false (.nn (.t 19)),og 21 16 false (.fld 0 (.t 20)),og 22 16 false (.ld none (.t 21)),og 23 16 false (.nn (.t 22)),og 24 16 false (.fld 0 (.t 23)),og 25 16 false (.ld none (.t 24)),og 26 16 false (.nn (.t 25)),og 27 16 false (.fld 0 (.t 26)),og 28 16 false (.ld none (.t 27)),og 29 16 false (.nn (.t 28)),og 30 16 false (.fld 0 (.t 29)),og 31 16 false (.ld none (.t 30)),og 32 16 false (.nn (.t 31)),og 33 16 false (.fld 0 (.t 32)),og 34 16 false (.ld none (.t 33)),og 35 16 false (.nn (.t 34)),og 36 16 false (.fld 0 (.t 35)),og 37 16 false (.ld none (.t 36)),og 38 16 false (.nn (.t 37)),og 39 16 false (.fld 0 (.t 38)),og 40 16 false (.ld none (.t 39)),og 41 16 false (.nn (.t 40)),og 42 16 false (.fld 0 (.t 41)),og 43 16 false (.ld none (.t 42)),og 44 16 false (.nn (.t 43)),og 45 16 false (.fld 0 (.t 44)),og 46 16 false (.ld none (.t 45)),og 47 16 false (.nn (.t 46)),og 48 16 false (.fld 3 (.t 47)),og 49 16 false (.fld 6 (.t 48)),og 50 16 false (.ld none (.t 49)),⟨some 18,some (16,false), .call 52 [.t 17],[(some 22,some (16,false), .ld none (.t 21)),(some 25,some (16,false), .ld none (.t 24)),(some 28,some (16,false), .ld none (.t 27)),(some 31,some (16,false), .ld none (.t 30)),(some 34,some (16,false), .ld none (.t 33)),(some 37,some (16,false), .ld none (.t 36)),(some 40,some (16,false), .ld none (.t 39)),(some 43,some (16,false), .ld none (.t 42)),(some 46,some (16,false), .ld none (.t 45)),(some 50,some (16,false), .ld none (.t 49))]⟩,og 51 16 false (.bin .lss (.t 18) (.t 50)),o 52 (.pick (.t 16) (.c (.bool true)) (.t 51))]) (.cond (.t 52) (.seq (.reg [mv 53 0,mv 54 1,mv 55 2,mv 56 1,o 57 (.nn (.t 56)),o 58 (.fld 1 (.t 57)),o 59 (.ld none (.t 58)),mv 60 3,o 61 (.cvI .u64 (.t 60)),bn 62 .shl 59 61,mv 63 4,o 64 (.call 160 [.t 53, .t 54, .t 55, .t 62, .t 63]),mv 10 64]) .ret) .skip)) (.seq (.reg [mv 65 0,o 66 (.nn (.t 65)),o 67 (.fld 0 (.t 66)),o 68 (.ld none (.t 67)),o 69 (.nn (.t 68)),o 70 (.fld 0 (.t 69)),o 71 (.ld none (.t 70)),o 72 (.nn (.t 71)),o 73 (.fld 0 (.t 72)),o 74 (.ld none (.t 73)),o 75 (.nn (.t 74)),o 76 (.fld 0 (.t 75)),o 77 (.ld none (.t 76)),o 78 (.nn (.t 77)),o 79 (.fld 0 (.t 78)),o 80 (.ld none (.t 79)),o 81 (.nn (.t 80)),o 82 (.fld 0 (.t 81)),o 83 (.ld none (.t 82)),o 84 (.nn (.t 83)),o 85 (.fld 0 (.t 84)),o 86 (.ld none (.t 85)),o 87 (.nn (.t 86)),o 88 (.fld 0 (.t 87)),o 89 (.ld none (.t 88)),o 90 (.nn (.t 89)),o 91 (.fld 0 (.t 90)),o 92 (.ld none (.t 91)),o 93 (.nn (.t 92)),o 94 (.fld 0 (.t 93)),o 95 (.call 161 [.t 94])]) (.seq (.reg [mv 97 0,o 98 (.nn (.t 97)),o 99 (.fld 0 (.t 98)),o 100 (.ld none (.t 99)),o 101 (.nn (.t 100)),o 102 (.fld 0 (.t 101)),o 103 (.ld none (.t 102)),mv 104 2,mv 105 1,o 106 (.nn (.t 105)),o 107 (.fld 3 (.t 106)),o 108 (.ld none (.t 107)),mv 109 3,o 110 (.bin .sub (.t 109) (i64 1)),o 111 (.idx 1 (.t 108) (.t 110)),o 112 (.ld none (.t 111)),o 113 (.call 109 [.t 103, .t 104, .t 112]),mv 96 113,o 114 (.ext (.t 96) 0),o 115 (.ext (.t 96) 1),o 116 (.ext (.t 96) 2),mv 11 114,mv 12 115,mv 13 116]) (.seq (.reg [mv 117 0,mv 118 1,mv 119 12,mv 120 3,o 121 (.bin .sub (.t 120) (i64 1)),mv 122 4,o 123 (.call 136 [.t 117, .t 118, .t 119, .t 121, .t 122]),mv 4 123]) (.seq (.reg [mv 124 0,mv 125 1,mv 126 11,mv 127 3,o 128 (.bin .sub (.t 127) (i64 1)),mv 129 4,o 130 (.call 136 [.t 124, .t 125, .t 126, .t 128, .t 129]),mv 4 130]) (.seq (.reg [mv 131 0,o 132 (.nn (.t 131)),o 133 (.fld 0 (.t 132)),o 134 (.ld none (.t 133)),o 135 (.nn (.t 134)),o 136 (.fld 0 (.t 135)),o 137 (.ld none (.t 136)),o 138 (.nn (.t 137)),o 139 (.fld 0 (.t 138)),o 140 (.ld none (.t 139)),o 141 (.nn (.t 140)),o 142 (.fld 0 (.t 141)),o 143 (.ld none (.t 142)),o 144 (.nn (.t 143)),o 145 (.fld 0 (.t 144)),o 146 (.ld none (.t 145)),o 147 (.nn (.t 146)),o 148 (.fld 0 (.t 147)),o 149 (.ld none (.t 148)),o 150 (.nn (.t 149)),o 151 (.fld 0 (.t 150)),o 152 (.ld none (.t 151)),o 153 (.nn (.t 152)),o 154 (.fld 0 (.t 153)),o 155 (.ld none (.t 154)),o 156 (.nn (.t 155)),o 157 (.fld 0 (.t 156)),o 158 (.ld none (.t 157)),o 159 (.nn (.t 158)),o 160 (.fld 0 (.t 159)),o 161 (.call 162 [.t 160])]) (.seq (.reg [mv 162 4,mv 10 162]) .ret)))))))
theorem in_radix_Engine_down:Ent 136 163 c_radix_Engine_down [.t 10]:=en Tryz.func136 rfl
def c_radix_few:AC:= .seq (.reg [o 2 (.mv (i64 0)),o 3 (.mv (u64 0))]) (.seq (.reg [mv 6 0,o 4 (.mv (i64 1)),mv 5 6]) (.seq (.block 0 (.loop (.seq (.seq (.reg [mv 7 5,mv 8 0,o 9 (.bin .quo (u64 18446744073709551615) (.t 8)),bn 10 .leq 7 9]) (.cond (.t 10) .skip (.exit 0))) (.block 1 (.seq (.reg [mv 11 5,mv 12 0,bn 13 .mul 11 12,mv 5 13]) (.reg [mv 14 4,o 15 (.bin .add (.t 14) (i64 1)),mv 4 15])))))) (.seq (.reg [mv 16 4,mv 17 5,mv 2 16,mv 3 17]) .ret)))
theorem in_radix_few:Ent 137 18 c_radix_few [.t 2, .t 3]:=en Tryz.func137 rfl
def c_radix_Engine_value:AC:= .seq (.reg [o 8 (.mv (.c (.sl none 0 0 none)))]) (.seq (.seq (.reg [mv 15 2,o 16 (.len false (.t 15)),mv 17 1,o 18 (.nn (.t 17)),o 19 (.fld 1 (.t 18)),o 20 (.ld none (.t 19)),bn 21 .leq 16 20]) (.cond (.t 21) (.seq (.reg [mv 22 1,mv 23 2,o 24 (.call 163 [.t 22, .t 23]),o 25 (.call 97 [.t 24]),mv 8 25]) .ret) .skip)) (.seq (.reg [mv 26 1,o 27 (.nn (.t 26)),o 28 (.fld 1 (.t 27)),o 29 (.ld none (.t 28)),mv 30 3,o 31 (.bin .sub (.t 30) (i64 1)),o 32 (.cvI .u64 (.t 31)),bn 33 .shl 29 32,mv 9 33]) (.seq (.seq (.reg [mv 34 2,o 35 (.len false (.t 34)),mv 36 9,bn 37 .leq 35 36]) (.cond (.t 37) (.seq (.reg [mv 38 0,mv 39 1,mv 40 2,mv 41 3,o 42 (.bin .sub (.t 41) (i64 1)),o 43 (.call 138 [.t 38, .t 39, .t 40, .t 42]),mv 8 43]) .ret) .skip)) (.seq (.seq (.reg [mv 44 2,o 45 (.len false (.t 44)),mv 46 0,o 47 (.nn (.t 46)),o 48 (.fld 0 (.t 47)),o 49 (.ld none (.t 48)),o 50 (.nn (.t 49)),o 51 (.fld 0 (.t 50)),o 52 (.ld none (.t 51)),o 53 (.nn (.t 52)),o 54 (.fld 0 (.t 53)),o 55 (.ld none (.t 54)),o 56 (.nn (.t 55)),o 57 (.fld 0 (.t 56)),o 58 (.ld none (.t 57)),o 59 (.nn (.t 58)),o 60 (.fld 0 (.t 59)),o 61 (.ld none (.t 60)),o 62 (.nn (.t 61)),o 63 (.fld 0 (.t 62)),o 64 (.ld none (.t 63)),o 65 (.nn (.t 64)),o 66 (.fld 0 (.t 65)),o 67 (.ld none (.t 66)),o 68 (.nn (.t 67)),o 69 (.fld 0 (.t 68)),o 70 (.ld none (.t 69)),o 71 (.nn (.t 70)),o 72 (.fld 0 (.t 71)),o 73 (.ld none (.t 72)),o 74 (.nn (.t 73)),o 75 (.fld 3 (.t 74)),o 76 (.fld 6 (.t 75)),o 77 (.ld none (.t 76)),mv 78 1,o 79 (.nn (.t 78)),o 80 (.fld 1 (.t 79)),o 81 (.ld none (.t 80)),bn 82 .mul 77 81,bn 83 .lss 45 82]) (.cond (.t 83) (.seq (.reg [o 10 (.mv (.c (.sl none 0 0 none)))]) (.seq (.reg [mv 84 2,o 85 (.len false (.t 84)),mv 86 1,o 87 (.nn (.t 86)),o 88 (.fld 1 (.t 87)),o 89 (.ld none (.t 88)),bn 90 .rem 85 89,mv 11 90]) (.seq (.reg [mv 91 1,mv 92 2,mv 93 2,o 94 (.len false (.t 93)),mv 95 11,bn 96 .sub 94 95,o 97 (.slc 1 (.t 92) (some (.t 96)) none),o 98 (.call 163 [.t 91, .t 97]),o 99 (.call 97 [.t 98]),mv 10 99]) (.seq (.seq (.reg [mv 100 2,o 101 (.len false (.t 100)),mv 102 11,bn 103 .sub 101 102,mv 104 1,o 105 (.nn (.t 104)),o 106 (.fld 1 (.t 105)),o 107 (.ld none (.t 106)),bn 108 .sub 103 107,mv 12 108]) (.block 0 (.loop (.seq (.seq (.reg [mv 109 12,o 110 (.bin .geq (.t 109) (i64 0))]) (.cond (.t 110) .skip (.exit 0))) (.seq (.block 1 (.reg [mv 117 1,mv 118 2,mv 119 12,mv 120 12,mv 121 1,o 122 (.nn (.t 121)),o 123 (.fld 1 (.t 122)),o 124 (.ld none (.t 123)),bn 125 .add 120 124,o 126 (.slc 1 (.t 118) (some (.t 119)) (some (.t 125))),mv 129 10,mv 130 1,o 131 (.nn (.t 130)),o 132 (.fld 2 (.t 131)),o 133 (.ld none (.t 132)),⟨some 127,none, .call 163 [.t 117, .t 126],[(some 133,none, .ld none (.t 132))]⟩,⟨some 128,none, .call 97 [.t 127],[(some 133,none, .ld none (.t 132))]⟩,o 134 (.call 139 [.t 128, .t 129, .t 133]),mv 10 134])) (.reg [mv 111 12,mv 112 1,o 113 (.nn (.t 112)),o 114 (.fld 1 (.t 113)),o 115 (.ld none (.t 114)),bn 116 .sub 111 115,mv 12 116])))))) (.seq (.reg [mv 135 10,mv 8 135]) .ret))))) .skip)) (.seq (.reg [mv 136 0,o 137 (.nn (.t 136)),o 138 (.fld 0 (.t 137)),o 139 (.ld none (.t 138)),o 140 (.nn (.t 139)),o 141 (.fld 0 (.t 140)),o 142 (.ld none (.t 141)),o 143 (.nn (.t 142)),o 144 (.fld 0 (.t 143)),o 145 (.ld none (.t 144)),o 146 (.nn (.t 145)),o 147 (.fld 0 (.t 146)),o 148 (.ld none (.t 147)),o 149 (.nn (.t 148)),o 150 (.fld 0 (.t 149)),o 151 (.ld none (.t 150)),o 152 (.nn (.t 151)),o 153 (.fld 0 (.t 152)),o 154 (.ld none (.t 153)),o 155 (.nn (.t 154)),o 156 (.fld 0 (.t 155)),o 157 (.ld none (.t 156)),o 158 (.nn (.t 157)),o 159 (.fld 0 (.t 158)),o 160 (.ld none (.t 159)),o 161 (.nn (.t 160)),o 162 (.fld 0 (.t 161)),o 163 (.ld none (.t 162)),o 164 (.nn (.t 163)),o 165 (.fld 0 (.t 164)),o 166 (.call 161 [.t 165])]) (.seq (.reg [mv 167 0,mv 168 1,mv 169 2,mv 170 9,o 171 (.slc 1 (.t 169) none (some (.t 170))),mv 172 3,o 173 (.bin .sub (.t 172) (i64 1)),mv 175 0,mv 176 1,mv 177 2,mv 178 9,o 179 (.slc 1 (.t 177) (some (.t 178)) none),mv 180 3,o 181 (.bin .sub (.t 180) (i64 1)),⟨some 174,none, .call 138 [.t 167, .t 168, .t 171, .t 173],[(some 179,none, .slc 1 (.t 177) (some (.t 178)) none)]⟩,o 182 (.call 138 [.t 175, .t 176, .t 179, .t 181]),mv 13 174,mv 14 182]) (.seq (.reg [mv 183 0,o 184 (.nn (.t 183)),o 185 (.fld 0 (.t 184)),o 186 (.ld none (.t 185)),o 187 (.nn (.t 186)),o 188 (.fld 0 (.t 187)),o 189 (.ld none (.t 188)),o 190 (.nn (.t 189)),o 191 (.fld 0 (.t 190)),o 192 (.ld none (.t 191)),o 193 (.nn (.t 192)),o 194 (.fld 0 (.t 193)),o 195 (.ld none (.t 194)),o 196 (.nn (.t 195)),o 197 (.fld 0 (.t 196)),o 198 (.ld none (.t 197)),o 199 (.nn (.t 198)),o 200 (.fld 0 (.t 199)),o 201 (.ld none (.t 200)),o 202 (.nn (.t 201)),o 203 (.fld 0 (.t 202)),o 204 (.ld none (.t 203)),o 205 (.nn (.t 204)),o 206 (.fld 0 (.t 205)),o 207 (.ld none (.t 206)),o 208 (.nn (.t 207)),o 209 (.fld 0 (.t 208)),o 210 (.ld none (.t 209)),o 211 (.nn (.t 210)),o 212 (.fld 0 (.t 211)),o 213 (.call 162 [.t 212])]) (.seq (.reg [mv 214 13,mv 215 0,o 216 (.nn (.t 215)),o 217 (.fld 0 (.t 216)),o 218 (.ld none (.t 217)),o 219 (.nn (.t 218)),o 220 (.fld 0 (.t 219)),o 221 (.ld none (.t 220)),o 222 (.nn (.t 221)),o 223 (.fld 0 (.t 222)),o 224 (.ld none (.t 223)),o 225 (.nn (.t 224)),o 226 (.fld 0 (.t 225)),o 227 (.ld none (.t 226)),o 228 (.nn (.t 227)),o 229 (.fld 0 (.t 228)),o 230 (.ld none (.t 229)),mv 231 14,mv 232 1,o 233 (.nn (.t 232)),o 234 (.fld 3 (.t 233)),o 235 (.ld none (.t 234)),mv 236 3,o 237 (.bin .sub (.t 236) (i64 1)),o 238 (.idx 1 (.t 235) (.t 237)),o 239 (.ld none (.t 238)),o 240 (.call 104 [.t 230, .t 231, .t 239]),o 241 (.call 111 [.t 214, .t 240]),mv 8 241]) .ret))))))))
theorem in_radix_Engine_value:Ent 138 242 c_radix_Engine_value [.t 8]:=en Tryz.func138 rfl
def c_radix_Engine_hand:AC:= .seq (.reg [o 10 (.mv (.c (.sl none 0 0 none)))]) (.seq (.block 0 (.loop (.seq (.seq (.reg [mv 15 3,o 16 (.bin .gtr (.t 15) (i64 0))]) (.cond (.t 16) .skip (.exit 0))) (.block 1 (.seq (.reg [mv 18 2,mv 19 1,o 20 (.nn (.t 19)),o 21 (.fld 2 (.t 20)),o 22 (.ld none (.t 21)),o 23 (.call 145 [.t 18, .t 22]),mv 17 23,o 24 (.ext (.t 17) 0),o 25 (.ext (.t 17) 1),o 26 (.ext (.t 17) 2),mv 11 24,mv 12 25,mv 13 26]) (.seq (.reg [mv 27 3,mv 28 1,o 29 (.nn (.t 28)),o 30 (.fld 1 (.t 29)),o 31 (.ld none (.t 30)),o 32 (.mnx false (.t 27) [.t 31]),mv 14 32]) (.seq (.reg [mv 33 1,mv 34 12,mv 35 14,mv 36 4,o 37 (.call 189 [.t 33, .t 34, .t 35, .t 36]),mv 4 37]) (.seq (.reg [mv 38 11,mv 2 38]) (.reg [mv 39 3,mv 40 14,bn 41 .sub 39 40,mv 3 41]))))))))) (.seq (.reg [mv 42 4,mv 10 42]) .ret))
theorem in_radix_Engine_hand:Ent 160 43 c_radix_Engine_hand [.t 10]:=en Tryz.func160 rfl
def c_radix_tree_word:AC:= .seq (.reg [o 4 (.mv (u64 0))]) (.seq (.reg [o 5 (.mv (u64 0))]) (.seq (.seq (.reg [mv 7 1,o 8 (.len false (.t 7)),o 9 (.bin .sub (.t 8) (i64 1)),mv 6 9]) (.block 0 (.loop (.seq (.seq (.reg [mv 10 6,o 11 (.bin .geq (.t 10) (i64 0))]) (.cond (.t 11) .skip (.exit 0))) (.seq (.block 1 (.reg [mv 14 5,mv 15 0,o 16 (.nn (.t 15)),o 17 (.fld 0 (.t 16)),o 18 (.ld none (.t 17)),bn 19 .mul 14 18,mv 20 1,mv 21 6,o 22 (.idx 1 (.t 20) (.t 21)),o 23 (.ld none (.t 22)),bn 24 .add 19 23,mv 5 24])) (.reg [mv 12 6,o 13 (.bin .sub (.t 12) (i64 1)),mv 6 13])))))) (.seq (.reg [mv 25 5,mv 4 25]) .ret)))
theorem in_radix_tree_word:Ent 163 26 c_radix_tree_word [.t 4]:=en Tryz.func163 rfl
def c_radix_tree_chunk:AC:= .seq (.reg [o 8 (.mv (.c (.sl none 0 0 none)))]) (.seq (.seq (.reg [mv 9 2,o 10 (.mv (i64 0))]) (.block 0 (.loop (.seq (.reg [bn 11 .lss 10 9]) (.seq (.cond (.t 11) .skip (.exit 0)) (.seq (.block 1 (.seq (.reg [mv 12 3,mv 13 1,mv 14 0,o 15 (.nn (.t 14)),o 16 (.fld 0 (.t 15)),o 17 (.ld none (.t 16)),bn 18 .rem 13 17,o 19 (.bsl 54 1 1 [.int .u64 0] [(0, .t 18)]),o 20 (.app 54 1 8 (.t 12) (.t 19)),mv 3 20]) (.reg [mv 21 1,mv 22 0,o 23 (.nn (.t 22)),o 24 (.fld 0 (.t 23)),o 25 (.ld none (.t 24)),bn 26 .quo 21 25,mv 1 26]))) (.reg [o 27 (.bin .add (.t 10) (i64 1)),mv 10 27]))))))) (.seq (.reg [mv 28 3,mv 8 28]) .ret))
theorem in_radix_tree_chunk:Ent 189 29 c_radix_tree_chunk [.t 8]:=en Tryz.func189 rfl
def c_root_New:AC:= .seq (.reg [o 1 (.box 23 (.t 0)),o 2 (.mv (.c (.ptr none)))]) (.seq (.reg [o 3 (.ld (some 11) (.t 1)),o 4 (.call 134 [.t 3]),o 5 (.bld [.ptr none] [(0,1, .t 4)]),o 6 (.box 133 (.t 5)),mv 2 6]) .ret)
theorem in_root_New:Ent 116 7 c_root_New [.t 2]:=en Tryz.func116 rfl
def c_div_Engine_DivMod:AC:= .seq (.reg [o 6 (.mv (.c (.sl none 0 0 none))),o 7 (.mv (.c (.sl none 0 0 none))),o 8 (.mv (i64 0))]) (.seq (.reg [mv 11 1,o 12 (.call 52 [.t 11]),mv 13 2,o 14 (.call 52 [.t 13]),mv 9 12,mv 10 14]) (.seq (.block 0 (.seq (.reg [mv 16 10,o 17 (.bin .eql (.t 16) (i64 0)),mv 15 17]) (.cond (.t 15) (.seq (.reg [o 6 (.mv (.c (.sl none 0 0 none))),o 7 (.mv (.c (.sl none 0 0 none))),o 8 (.mv (i64 2))]) .ret) (.seq (.reg [mv 19 9,mv 20 10,bn 21 .lss 19 20,mv 22 21,og 23 22 false (.mv (.t 10)),og 24 22 false (.mv (.t 0)),og 25 22 false (.nn (.t 24)),og 26 22 false (.fld 0 (.t 25)),og 27 22 false (.ld none (.t 26)),og 28 22 false (.nn (.t 27)),og 29 22 false (.fld 0 (.t 28)),og 30 22 false (.ld none (.t 29)),og 31 22 false (.nn (.t 30)),og 32 22 false (.fld 0 (.t 31)),og 33 22 false (.ld none (.t 32)),og 34 22 false (.nn (.t 33)),og 35 22 false (.fld 0 (.t 34)),og 36 22 false (.ld none (.t 35)),og 37 22 false (.nn (.t 36)),og 38 22 false (.fld 0 (.t 37)),og 39 22 false (.ld none (.t 38)),og 40 22 false (.nn (.t 39)),og 41 22 false (.fld 0 (.t 40)),og 42 22 false (.ld none (.t 41)),og 43 22 false (.nn (.t 42)),og 44 22 false (.fld 0 (.t 43)),og 45 22 false (.ld none (.t 44)),og 46 22 false (.nn (.t 45)),og 47 22 false (.fld 3 (.t 46)),og 48 22 false (.fld 3 (.t 47)),og 49 22 false (.ld none (.t 48)),og 50 22 false (.bin .lss (.t 23) (.t 49)),o 51 (.pick (.t 22) (.c (.bool true)) (.t 50)),mv 52 51,og 53 52 false (.mv (.t 9)),og 54 52 false (.mv (.t 10)),og 55 52 false (.bin .sub (.t 53) (.t 54)),og 56 52 false (.bin .add (.t 55) (i64 1)),og 57 52 false (.mv (.t 0)),og 58 52 false (.nn (.t 57)),og 59 52 false (.fld 0 (.t 58)),og 60 52 false (.ld none (.t 59)),og 61 52 false (.nn (.t 60)),og 62 52 false (.fld 0 (.t 61)),og 63 52 false (.ld none (.t 62)),og 64 52 false (.nn (.t 63)),og 65 52 false (.fld 0 (.t 64)),og 66 52 false (.ld none (.t 65)),og 67 52 false (.nn (.t 66)),og 68 52 false (.fld 0 (.t 67)),og 69 52 false (.ld none (.t 68)),og 70 52 false (.nn (.t 69)),og 71 52 false (.fld 0 (.t 70)),og 72 52 false (.ld none (.t 71)),og 73 52 false (.nn (.t 72)),og 74 52 false (.fld 0 (.t 73)),og 75 52 false (.ld none (.t 74)),og 76 52 false (.nn (.t 75)),og 77 52 false (.fld 0 (.t 76)),og 78 52 false (.ld none (.t 77)),og 79 52 false (.nn (.t 78)),og 80 52 false (.fld 3 (.t 79)),og 81 52 false (.fld 3 (.t 80)),og 82 52 false (.ld none (.t 81)),og 83 52 false (.bin .lss (.t 56) (.t 82)),o 84 (.pick (.t 52) (.c (.bool true)) (.t 83)),mv 18 84]) (.cond (.t 18) (.seq (.reg [mv 85 0,o 86 (.nn (.t 85)),o 87 (.fld 0 (.t 86)),o 88 (.ld none (.t 87)),o 89 (.nn (.t 88)),o 90 (.fld 0 (.t 89)),o 91 (.ld none (.t 90)),mv 92 1,mv 93 2,o 94 (.call 126 [.t 91, .t 92, .t 93]),o 95 (.ext (.t 94) 0),o 96 (.ext (.t 94) 1),o 97 (.ext (.t 94) 2),mv 6 95,mv 7 96,mv 8 97]) .ret) (.seq (.reg [mv 99 10,mv 100 0,o 101 (.nn (.t 100)),o 102 (.fld 0 (.t 101)),o 103 (.ld none (.t 102)),o 104 (.nn (.t 103)),o 105 (.fld 0 (.t 104)),o 106 (.ld none (.t 105)),o 107 (.nn (.t 106)),o 108 (.fld 0 (.t 107)),o 109 (.ld none (.t 108)),o 110 (.nn (.t 109)),o 111 (.fld 0 (.t 110)),o 112 (.ld none (.t 111)),o 113 (.nn (.t 112)),o 114 (.fld 0 (.t 113)),o 115 (.ld none (.t 114)),o 116 (.nn (.t 115)),o 117 (.fld 0 (.t 116)),o 118 (.ld none (.t 117)),o 119 (.nn (.t 118)),o 120 (.fld 0 (.t 119)),o 121 (.ld none (.t 120)),o 122 (.nn (.t 121)),o 123 (.fld 3 (.t 122)),o 124 (.fld 4 (.t 123)),o 125 (.ld none (.t 124)),bn 126 .geq 99 125,mv 127 126,og 128 127 true (.mv (.t 9)),og 129 127 true (.bin .leq (.t 128) (i64 16384)),o 130 (.pick (.t 127) (.t 129) (.c (.bool false))),mv 98 130]) (.cond (.t 98) (.seq (.reg [mv 132 0,mv 133 1,mv 134 2,o 135 (.call 127 [.t 132, .t 133, .t 134]),mv 131 135,o 136 (.ext (.t 131) 0),o 137 (.ext (.t 131) 1),mv 6 136,mv 7 137]) (.seq (.reg [mv 138 6,mv 139 7,mv 6 138,mv 7 139,o 8 (.mv (i64 0))]) .ret)) .skip))))))) (.seq (.reg [mv 140 0,mv 141 1,mv 142 2,o 143 (.call 128 [.t 140, .t 141, .t 142]),o 144 (.ext (.t 143) 0),o 145 (.ext (.t 143) 1),o 146 (.ext (.t 143) 2),mv 6 144,mv 7 145,mv 8 146]) .ret)))
theorem in_div_Engine_DivMod:Ent 109 147 c_div_Engine_DivMod [.t 6, .t 7, .t 8]:=en Tryz.func109 rfl
def c_div_Engine_newton:AC:= .seq (.reg [o 6 (.mv (.c (.sl none 0 0 none))),o 7 (.mv (.c (.sl none 0 0 none)))]) (.seq (.reg [mv 11 1,o 12 (.call 52 [.t 11]),o 13 (.bin .mul (i64 64) (.t 12)),mv 8 13]) (.seq (.reg [mv 15 0,o 16 (.nn (.t 15)),o 17 (.fld 0 (.t 16)),o 18 (.ld none (.t 17)),mv 19 2,mv 20 8,o 21 (.call 151 [.t 18, .t 19, .t 20]),mv 14 21,o 22 (.ext (.t 14) 0),o 23 (.ext (.t 14) 1),mv 9 22,mv 10 23]) (.seq (.reg [mv 24 0,o 25 (.nn (.t 24)),o 26 (.fld 0 (.t 25)),o 27 (.ld none (.t 26)),o 28 (.nn (.t 27)),o 29 (.fld 0 (.t 28)),o 30 (.ld none (.t 29)),o 31 (.nn (.t 30)),o 32 (.fld 0 (.t 31)),o 33 (.ld none (.t 32)),mv 34 1,mv 35 9,o 36 (.call 104 [.t 33, .t 34, .t 35]),mv 37 8,o 38 (.call 150 [.t 36, .t 37]),mv 6 38]) (.seq (.reg [mv 40 1,mv 41 0,o 42 (.nn (.t 41)),o 43 (.fld 0 (.t 42)),o 44 (.ld none (.t 43)),o 45 (.nn (.t 44)),o 46 (.fld 0 (.t 45)),o 47 (.ld none (.t 46)),o 48 (.nn (.t 47)),o 49 (.fld 0 (.t 48)),o 50 (.ld none (.t 49)),mv 51 6,mv 52 2,o 53 (.call 104 [.t 50, .t 51, .t 52]),o 54 (.call 112 [.t 40, .t 53]),mv 39 54,o 55 (.ext (.t 39) 0),o 56 (.ext (.t 39) 1),mv 7 55]) (.seq (.block 0 (.loop (.seq (.seq (.reg [mv 57 7,mv 58 2,o 59 (.call 113 [.t 57, .t 58]),o 60 (.bin .geq (.t 59) (i64 0))]) (.cond (.t 60) .skip (.exit 0))) (.block 1 (.seq (.reg [mv 62 7,mv 63 2,o 64 (.call 112 [.t 62, .t 63]),mv 61 64,o 65 (.ext (.t 61) 0),o 66 (.ext (.t 61) 1),mv 7 65]) (.reg [mv 67 6,o 68 (.call 97 [u64 1]),o 69 (.call 111 [.t 67, .t 68]),mv 6 69])))))) (.seq (.reg [mv 70 6,mv 71 7,mv 6 70,mv 7 71]) .ret))))))
theorem in_div_Engine_newton:Ent 127 72 c_div_Engine_newton [.t 6, .t 7]:=en Tryz.func127 rfl
def c_div_Engine_Halves:AC:= .seq (.reg [o 6 (.mv (.c (.sl none 0 0 none))),o 7 (.mv (.c (.sl none 0 0 none))),o 8 (.mv (i64 0))]) (.seq (.reg [mv 21 2,o 22 (.call 52 [.t 21]),mv 9 22]) (.seq (.seq (.reg [mv 23 9,o 24 (.bin .eql (.t 23) (i64 0))]) (.cond (.t 24) (.seq (.reg [o 6 (.mv (.c (.sl none 0 0 none))),o 7 (.mv (.c (.sl none 0 0 none))),o 8 (.mv (i64 2))]) .ret) .skip)) (.seq (.seq (.reg [mv 25 1,mv 26 2,o 27 (.call 113 [.t 25, .t 26]),o 28 (.bin .lss (.t 27) (i64 0))]) (.cond (.t 28) (.seq (.reg [mv 29 1,o 30 (.call 107 [.t 29]),o 6 (.mv (.c (.sl none 0 0 none))),mv 7 30,o 8 (.mv (i64 0))]) .ret) .skip)) (.seq (.reg [mv 31 9,mv 10 31,o 11 (.mv (i64 0))]) (.seq (.block 0 (.loop (.seq (.seq (.reg [mv 32 10,mv 33 0,o 34 (.nn (.t 33)),o 35 (.fld 0 (.t 34)),o 36 (.ld none (.t 35)),o 37 (.nn (.t 36)),o 38 (.fld 0 (.t 37)),o 39 (.ld none (.t 38)),o 40 (.nn (.t 39)),o 41 (.fld 0 (.t 40)),o 42 (.ld none (.t 41)),o 43 (.nn (.t 42)),o 44 (.fld 0 (.t 43)),o 45 (.ld none (.t 44)),o 46 (.nn (.t 45)),o 47 (.fld 0 (.t 46)),o 48 (.ld none (.t 47)),o 49 (.nn (.t 48)),o 50 (.fld 0 (.t 49)),o 51 (.ld none (.t 50)),o 52 (.nn (.t 51)),o 53 (.fld 0 (.t 52)),o 54 (.ld none (.t 53)),o 55 (.nn (.t 54)),o 56 (.fld 3 (.t 55)),o 57 (.fld 3 (.t 56)),o 58 (.ld none (.t 57)),bn 59 .geq 32 58]) (.cond (.t 59) .skip (.exit 0))) (.block 1 (.seq (.reg [mv 60 10,o 61 (.bin .add (.t 60) (i64 1)),o 62 (.bin .quo (.t 61) (i64 2)),mv 10 62]) (.reg [mv 63 11,o 64 (.bin .add (.t 63) (i64 1)),mv 11 64])))))) (.seq (.reg [mv 65 10,mv 66 11,o 67 (.cvI .u64 (.t 66)),bn 68 .shl 65 67,mv 10 68]) (.seq (.reg [mv 69 10,mv 70 9,bn 71 .sub 69 70,o 72 (.bin .mul (i64 64) (.t 71)),mv 73 2,mv 74 9,o 75 (.bin .sub (.t 74) (i64 1)),o 76 (.idx 1 (.t 73) (.t 75)),o 77 (.ld none (.t 76)),o 78 (.call 146 [.t 77]),bn 79 .add 72 78,mv 12 79]) (.seq (.reg [mv 80 2,mv 81 12,o 82 (.call 147 [.t 80, .t 81]),mv 13 82]) (.seq (.reg [mv 83 1,mv 84 12,o 85 (.call 147 [.t 83, .t 84]),mv 14 85]) (.seq (.reg [o 15 (.mv (.c (.sl none 0 0 none)))]) (.seq (.reg [mv 86 14,o 87 (.len false (.t 86)),mv 88 10,bn 89 .add 87 88,o 90 (.bin .sub (.t 89) (i64 1)),mv 91 10,bn 92 .quo 90 91,mv 16 92]) (.seq (.seq (.reg [mv 93 16,o 94 (.bin .sub (.t 93) (i64 1)),mv 17 94]) (.block 2 (.loop (.seq (.seq (.reg [mv 95 17,o 96 (.bin .geq (.t 95) (i64 0))]) (.cond (.t 96) .skip (.exit 2))) (.seq (.block 3 (.seq (.reg [o 18 (.mv (.c (.sl none 0 0 none)))]) (.seq (.reg [mv 100 0,mv 101 10,mv 102 14,mv 103 17,mv 104 10,bn 105 .mul 103 104,mv 106 10,o 107 (.call 154 [.t 102, .t 105, .t 106]),mv 108 7,o 109 (.bsl 25 1 2 [.sl none 0 0 none] [(0, .t 107),(1, .t 108)]),o 110 (.call 153 [.t 101, .t 109]),mv 111 13,mv 112 10,o 113 (.call 152 [.t 100, .t 110, .t 111, .t 112]),mv 99 113,o 114 (.ext (.t 99) 0),o 115 (.ext (.t 99) 1),mv 18 114,mv 7 115]) (.reg [mv 116 15,mv 117 18,o 118 (.bsl 25 1 1 [.sl none 0 0 none] [(0, .t 117)]),o 119 (.app 25 1 24 (.t 116) (.t 118)),mv 15 119])))) (.reg [mv 97 17,o 98 (.bin .sub (.t 97) (i64 1)),mv 17 98])))))) (.seq (.seq (.reg [mv 120 15,o 121 (.len false (.t 120)),o 122 (.bin .sub (.t 121) (i64 1)),o 19 (.mv (i64 0)),mv 20 122]) (.block 4 (.loop (.seq (.seq (.reg [mv 123 19,mv 124 20,bn 125 .lss 123 124]) (.cond (.t 125) .skip (.exit 4))) (.seq (.block 5 (.reg [mv 130 15,mv 131 19,mv 132 15,mv 133 20,mv 134 15,mv 135 20,o 136 (.idx 1 (.t 134) (.t 135)),o 137 (.ld none (.t 136)),mv 138 15,mv 139 19,o 140 (.idx 1 (.t 138) (.t 139)),o 141 (.ld none (.t 140)),o 142 (.idx 1 (.t 130) (.t 131)),od (.st 1 (.t 142) (.t 137)),o 143 (.idx 1 (.t 132) (.t 133)),od (.st 1 (.t 143) (.t 141))])) (.reg [mv 126 19,o 127 (.bin .add (.t 126) (i64 1)),mv 128 20,o 129 (.bin .sub (.t 128) (i64 1)),mv 19 127,mv 20 129])))))) (.seq (.reg [mv 144 10,mv 145 15,o 146 (.call 153 [.t 144, .t 145]),mv 147 7,mv 148 12,o 149 (.call 150 [.t 147, .t 148]),mv 6 146,mv 7 149,o 8 (.mv (i64 0))]) .ret))))))))))))))
theorem in_div_Engine_Halves:Ent 128 150 c_div_Engine_Halves [.t 6, .t 7, .t 8]:=en Tryz.func128 rfl
def c_div_New:AC:= .seq (.reg [o 1 (.box 23 (.t 0)),o 2 (.mv (.c (.ptr none)))]) (.seq (.reg [o 3 (.ld (some 11) (.t 1)),o 4 (.call 159 [.t 3]),o 5 (.bld [.ptr none] [(0,1, .t 4)]),o 6 (.box 136 (.t 5)),mv 2 6]) .ret)
theorem in_div_New:Ent 134 7 c_div_New [.t 2]:=en Tryz.func134 rfl
def c_div_Engine_two:AC:= .seq (.reg [o 8 (.mv (.c (.sl none 0 0 none))),o 9 (.mv (.c (.sl none 0 0 none)))]) (.seq (.seq (.reg [mv 15 3,o 16 (.bin .rem (.t 15) (i64 2)),o 17 (.bin .eql (.t 16) (i64 1)),mv 18 17,og 19 18 false (.mv (.t 3)),og 20 18 false (.mv (.t 0)),og 21 18 false (.nn (.t 20)),og 22 18 false (.fld 0 (.t 21)),og 23 18 false (.ld none (.t 22)),og 24 18 false (.nn (.t 23)),og 25 18 false (.fld 0 (.t 24)),og 26 18 false (.ld none (.t 25)),og 27 18 false (.nn (.t 26)),og 28 18 false (.fld 0 (.t 27)),og 29 18 false (.ld none (.t 28)),og 30 18 false (.nn (.t 29)),og 31 18 false (.fld 0 (.t 30)),og 32 18 false (.ld none (.t 31)),og 33 18 false (.nn (.t 32)),og 34 18 false (.fld 0 (.t 33)),og 35 18 false (.ld none (.t 34)),og 36 18 false (.nn (.t 35)),og 37 18 false (.fld 0 (.t 36)),og 38 18 false (.ld none (.t 37)),og 39 18 false (.nn (.t 38)),og 40 18 false (.fld 0 (.t 39)),og 41 18 false (.ld none (.t 40)),og 42 18 false (.nn (.t 41)),og 43 18 false (.fld 3 (.t 42)),og 44 18 false (.fld 3 (.t 43)),og 45 18 false (.ld none (.t 44)),og 46 18 false (.bin .lss (.t 19) (.t 45)),o 47 (.pick (.t 18) (.c (.bool true)) (.t 46))]) (.cond (.t 47) (.seq (.reg [mv 49 0,o 50 (.nn (.t 49)),o 51 (.fld 0 (.t 50)),o 52 (.ld none (.t 51)),o 53 (.nn (.t 52)),o 54 (.fld 0 (.t 53)),o 55 (.ld none (.t 54)),mv 56 1,mv 57 2,o 58 (.call 126 [.t 55, .t 56, .t 57]),mv 48 58,o 59 (.ext (.t 48) 0),o 60 (.ext (.t 48) 1),o 61 (.ext (.t 48) 2),mv 8 59,mv 9 60]) (.seq (.reg [mv 62 8,mv 63 9,mv 8 62,mv 9 63]) .ret)) .skip)) (.seq (.reg [mv 64 0,o 65 (.nn (.t 64)),o 66 (.fld 0 (.t 65)),o 67 (.ld none (.t 66)),o 68 (.nn (.t 67)),o 69 (.fld 0 (.t 68)),o 70 (.ld none (.t 69)),o 71 (.nn (.t 70)),o 72 (.fld 0 (.t 71)),o 73 (.ld none (.t 72)),o 74 (.nn (.t 73)),o 75 (.fld 0 (.t 74)),o 76 (.ld none (.t 75)),o 77 (.nn (.t 76)),o 78 (.fld 0 (.t 77)),o 79 (.ld none (.t 78)),o 80 (.nn (.t 79)),o 81 (.fld 0 (.t 80)),o 82 (.ld none (.t 81)),o 83 (.nn (.t 82)),o 84 (.fld 0 (.t 83)),o 85 (.ld none (.t 84)),o 86 (.nn (.t 85)),o 87 (.fld 0 (.t 86)),o 88 (.call 161 [.t 87])]) (.seq (.reg [mv 89 3,o 90 (.bin .quo (.t 89) (i64 2)),mv 10 90]) (.seq (.reg [mv 92 1,mv 93 10,o 94 (.call 176 [.t 92, .t 93]),mv 91 94,o 95 (.ext (.t 91) 0),o 96 (.ext (.t 91) 1),mv 11 95,mv 12 96]) (.seq (.reg [mv 98 0,mv 99 12,mv 100 2,mv 101 10,o 102 (.call 177 [.t 98, .t 99, .t 100, .t 101]),mv 97 102,o 103 (.ext (.t 97) 0),o 104 (.ext (.t 97) 1),mv 13 103,mv 9 104]) (.seq (.reg [mv 106 0,mv 107 10,mv 108 11,mv 109 9,o 110 (.bsl 25 1 2 [.sl none 0 0 none] [(0, .t 108),(1, .t 109)]),o 111 (.call 153 [.t 107, .t 110]),mv 112 2,mv 113 10,o 114 (.call 177 [.t 106, .t 111, .t 112, .t 113]),mv 105 114,o 115 (.ext (.t 105) 0),o 116 (.ext (.t 105) 1),mv 14 115,mv 9 116]) (.seq (.reg [mv 117 0,o 118 (.nn (.t 117)),o 119 (.fld 0 (.t 118)),o 120 (.ld none (.t 119)),o 121 (.nn (.t 120)),o 122 (.fld 0 (.t 121)),o 123 (.ld none (.t 122)),o 124 (.nn (.t 123)),o 125 (.fld 0 (.t 124)),o 126 (.ld none (.t 125)),o 127 (.nn (.t 126)),o 128 (.fld 0 (.t 127)),o 129 (.ld none (.t 128)),o 130 (.nn (.t 129)),o 131 (.fld 0 (.t 130)),o 132 (.ld none (.t 131)),o 133 (.nn (.t 132)),o 134 (.fld 0 (.t 133)),o 135 (.ld none (.t 134)),o 136 (.nn (.t 135)),o 137 (.fld 0 (.t 136)),o 138 (.ld none (.t 137)),o 139 (.nn (.t 138)),o 140 (.fld 0 (.t 139)),o 141 (.call 162 [.t 140])]) (.seq (.reg [mv 142 10,mv 143 14,mv 144 13,o 145 (.bsl 25 1 2 [.sl none 0 0 none] [(0, .t 143),(1, .t 144)]),o 146 (.call 153 [.t 142, .t 145]),mv 147 9,mv 8 146,mv 9 147]) .ret))))))))
theorem in_div_Engine_two:Ent 152 148 c_div_Engine_two [.t 8, .t 9]:=en Tryz.func152 rfl
def c_div_piece:AC:= .seq (.reg [o 6 (.mv (.c (.sl none 0 0 none)))]) (.seq (.seq (.reg [mv 7 1,mv 8 0,o 9 (.len false (.t 8)),bn 10 .geq 7 9]) (.cond (.t 10) (.seq (.reg [o 6 (.mv (.c (.sl none 0 0 none)))]) .ret) .skip)) (.seq (.reg [mv 11 0,mv 12 1,mv 13 0,o 14 (.len false (.t 13)),mv 15 1,mv 16 2,bn 17 .add 15 16,o 18 (.mnx false (.t 14) [.t 17]),o 19 (.slc 1 (.t 11) (some (.t 12)) (some (.t 18))),o 20 (.call 107 [.t 19]),mv 6 20]) .ret))
theorem in_div_piece:Ent 154 21 c_div_piece [.t 6]:=en Tryz.func154 rfl
def c_div_Engine_three:AC:= .seq (.reg [o 8 (.mv (.c (.sl none 0 0 none))),o 9 (.mv (.c (.sl none 0 0 none)))]) (.seq (.reg [mv 18 2,mv 19 3,o 20 (.call 176 [.t 18, .t 19]),mv 17 20,o 21 (.ext (.t 17) 0),o 22 (.ext (.t 17) 1),mv 10 21,mv 11 22]) (.seq (.reg [mv 24 1,mv 25 3,o 26 (.call 176 [.t 24, .t 25]),mv 23 26,o 27 (.ext (.t 23) 0),o 28 (.ext (.t 23) 1),mv 12 27,mv 13 28]) (.seq (.reg [mv 30 13,mv 31 3,o 32 (.call 176 [.t 30, .t 31]),mv 29 32,o 33 (.ext (.t 29) 0),o 34 (.ext (.t 29) 1),mv 14 33,mv 15 34]) (.seq (.seq (.reg [mv 35 15,mv 36 11,o 37 (.call 113 [.t 35, .t 36]),o 38 (.bin .lss (.t 37) (i64 0))]) (.cond (.t 38) (.reg [mv 40 0,mv 41 13,mv 42 11,mv 43 3,o 44 (.call 152 [.t 40, .t 41, .t 42, .t 43]),mv 39 44,o 45 (.ext (.t 39) 0),o 46 (.ext (.t 39) 1),mv 8 45,mv 9 46]) (.seq (.reg [mv 48 3,o 49 (.call 97 [u64 1]),o 50 (.bsl 25 1 2 [.sl none 0 0 none] [(0, .c (.sl none 0 0 none)),(1, .t 49)]),o 51 (.call 153 [.t 48, .t 50]),o 52 (.call 97 [u64 1]),o 53 (.call 112 [.t 51, .t 52]),mv 47 53,o 54 (.ext (.t 47) 0),o 55 (.ext (.t 47) 1),mv 8 54]) (.reg [mv 57 13,mv 58 11,o 59 (.call 111 [.t 57, .t 58]),mv 60 3,mv 61 11,o 62 (.bsl 25 1 2 [.sl none 0 0 none] [(0, .c (.sl none 0 0 none)),(1, .t 61)]),o 63 (.call 153 [.t 60, .t 62]),o 64 (.call 112 [.t 59, .t 63]),mv 56 64,o 65 (.ext (.t 56) 0),o 66 (.ext (.t 56) 1),mv 9 65])))) (.seq (.reg [mv 67 3,mv 68 12,mv 69 9,o 70 (.bsl 25 1 2 [.sl none 0 0 none] [(0, .t 68),(1, .t 69)]),o 71 (.call 153 [.t 67, .t 70]),mv 9 71]) (.seq (.reg [mv 72 0,o 73 (.nn (.t 72)),o 74 (.fld 0 (.t 73)),o 75 (.ld none (.t 74)),o 76 (.nn (.t 75)),o 77 (.fld 0 (.t 76)),o 78 (.ld none (.t 77)),o 79 (.nn (.t 78)),o 80 (.fld 0 (.t 79)),o 81 (.ld none (.t 80)),mv 82 8,mv 83 10,o 84 (.call 104 [.t 81, .t 82, .t 83]),mv 16 84]) (.seq (.block 0 (.loop (.seq (.seq (.reg [mv 85 9,mv 86 16,o 87 (.call 113 [.t 85, .t 86]),o 88 (.bin .lss (.t 87) (i64 0))]) (.cond (.t 88) .skip (.exit 0))) (.block 1 (.seq (.reg [mv 90 8,o 91 (.call 97 [u64 1]),o 92 (.call 112 [.t 90, .t 91]),mv 89 92,o 93 (.ext (.t 89) 0),o 94 (.ext (.t 89) 1),mv 8 93]) (.reg [mv 95 9,mv 96 2,o 97 (.call 111 [.t 95, .t 96]),mv 9 97])))))) (.seq (.reg [mv 99 9,mv 100 16,o 101 (.call 112 [.t 99, .t 100]),mv 98 101,o 102 (.ext (.t 98) 0),o 103 (.ext (.t 98) 1),mv 9 102]) (.seq (.reg [mv 104 8,mv 105 9,mv 8 104,mv 9 105]) .ret)))))))))
theorem in_div_Engine_three:Ent 177 106 c_div_Engine_three [.t 8, .t 9]:=en Tryz.func177 rfl
def c_recip_Engine_Recip:AC:= .seq (.reg [o 6 (.mv (.c (.sl none 0 0 none))),o 7 (.mv (i64 0))]) (.seq (.seq (.reg [mv 8 1,o 9 (.call 53 [.t 8])]) (.cond (.t 9) (.seq (.reg [o 6 (.mv (.c (.sl none 0 0 none))),o 7 (.mv (i64 2))]) .ret) .skip)) (.seq (.seq (.reg [mv 10 2,o 11 (.bin .lss (.t 10) (i64 0)),mv 12 11,og 13 12 false (.mv (.t 2)),og 14 12 false (.bin .gtr (.t 13) (i64 1048576)),o 15 (.pick (.t 12) (.c (.bool true)) (.t 14))]) (.cond (.t 15) (.seq (.reg [o 6 (.mv (.c (.sl none 0 0 none))),o 7 (.mv (i64 1))]) .ret) .skip)) (.seq (.seq (.reg [mv 16 2,mv 17 1,o 18 (.call 32 [.t 17]),o 19 (.bin .sub (.t 18) (i64 1)),bn 20 .lss 16 19]) (.cond (.t 20) (.seq (.reg [o 6 (.mv (.c (.sl none 0 0 none))),o 7 (.mv (i64 0))]) .ret) .skip)) (.seq (.reg [mv 21 0,mv 22 1,o 23 (.call 107 [.t 22]),mv 24 2,o 25 (.call 175 [.t 21, .t 23, .t 24]),mv 6 25,o 7 (.mv (i64 0))]) .ret))))
theorem in_recip_Engine_Recip:Ent 151 26 c_recip_Engine_Recip [.t 6, .t 7]:=en Tryz.func151 rfl
def c_recip_New:AC:= .seq (.reg [o 1 (.box 23 (.t 0)),o 2 (.mv (.c (.ptr none)))]) (.seq (.reg [o 3 (.ld (some 11) (.t 1)),o 4 (.call 188 [.t 3]),o 5 (.bld [.ptr none] [(0,1, .t 4)]),o 6 (.box 139 (.t 5)),mv 2 6]) .ret)
theorem in_recip_New:Ent 159 7 c_recip_New [.t 2]:=en Tryz.func159 rfl
def c_recip_Engine_newton:AC:= .seq (.reg [o 6 (.mv (.c (.sl none 0 0 none)))]) (.seq (.reg [mv 16 2,mv 17 1,o 18 (.call 32 [.t 17]),bn 19 .sub 16 18,o 20 (.bin .add (.t 19) (i64 1)),mv 7 20]) (.seq (.seq (.reg [mv 21 1,o 22 (.len false (.t 21)),mv 23 0,o 24 (.nn (.t 23)),o 25 (.fld 0 (.t 24)),o 26 (.ld none (.t 25)),o 27 (.nn (.t 26)),o 28 (.fld 0 (.t 27)),o 29 (.ld none (.t 28)),o 30 (.nn (.t 29)),o 31 (.fld 0 (.t 30)),o 32 (.ld none (.t 31)),o 33 (.nn (.t 32)),o 34 (.fld 0 (.t 33)),o 35 (.ld none (.t 34)),o 36 (.nn (.t 35)),o 37 (.fld 0 (.t 36)),o 38 (.ld none (.t 37)),o 39 (.nn (.t 38)),o 40 (.fld 0 (.t 39)),o 41 (.ld none (.t 40)),o 42 (.nn (.t 41)),o 43 (.fld 3 (.t 42)),o 44 (.fld 4 (.t 43)),o 45 (.ld none (.t 44)),bn 46 .lss 22 45,mv 47 46,og 48 47 false (.mv (.t 7)),og 49 47 false (.bin .leq (.t 48) (i64 64)),o 50 (.pick (.t 47) (.c (.bool true)) (.t 49))]) (.cond (.t 50) (.seq (.reg [mv 52 0,o 53 (.nn (.t 52)),o 54 (.fld 0 (.t 53)),o 55 (.ld none (.t 54)),mv 56 2,mv 58 1,⟨some 57,none, .call 195 [.t 56],[(some 55,none, .ld none (.t 54))]⟩,o 59 (.call 126 [.t 55, .t 57, .t 58]),mv 51 59,o 60 (.ext (.t 51) 0),o 61 (.ext (.t 51) 1),o 62 (.ext (.t 51) 2),mv 8 60,mv 9 61,mv 10 62]) (.seq (.reg [mv 63 8,mv 6 63]) .ret)) .skip)) (.seq (.reg [mv 64 0,o 65 (.nn (.t 64)),o 66 (.fld 0 (.t 65)),o 67 (.ld none (.t 66)),o 68 (.nn (.t 67)),o 69 (.fld 0 (.t 68)),o 70 (.ld none (.t 69)),o 71 (.nn (.t 70)),o 72 (.fld 0 (.t 71)),o 73 (.ld none (.t 72)),o 74 (.nn (.t 73)),o 75 (.fld 0 (.t 74)),o 76 (.ld none (.t 75)),o 77 (.nn (.t 76)),o 78 (.fld 0 (.t 77)),o 79 (.ld none (.t 78)),o 80 (.nn (.t 79)),o 81 (.fld 0 (.t 80)),o 82 (.ld none (.t 81)),o 83 (.nn (.t 82)),o 84 (.fld 0 (.t 83)),o 85 (.call 161 [.t 84])]) (.seq (.reg [mv 86 7,o 87 (.bin .quo (.t 86) (i64 2)),o 88 (.bin .add (.t 87) (i64 4)),mv 11 88]) (.seq (.reg [mv 89 1,o 90 (.call 32 [.t 89]),mv 91 11,bn 92 .sub 90 91,o 93 (.bin .sub (.t 92) (i64 4)),o 94 (.mnx true (i64 0) [.t 93]),mv 12 94]) (.seq (.reg [mv 95 1,mv 96 12,o 97 (.call 150 [.t 95, .t 96]),mv 13 97]) (.seq (.reg [mv 98 13,o 99 (.call 32 [.t 98]),o 100 (.bin .sub (.t 99) (i64 1)),mv 101 11,bn 102 .add 100 101,mv 14 102]) (.seq (.reg [mv 103 0,mv 104 13,mv 105 14,o 106 (.call 175 [.t 103, .t 104, .t 105]),mv 15 106]) (.seq (.reg [mv 107 15,mv 108 2,mv 109 14,bn 110 .sub 108 109,mv 111 12,bn 112 .sub 110 111,o 113 (.mnx true (i64 0) [.t 112]),o 114 (.call 147 [.t 107, .t 113]),mv 15 114]) (.seq (.reg [mv 115 15,mv 116 14,mv 117 12,bn 118 .add 116 117,mv 119 2,bn 120 .sub 118 119,o 121 (.mnx true (i64 0) [.t 120]),o 122 (.call 150 [.t 115, .t 121]),mv 15 122]) (.seq (.reg [mv 123 0,mv 124 1,mv 125 15,mv 126 2,o 127 (.call 196 [.t 123, .t 124, .t 125, .t 126]),mv 15 127]) (.seq (.reg [mv 128 0,o 129 (.nn (.t 128)),o 130 (.fld 0 (.t 129)),o 131 (.ld none (.t 130)),o 132 (.nn (.t 131)),o 133 (.fld 0 (.t 132)),o 134 (.ld none (.t 133)),o 135 (.nn (.t 134)),o 136 (.fld 0 (.t 135)),o 137 (.ld none (.t 136)),o 138 (.nn (.t 137)),o 139 (.fld 0 (.t 138)),o 140 (.ld none (.t 139)),o 141 (.nn (.t 140)),o 142 (.fld 0 (.t 141)),o 143 (.ld none (.t 142)),o 144 (.nn (.t 143)),o 145 (.fld 0 (.t 144)),o 146 (.ld none (.t 145)),o 147 (.nn (.t 146)),o 148 (.fld 0 (.t 147)),o 149 (.call 162 [.t 148])]) (.seq (.reg [mv 150 0,mv 151 1,mv 152 15,mv 153 2,o 154 (.call 197 [.t 150, .t 151, .t 152, .t 153]),mv 6 154]) .ret)))))))))))))
theorem in_recip_Engine_newton:Ent 175 155 c_recip_Engine_newton [.t 6]:=en Tryz.func175 rfl
def c_recip_power:AC:= .seq (.reg [o 2 (.mv (.c (.sl none 0 0 none)))]) (.seq (.reg [o 3 (.call 97 [u64 1]),mv 4 0,o 5 (.call 147 [.t 3, .t 4]),mv 2 5]) .ret)
theorem in_recip_power:Ent 195 6 c_recip_power [.t 2]:=en Tryz.func195 rfl
def c_recip_Engine_step:AC:= .seq (.reg [o 8 (.mv (.c (.sl none 0 0 none)))]) (.seq (.reg [mv 18 0,o 19 (.nn (.t 18)),o 20 (.fld 0 (.t 19)),o 21 (.ld none (.t 20)),o 22 (.nn (.t 21)),o 23 (.fld 0 (.t 22)),o 24 (.ld none (.t 23)),mv 25 1,mv 26 2,o 27 (.call 104 [.t 24, .t 25, .t 26]),mv 9 27]) (.seq (.reg [mv 28 3,o 29 (.call 195 [.t 28]),mv 10 29]) (.seq (.seq (.reg [mv 31 10,mv 32 9,o 33 (.call 112 [.t 31, .t 32]),mv 30 33,o 34 (.ext (.t 30) 0),o 35 (.ext (.t 30) 1),mv 11 34,mv 12 35]) (.seq (.reg [mv 36 12]) (.cond (.t 36) (.seq (.reg [mv 37 2,mv 38 0,o 39 (.nn (.t 38)),o 40 (.fld 0 (.t 39)),o 41 (.ld none (.t 40)),o 42 (.nn (.t 41)),o 43 (.fld 0 (.t 42)),o 44 (.ld none (.t 43)),mv 45 2,mv 46 11,o 47 (.call 104 [.t 44, .t 45, .t 46]),mv 48 3,o 49 (.call 150 [.t 47, .t 48]),o 50 (.call 111 [.t 37, .t 49]),mv 8 50]) .ret) .skip))) (.seq (.reg [mv 52 9,mv 53 10,o 54 (.call 112 [.t 52, .t 53]),mv 51 54,o 55 (.ext (.t 51) 0),o 56 (.ext (.t 51) 1),mv 13 55,mv 14 56]) (.seq (.reg [mv 57 0,o 58 (.nn (.t 57)),o 59 (.fld 0 (.t 58)),o 60 (.ld none (.t 59)),o 61 (.nn (.t 60)),o 62 (.fld 0 (.t 61)),o 63 (.ld none (.t 62)),mv 64 2,mv 65 13,o 66 (.call 104 [.t 63, .t 64, .t 65]),mv 67 3,o 68 (.call 150 [.t 66, .t 67]),o 69 (.call 97 [u64 1]),o 70 (.call 111 [.t 68, .t 69]),mv 15 70]) (.seq (.reg [mv 72 2,mv 73 15,o 74 (.call 112 [.t 72, .t 73]),mv 71 74,o 75 (.ext (.t 71) 0),o 76 (.ext (.t 71) 1),mv 16 75,mv 17 76]) (.seq (.seq (.reg [mv 77 17,o 78 (.un .not (.t 77))]) (.cond (.t 78) (.seq (.reg [o 8 (.mv (.c (.sl none 0 0 none)))]) .ret) .skip)) (.seq (.reg [mv 79 16,mv 8 79]) .ret))))))))
theorem in_recip_Engine_step:Ent 196 80 c_recip_Engine_step [.t 8]:=en Tryz.func196 rfl
def c_recip_Engine_right:AC:= .seq (.reg [o 8 (.mv (.c (.sl none 0 0 none)))]) (.seq (.reg [mv 16 3,o 17 (.call 195 [.t 16]),mv 9 17]) (.seq (.reg [mv 18 0,o 19 (.nn (.t 18)),o 20 (.fld 0 (.t 19)),o 21 (.ld none (.t 20)),o 22 (.nn (.t 21)),o 23 (.fld 0 (.t 22)),o 24 (.ld none (.t 23)),mv 25 1,mv 26 2,o 27 (.call 104 [.t 24, .t 25, .t 26]),mv 10 27]) (.seq (.seq (.reg [o 28 (.mv (i64 0))]) (.block 0 (.loop (.seq (.reg [o 29 (.bin .lss (.t 28) (i64 8))]) (.seq (.cond (.t 29) .skip (.exit 0)) (.seq (.block 1 (.seq (.reg [mv 31 9,mv 32 10,o 33 (.call 112 [.t 31, .t 32]),mv 30 33,o 34 (.ext (.t 30) 0),o 35 (.ext (.t 30) 1),mv 11 34,mv 12 35]) (.seq (.seq (.reg [mv 36 12,o 37 (.un .not (.t 36))]) (.cond (.t 37) (.seq (.reg [mv 39 2,o 40 (.call 97 [u64 1]),o 41 (.call 112 [.t 39, .t 40]),mv 38 41,o 42 (.ext (.t 38) 0),o 43 (.ext (.t 38) 1),mv 2 42]) (.seq (.reg [mv 45 10,mv 46 1,o 47 (.call 112 [.t 45, .t 46]),mv 44 47,o 48 (.ext (.t 44) 0),o 49 (.ext (.t 44) 1),mv 10 48]) (.exit 1))) .skip)) (.seq (.seq (.reg [mv 50 11,mv 51 1,o 52 (.call 113 [.t 50, .t 51]),o 53 (.bin .lss (.t 52) (i64 0))]) (.cond (.t 53) (.seq (.reg [mv 54 2,mv 8 54]) .ret) .skip)) (.seq (.reg [mv 55 2,o 56 (.call 97 [u64 1]),o 57 (.call 111 [.t 55, .t 56]),mv 2 57]) (.reg [mv 58 10,mv 59 1,o 60 (.call 111 [.t 58, .t 59]),mv 10 60])))))) (.reg [o 61 (.bin .add (.t 28) (i64 1)),mv 28 61]))))))) (.seq (.reg [mv 63 0,o 64 (.nn (.t 63)),o 65 (.fld 0 (.t 64)),o 66 (.ld none (.t 65)),mv 67 9,mv 68 1,o 69 (.call 126 [.t 66, .t 67, .t 68]),mv 62 69,o 70 (.ext (.t 62) 0),o 71 (.ext (.t 62) 1),o 72 (.ext (.t 62) 2),mv 13 70,mv 14 71,mv 15 72]) (.seq (.reg [mv 73 13,mv 8 73]) .ret)))))
theorem in_recip_Engine_right:Ent 197 74 c_recip_Engine_right [.t 8]:=en Tryz.func197 rfl
end
def H.lee (u:Nat) (h h':H):Prop:=h.next≤h'.next∧∀i r,i≠u→h.rows i=some r→h'.rows i=some r
theorem H.le.lee {u:Nat} {h h':H} (hl:h.le h'):H.lee u h h':=⟨hl.1,fun i r _ hr=>hl.2 i r hr⟩
theorem H.lee.trans {u:Nat} {a b c:H} (h:H.lee u a b) (k:H.lee u b c):H.lee u a c:=⟨Nat.le_trans h.1 k.1,fun i r hi hr=>k.2 i r hi (h.2 i r hi hr)⟩
theorem H.lee_refl (u:Nat) (h:H):H.lee u h h:=(H.le_refl h).lee
theorem H.lee_set {u:Nat} {h:H} (r:Row):H.lee u h (h.set u r):=⟨Nat.le_refl _,fun i q hi hr=>by rw[H.rows_set_ne hi];exact hr⟩
theorem IsW.monoE {u:Nat} {k:IntKind} {h h':H} {v:AV} {xs:List Int} {ru:Row} (hu:h.rows u=some ru) (ho:ru.own≠none) (hz:ru.esz≠1) (hv:IsW k h v xs) (hl:H.lee u h h'):IsW k h' v xs:=by
 obtain⟨id,off,c,rfl,h1⟩:=hv
 refine⟨id,off,c,rfl, ?_⟩
 rcases h1 with h1|⟨i,r,rfl,hr,hor,h3,h4⟩
 ·exact .inl h1
 ·refine .inr ⟨i,r,rfl,hl.2 i r ?_ hr,hor,h3,h4⟩
  rintro rfl
  rw[hu] at hr
  injection hr with hr
  subst hr
  rcases hor with h|h
  ·exact ho h
  ·exact hz h
def wr (m:Nat):Int:=IntKind.i64.wrap (m:Int)
theorem wr_small {m:Nat} (h:m<9223372036854775808):wr m=(m:Int):=wI oM oM
theorem wr_add {m n:Nat}:IntKind.i64.wrap (wr m+(n:Int))=wr (m+n):=by
 unfold wr
 rw[IntKind.wrap_i64,IntKind.wrap_i64,IntKind.wrap_i64]
 omega
def tuneRow (m nw dp:Nat) (t:Tb):Row:=⟨some 180,14,[.int .i64 (wr m), .int .i64 (nw:Int), .int .i64 (dp:Int)]++t.cells⟩
def Tune (h:H) (u m nw dp:Nat) (t:Tb):Prop:=h.rows u=some (tuneRow m nw dp t)
def Eng:Nat→H→Nat→Nat→Prop
 |0,_,e,u=>e=u
 |d+1,h,e,u=>∃r e',h.rows e=some r∧r.cells=[.ptr (some (e',0))]∧Eng d h e' u
theorem Eng.mono {h h':H} {u:Nat}:∀{d e:Nat},Eng d h e u→h.le h'→Eng d h' e u
 |0,_,he,_=>he
 |_+1,_,⟨r,e',h1,h2,h3⟩,hl=>⟨r,e',hl.2 _ _ h1,h2,h3.mono hl⟩
theorem Eng.monoE {h h':H} {u m nw dp:Nat} {t:Tb} (ht:Tune h u m nw dp t) (hl:H.lee u h h'):∀{d e:Nat},Eng d h e u→Eng d h' e u
 |0,_,he=>he
 |_+1,e,⟨r,e',h1,h2,h3⟩=>⟨r,e',hl.2 _ _ (by
   rintro rfl
   rw[ht] at h1
   injection h1 with h1
   rw[←h1] at h2
   have:=congrArg List.length h2
   simp[tuneRow,Tb.cells] at this) h1,h2,Eng.monoE ht hl h3⟩
theorem Tune.mono {h h':H} {u m nw dp:Nat} {t:Tb} (ht:Tune h u m nw dp t) (hl:h.le h'):Tune h' u m nw dp t:=hl.2 _ _ ht
theorem IsN.monoE {h h':H} {u m nw dp:Nat} {t:Tb} {v:AV} {xs:List Nat} (ht:Tune h u m nw dp t) (hv:IsN h v xs) (hl:H.lee u h h'):IsN h' v xs:=IsW.monoE ht (by simp[tuneRow]) (by simp[tuneRow]) hv hl
theorem Nn.monoE {h h':H} {u m nw dp:Nat} {t:Tb} {v:AV} {x:Nat} (ht:Tune h u m nw dp t) (hv:Nn h v x) (hl:H.lee u h h'):Nn h' v x:=by
 obtain⟨xs,h1,h2⟩:=hv
 exact⟨xs,h1.monoE ht hl,h2⟩
theorem IsG.monoE {b:Nat} {h h':H} {u:Nat} {v:AV} {xs:List Nat} (hub:u<b) (hv:IsG b h v xs) (hl:H.lee u h h'):IsG b h' v xs:=by
 obtain⟨id,c,rfl,h1⟩:=hv
 refine⟨id,c,rfl, ?_⟩
 rcases h1 with h1|⟨i,r,rfl,hb,hr,h2⟩
 ·exact .inl h1
 ·exact .inr ⟨i,r,rfl,hb,hl.2 i r oM hr,h2⟩
theorem Nf.monoE {b:Nat} {h h':H} {u:Nat} {v:AV} {x:Nat} (hub:u<b) (hv:Nf b h v x) (hl:H.lee u h h'):Nf b h' v x:=by
 obtain⟨xs,h1,h2⟩:=hv
 exact⟨xs,h1.monoE hub hl,h2⟩
theorem Spend_calls {u m nw dp n:Nat} {t:Tb} {h:H} {K:AV→H→Prop} (ht:Tune h u m nw dp t)
  (hk:∀h',h'.wf→H.lee u h h'→h'.next=h.next→Tune h' u (m+n) nw dp t→K (.int .i64 (wr (m+n))) h'):ACalls Tryz.prog 144 [.ptr (some (u,0)), .int .i64 (n:Int)] h K:=by
 refine in_meter_Meter_Spend sM fun hw=> ?_
 unfold c_meter_Meter_Spend
 have hul:=H.row_lt hw ht
 have hg:h.get u 0=some (.int .i64 (wr m)):=by rw[H.get_of ht];rfl
 rcases Nat.eq_zero_or_pos n with h0|h0
 ·subst h0
  simp only[go_sem,show decide ((0:Int)<((0:Nat):Int))=false from rfl,hg]
  exact fun _=>hk h hw (H.lee_refl u h) rfl ht
 ·have hr:h.rows u=some (tuneRow m nw dp t):=ht
  simp only[go_sem,show decide ((0:Int)<(n:Int))=true from decide_eq_true oM,hg,wr_add (m:=m) (n:=n),hr]
  refine⟨by simp[tuneRow],by simp[tuneRow], ?_⟩
  have hp:({tuneRow m nw dp t with cells:=putAt (tuneRow m nw dp t).cells 0 [AV.int .i64 (wr (m+n))]}:Row)=tuneRow (m+n) nw dp t:=by
   simp[tuneRow,putAt]
  rw[hp]
  have hg2:(h.set u (tuneRow (m+n) nw dp t)).get u 0=some (.int .i64 (wr (m+n))):=by rw[H.get_of (H.rows_set _ _ _)];rfl
  simp only[go_sem,hg2]
  exact fun hw'=>hk _ hw' (H.lee_set _) rfl (H.rows_set _ _ _)
theorem tune_zero {t:Tb}:tuneRow 0 0 0 t=⟨some 180,14,tuneCells t⟩:=by
 have e:wr 0=0:=wr_small oM
 simp[tuneRow,tuneCells,e]
theorem tNew_calls {t:Tb} {h:H} {K:AV→H→Prop} (hk:∀id h',h'.wf→h.le h'→h.next≤id→Tune h' id 0 0 0 (clampT t)→K (.ptr (some (id,0))) h'):ACalls Tryz.prog 247 [t.av] h K:=
 New_calls fun id h' hw' hl' hn hr=>hk id h' hw' hl' hn (by unfold Tune;rw[tune_zero];exact hr)
theorem bldp {p:Option (Nat×Nat)}:abuild [AV.ptr none] [(0,1,AV.ptr p)]=some [AV.ptr p]:=by simp[abuild,putAt,AV.held,AV.cells]
theorem sNew_calls {t:Tb} {h:H} {K:AV→H→Prop} (hk:∀e u h',h'.wf→h.le h'→h.next≤u→u<e→Eng 1 h' e u→Tune h' u 0 0 0 (clampT t)→K (.ptr (some (e,0))) h'):ACalls Tryz.prog 243 [t.av] h K:=by
 refine in_school_New sM fun hw=> ?_
 unfold c_school_New
 have hl1:=H.le_new hw (H.le_refl h) ⟨some 23,11,t.cells⟩
 have hn1:h.next<(h.new ⟨some 23,11,t.cells⟩).next:=Nat.lt_succ_self _
 simp only[go_sem,av_held,av_cells,cells_len,true_and,gsT (H.rows_new h _)]
 refine tNew_calls fun u h1 hw1 hl2 hn2 ht=> ?_
 simp only[go_sem,bldp]
 simp only[AV.held,AV.cells,true_and,go_sem]
 have hl3:=H.le_new hw1 (H.le_refl h1) ⟨some 176,1,[AV.ptr (some (u,0))]⟩
 exact fun hw'=>hk _ u _ hw' (H.le_trans hl1 (H.le_trans hl2 hl3)) oM (H.row_lt hw1 ht) ⟨_,u,H.rows_new _ _,rfl,rfl⟩ (ht.mono hl3)
theorem kNew_calls {t:Tb} {h:H} {K:AV→H→Prop} (hk:∀e u h',h'.wf→h.le h'→h.next≤u→u<e→Eng 2 h' e u→Tune h' u 0 0 0 (clampT t)→K (.ptr (some (e,0))) h'):ACalls Tryz.prog 235 [t.av] h K:=by
 refine in_kara_New sM fun hw=> ?_
 unfold c_kara_New
 have hl1:=H.le_new hw (H.le_refl h) ⟨some 23,11,t.cells⟩
 have hn1:h.next<(h.new ⟨some 23,11,t.cells⟩).next:=Nat.lt_succ_self _
 simp only[go_sem,av_held,av_cells,cells_len,true_and,gsT (H.rows_new h _)]
 refine sNew_calls fun e u h1 hw1 hl2 hn2 _ he ht=> ?_
 simp only[go_sem,bldp]
 simp only[AV.held,AV.cells,true_and,go_sem]
 have hl3:=H.le_new hw1 (H.le_refl h1) ⟨some 173,1,[AV.ptr (some (e,0))]⟩
 exact fun hw'=>hk _ u _ hw' (H.le_trans hl1 (H.le_trans hl2 hl3)) oM (H.row_lt hw1 ht) ⟨_,e,H.rows_new _ _,rfl,he.mono hl3⟩ (ht.mono hl3)
theorem toNew_calls {t:Tb} {h:H} {K:AV→H→Prop} (hk:∀e u h',h'.wf→h.le h'→h.next≤u→u<e→Eng 3 h' e u→Tune h' u 0 0 0 (clampT t)→K (.ptr (some (e,0))) h'):ACalls Tryz.prog 226 [t.av] h K:=by
 refine in_toom_New sM fun hw=> ?_
 unfold c_toom_New
 have hl1:=H.le_new hw (H.le_refl h) ⟨some 23,11,t.cells⟩
 have hn1:h.next<(h.new ⟨some 23,11,t.cells⟩).next:=Nat.lt_succ_self _
 simp only[go_sem,av_held,av_cells,cells_len,true_and,gsT (H.rows_new h _)]
 refine kNew_calls fun e u h1 hw1 hl2 hn2 _ he ht=> ?_
 simp only[go_sem,bldp]
 simp only[AV.held,AV.cells,true_and,go_sem]
 have hl3:=H.le_new hw1 (H.le_refl h1) ⟨some 170,1,[AV.ptr (some (e,0))]⟩
 exact fun hw'=>hk _ u _ hw' (H.le_trans hl1 (H.le_trans hl2 hl3)) oM (H.row_lt hw1 ht) ⟨_,e,H.rows_new _ _,rfl,he.mono hl3⟩ (ht.mono hl3)
theorem mNew_calls {t:Tb} {h:H} {K:AV→H→Prop} (hk:∀e u h',h'.wf→h.le h'→h.next≤u→u<e→Eng 4 h' e u→Tune h' u 0 0 0 (clampT t)→K (.ptr (some (e,0))) h'):ACalls Tryz.prog 212 [t.av] h K:=by
 refine in_mul_New sM fun hw=> ?_
 unfold c_mul_New
 have hl1:=H.le_new hw (H.le_refl h) ⟨some 23,11,t.cells⟩
 have hn1:h.next<(h.new ⟨some 23,11,t.cells⟩).next:=Nat.lt_succ_self _
 simp only[go_sem,av_held,av_cells,cells_len,true_and,gsT (H.rows_new h _)]
 refine toNew_calls fun e u h1 hw1 hl2 hn2 _ he ht=> ?_
 simp only[go_sem,bldp]
 simp only[AV.held,AV.cells,true_and,go_sem]
 have hl3:=H.le_new hw1 (H.le_refl h1) ⟨some 167,1,[AV.ptr (some (e,0))]⟩
 exact fun hw'=>hk _ u _ hw' (H.le_trans hl1 (H.le_trans hl2 hl3)) oM (H.row_lt hw1 ht) ⟨_,e,H.rows_new _ _,rfl,he.mono hl3⟩ (ht.mono hl3)
theorem dNew_calls {t:Tb} {h:H} {K:AV→H→Prop} (hk:∀e u h',h'.wf→h.le h'→h.next≤u→u<e→Eng 5 h' e u→Tune h' u 0 0 0 (clampT t)→K (.ptr (some (e,0))) h'):ACalls Tryz.prog 188 [t.av] h K:=by
 refine in_divs_New sM fun hw=> ?_
 unfold c_divs_New
 have hl1:=H.le_new hw (H.le_refl h) ⟨some 23,11,t.cells⟩
 have hn1:h.next<(h.new ⟨some 23,11,t.cells⟩).next:=Nat.lt_succ_self _
 simp only[go_sem,av_held,av_cells,cells_len,true_and,gsT (H.rows_new h _)]
 refine mNew_calls fun e u h1 hw1 hl2 hn2 _ he ht=> ?_
 simp only[go_sem,bldp]
 simp only[AV.held,AV.cells,true_and,go_sem]
 have hl3:=H.le_new hw1 (H.le_refl h1) ⟨some 142,1,[AV.ptr (some (e,0))]⟩
 exact fun hw'=>hk _ u _ hw' (H.le_trans hl1 (H.le_trans hl2 hl3)) oM (H.row_lt hw1 ht) ⟨_,e,H.rows_new _ _,rfl,he.mono hl3⟩ (ht.mono hl3)
theorem comU {x:Nat} (hx:x<18446744073709551616):bCom .u64 (x:Int)=((18446744073709551615-x:Nat):Int):=by
 have e1:(BitVec.ofInt 64 18446744073709551615^^^BitVec.ofInt 64 (x:Int)).toNat=18446744073709551615-x:=by
  rw[show BitVec.ofInt 64 18446744073709551615=BitVec.allOnes 64 from by decide,BitVec.allOnes_xor,BitVec.toNat_not,BitVec.toNat_ofInt]
  show 18446744073709551615-((x:Int)%18446744073709551616).toNat=_
  omega
 show IntKind.u64.wrap (((BitVec.ofInt 64 18446744073709551615^^^BitVec.ofInt 64 (x:Int)).toNat:Nat):Int)=_
 rw[e1]
 exact wUn oM
theorem Inverse_calls {d:Nat} {h:H} {K:AV→H→Prop} (hd:d<18446744073709551616)
  (hk1:d<9223372036854775808→K (.tup [.int .u64 0, .bool false]) h)
  (hk2:9223372036854775808≤d→K (.tup [.int .u64 (((18446744073709551615-d)*18446744073709551616+18446744073709551615)/d:Nat), .bool true]) h):ACalls Tryz.prog 173 [.int .u64 (d:Int)] h K:=by
 refine in_word_Inverse sM fun hw=> ?_
 unfold c_word_Inverse
 simp only[go_sem]
 refine cond_split (fun hc=> ?_) (fun hc=> ?_)
 ·simp only[go_sem]
  exact fun _=>hk1 (by simp at hc;omega)
 ·have hge:9223372036854775808≤d:=by simp at hc;omega
  simp only[go_sem,comU hd]
  refine Div64_calls (lo:=18446744073709551615) oM oM hd ?_
  simp only[go_sem]
  exact fun _=>hk2 hge
theorem addUm {a b:Nat}:IntKind.u64.wrap ((a:Int)+(b:Int))=(((a+b)%18446744073709551616:Nat):Int):=by rw[wUm];omega
def IsInv (d v:Nat):Prop:=v<18446744073709551616∧∃k:Nat,k≤d∧1≤k∧(18446744073709551616+v)*d+k=340282366920938463463374607431768211456
theorem inv_of {d:Nat} (hd:d<18446744073709551616) (h2:9223372036854775808≤d):IsInv d (((18446744073709551615-d)*18446744073709551616+18446744073709551615)/d):=by
 have h1:=Nat.div_add_mod ((18446744073709551615-d)*18446744073709551616+18446744073709551615) d
 have h3:=Nat.mod_lt ((18446744073709551615-d)*18446744073709551616+18446744073709551615) (show 0<d by omega)
 have hv:((18446744073709551615-d)*18446744073709551616+18446744073709551615)/d<18446744073709551616:=by
  rw[Nat.div_lt_iff_lt_mul oM]
  omega
 generalize ((18446744073709551615-d)*18446744073709551616+18446744073709551615)/d=v at*
 generalize ((18446744073709551615-d)*18446744073709551616+18446744073709551615)%d=m at*
 refine⟨hv,m+1,oM,oM, ?_⟩
 rw[Nat.add_mul,Nat.mul_comm v d]
 generalize d*v=t at*
 omega
def IsInv2 (d1 d0 v:Nat):Prop:=v<18446744073709551616∧∃k:Nat,1≤k∧k≤d1*18446744073709551616+d0∧(18446744073709551616+v)*(d1*18446744073709551616+d0)+k=6277101735386680763835789423207666416102355444464034512896
theorem dec_mul {v d:Nat} (hv:1≤v):(18446744073709551616+(v-1))*d+d=(18446744073709551616+v)*d:=by
 rw[←Nat.succ_mul]
 congr 1
 omega
structure Inv1 (d1 d0 v p k:Nat):Prop where
 hv:v<18446744073709551616
 eq:(18446744073709551616+v)*d1+k=340282366920938463463374607431768211456
 lo:d0<k
 hi:k≤d1+d0
 hp:p+k=18446744073709551616+d0
theorem inv2_value {d1 d0 v p k:Nat} (i:Inv1 d1 d0 v p k):(6277101735386680763835789423207666416102355444464034512896:Int)-(18446744073709551616+v)*(d1*18446744073709551616+d0)=18446744073709551616*((k:Int)-d0)-v*d0:=by
 have h:=i.eq
 have h2:((18446744073709551616:Int)+v)*d1+k=340282366920938463463374607431768211456:=by
  have:=congrArg (fun n:Nat=>(n:Int)) h
  simpa using this
 have h3:((18446744073709551616:Int)+v)*(d1*18446744073709551616+d0)=18446744073709551616*(((18446744073709551616:Int)+v)*d1)+18446744073709551616*d0+v*d0:=by grind
 rw[h3]
 generalize ((18446744073709551616:Int)+v)*d1=t at*
 generalize (v:Int)*d0=s at*
 omega
theorem inv2_keep {d1 d0 v p k:Nat} (i:Inv1 d1 d0 v p k) (hc:v*d0/18446744073709551616+d0<k):IsInv2 d1 d0 v:=by
 have h:=inv2_value i
 have e:=Nat.div_add_mod (v*d0) 18446744073709551616
 have e2:v*d0%18446744073709551616<18446744073709551616:=Nat.mod_lt _ dM
 have a:=i.lo
 have b:=i.hi
 refine⟨i.hv,18446744073709551616*(k-d0)-v*d0, ?_, ?_, ?_⟩
 ·generalize v*d0=t at*;omega
 ·generalize v*d0=t at*;omega
 ·have h2:(((18446744073709551616+v)*(d1*18446744073709551616+d0):Nat):Int)=((18446744073709551616:Int)+v)*(d1*18446744073709551616+d0):=by simp
  have h3:((v:Int)*d0)=((v*d0:Nat):Int):=by simp
  rw[←h2,h3] at h
  generalize (18446744073709551616+v)*(d1*18446744073709551616+d0)=s at*
  generalize v*d0=t at*
  omega
theorem inv2_one {d1 d0 v p k:Nat} (i:Inv1 d1 d0 v p k) (hd1:d1<18446744073709551616) (hd0:d0<18446744073709551616) (hc:k≤v*d0/18446744073709551616+d0) (h2:v*d0<18446744073709551616*(k-d0)+(d1*18446744073709551616+d0)):1≤v∧IsInv2 d1 d0 (v-1):=by
 have h:=inv2_value i
 have e:=Nat.div_add_mod (v*d0) 18446744073709551616
 have a:=i.lo
 have b:=i.hi
 have hv:1≤v:=by
  rcases Nat.eq_zero_or_pos v with h0|h0
  ·subst h0;simp at hc;omega
  ·exact h0
 have hvb:=i.hv
 refine⟨hv,oM,18446744073709551616*(k-d0)+(d1*18446744073709551616+d0)-v*d0, ?_, ?_, ?_⟩
 ·omega
 ·generalize v*d0=t at*;omega
 ·have h4:=dec_mul (d:=d1*18446744073709551616+d0) hv
  have h2:(((18446744073709551616+v)*(d1*18446744073709551616+d0):Nat):Int)=((18446744073709551616:Int)+v)*(d1*18446744073709551616+d0):=by simp
  have h3:((v:Int)*d0)=((v*d0:Nat):Int):=by simp
  rw[←h2,h3,←h4] at h
  generalize (18446744073709551616+(v-1))*(d1*18446744073709551616+d0)=s at*
  generalize v*d0=t at*
  omega
theorem inv2_two {d1 d0 v p k:Nat} (i:Inv1 d1 d0 v p k) (hd1:d1<18446744073709551616) (h63:9223372036854775808≤d1) (hd0:d0<18446744073709551616) (h2:18446744073709551616*(k-d0)+(d1*18446744073709551616+d0)≤v*d0):2≤v∧IsInv2 d1 d0 (v-2):=by
 have h:=inv2_value i
 have a:=i.lo
 have b:=i.hi
 have hvb:=i.hv
 have hv:2≤v:=by
  rcases Nat.lt_or_ge v 2 with h0|h0
  ·have:v*d0≤1*d0:=Nat.mul_le_mul_right d0 oM
   omega
  ·exact h0
 have hmax:v*d0≤18446744073709551615*18446744073709551615:=Nat.mul_le_mul oM oM
 refine⟨hv,oM,18446744073709551616*(k-d0)+2*(d1*18446744073709551616+d0)-v*d0, ?_, ?_, ?_⟩
 ·generalize v*d0=t at*;omega
 ·generalize v*d0=t at*;omega
 ·have h4:=dec_mul (v:=v) (d:=d1*18446744073709551616+d0) oM
  have h5:=dec_mul (v:=v-1) (d:=d1*18446744073709551616+d0) oM
  rw[show v-1-1=v-2 from by omega] at h5
  have h2:(((18446744073709551616+v)*(d1*18446744073709551616+d0):Nat):Int)=((18446744073709551616:Int)+v)*(d1*18446744073709551616+d0):=by simp
  have h3:((v:Int)*d0)=((v*d0:Nat):Int):=by simp
  rw[←h2,h3,←h4,←h5] at h
  generalize (18446744073709551616+(v-2))*(d1*18446744073709551616+d0)=s at*
  generalize v*d0=t at*
  omega
theorem Inverse2_calls {d1 d0:Nat} {h:H} {K:AV→H→Prop} (hd1:d1<18446744073709551616) (hd0:d0<18446744073709551616)
  (hk1:d1<9223372036854775808→K (.tup [.int .u64 0, .bool false]) h)
  (hk2:9223372036854775808≤d1→∀v:Nat,IsInv2 d1 d0 v→K (.tup [.int .u64 (v:Int), .bool true]) h):ACalls Tryz.prog 148 [.int .u64 (d1:Int), .int .u64 (d0:Int)] h K:=by
 refine in_word_Inverse2 sM fun hw=> ?_
 unfold c_word_Inverse2
 simp only[go_sem]
 refine Inverse_calls hd1 (fun hc=> ?_) (fun hc=> ?_)
 ·simp only[go_sem,Bool.not_false]
  exact fun _=>hk1 hc
 obtain⟨hv,k,hk0,hk1,hk4⟩:=inv_of hd1 hc
 obtain⟨v,hv0⟩:∃v,v=((18446744073709551615-d1)*18446744073709551616+18446744073709551615)/d1:=⟨_,rfl⟩
 rw[←hv0] at hv hk4
 rw[←hv0]
 clear hv0
 have ht:v*d1+18446744073709551616*d1+k=340282366920938463463374607431768211456:=by rw[←hk4,Nat.add_mul];omega
 have hv1:1≤v:=by
  rcases Nat.eq_zero_or_pos v with h0|h0
  ·subst h0;omega
  ·exact h0
 have hp:IntKind.u64.wrap (IntKind.u64.wrap ((d1:Int)*(v:Int))+(d0:Int))=((if k≤d0 then d0-k else 18446744073709551616+d0-k:Nat):Int):=by
  rw[←Int.natCast_mul,Nat.mul_comm d1 v,wUm,wUm]
  generalize v*d1=t at*
  split<;>omega
 simp only[go_sem,Bool.not_true,hp]
 refine cond_cut (fun ρ' h'=>h'=h∧ρ' 0= .int .u64 (d1:Int)∧ρ' 1= .int .u64 (d0:Int)∧∃v p k:Nat,ρ' 6= .int .u64 (v:Int)∧ρ' 8= .int .u64 (p:Int)∧Inv1 d1 d0 v p k) ?_ ?_
 ·refine cond_split (fun hc1=> ?_) (fun hc1=> ?_)
  ·have hkd:k≤d0:=by
    rcases Nat.lt_or_ge d0 k with h0|h0
    ·rw[if_neg oM] at hc1;simp at hc1;omega
    ·exact h0
   rw[if_pos hkd]
   have s1:=subN1 (a:=v) hv1 oM
   have m1:=dec_mul (v:=v) (d:=d1) hv1
   simp only[go_sem,s1]
   refine cond_cut (fun ρ' h'=>h'=h∧ρ' 0= .int .u64 (d1:Int)∧ρ' 1= .int .u64 (d0:Int)∧∃v p k:Nat,ρ' 6= .int .u64 (v:Int)∧ρ' 8= .int .u64 (p:Int)∧v<18446744073709551616∧(18446744073709551616+v)*d1+k=340282366920938463463374607431768211456∧d0<k∧k≤d1+d0∧p+k=d1+d0∧p<18446744073709551616) ?_ ?_
   ·refine cond_split (fun hc2=> ?_) (fun hc2=> ?_)
    ·have hc2:d1≤d0-k:=by simp at hc2;omega
     have hv2:2≤v:=by
      rcases Nat.lt_or_ge v 2 with h0|h0
      ·have:v=1:=by omega
       subst this
       omega
      ·exact h0
     have s2:=subN1 (a:=v-1) oM oM
     have m2:=dec_mul (v:=v-1) (d:=d1) oM
     have s3:=subN (a:=d0-k) (b:=d1) hc2 oM
     simp only[go_sem,s2,s3]
     exact⟨tR,tR,tR,v-1-1,d0-k-d1,k+d1+d1,rfl,rfl,oM,oM,oM,oM,oM,oM⟩
    ·have hc2:d0-k<d1:=by simp at hc2;omega
     simp only[go_sem]
     exact⟨tR,tR,tR,v-1,d0-k,k+d1,rfl,rfl,oM,oM,oM,oM,oM,oM⟩
   ·rintro ρ h' ⟨rfl,g0,g1,v',p',k',g6,g8,f1,f2,f3,f4,f5,f6⟩
    have s3:IntKind.u64.wrap ((p':Int)-(d1:Int))=((18446744073709551616+d0-k':Nat):Int):=by rw[wUm];omega
    simp only[go_sem,g0,g1,g6,g8,s3]
    exact⟨tR,tR,tR,v',18446744073709551616+d0-k',k',tR,rfl,⟨f1,f2,f3,f4,oM⟩⟩
  ·have hkd:d0<k:=by
    rcases Nat.lt_or_ge d0 k with h0|h0
    ·exact h0
    ·rw[if_pos oM] at hc1;simp at hc1;omega
   rw[if_neg oM]
   simp only[go_sem]
   exact⟨tR,tR,tR,v,18446744073709551616+d0-k,k,rfl,rfl,⟨hv,hk4,hkd,oM,oM⟩⟩
 clear hk4 ht hp hv hk0 hk1 hv1
 rintro ρ h' ⟨rfl,g0,g1,v',p',k',g6,g8,i⟩
 simp only[go_sem,g0,g1,g6,g8]
 refine Mul64_calls i.hv hd0 ?_
 have iv:=i.hv
 have ilo:=i.lo
 have ihi:=i.hi
 have ip:=i.hp
 have e:=Nat.div_add_mod (v'*d0) 18446744073709551616
 have e2:v'*d0%18446744073709551616<18446744073709551616:=Nat.mod_lt _ dM
 have hmax:v'*d0≤18446744073709551615*18446744073709551615:=Nat.mul_le_mul oM oM
 have w1:=addUm (a:=p') (b:=v'*d0/18446744073709551616)
 simp only[go_sem,g0,g1,g6,g8,w1]
 refine cond_split (fun hc1=> ?_) (fun hc1=> ?_)
 ·have hc1:k'≤v'*d0/18446744073709551616+d0:=by simp at hc1;omega
  have hpp:(p'+v'*d0/18446744073709551616)%18446744073709551616=v'*d0/18446744073709551616+d0-k':=by omega
  have hone:v'*d0<18446744073709551616*(k'-d0)+(d1*18446744073709551616+d0)→1≤v'∧IsInv2 d1 d0 (v'-1):=inv2_one i hd1 hd0 hc1
  have htwo:18446744073709551616*(k'-d0)+(d1*18446744073709551616+d0)≤v'*d0→2≤v'∧IsInv2 d1 d0 (v'-2):=inv2_two i hd1 hc hd0
  have hv1:1≤v':=by
   rcases Nat.lt_or_ge (v'*d0) (18446744073709551616*(k'-d0)+(d1*18446744073709551616+d0)) with h0|h0
   ·exact(hone h0).1
   ·have:=(htwo h0).1;omega
  have s1:=subN1 (a:=v') hv1 oM
  rw[hpp]
  obtain⟨P,hP⟩:∃P,P=v'*d0/18446744073709551616+d0-k':=⟨_,rfl⟩
  rw[←hP]
  have less:(P<d1∨(P=d1∧v'*d0%18446744073709551616<d0))→∀Q:Prop,(IsInv2 d1 d0 (v'-1)→Q)→Q:=fun hh Q hQ=>hQ (hone oM).2
  have more:(d1<P∨(P=d1∧d0≤v'*d0%18446744073709551616))→∀Q:Prop,(2≤v'→IsInv2 d1 d0 (v'-2)→Q)→Q:=fun hh Q hQ=>hQ (htwo oM).1 (htwo oM).2
  rcases Nat.lt_trichotomy P d1 with c1|c1|c1
  ·have t1:=ltF (a:=d1) (b:=P) oM
   have t2:((P:Int)==(d1:Int))=false:=by simp;omega
   simp only[go_sem,g0,g1,g6,g8,s1,t1,t2]
   exact fun _=>less (.inl c1) _ fun hh=>hk2 hc _ hh
  ·have t1:=ltF (a:=d1) (b:=P) oM
   have t2:((P:Int)==(d1:Int))=true:=by simp;omega
   simp only[go_sem,g0,g1,g6,g8,s1,t1,t2]
   refine cond_split (fun c2=> ?_) (fun c2=> ?_)
   ·refine more (.inr ⟨c1,by simp at c2;omega⟩) _ fun h2 hh=> ?_
    have s2:=subN1 (a:=v'-1) oM oM
    simp only[go_sem,s2]
    exact fun _=>hk2 hc _ hh
   ·refine less (.inr ⟨c1,by simp at c2;omega⟩) _ fun hh=> ?_
    simp only[go_sem]
    exact fun _=>hk2 hc _ hh
  ·have t1:=ltT (a:=d1) (b:=P) c1
   refine more (.inl c1) _ fun h2 hh=> ?_
   have s2:=subN1 (a:=v'-1) oM oM
   simp only[go_sem,g0,g1,g6,g8,s1,t1,s2]
   exact fun _=>hk2 hc _ hh
 ·have hc1:v'*d0/18446744073709551616+d0<k':=by simp at hc1;omega
  simp only[go_sem,g0,g1,g6,g8]
  exact fun _=>hk2 hc _ (inv2_keep i hc1)
end Ab
end Go.Proofs.YtnlkbdmmoplkoaaGreatDoor
