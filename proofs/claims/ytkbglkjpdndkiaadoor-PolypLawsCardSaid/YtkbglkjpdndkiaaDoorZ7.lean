/- Joined texts: C8 V1 V2 P2 X20 X21. No condition. -/
import Derived.Test.YtkbglkjpdndkiaaDoorZ6
import Derived.Test.YtkbglkjpdndkiaaDoorProg
import Derived.KernelRfl
namespace Go.Proofs.YtkbglkjpdndkiaaDoor
namespace Ab
open Go Go.RowKit
set_option linter.unusedSimpArgs false
set_option linter.unusedVariables false
attribute [local go_sem ↓] x_mv x_pick x_bin x_beq x_peq x_seq x_cat x_aeq x_idxS x_idxV x_un x_cvI x_bts x_idx x_idxA x_fld x_ld x_st x_nn x_prt x_slc x_mk x_bsl x_bld x_box x_alloc x_len x_capo x_mnx x_app x_cpy x_mkf x_ext x_call x_callV x_bad s_none s_some s_nil s_cons s_chks w_skip w_reg tP_fin tP_no tP_alt w_seq w_cond w_block w_exit w_ret t_normal t_exit t_ret b_normal b_ret b_exit n_normal n_exit n_ret p_normal p_ret f_nil f_t f_c k_ops k_chk k_fin
attribute [local go_sem] e_t e_c e_f u_some u_none u_at env_at k_v k_pick k_add k_sub k_mul k_quo k_rem k_and k_or k_xor k_shl k_shr k_eql k_neq k_lss k_leq k_gtr k_geq k_beq k_peqn k_peqs k_neg k_not k_com k_cvI k_idxS k_idxV1 k_idxVn k_idx k_idxA k_idxG k_ldG k_gld k_seq k_cat k_aeq k_eqs k_fld k_ld1 k_ldn k_get k_gets k_sti k_stb k_stp k_sts k_stf k_sta k_put k_nn k_prt1 k_prtn k_slc_a k_slc_b k_slc_c k_mk k_agg k_bsl k_box k_len k_lenS k_cap k_max k_min k_ext k_callV k_true k_false k_gtt k_gtf k_gft k_gsk k_gff k_lit1i k_lit2i k_lit3i k_c0 k_c1 k_ck List.getElem?_cons_zero List.getElem?_cons_succ List.getElem?_nil Option.getD_some Option.getD_none tupOf List.map_cons List.map_nil Option.map_some Option.map_none List.nil_append List.cons_append List.append_nil Nat.mul_one Int.toNat_natCast Nat.zero_add
attribute [local go_sem_proc] Nat.reduceEqDiff Nat.reduceAdd Int.reduceToNat
attribute [local go_sem_proc ↓] reduceIte
attribute [local go_sem] Bool.false_eq_true
section
open Go
def c_polyp_New:AC:= .seq (.reg [o 2 (.mv (.c (.ptr none))),o 3 (.mv (i64 0))]) (.seq (.reg [mv 7 0,o 8 (.call 46 [.t 7]),mv 6 8,o 9 (.ext (.t 6) 0),o 10 (.ext (.t 6) 1),mv 4 9,mv 5 10]) (.seq (.seq (.reg [mv 11 5,o 12 (.bin .neq (.t 11) (i64 0))]) (.cond (.t 12) (.seq (.reg [mv 13 5,o 2 (.mv (.c (.ptr none))),mv 3 13]) .ret) .skip)) (.seq (.reg [mv 14 4,o 15 (.bld [.ptr none] [(0,1, .t 14)]),o 16 (.box 31 (.t 15)),mv 2 16,o 3 (.mv (i64 0))]) .ret)))
theorem in_polyp_New:Ent 9 17 c_polyp_New [.t 2, .t 3]:=ent Tryd.func9 rfl rfl rfl (show compile _ 17 _=_ by kernel_rfl) (show compRes _ 17 _=_ by kernel_rfl)
def c_polyp_Ring_Shift:AC:= .seq (.reg [o 6 (.mv (.c (.sl none 0 0 none)))]) (.seq (.reg [mv 7 2,o 8 (.mnx false (.t 7) [i64 4096]),o 9 (.mnx true (i64 (-4096)) [.t 8]),mv 2 9]) (.seq (.reg [mv 10 0,mv 11 1,o 12 (.call 39 [.t 10, .t 11]),mv 1 12]) (.seq (.seq (.reg [mv 13 1,o 14 (.len false (.t 13)),o 15 (.bin .eql (.t 14) (i64 0)),mv 16 15,og 17 16 false (.mv (.t 2)),og 18 16 false (.mv (.t 1)),og 19 16 false (.len false (.t 18)),og 20 16 false (.un .neg (.t 19)),og 21 16 false (.bin .leq (.t 17) (.t 20)),o 22 (.pick (.t 16) (.c (.bool true)) (.t 21))]) (.cond (.t 22) (.seq (.reg [o 6 (.mv (.c (.sl none 0 0 none)))]) .ret) .skip)) (.seq (.seq (.reg [mv 23 2,o 24 (.bin .leq (.t 23) (i64 0))]) (.cond (.t 24) (.seq (.reg [mv 25 1,mv 26 2,o 27 (.un .neg (.t 26)),o 28 (.slc 1 (.t 25) (some (.t 27)) none),mv 6 28]) .ret) .skip)) (.seq (.reg [mv 29 2,o 30 (.mk 22 1 8 [.int .u64 0] (.t 29) (.t 29)),mv 31 1,o 32 (.app 22 1 8 (.t 30) (.t 31)),mv 6 32]) .ret)))))
theorem in_polyp_Ring_Shift:Ent 17 33 c_polyp_Ring_Shift [.t 6]:=ent Tryd.func17 rfl rfl rfl (show compile _ 33 _=_ by kernel_rfl) (show compRes _ 33 _=_ by kernel_rfl)
def c_polyp_Ring_Cut:AC:= .seq (.reg [o 6 (.mv (.c (.sl none 0 0 none)))]) (.seq (.reg [mv 7 0,mv 8 1,mv 9 2,mv 10 1,o 11 (.len false (.t 10)),o 12 (.mnx false (.t 9) [.t 11]),o 13 (.mnx true (i64 0) [.t 12]),o 14 (.slc 1 (.t 8) none (some (.t 13))),o 15 (.call 39 [.t 7, .t 14]),mv 6 15]) .ret)
theorem in_polyp_Ring_Cut:Ent 19 16 c_polyp_Ring_Cut [.t 6]:=ent Tryd.func19 rfl rfl rfl (show compile _ 16 _=_ by kernel_rfl) (show compRes _ 16 _=_ by kernel_rfl)
def c_polyp_Ring_Times:AC:= .seq (.reg [o 6 (.mv (.c (.sl none 0 0 none)))]) (.seq (.reg [mv 12 0,mv 13 1,o 14 (.call 39 [.t 12, .t 13]),mv 15 0,mv 16 2,o 17 (.call 39 [.t 15, .t 16]),mv 1 14,mv 2 17]) (.seq (.seq (.reg [mv 18 1,o 19 (.len false (.t 18)),o 20 (.bin .eql (.t 19) (i64 0)),mv 21 20,og 22 21 false (.mv (.t 2)),og 23 21 false (.len false (.t 22)),og 24 21 false (.bin .eql (.t 23) (i64 0)),o 25 (.pick (.t 21) (.c (.bool true)) (.t 24))]) (.cond (.t 25) (.seq (.reg [o 6 (.mv (.c (.sl none 0 0 none)))]) .ret) .skip)) (.seq (.reg [mv 26 1,o 27 (.len false (.t 26)),mv 28 2,o 29 (.len false (.t 28)),bn 30 .add 27 29,o 31 (.bin .sub (.t 30) (i64 1)),o 32 (.mk 22 1 8 [.int .u64 0] (.t 31) (.t 31)),mv 7 32]) (.seq (.seq (.reg [mv 33 1,o 34 (.len false (.t 33)),o 35 (.mv (i64 0))]) (.block 0 (.loop (.seq (.reg [bn 36 .lss 35 34]) (.seq (.cond (.t 36) .skip (.exit 0)) (.seq (.block 1 (.seq (.reg [mv 37 35,o 38 (.idx 1 (.t 33) (.t 35)),o 39 (.ld none (.t 38)),mv 8 37,mv 9 39]) (.seq (.reg [mv 40 2,o 41 (.len false (.t 40)),o 42 (.mv (i64 0))]) (.block 2 (.loop (.seq (.reg [bn 43 .lss 42 41]) (.seq (.cond (.t 43) .skip (.exit 2)) (.seq (.block 3 (.seq (.reg [mv 44 42,o 45 (.idx 1 (.t 40) (.t 42)),o 46 (.ld none (.t 45)),mv 10 44,mv 11 46]) (.reg [mv 47 7,mv 48 8,mv 49 10,bn 50 .add 48 49,mv 51 0,o 52 (.nn (.t 51)),o 53 (.fld 0 (.t 52)),o 54 (.ld none (.t 53)),mv 55 7,mv 56 8,mv 57 10,bn 58 .add 56 57,o 59 (.idx 1 (.t 55) (.t 58)),o 60 (.ld none (.t 59)),mv 61 0,o 62 (.nn (.t 61)),o 63 (.fld 0 (.t 62)),o 64 (.ld none (.t 63)),mv 65 9,mv 66 11,⟨some 67,none, .call 44 [.t 64, .t 65, .t 66],[(some 54,none, .ld none (.t 53)),(some 60,none, .ld none (.t 59))]⟩,o 68 (.call 49 [.t 54, .t 60, .t 67]),o 69 (.idx 1 (.t 47) (.t 50)),od (.st 1 (.t 69) (.t 68))]))) (.reg [o 70 (.bin .add (.t 42) (i64 1)),mv 42 70]))))))))) (.reg [o 71 (.bin .add (.t 35) (i64 1)),mv 35 71]))))))) (.seq (.reg [mv 72 7,o 73 (.call 50 [.t 72]),mv 6 73]) .ret)))))
theorem in_polyp_Ring_Times:Ent 22 74 c_polyp_Ring_Times [.t 6]:=ent Tryd.func22 rfl rfl rfl (show compile _ 74 _=_ by kernel_rfl) (show compRes _ 74 _=_ by kernel_rfl)
def c_polyp_Ring_Roots:AC:= .seq (.reg [o 4 (.mv (.c (.sl none 0 0 none)))]) (.seq (.reg [o 8 (.bsl 22 1 1 [.int .u64 0] [(0,u64 1)]),mv 5 8]) (.seq (.seq (.reg [mv 9 1,o 10 (.len false (.t 9)),o 11 (.mv (i64 0))]) (.block 0 (.loop (.seq (.reg [bn 12 .lss 11 10]) (.seq (.cond (.t 12) .skip (.exit 0)) (.seq (.block 1 (.seq (.reg [o 13 (.idx 1 (.t 9) (.t 11)),o 14 (.ld none (.t 13)),mv 7 14]) (.reg [mv 15 0,mv 16 5,mv 17 0,o 18 (.nn (.t 17)),o 19 (.fld 0 (.t 18)),o 20 (.ld none (.t 19)),mv 21 7,o 22 (.call 52 [.t 20, .t 21]),o 23 (.bsl 22 1 2 [.int .u64 0] [(0, .t 22),(1,u64 1)]),o 24 (.call 22 [.t 15, .t 16, .t 23]),mv 5 24]))) (.reg [o 25 (.bin .add (.t 11) (i64 1)),mv 11 25]))))))) (.seq (.reg [mv 26 5,mv 4 26]) .ret)))
theorem in_polyp_Ring_Roots:Ent 24 27 c_polyp_Ring_Roots [.t 4]:=ent Tryd.func24 rfl rfl rfl (show compile _ 27 _=_ by kernel_rfl) (show compRes _ 27 _=_ by kernel_rfl)
def c_polyp_Ring_At:AC:= .seq (.reg [o 6 (.mv (.c (.sl none 0 0 none)))]) (.seq (.reg [o 7 (.mv (.c (.sl none 0 0 none)))]) (.seq (.seq (.reg [mv 10 2,o 11 (.len false (.t 10)),o 12 (.mv (i64 0))]) (.block 0 (.loop (.seq (.reg [bn 13 .lss 12 11]) (.seq (.cond (.t 13) .skip (.exit 0)) (.seq (.block 1 (.seq (.reg [o 14 (.idx 1 (.t 10) (.t 12)),o 15 (.ld none (.t 14)),mv 9 15]) (.reg [mv 16 7,mv 17 0,mv 18 1,mv 19 9,o 20 (.call 54 [.t 17, .t 18, .t 19]),o 21 (.bsl 22 1 1 [.int .u64 0] [(0, .t 20)]),o 22 (.app 22 1 8 (.t 16) (.t 21)),mv 7 22]))) (.reg [o 23 (.bin .add (.t 12) (i64 1)),mv 12 23]))))))) (.seq (.reg [mv 24 7,mv 6 24]) .ret)))
theorem in_polyp_Ring_At:Ent 26 25 c_polyp_Ring_At [.t 6]:=ent Tryd.func26 rfl rfl rfl (show compile _ 25 _=_ by kernel_rfl) (show compRes _ 25 _=_ by kernel_rfl)
def c_polyp_Ring_Monic:AC:= .seq (.reg [o 4 (.mv (.c (.sl none 0 0 none))),o 5 (.mv (.c (.bool false)))]) (.seq (.reg [mv 8 0,mv 9 1,o 10 (.call 39 [.t 8, .t 9]),mv 1 10]) (.seq (.seq (.reg [mv 11 1,o 12 (.len false (.t 11)),o 13 (.bin .eql (.t 12) (i64 0))]) (.cond (.t 13) (.seq (.reg [o 4 (.mv (.c (.sl none 0 0 none))),o 5 (.mv (.c (.bool false)))]) .ret) .skip)) (.seq (.reg [mv 15 0,o 16 (.nn (.t 15)),o 17 (.fld 0 (.t 16)),o 18 (.ld none (.t 17)),mv 19 1,mv 20 1,o 21 (.len false (.t 20)),o 22 (.bin .sub (.t 21) (i64 1)),o 23 (.idx 1 (.t 19) (.t 22)),o 24 (.ld none (.t 23)),o 25 (.call 57 [.t 18, .t 24]),mv 14 25,o 26 (.ext (.t 14) 0),o 27 (.ext (.t 14) 1),mv 6 26,mv 7 27]) (.seq (.reg [mv 28 0,mv 29 1,mv 30 6,o 31 (.call 37 [.t 28, .t 29, .t 30]),mv 4 31,o 5 (.mv (.c (.bool true)))]) .ret))))
theorem in_polyp_Ring_Monic:Ent 28 32 c_polyp_Ring_Monic [.t 4, .t 5]:=ent Tryd.func28 rfl rfl rfl (show compile _ 32 _=_ by kernel_rfl) (show compRes _ 32 _=_ by kernel_rfl)
def c_polyp_Ring_Derive:AC:= .seq (.reg [o 4 (.mv (.c (.sl none 0 0 none)))]) (.seq (.seq (.reg [mv 7 1,o 8 (.len false (.t 7)),o 9 (.bin .eql (.t 8) (i64 0))]) (.cond (.t 9) (.seq (.reg [o 4 (.mv (.c (.sl none 0 0 none)))]) .ret) .skip)) (.seq (.reg [mv 10 1,o 11 (.len false (.t 10)),o 12 (.bin .sub (.t 11) (i64 1)),o 13 (.mk 22 1 8 [.int .u64 0] (.t 12) (.t 12)),mv 5 13]) (.seq (.seq (.reg [mv 14 5,o 15 (.len false (.t 14)),o 16 (.mv (i64 0))]) (.block 0 (.loop (.seq (.reg [bn 17 .lss 16 15]) (.seq (.cond (.t 17) .skip (.exit 0)) (.seq (.block 1 (.seq (.reg [mv 18 16,mv 6 18]) (.reg [mv 19 5,mv 20 6,mv 21 0,o 22 (.nn (.t 21)),o 23 (.fld 0 (.t 22)),o 24 (.ld none (.t 23)),mv 25 1,mv 26 6,o 27 (.bin .add (.t 26) (i64 1)),o 28 (.idx 1 (.t 25) (.t 27)),o 29 (.ld none (.t 28)),mv 30 6,o 31 (.bin .add (.t 30) (i64 1)),o 32 (.cvI .u64 (.t 31)),o 33 (.call 44 [.t 24, .t 29, .t 32]),o 34 (.idx 1 (.t 19) (.t 20)),od (.st 1 (.t 34) (.t 33))]))) (.reg [o 35 (.bin .add (.t 16) (i64 1)),mv 16 35]))))))) (.seq (.reg [mv 36 5,o 37 (.call 50 [.t 36]),mv 4 37]) .ret))))
theorem in_polyp_Ring_Derive:Ent 29 38 c_polyp_Ring_Derive [.t 4]:=ent Tryd.func29 rfl rfl rfl (show compile _ 38 _=_ by kernel_rfl) (show compRes _ 38 _=_ by kernel_rfl)
def c_polyp_Ring_Plus:AC:= .seq (.reg [o 4 (.mv (.c (.sl none 0 0 none)))]) (.seq (.reg [o 5 (.mv (i64 0))]) (.seq (.seq (.reg [mv 13 1,o 14 (.len false (.t 13)),o 15 (.mv (i64 0))]) (.block 0 (.loop (.seq (.reg [bn 16 .lss 15 14]) (.seq (.cond (.t 16) .skip (.exit 0)) (.seq (.block 1 (.seq (.reg [o 17 (.idx 1 (.t 13) (.t 15)),o 18 (.ld none (.t 17)),mv 7 18]) (.reg [mv 19 5,mv 20 7,o 21 (.len false (.t 20)),o 22 (.mnx true (.t 19) [.t 21]),mv 5 22]))) (.reg [o 23 (.bin .add (.t 15) (i64 1)),mv 15 23]))))))) (.seq (.reg [mv 24 5,o 25 (.mk 22 1 8 [.int .u64 0] (.t 24) (.t 24)),mv 8 25]) (.seq (.seq (.reg [mv 26 1,o 27 (.len false (.t 26)),o 28 (.mv (i64 0))]) (.block 2 (.loop (.seq (.reg [bn 29 .lss 28 27]) (.seq (.cond (.t 29) .skip (.exit 2)) (.seq (.block 3 (.seq (.reg [o 30 (.idx 1 (.t 26) (.t 28)),o 31 (.ld none (.t 30)),mv 10 31]) (.seq (.reg [mv 32 10,o 33 (.len false (.t 32)),o 34 (.mv (i64 0))]) (.block 4 (.loop (.seq (.reg [bn 35 .lss 34 33]) (.seq (.cond (.t 35) .skip (.exit 4)) (.seq (.block 5 (.seq (.reg [mv 36 34,o 37 (.idx 1 (.t 32) (.t 34)),o 38 (.ld none (.t 37)),mv 11 36,mv 12 38]) (.reg [mv 39 8,mv 40 11,mv 41 0,o 42 (.nn (.t 41)),o 43 (.fld 0 (.t 42)),o 44 (.ld none (.t 43)),mv 45 8,mv 46 11,o 47 (.idx 1 (.t 45) (.t 46)),o 48 (.ld none (.t 47)),mv 49 12,o 50 (.call 49 [.t 44, .t 48, .t 49]),o 51 (.idx 1 (.t 39) (.t 40)),od (.st 1 (.t 51) (.t 50))]))) (.reg [o 52 (.bin .add (.t 34) (i64 1)),mv 34 52]))))))))) (.reg [o 53 (.bin .add (.t 28) (i64 1)),mv 28 53]))))))) (.seq (.reg [mv 54 8,o 55 (.call 50 [.t 54]),mv 4 55]) .ret)))))
theorem in_polyp_Ring_Plus:Ent 33 56 c_polyp_Ring_Plus [.t 4]:=ent Tryd.func33 rfl rfl rfl (show compile _ 56 _=_ by kernel_rfl) (show compRes _ 56 _=_ by kernel_rfl)
def c_polyp_Ring_Minus:AC:= .seq (.reg [o 6 (.mv (.c (.sl none 0 0 none)))]) (.seq (.reg [mv 9 1,o 10 (.len false (.t 9)),mv 11 2,o 12 (.len false (.t 11)),o 13 (.mnx true (.t 10) [.t 12]),o 14 (.mk 22 1 8 [.int .u64 0] (.t 13) (.t 13)),mv 7 14]) (.seq (.seq (.reg [mv 15 7,o 16 (.len false (.t 15)),o 17 (.mv (i64 0))]) (.block 0 (.loop (.seq (.reg [bn 18 .lss 17 16]) (.seq (.cond (.t 18) .skip (.exit 0)) (.seq (.block 1 (.seq (.reg [mv 19 17,mv 8 19]) (.reg [mv 20 7,mv 21 8,mv 22 0,o 23 (.nn (.t 22)),o 24 (.fld 0 (.t 23)),o 25 (.ld none (.t 24)),mv 26 1,mv 27 8,mv 29 2,mv 30 8,⟨some 28,none, .call 61 [.t 26, .t 27],[(some 25,none, .ld none (.t 24))]⟩,⟨some 31,none, .call 61 [.t 29, .t 30],[(some 25,none, .ld none (.t 24))]⟩,o 32 (.call 60 [.t 25, .t 28, .t 31]),o 33 (.idx 1 (.t 20) (.t 21)),od (.st 1 (.t 33) (.t 32))]))) (.reg [o 34 (.bin .add (.t 17) (i64 1)),mv 17 34]))))))) (.seq (.reg [mv 35 7,o 36 (.call 50 [.t 35]),mv 6 36]) .ret)))
theorem in_polyp_Ring_Minus:Ent 35 37 c_polyp_Ring_Minus [.t 6]:=ent Tryd.func35 rfl rfl rfl (show compile _ 37 _=_ by kernel_rfl) (show compRes _ 37 _=_ by kernel_rfl)
def c_polyp_Ring_Scale:AC:= .seq (.reg [o 6 (.mv (.c (.sl none 0 0 none)))]) (.seq (.reg [mv 10 1,o 11 (.len false (.t 10)),o 12 (.mk 22 1 8 [.int .u64 0] (.t 11) (.t 11)),mv 7 12]) (.seq (.seq (.reg [mv 13 1,o 14 (.len false (.t 13)),o 15 (.mv (i64 0))]) (.block 0 (.loop (.seq (.reg [bn 16 .lss 15 14]) (.seq (.cond (.t 16) .skip (.exit 0)) (.seq (.block 1 (.seq (.reg [mv 17 15,o 18 (.idx 1 (.t 13) (.t 15)),o 19 (.ld none (.t 18)),mv 8 17,mv 9 19]) (.reg [mv 20 7,mv 21 8,mv 22 0,o 23 (.nn (.t 22)),o 24 (.fld 0 (.t 23)),o 25 (.ld none (.t 24)),mv 26 9,mv 27 2,o 28 (.call 44 [.t 25, .t 26, .t 27]),o 29 (.idx 1 (.t 20) (.t 21)),od (.st 1 (.t 29) (.t 28))]))) (.reg [o 30 (.bin .add (.t 15) (i64 1)),mv 15 30]))))))) (.seq (.reg [mv 31 7,o 32 (.call 50 [.t 31]),mv 6 32]) .ret)))
theorem in_polyp_Ring_Scale:Ent 37 33 c_polyp_Ring_Scale [.t 6]:=ent Tryd.func37 rfl rfl rfl (show compile _ 33 _=_ by kernel_rfl) (show compRes _ 33 _=_ by kernel_rfl)
def c_polyp_Ring_Norm:AC:= .seq (.reg [o 4 (.mv (.c (.sl none 0 0 none)))]) (.seq (.reg [mv 8 1,o 9 (.len false (.t 8)),o 10 (.mk 22 1 8 [.int .u64 0] (.t 9) (.t 9)),mv 5 10]) (.seq (.seq (.reg [mv 11 1,o 12 (.len false (.t 11)),o 13 (.mv (i64 0))]) (.block 0 (.loop (.seq (.reg [bn 14 .lss 13 12]) (.seq (.cond (.t 14) .skip (.exit 0)) (.seq (.block 1 (.seq (.reg [mv 15 13,o 16 (.idx 1 (.t 11) (.t 13)),o 17 (.ld none (.t 16)),mv 6 15,mv 7 17]) (.reg [mv 18 5,mv 19 6,mv 20 0,o 21 (.nn (.t 20)),o 22 (.fld 0 (.t 21)),o 23 (.ld none (.t 22)),mv 24 7,o 25 (.call 62 [.t 23, .t 24]),o 26 (.idx 1 (.t 18) (.t 19)),od (.st 1 (.t 26) (.t 25))]))) (.reg [o 27 (.bin .add (.t 13) (i64 1)),mv 13 27]))))))) (.seq (.reg [mv 28 5,o 29 (.call 50 [.t 28]),mv 4 29]) .ret)))
theorem in_polyp_Ring_Norm:Ent 39 30 c_polyp_Ring_Norm [.t 4]:=ent Tryd.func39 rfl rfl rfl (show compile _ 30 _=_ by kernel_rfl) (show compRes _ 30 _=_ by kernel_rfl)
def c_polyp_Ring_Deg:AC:= .seq (.reg [o 4 (.mv (i64 0))]) (.seq (.reg [mv 6 1,o 7 (.len false (.t 6)),mv 5 7]) (.seq (.block 0 (.loop (.seq (.seq (.reg [mv 8 5,o 9 (.bin .gtr (.t 8) (i64 0)),mv 10 9,og 11 10 true (.mv (.t 0)),og 12 10 true (.nn (.t 11)),og 13 10 true (.fld 0 (.t 12)),og 14 10 true (.ld none (.t 13)),og 15 10 true (.mv (.t 1)),og 16 10 true (.mv (.t 5)),og 17 10 true (.bin .sub (.t 16) (i64 1)),og 18 10 true (.idx 1 (.t 15) (.t 17)),og 19 10 true (.ld none (.t 18)),og 20 10 true (.call 62 [.t 14, .t 19]),og 21 10 true (.bin .eql (.t 20) (u64 0)),o 22 (.pick (.t 10) (.t 21) (.c (.bool false)))]) (.cond (.t 22) .skip (.exit 0))) (.block 1 (.reg [mv 23 5,o 24 (.bin .sub (.t 23) (i64 1)),mv 5 24]))))) (.seq (.reg [mv 25 5,o 26 (.bin .sub (.t 25) (i64 1)),mv 4 26]) .ret)))
theorem in_polyp_Ring_Deg:Ent 42 27 c_polyp_Ring_Deg [.t 4]:=ent Tryd.func42 rfl rfl rfl (show compile _ 27 _=_ by kernel_rfl) (show compRes _ 27 _=_ by kernel_rfl)
def c_polyp_Ring_Same:AC:= .seq (.reg [o 6 (.mv (.c (.bool false)))]) (.seq (.seq (.reg [o 7 (.mv (i64 0))]) (.block 0 (.loop (.seq (.seq (.reg [mv 8 7,mv 9 1,o 10 (.len false (.t 9)),bn 11 .lss 8 10,mv 12 11,og 13 12 false (.mv (.t 7)),og 14 12 false (.mv (.t 2)),og 15 12 false (.len false (.t 14)),og 16 12 false (.bin .lss (.t 13) (.t 15)),o 17 (.pick (.t 12) (.c (.bool true)) (.t 16))]) (.cond (.t 17) .skip (.exit 0))) (.seq (.block 1 (.seq (.reg [mv 20 1,mv 21 7,mv 23 0,o 24 (.nn (.t 23)),o 25 (.fld 0 (.t 24)),o 26 (.ld none (.t 25)),mv 29 2,mv 30 7,mv 32 0,o 33 (.nn (.t 32)),o 34 (.fld 0 (.t 33)),o 35 (.ld none (.t 34)),⟨some 22,none, .call 61 [.t 20, .t 21],[(some 26,none, .ld none (.t 25)),(some 35,none, .ld none (.t 34))]⟩,⟨some 27,none, .call 11 [.t 26],[(some 35,none, .ld none (.t 34))]⟩,bn 28 .rem 22 27,⟨some 31,none, .call 61 [.t 29, .t 30],[(some 35,none, .ld none (.t 34))]⟩,o 36 (.call 11 [.t 35]),bn 37 .rem 31 36,bn 38 .neq 28 37]) (.cond (.t 38) (.seq (.reg [o 6 (.mv (.c (.bool false)))]) .ret) .skip))) (.reg [mv 18 7,o 19 (.bin .add (.t 18) (i64 1)),mv 7 19])))))) (.seq (.reg [o 6 (.mv (.c (.bool true)))]) .ret))
theorem in_polyp_Ring_Same:Ent 43 39 c_polyp_Ring_Same [.t 6]:=ent Tryd.func43 rfl rfl rfl (show compile _ 39 _=_ by kernel_rfl) (show compRes _ 39 _=_ by kernel_rfl)
def c_polyp_trim:AC:= .seq (.reg [o 2 (.mv (.c (.sl none 0 0 none)))]) (.seq (.block 0 (.loop (.seq (.seq (.reg [mv 3 0,o 4 (.len false (.t 3)),o 5 (.bin .gtr (.t 4) (i64 0)),mv 6 5,og 7 6 true (.mv (.t 0)),og 8 6 true (.mv (.t 0)),og 9 6 true (.len false (.t 8)),og 10 6 true (.bin .sub (.t 9) (i64 1)),og 11 6 true (.idx 1 (.t 7) (.t 10)),og 12 6 true (.ld none (.t 11)),og 13 6 true (.bin .eql (.t 12) (u64 0)),o 14 (.pick (.t 6) (.t 13) (.c (.bool false)))]) (.cond (.t 14) .skip (.exit 0))) (.block 1 (.reg [mv 15 0,mv 16 0,o 17 (.len false (.t 16)),o 18 (.bin .sub (.t 17) (i64 1)),o 19 (.slc 1 (.t 15) none (some (.t 18))),mv 0 19]))))) (.seq (.reg [mv 20 0,mv 2 20]) .ret))
theorem in_polyp_trim:Ent 50 21 c_polyp_trim [.t 2]:=ent Tryd.func50 rfl rfl rfl (show compile _ 21 _=_ by kernel_rfl) (show compRes _ 21 _=_ by kernel_rfl)
def c_polyp_Ring_value:AC:= .seq (.reg [o 6 (.mv (u64 0))]) (.seq (.reg [o 7 (.mv (u64 0))]) (.seq (.seq (.reg [mv 9 1,o 10 (.len false (.t 9)),o 11 (.bin .sub (.t 10) (i64 1)),mv 8 11]) (.block 0 (.loop (.seq (.seq (.reg [mv 12 8,o 13 (.bin .geq (.t 12) (i64 0))]) (.cond (.t 13) .skip (.exit 0))) (.seq (.block 1 (.reg [mv 16 0,o 17 (.nn (.t 16)),o 18 (.fld 0 (.t 17)),o 19 (.ld none (.t 18)),mv 20 0,o 21 (.nn (.t 20)),o 22 (.fld 0 (.t 21)),o 23 (.ld none (.t 22)),mv 24 7,mv 25 2,mv 27 1,mv 28 8,o 29 (.idx 1 (.t 27) (.t 28)),o 30 (.ld none (.t 29)),⟨some 26,none, .call 44 [.t 23, .t 24, .t 25],[(some 19,none, .ld none (.t 18)),(some 30,none, .ld none (.t 29))]⟩,o 31 (.call 49 [.t 19, .t 26, .t 30]),mv 7 31])) (.reg [mv 14 8,o 15 (.bin .sub (.t 14) (i64 1)),mv 8 15])))))) (.seq (.reg [mv 32 7,mv 6 32]) .ret)))
theorem in_polyp_Ring_value:Ent 54 33 c_polyp_Ring_value [.t 6]:=ent Tryd.func54 rfl rfl rfl (show compile _ 33 _=_ by kernel_rfl) (show compRes _ 33 _=_ by kernel_rfl)
def c_polyp_at:AC:= .seq (.reg [o 4 (.mv (u64 0))]) (.seq (.seq (.reg [mv 5 1,mv 6 0,o 7 (.len false (.t 6)),bn 8 .lss 5 7]) (.cond (.t 8) (.seq (.reg [mv 9 0,mv 10 1,o 11 (.idx 1 (.t 9) (.t 10)),o 12 (.ld none (.t 11)),mv 4 12]) .ret) .skip)) (.seq (.reg [o 4 (.mv (u64 0))]) .ret))
theorem in_polyp_at:Ent 61 13 c_polyp_at [.t 4]:=ent Tryd.func61 rfl rfl rfl (show compile _ 13 _=_ by kernel_rfl) (show compRes _ 13 _=_ by kernel_rfl)
def c_ref06_May:AC:= .seq (.reg [o 2 (.mv (.c (.bool false)))]) (.seq (.reg [mv 3 0,o 4 (.bin .rem (.t 3) (u64 2)),o 5 (.bin .eql (.t 4) (u64 1)),mv 6 5,og 7 6 true (.mv (.t 0)),og 8 6 true (.bin .geq (.t 7) (u64 3)),o 9 (.pick (.t 6) (.t 8) (.c (.bool false))),mv 10 9,og 11 10 true (.mv (.t 0)),og 12 10 true (.bin .lss (.t 11) (u64 4611686018427387904)),o 13 (.pick (.t 10) (.t 12) (.c (.bool false))),mv 2 13]) .ret)
theorem in_ref06_May:Ent 45 14 c_ref06_May [.t 2]:=ent Tryd.func45 rfl rfl rfl (show compile _ 14 _=_ by kernel_rfl) (show compRes _ 14 _=_ by kernel_rfl)
def c_ref06_Prime:AC:= .seq (.reg [o 2 (.mv (.c (.bool false)))]) (.seq (.reg [o 8 (.bsl 22 1 12 [.int .u64 0] [(0,u64 2),(1,u64 3),(2,u64 5),(3,u64 7),(4,u64 11),(5,u64 13),(6,u64 17),(7,u64 19),(8,u64 23),(9,u64 29),(10,u64 31),(11,u64 37)]),mv 3 8]) (.seq (.seq (.reg [mv 9 0,o 10 (.bin .lss (.t 9) (u64 2))]) (.cond (.t 10) (.seq (.reg [o 2 (.mv (.c (.bool false)))]) .ret) .skip)) (.seq (.seq (.reg [o 4 (.mv (i64 0))]) (.block 0 (.loop (.seq (.seq (.reg [mv 11 4,mv 12 3,o 13 (.len false (.t 12)),bn 14 .lss 11 13]) (.cond (.t 14) .skip (.exit 0))) (.seq (.block 1 (.seq (.reg [mv 17 0,mv 18 3,mv 19 4,o 20 (.idx 1 (.t 18) (.t 19)),o 21 (.ld none (.t 20)),bn 22 .rem 17 21,o 23 (.bin .eql (.t 22) (u64 0))]) (.cond (.t 23) (.seq (.reg [mv 24 0,mv 25 3,mv 26 4,o 27 (.idx 1 (.t 25) (.t 26)),o 28 (.ld none (.t 27)),bn 29 .eql 24 28,mv 2 29]) .ret) .skip))) (.reg [mv 15 4,o 16 (.bin .add (.t 15) (i64 1)),mv 4 16])))))) (.seq (.reg [mv 30 0,o 31 (.bin .sub (.t 30) (u64 1)),mv 5 31,o 6 (.mv (i64 0))]) (.seq (.block 2 (.loop (.seq (.seq (.reg [mv 32 5,o 33 (.bin .rem (.t 32) (u64 2)),o 34 (.bin .eql (.t 33) (u64 0))]) (.cond (.t 34) .skip (.exit 2))) (.block 3 (.seq (.reg [mv 35 5,o 36 (.bin .quo (.t 35) (u64 2)),mv 5 36]) (.reg [mv 37 6,o 38 (.bin .add (.t 37) (i64 1)),mv 6 38])))))) (.seq (.seq (.reg [o 7 (.mv (i64 0))]) (.block 4 (.loop (.seq (.seq (.reg [mv 39 7,mv 40 3,o 41 (.len false (.t 40)),bn 42 .lss 39 41]) (.cond (.t 42) .skip (.exit 4))) (.seq (.block 5 (.seq (.reg [mv 45 3,mv 46 7,o 47 (.idx 1 (.t 45) (.t 46)),o 48 (.ld none (.t 47)),mv 49 5,mv 50 6,mv 51 0,o 52 (.call 67 [.t 48, .t 49, .t 50, .t 51]),o 53 (.un .not (.t 52))]) (.cond (.t 53) (.seq (.reg [o 2 (.mv (.c (.bool false)))]) .ret) .skip))) (.reg [mv 43 7,o 44 (.bin .add (.t 43) (i64 1)),mv 7 44])))))) (.seq (.reg [o 2 (.mv (.c (.bool true)))]) .ret)))))))
theorem in_ref06_Prime:Ent 47 54 c_ref06_Prime [.t 2]:=ent Tryd.func47 rfl rfl rfl (show compile _ 54 _=_ by kernel_rfl) (show compRes _ 54 _=_ by kernel_rfl)
def c_ref06_Conv:AC:= .seq (.reg [o 8 (.mv (.c (.sl none 0 0 none)))]) (.seq (.reg [mv 13 2,o 14 (.mk 22 1 8 [.int .u64 0] (.t 13) (.t 13)),mv 9 14]) (.seq (.seq (.reg [o 10 (.mv (i64 0))]) (.block 0 (.loop (.seq (.seq (.reg [mv 15 10,mv 16 0,o 17 (.len false (.t 16)),bn 18 .lss 15 17]) (.cond (.t 18) .skip (.exit 0))) (.seq (.block 1 (.seq (.reg [o 11 (.mv (i64 0))]) (.block 2 (.loop (.seq (.seq (.reg [mv 21 11,mv 22 1,o 23 (.len false (.t 22)),bn 24 .lss 21 23]) (.cond (.t 24) .skip (.exit 2))) (.seq (.block 3 (.seq (.reg [mv 27 10,mv 28 11,bn 29 .add 27 28,mv 30 2,bn 31 .rem 29 30,mv 12 31]) (.reg [mv 32 9,mv 33 12,mv 34 9,mv 35 12,o 36 (.idx 1 (.t 34) (.t 35)),o 37 (.ld none (.t 36)),mv 38 0,mv 39 10,o 40 (.idx 1 (.t 38) (.t 39)),o 41 (.ld none (.t 40)),mv 42 1,mv 43 11,o 44 (.idx 1 (.t 42) (.t 43)),o 45 (.ld none (.t 44)),mv 46 3,mv 48 3,⟨some 47,none, .call 56 [.t 41, .t 45, .t 46],[(some 37,none, .ld none (.t 36))]⟩,o 49 (.call 55 [.t 37, .t 47, .t 48]),o 50 (.idx 1 (.t 32) (.t 33)),od (.st 1 (.t 50) (.t 49))]))) (.reg [mv 25 11,o 26 (.bin .add (.t 25) (i64 1)),mv 11 26]))))))) (.reg [mv 19 10,o 20 (.bin .add (.t 19) (i64 1)),mv 10 20])))))) (.seq (.reg [mv 51 9,mv 8 51]) .ret)))
theorem in_ref06_Conv:Ent 51 52 c_ref06_Conv [.t 8]:=ent Tryd.func51 rfl rfl rfl (show compile _ 52 _=_ by kernel_rfl) (show compRes _ 52 _=_ by kernel_rfl)
def c_ref06_Sub:AC:= .seq (.reg [o 6 (.mv (u64 0))]) (.seq (.reg [mv 7 0,mv 8 2,bn 9 .rem 7 8,mv 10 1,mv 11 2,bn 12 .rem 10 11,mv 0 9,mv 1 12]) (.seq (.seq (.reg [mv 13 0,mv 14 1,bn 15 .geq 13 14]) (.cond (.t 15) (.seq (.reg [mv 16 0,mv 17 1,bn 18 .sub 16 17,mv 6 18]) .ret) .skip)) (.seq (.reg [mv 19 0,mv 20 2,mv 21 1,bn 22 .sub 20 21,bn 23 .add 19 22,mv 6 23]) .ret)))
theorem in_ref06_Sub:Ent 53 24 c_ref06_Sub [.t 6]:=ent Tryd.func53 rfl rfl rfl (show compile _ 24 _=_ by kernel_rfl) (show compRes _ 24 _=_ by kernel_rfl)
def c_ref06_Add:AC:= .seq (.reg [o 6 (.mv (u64 0))]) (.seq (.reg [mv 7 0,mv 8 2,bn 9 .rem 7 8,mv 10 1,mv 11 2,bn 12 .rem 10 11,mv 0 9,mv 1 12]) (.seq (.seq (.reg [mv 13 0,mv 14 2,mv 15 1,bn 16 .sub 14 15,bn 17 .geq 13 16]) (.cond (.t 17) (.seq (.reg [mv 18 0,mv 19 2,mv 20 1,bn 21 .sub 19 20,bn 22 .sub 18 21,mv 6 22]) .ret) .skip)) (.seq (.reg [mv 23 0,mv 24 1,bn 25 .add 23 24,mv 6 25]) .ret)))
theorem in_ref06_Add:Ent 55 26 c_ref06_Add [.t 6]:=ent Tryd.func55 rfl rfl rfl (show compile _ 26 _=_ by kernel_rfl) (show compRes _ 26 _=_ by kernel_rfl)
def c_ref06_Mul:AC:= .seq (.reg [o 6 (.mv (u64 0))]) (.seq (.reg [mv 12 0,mv 13 2,bn 14 .rem 12 13,mv 15 1,mv 16 2,bn 17 .rem 15 16,o 18 (.call 70 [.t 14, .t 17]),mv 11 18,o 19 (.ext (.t 11) 0),o 20 (.ext (.t 11) 1),mv 7 19,mv 8 20]) (.seq (.reg [mv 22 7,mv 23 8,mv 24 2,o 25 (.call 71 [.t 22, .t 23, .t 24]),mv 21 25,o 26 (.ext (.t 21) 0),o 27 (.ext (.t 21) 1),mv 9 26,mv 10 27]) (.seq (.reg [mv 28 10,mv 6 28]) .ret)))
theorem in_ref06_Mul:Ent 56 29 c_ref06_Mul [.t 6]:=ent Tryd.func56 rfl rfl rfl (show compile _ 29 _=_ by kernel_rfl) (show compRes _ 29 _=_ by kernel_rfl)
def c_ref06_Inv:AC:= .seq (.reg [o 4 (.mv (u64 0)),o 5 (.mv (.c (.bool false)))]) (.seq (.reg [mv 11 0,mv 12 1,bn 13 .rem 11 12,mv 0 13]) (.seq (.seq (.reg [mv 14 0,mv 15 1,o 16 (.call 72 [.t 14, .t 15]),o 17 (.bin .neq (.t 16) (u64 1))]) (.cond (.t 17) (.seq (.reg [o 4 (.mv (u64 0)),o 5 (.mv (.c (.bool false)))]) .ret) .skip)) (.seq (.reg [mv 18 1,mv 19 0,mv 6 18,mv 7 19]) (.seq (.reg [o 8 (.mv (u64 0)),o 9 (.mv (u64 1))]) (.seq (.block 0 (.loop (.seq (.seq (.reg [mv 20 7,o 21 (.bin .gtr (.t 20) (u64 0))]) (.cond (.t 21) .skip (.exit 0))) (.block 1 (.seq (.reg [mv 22 6,mv 23 7,bn 24 .quo 22 23,mv 10 24]) (.seq (.reg [mv 25 7,mv 26 6,mv 27 10,mv 28 7,bn 29 .mul 27 28,bn 30 .sub 26 29,mv 6 25,mv 7 30]) (.reg [mv 31 9,mv 32 8,mv 33 10,mv 34 9,mv 35 1,o 36 (.call 56 [.t 33, .t 34, .t 35]),mv 37 1,o 38 (.call 53 [.t 32, .t 36, .t 37]),mv 8 31,mv 9 38]))))))) (.seq (.reg [mv 39 8,mv 40 1,bn 41 .rem 39 40,mv 4 41,o 5 (.mv (.c (.bool true)))]) .ret))))))
theorem in_ref06_Inv:Ent 58 42 c_ref06_Inv [.t 4, .t 5]:=ent Tryd.func58 rfl rfl rfl (show compile _ 42 _=_ by kernel_rfl) (show compRes _ 42 _=_ by kernel_rfl)
def c_ref06_Reds:AC:= .seq (.reg [o 4 (.mv (.c (.sl none 0 0 none)))]) (.seq (.reg [mv 7 0,o 8 (.len false (.t 7)),o 9 (.mk 22 1 8 [.int .u64 0] (.t 8) (.t 8)),mv 5 9]) (.seq (.seq (.reg [o 6 (.mv (i64 0))]) (.block 0 (.loop (.seq (.seq (.reg [mv 10 6,mv 11 0,o 12 (.len false (.t 11)),bn 13 .lss 10 12]) (.cond (.t 13) .skip (.exit 0))) (.seq (.block 1 (.reg [mv 16 5,mv 17 6,mv 18 0,mv 19 6,o 20 (.idx 1 (.t 18) (.t 19)),o 21 (.ld none (.t 20)),mv 22 1,bn 23 .rem 21 22,o 24 (.idx 1 (.t 16) (.t 17)),od (.st 1 (.t 24) (.t 23))])) (.reg [mv 14 6,o 15 (.bin .add (.t 14) (i64 1)),mv 6 15])))))) (.seq (.reg [mv 25 5,mv 4 25]) .ret)))
theorem in_ref06_Reds:Ent 63 26 c_ref06_Reds [.t 4]:=ent Tryd.func63 rfl rfl rfl (show compile _ 26 _=_ by kernel_rfl) (show compRes _ 26 _=_ by kernel_rfl)
def c_ref06_witness:AC:= .seq (.reg [o 8 (.mv (.c (.bool false)))]) (.seq (.reg [mv 11 0,mv 12 1,mv 13 3,o 14 (.call 75 [.t 11, .t 12, .t 13]),mv 9 14]) (.seq (.seq (.reg [mv 15 9,o 16 (.bin .eql (.t 15) (u64 1)),mv 17 16,og 18 17 false (.mv (.t 9)),og 19 17 false (.mv (.t 3)),og 20 17 false (.bin .sub (.t 19) (u64 1)),og 21 17 false (.bin .eql (.t 18) (.t 20)),o 22 (.pick (.t 17) (.c (.bool true)) (.t 21))]) (.cond (.t 22) (.seq (.reg [o 8 (.mv (.c (.bool true)))]) .ret) .skip)) (.seq (.seq (.reg [o 10 (.mv (i64 1))]) (.block 0 (.loop (.seq (.seq (.reg [mv 23 10,mv 24 2,bn 25 .lss 23 24]) (.cond (.t 25) .skip (.exit 0))) (.seq (.block 1 (.seq (.reg [mv 28 9,mv 29 9,mv 30 3,o 31 (.call 56 [.t 28, .t 29, .t 30]),mv 9 31]) (.seq (.reg [mv 32 9,mv 33 3,o 34 (.bin .sub (.t 33) (u64 1)),bn 35 .eql 32 34]) (.cond (.t 35) (.seq (.reg [o 8 (.mv (.c (.bool true)))]) .ret) .skip)))) (.reg [mv 26 10,o 27 (.bin .add (.t 26) (i64 1)),mv 10 27])))))) (.seq (.reg [o 8 (.mv (.c (.bool false)))]) .ret))))
theorem in_ref06_witness:Ent 67 36 c_ref06_witness [.t 8]:=ent Tryd.func67 rfl rfl rfl (show compile _ 36 _=_ by kernel_rfl) (show compRes _ 36 _=_ by kernel_rfl)
def c_ref06_Gcd:AC:= .seq (.reg [o 4 (.mv (u64 0))]) (.seq (.block 0 (.loop (.seq (.seq (.reg [mv 5 1,o 6 (.bin .gtr (.t 5) (u64 0))]) (.cond (.t 6) .skip (.exit 0))) (.block 1 (.reg [mv 7 1,mv 8 0,mv 9 1,bn 10 .rem 8 9,mv 0 7,mv 1 10]))))) (.seq (.reg [mv 11 0,mv 4 11]) .ret))
theorem in_ref06_Gcd:Ent 72 12 c_ref06_Gcd [.t 4]:=ent Tryd.func72 rfl rfl rfl (show compile _ 12 _=_ by kernel_rfl) (show compRes _ 12 _=_ by kernel_rfl)
def c_ref06_Pow:AC:= .seq (.reg [o 6 (.mv (u64 0))]) (.seq (.reg [mv 9 2,o 10 (.bin .rem (u64 1) (.t 9)),mv 7 10]) (.seq (.seq (.reg [o 8 (.mv (i64 63))]) (.block 0 (.loop (.seq (.seq (.reg [mv 11 8,o 12 (.bin .geq (.t 11) (i64 0))]) (.cond (.t 12) .skip (.exit 0))) (.seq (.block 1 (.seq (.reg [mv 15 7,mv 16 7,mv 17 2,o 18 (.call 56 [.t 15, .t 16, .t 17]),mv 7 18]) (.seq (.reg [mv 19 1,mv 20 8,o 21 (.cvI .u64 (.t 20)),bn 22 .shr 19 21,o 23 (.bin .and (.t 22) (u64 1)),o 24 (.bin .eql (.t 23) (u64 1))]) (.cond (.t 24) (.reg [mv 25 7,mv 26 0,mv 27 2,o 28 (.call 56 [.t 25, .t 26, .t 27]),mv 7 28]) .skip)))) (.reg [mv 13 8,o 14 (.bin .sub (.t 13) (i64 1)),mv 8 14])))))) (.seq (.reg [mv 29 7,mv 6 29]) .ret)))
theorem in_ref06_Pow:Ent 75 30 c_ref06_Pow [.t 6]:=ent Tryd.func75 rfl rfl rfl (show compile _ 30 _=_ by kernel_rfl) (show compRes _ 30 _=_ by kernel_rfl)
def c_ref23_Shift:AC:= .seq (.reg [o 6 (.mv (.c (.sl none 0 0 none)))]) (.seq (.reg [mv 7 1,o 8 (.mnx true (.t 7) [i64 (-4096)]),o 9 (.mnx false (.t 8) [i64 4096]),mv 1 9]) (.seq (.reg [mv 10 0,mv 11 2,o 12 (.call 40 [.t 10, .t 11]),mv 0 12]) (.seq (.seq (.reg [mv 13 1,o 14 (.bin .lss (.t 13) (i64 0))]) (.cond (.t 14) (.seq (.reg [mv 15 0,mv 16 0,o 17 (.len false (.t 16)),mv 18 1,o 19 (.un .neg (.t 18)),o 20 (.mnx false (.t 17) [.t 19]),o 21 (.slc 1 (.t 15) (some (.t 20)) none),o 22 (.app 22 1 8 (.c (.sl none 0 0 none)) (.t 21)),mv 6 22]) .ret) .skip)) (.seq (.seq (.reg [mv 23 0,o 24 (.len false (.t 23)),o 25 (.bin .eql (.t 24) (i64 0))]) (.cond (.t 25) (.seq (.reg [o 6 (.mv (.c (.sl none 0 0 none)))]) .ret) .skip)) (.seq (.reg [mv 26 1,o 27 (.mk 22 1 8 [.int .u64 0] (.t 26) (.t 26)),mv 28 0,o 29 (.app 22 1 8 (.t 27) (.t 28)),mv 6 29]) .ret)))))
theorem in_ref23_Shift:Ent 18 30 c_ref23_Shift [.t 6]:=ent Tryd.func18 rfl rfl rfl (show compile _ 30 _=_ by kernel_rfl) (show compRes _ 30 _=_ by kernel_rfl)
def c_ref23_Cut:AC:= .seq (.reg [o 6 (.mv (.c (.sl none 0 0 none)))]) (.seq (.reg [mv 7 0,mv 8 0,o 9 (.len false (.t 8)),mv 10 1,o 11 (.mnx true (.t 10) [i64 0]),o 12 (.mnx false (.t 9) [.t 11]),o 13 (.slc 1 (.t 7) none (some (.t 12))),mv 14 2,o 15 (.call 40 [.t 13, .t 14]),mv 6 15]) .ret)
theorem in_ref23_Cut:Ent 20 16 c_ref23_Cut [.t 6]:=ent Tryd.func20 rfl rfl rfl (show compile _ 16 _=_ by kernel_rfl) (show compRes _ 16 _=_ by kernel_rfl)
def c_ref23_Mul:AC:= .seq (.reg [o 6 (.mv (.c (.sl none 0 0 none)))]) (.seq (.seq (.reg [mv 7 0,o 8 (.len false (.t 7)),o 9 (.bin .eql (.t 8) (i64 0)),mv 10 9,og 11 10 false (.mv (.t 1)),og 12 10 false (.len false (.t 11)),og 13 10 false (.bin .eql (.t 12) (i64 0)),o 14 (.pick (.t 10) (.c (.bool true)) (.t 13))]) (.cond (.t 14) (.seq (.reg [o 6 (.mv (.c (.sl none 0 0 none)))]) .ret) .skip)) (.seq (.reg [mv 15 0,mv 16 1,mv 17 0,o 18 (.len false (.t 17)),mv 19 1,o 20 (.len false (.t 19)),bn 21 .add 18 20,mv 22 2,o 23 (.call 51 [.t 15, .t 16, .t 21, .t 22]),mv 24 2,o 25 (.call 40 [.t 23, .t 24]),mv 6 25]) .ret))
theorem in_ref23_Mul:Ent 23 26 c_ref23_Mul [.t 6]:=ent Tryd.func23 rfl rfl rfl (show compile _ 26 _=_ by kernel_rfl) (show compRes _ 26 _=_ by kernel_rfl)
def c_ref23_Roots:AC:= .seq (.reg [o 4 (.mv (.c (.sl none 0 0 none)))]) (.seq (.reg [o 7 (.bsl 22 1 1 [.int .u64 0] [(0,u64 1)]),mv 5 7]) (.seq (.seq (.reg [o 6 (.mv (i64 0))]) (.block 0 (.loop (.seq (.seq (.reg [mv 8 6,mv 9 0,o 10 (.len false (.t 9)),bn 11 .lss 8 10]) (.cond (.t 11) .skip (.exit 0))) (.seq (.block 1 (.reg [mv 14 5,mv 15 0,mv 16 6,o 17 (.idx 1 (.t 15) (.t 16)),o 18 (.ld none (.t 17)),mv 19 1,o 20 (.call 53 [u64 0, .t 18, .t 19]),o 21 (.bsl 22 1 2 [.int .u64 0] [(0, .t 20),(1,u64 1)]),mv 22 1,o 23 (.call 23 [.t 14, .t 21, .t 22]),mv 5 23])) (.reg [mv 12 6,o 13 (.bin .add (.t 12) (i64 1)),mv 6 13])))))) (.seq (.reg [mv 24 5,mv 4 24]) .ret)))
theorem in_ref23_Roots:Ent 25 25 c_ref23_Roots [.t 4]:=ent Tryd.func25 rfl rfl rfl (show compile _ 25 _=_ by kernel_rfl) (show compRes _ 25 _=_ by kernel_rfl)
def c_ref23_At:AC:= .seq (.reg [o 6 (.mv (u64 0))]) (.seq (.reg [o 7 (.mv (u64 0))]) (.seq (.seq (.reg [mv 9 0,o 10 (.len false (.t 9)),o 11 (.bin .sub (.t 10) (i64 1)),mv 8 11]) (.block 0 (.loop (.seq (.seq (.reg [mv 12 8,o 13 (.bin .geq (.t 12) (i64 0))]) (.cond (.t 13) .skip (.exit 0))) (.seq (.block 1 (.reg [mv 16 7,mv 17 1,mv 18 2,mv 20 0,mv 21 8,o 22 (.idx 1 (.t 20) (.t 21)),o 23 (.ld none (.t 22)),mv 24 2,⟨some 19,none, .call 56 [.t 16, .t 17, .t 18],[(some 23,none, .ld none (.t 22))]⟩,o 25 (.call 55 [.t 19, .t 23, .t 24]),mv 7 25])) (.reg [mv 14 8,o 15 (.bin .sub (.t 14) (i64 1)),mv 8 15])))))) (.seq (.reg [mv 26 7,mv 6 26]) .ret)))
theorem in_ref23_At:Ent 27 27 c_ref23_At [.t 6]:=ent Tryd.func27 rfl rfl rfl (show compile _ 27 _=_ by kernel_rfl) (show compRes _ 27 _=_ by kernel_rfl)
def c_ref23_Derive:AC:= .seq (.reg [o 4 (.mv (.c (.sl none 0 0 none)))]) (.seq (.reg [o 5 (.mv (.c (.sl none 0 0 none)))]) (.seq (.seq (.reg [o 6 (.mv (i64 1))]) (.block 0 (.loop (.seq (.seq (.reg [mv 7 6,mv 8 0,o 9 (.len false (.t 8)),bn 10 .lss 7 9]) (.cond (.t 10) .skip (.exit 0))) (.seq (.block 1 (.reg [mv 13 5,mv 14 0,mv 15 6,o 16 (.idx 1 (.t 14) (.t 15)),o 17 (.ld none (.t 16)),mv 18 6,o 19 (.cvI .u64 (.t 18)),mv 20 1,o 21 (.call 56 [.t 17, .t 19, .t 20]),o 22 (.bsl 22 1 1 [.int .u64 0] [(0, .t 21)]),o 23 (.app 22 1 8 (.t 13) (.t 22)),mv 5 23])) (.reg [mv 11 6,o 12 (.bin .add (.t 11) (i64 1)),mv 6 12])))))) (.seq (.reg [mv 24 5,mv 25 1,o 26 (.call 40 [.t 24, .t 25]),mv 4 26]) .ret)))
theorem in_ref23_Derive:Ent 30 27 c_ref23_Derive [.t 4]:=ent Tryd.func30 rfl rfl rfl (show compile _ 27 _=_ by kernel_rfl) (show compRes _ 27 _=_ by kernel_rfl)
def c_ref23_Deg:AC:= .seq (.reg [o 4 (.mv (i64 0))]) (.seq (.reg [mv 5 0,mv 6 1,o 7 (.call 40 [.t 5, .t 6]),o 8 (.len false (.t 7)),o 9 (.bin .sub (.t 8) (i64 1)),mv 4 9]) .ret)
theorem in_ref23_Deg:Ent 31 10 c_ref23_Deg [.t 4]:=ent Tryd.func31 rfl rfl rfl (show compile _ 10 _=_ by kernel_rfl) (show compRes _ 10 _=_ by kernel_rfl)
def c_ref23_Monic:AC:= .seq (.reg [o 4 (.mv (.c (.sl none 0 0 none)))]) (.seq (.reg [mv 7 0,mv 8 1,o 9 (.call 40 [.t 7, .t 8]),mv 0 9]) (.seq (.seq (.reg [mv 10 0,o 11 (.len false (.t 10)),o 12 (.bin .eql (.t 11) (i64 0))]) (.cond (.t 12) (.seq (.reg [o 4 (.mv (.c (.sl none 0 0 none)))]) .ret) .skip)) (.seq (.reg [mv 14 0,mv 15 0,o 16 (.len false (.t 15)),o 17 (.bin .sub (.t 16) (i64 1)),o 18 (.idx 1 (.t 14) (.t 17)),o 19 (.ld none (.t 18)),mv 20 1,o 21 (.call 58 [.t 19, .t 20]),mv 13 21,o 22 (.ext (.t 13) 0),o 23 (.ext (.t 13) 1),mv 5 22,mv 6 23]) (.seq (.reg [mv 24 0,mv 25 5,mv 26 1,o 27 (.call 38 [.t 24, .t 25, .t 26]),mv 4 27]) .ret))))
theorem in_ref23_Monic:Ent 32 28 c_ref23_Monic [.t 4]:=ent Tryd.func32 rfl rfl rfl (show compile _ 28 _=_ by kernel_rfl) (show compRes _ 28 _=_ by kernel_rfl)
def c_ref23_Add:AC:= .seq (.reg [o 6 (.mv (.c (.sl none 0 0 none)))]) (.seq (.reg [mv 9 0,o 10 (.len false (.t 9)),mv 11 1,o 12 (.len false (.t 11)),o 13 (.mnx true (.t 10) [.t 12]),o 14 (.mk 22 1 8 [.int .u64 0] (.t 13) (.t 13)),mv 7 14]) (.seq (.seq (.reg [o 8 (.mv (i64 0))]) (.block 0 (.loop (.seq (.seq (.reg [mv 15 8,mv 16 7,o 17 (.len false (.t 16)),bn 18 .lss 15 17]) (.cond (.t 18) .skip (.exit 0))) (.seq (.block 1 (.reg [mv 21 7,mv 22 8,mv 23 0,mv 24 8,o 25 (.call 59 [.t 23, .t 24]),mv 26 1,mv 27 8,o 28 (.call 59 [.t 26, .t 27]),mv 29 2,o 30 (.call 55 [.t 25, .t 28, .t 29]),o 31 (.idx 1 (.t 21) (.t 22)),od (.st 1 (.t 31) (.t 30))])) (.reg [mv 19 8,o 20 (.bin .add (.t 19) (i64 1)),mv 8 20])))))) (.seq (.reg [mv 32 7,mv 33 2,o 34 (.call 40 [.t 32, .t 33]),mv 6 34]) .ret)))
theorem in_ref23_Add:Ent 34 35 c_ref23_Add [.t 6]:=ent Tryd.func34 rfl rfl rfl (show compile _ 35 _=_ by kernel_rfl) (show compRes _ 35 _=_ by kernel_rfl)
def c_ref23_Sub:AC:= .seq (.reg [o 6 (.mv (.c (.sl none 0 0 none)))]) (.seq (.reg [mv 9 0,o 10 (.len false (.t 9)),mv 11 1,o 12 (.len false (.t 11)),o 13 (.mnx true (.t 10) [.t 12]),o 14 (.mk 22 1 8 [.int .u64 0] (.t 13) (.t 13)),mv 7 14]) (.seq (.seq (.reg [o 8 (.mv (i64 0))]) (.block 0 (.loop (.seq (.seq (.reg [mv 15 8,mv 16 7,o 17 (.len false (.t 16)),bn 18 .lss 15 17]) (.cond (.t 18) .skip (.exit 0))) (.seq (.block 1 (.reg [mv 21 7,mv 22 8,mv 23 0,mv 24 8,o 25 (.call 59 [.t 23, .t 24]),mv 26 1,mv 27 8,o 28 (.call 59 [.t 26, .t 27]),mv 29 2,o 30 (.call 53 [.t 25, .t 28, .t 29]),o 31 (.idx 1 (.t 21) (.t 22)),od (.st 1 (.t 31) (.t 30))])) (.reg [mv 19 8,o 20 (.bin .add (.t 19) (i64 1)),mv 8 20])))))) (.seq (.reg [mv 32 7,mv 33 2,o 34 (.call 40 [.t 32, .t 33]),mv 6 34]) .ret)))
theorem in_ref23_Sub:Ent 36 35 c_ref23_Sub [.t 6]:=ent Tryd.func36 rfl rfl rfl (show compile _ 35 _=_ by kernel_rfl) (show compRes _ 35 _=_ by kernel_rfl)
def c_ref23_Scale:AC:= .seq (.reg [o 6 (.mv (.c (.sl none 0 0 none)))]) (.seq (.reg [mv 9 0,o 10 (.len false (.t 9)),o 11 (.mk 22 1 8 [.int .u64 0] (.t 10) (.t 10)),mv 7 11]) (.seq (.seq (.reg [o 8 (.mv (i64 0))]) (.block 0 (.loop (.seq (.seq (.reg [mv 12 8,mv 13 0,o 14 (.len false (.t 13)),bn 15 .lss 12 14]) (.cond (.t 15) .skip (.exit 0))) (.seq (.block 1 (.reg [mv 18 7,mv 19 8,mv 20 0,mv 21 8,o 22 (.idx 1 (.t 20) (.t 21)),o 23 (.ld none (.t 22)),mv 24 1,mv 25 2,o 26 (.call 56 [.t 23, .t 24, .t 25]),o 27 (.idx 1 (.t 18) (.t 19)),od (.st 1 (.t 27) (.t 26))])) (.reg [mv 16 8,o 17 (.bin .add (.t 16) (i64 1)),mv 8 17])))))) (.seq (.reg [mv 28 7,mv 29 2,o 30 (.call 40 [.t 28, .t 29]),mv 6 30]) .ret)))
theorem in_ref23_Scale:Ent 38 31 c_ref23_Scale [.t 6]:=ent Tryd.func38 rfl rfl rfl (show compile _ 31 _=_ by kernel_rfl) (show compRes _ 31 _=_ by kernel_rfl)
def c_ref23_Norm:AC:= .seq (.reg [o 4 (.mv (.c (.sl none 0 0 none)))]) (.seq (.reg [mv 6 0,mv 7 1,o 8 (.call 63 [.t 6, .t 7]),mv 5 8]) (.seq (.block 0 (.loop (.seq (.seq (.reg [mv 9 5,o 10 (.len false (.t 9)),o 11 (.bin .gtr (.t 10) (i64 0)),mv 12 11,og 13 12 true (.mv (.t 5)),og 14 12 true (.mv (.t 5)),og 15 12 true (.len false (.t 14)),og 16 12 true (.bin .sub (.t 15) (i64 1)),og 17 12 true (.idx 1 (.t 13) (.t 16)),og 18 12 true (.ld none (.t 17)),og 19 12 true (.bin .eql (.t 18) (u64 0)),o 20 (.pick (.t 12) (.t 19) (.c (.bool false)))]) (.cond (.t 20) .skip (.exit 0))) (.block 1 (.reg [mv 21 5,mv 22 5,o 23 (.len false (.t 22)),o 24 (.bin .sub (.t 23) (i64 1)),o 25 (.slc 1 (.t 21) none (some (.t 24))),mv 5 25]))))) (.seq (.reg [mv 26 5,mv 4 26]) .ret)))
theorem in_ref23_Norm:Ent 40 27 c_ref23_Norm [.t 4]:=ent Tryd.func40 rfl rfl rfl (show compile _ 27 _=_ by kernel_rfl) (show compRes _ 27 _=_ by kernel_rfl)
def c_ref23_at:AC:= .seq (.reg [o 4 (.mv (u64 0))]) (.seq (.seq (.reg [mv 5 1,o 6 (.bin .lss (.t 5) (i64 0)),mv 7 6,og 8 7 false (.mv (.t 1)),og 9 7 false (.mv (.t 0)),og 10 7 false (.len false (.t 9)),og 11 7 false (.bin .geq (.t 8) (.t 10)),o 12 (.pick (.t 7) (.c (.bool true)) (.t 11))]) (.cond (.t 12) (.seq (.reg [o 4 (.mv (u64 0))]) .ret) .skip)) (.seq (.reg [mv 13 0,mv 14 1,o 15 (.idx 1 (.t 13) (.t 14)),o 16 (.ld none (.t 15)),mv 4 16]) .ret))
theorem in_ref23_at:Ent 59 17 c_ref23_at [.t 4]:=ent Tryd.func59 rfl rfl rfl (show compile _ 17 _=_ by kernel_rfl) (show compRes _ 17 _=_ by kernel_rfl)
def c_ref31_Modulus:AC:= .seq (.reg [o 2 (.mv (.c (.bool false)))]) (.seq (.reg [mv 3 0,o 4 (.call 45 [.t 3]),mv 5 4,og 6 5 true (.mv (.t 0)),og 7 5 true (.call 47 [.t 6]),o 8 (.pick (.t 5) (.t 7) (.c (.bool false))),mv 2 8]) .ret)
theorem in_ref31_Modulus:Ent 10 9 c_ref31_Modulus [.t 2]:=ent Tryd.func10 rfl rfl rfl (show compile _ 9 _=_ by kernel_rfl) (show compRes _ 9 _=_ by kernel_rfl)
def c_law23_PolypNews:AC:= .seq (.reg [o 2 (.mv (.c (.bool false)))]) (.seq (.reg [mv 6 0,o 7 (.call 9 [.t 6]),mv 5 7,o 8 (.ext (.t 5) 0),o 9 (.ext (.t 5) 1),mv 3 8,mv 4 9]) (.seq (.seq (.reg [mv 10 0,o 11 (.call 10 [.t 10])]) (.cond (.t 11) (.seq (.reg [mv 12 4,o 13 (.bin .eql (.t 12) (i64 0)),mv 14 13,og 15 14 true (.mv (.t 3)),og 16 14 true (.peq true (.t 15) (.c (.ptr none))),o 17 (.pick (.t 14) (.t 16) (.c (.bool false))),mv 18 17,og 19 18 true (.mv (.t 3)),og 20 18 true (.nn (.t 19)),og 21 18 true (.fld 0 (.t 20)),og 22 18 true (.ld none (.t 21)),og 23 18 true (.call 11 [.t 22]),og 24 18 true (.mv (.t 0)),og 25 18 true (.bin .eql (.t 23) (.t 24)),o 26 (.pick (.t 18) (.t 25) (.c (.bool false))),mv 27 26,og 28 27 true (.call 12 []),o 29 (.pick (.t 27) (.t 28) (.c (.bool false))),mv 2 29]) .ret) .skip)) (.seq (.reg [mv 30 4,o 31 (.bin .eql (.t 30) (i64 3)),mv 32 31,og 33 32 true (.mv (.t 3)),og 34 32 true (.peq false (.t 33) (.c (.ptr none))),o 35 (.pick (.t 32) (.t 34) (.c (.bool false))),mv 36 35,og 37 36 true (.call 12 []),o 38 (.pick (.t 36) (.t 37) (.c (.bool false))),mv 2 38]) .ret)))
theorem in_law23_PolypNews:Ent 3 39 c_law23_PolypNews [.t 2]:=ent Tryd.func3 rfl rfl rfl (show compile _ 39 _=_ by kernel_rfl) (show compRes _ 39 _=_ by kernel_rfl)
def c_law23_PolypShifts:AC:= .seq (.reg [o 6 (.mv (.c (.bool false)))]) (.seq (.reg [mv 10 1,o 11 (.call 13 [.t 10,i64 30]),mv 1 11]) (.seq (.reg [mv 13 0,o 14 (.call 14 [.t 13]),mv 12 14,o 15 (.ext (.t 12) 0),o 16 (.ext (.t 12) 1),mv 7 15,mv 8 16]) (.seq (.seq (.reg [mv 17 7,o 18 (.peq false (.t 17) (.c (.ptr none)))]) (.cond (.t 18) (.seq (.reg [o 6 (.mv (.c (.bool false)))]) .ret) .skip)) (.seq (.reg [mv 19 1,o 20 (.call 15 [.t 19]),mv 9 20]) (.seq (.reg [mv 21 7,mv 22 9,mv 23 2,o 24 (.call 17 [.t 21, .t 22, .t 23]),mv 25 1,mv 26 2,mv 27 8,o 28 (.call 18 [.t 25, .t 26, .t 27]),o 29 (.call 16 [.t 24, .t 28]),mv 30 29,og 31 30 true (.mv (.t 7)),og 32 30 true (.mv (.t 9)),og 33 30 true (.mv (.t 2)),og 34 30 true (.call 19 [.t 31, .t 32, .t 33]),og 35 30 true (.mv (.t 1)),og 36 30 true (.mv (.t 2)),og 37 30 true (.mv (.t 8)),og 38 30 true (.call 20 [.t 35, .t 36, .t 37]),og 39 30 true (.call 16 [.t 34, .t 38]),o 40 (.pick (.t 30) (.t 39) (.c (.bool false))),mv 41 40,og 42 41 true (.mv (.t 9)),og 43 41 true (.mv (.t 1)),og 44 41 true (.call 21 [.t 42, .t 43]),o 45 (.pick (.t 41) (.t 44) (.c (.bool false))),mv 46 45,og 47 46 true (.call 12 []),o 48 (.pick (.t 46) (.t 47) (.c (.bool false))),mv 6 48]) .ret)))))
theorem in_law23_PolypShifts:Ent 4 49 c_law23_PolypShifts [.t 6]:=ent Tryd.func4 rfl rfl rfl (show compile _ 49 _=_ by kernel_rfl) (show compRes _ 49 _=_ by kernel_rfl)
def c_law23_PolypTimes:AC:= .seq (.reg [o 8 (.mv (.c (.bool false)))]) (.seq (.reg [mv 11 1,o 12 (.call 13 [.t 11,i64 30]),mv 13 2,o 14 (.call 13 [.t 13,i64 30]),mv 15 3,o 16 (.call 13 [.t 15,i64 16]),mv 1 12,mv 2 14,mv 3 16]) (.seq (.reg [mv 18 0,o 19 (.call 14 [.t 18]),mv 17 19,o 20 (.ext (.t 17) 0),o 21 (.ext (.t 17) 1),mv 9 20,mv 10 21]) (.seq (.seq (.reg [mv 22 9,o 23 (.peq false (.t 22) (.c (.ptr none)))]) (.cond (.t 23) (.seq (.reg [o 8 (.mv (.c (.bool false)))]) .ret) .skip)) (.seq (.reg [mv 24 9,mv 25 1,mv 26 2,o 27 (.call 22 [.t 24, .t 25, .t 26]),mv 28 1,mv 29 2,mv 30 10,o 31 (.call 23 [.t 28, .t 29, .t 30]),o 32 (.call 16 [.t 27, .t 31]),mv 33 32,og 34 33 true (.mv (.t 9)),og 35 33 true (.mv (.t 3)),og 36 33 true (.call 24 [.t 34, .t 35]),og 37 33 true (.mv (.t 3)),og 38 33 true (.mv (.t 10)),og 39 33 true (.call 25 [.t 37, .t 38]),og 40 33 true (.call 16 [.t 36, .t 39]),o 41 (.pick (.t 33) (.t 40) (.c (.bool false))),mv 42 41,og 43 42 true (.call 12 []),o 44 (.pick (.t 42) (.t 43) (.c (.bool false))),mv 8 44]) .ret))))
theorem in_law23_PolypTimes:Ent 5 45 c_law23_PolypTimes [.t 8]:=ent Tryd.func5 rfl rfl rfl (show compile _ 45 _=_ by kernel_rfl) (show compRes _ 45 _=_ by kernel_rfl)
def c_law23_PolypValues:AC:= .seq (.reg [o 6 (.mv (.c (.bool false)))]) (.seq (.reg [mv 13 1,o 14 (.call 13 [.t 13,i64 30]),mv 15 2,o 16 (.call 13 [.t 15,i64 20]),mv 1 14,mv 2 16]) (.seq (.reg [mv 18 0,o 19 (.call 14 [.t 18]),mv 17 19,o 20 (.ext (.t 17) 0),o 21 (.ext (.t 17) 1),mv 7 20,mv 8 21]) (.seq (.seq (.reg [mv 22 7,o 23 (.peq false (.t 22) (.c (.ptr none)))]) (.cond (.t 23) (.seq (.reg [o 6 (.mv (.c (.bool false)))]) .ret) .skip)) (.seq (.reg [mv 24 7,mv 25 1,mv 26 2,o 27 (.call 26 [.t 24, .t 25, .t 26]),mv 9 27]) (.seq (.seq (.reg [mv 28 9,o 29 (.len false (.t 28)),mv 30 2,o 31 (.len false (.t 30)),bn 32 .neq 29 31]) (.cond (.t 32) (.seq (.reg [o 6 (.mv (.c (.bool false)))]) .ret) .skip)) (.seq (.seq (.reg [o 10 (.mv (i64 0))]) (.block 0 (.loop (.seq (.seq (.reg [mv 33 10,mv 34 2,o 35 (.len false (.t 34)),bn 36 .lss 33 35]) (.cond (.t 36) .skip (.exit 0))) (.seq (.block 1 (.seq (.reg [mv 39 9,mv 40 10,o 41 (.idx 1 (.t 39) (.t 40)),o 42 (.ld none (.t 41)),mv 43 1,mv 44 2,mv 45 10,o 46 (.idx 1 (.t 44) (.t 45)),o 47 (.ld none (.t 46)),mv 48 8,⟨some 49,none, .call 27 [.t 43, .t 47, .t 48],[(some 42,none, .ld none (.t 41))]⟩,bn 50 .neq 42 49]) (.cond (.t 50) (.seq (.reg [o 6 (.mv (.c (.bool false)))]) .ret) .skip))) (.reg [mv 37 10,o 38 (.bin .add (.t 37) (i64 1)),mv 10 38])))))) (.seq (.reg [mv 52 7,mv 53 1,o 54 (.call 28 [.t 52, .t 53]),mv 51 54,o 55 (.ext (.t 51) 0),o 56 (.ext (.t 51) 1),mv 11 55,mv 12 56]) (.seq (.reg [mv 57 7,mv 58 1,o 59 (.call 29 [.t 57, .t 58]),mv 60 1,mv 61 8,o 62 (.call 30 [.t 60, .t 61]),o 63 (.call 16 [.t 59, .t 62]),mv 64 63,og 65 64 true (.mv (.t 12)),og 66 64 true (.mv (.t 1)),og 67 64 true (.mv (.t 8)),og 68 64 true (.call 31 [.t 66, .t 67]),og 69 64 true (.bin .geq (.t 68) (i64 0)),og 70 64 true (.beq false (.t 65) (.t 69)),o 71 (.pick (.t 64) (.t 70) (.c (.bool false))),mv 72 71,og 73 72 true (.mv (.t 11)),og 74 72 true (.mv (.t 1)),og 75 72 true (.mv (.t 8)),og 76 72 true (.call 32 [.t 74, .t 75]),og 77 72 true (.call 16 [.t 73, .t 76]),o 78 (.pick (.t 72) (.t 77) (.c (.bool false))),mv 79 78,og 80 79 true (.call 12 []),o 81 (.pick (.t 79) (.t 80) (.c (.bool false))),mv 6 81]) .ret))))))))
theorem in_law23_PolypValues:Ent 6 82 c_law23_PolypValues [.t 6]:=ent Tryd.func6 rfl rfl rfl (show compile _ 82 _=_ by kernel_rfl) (show compRes _ 82 _=_ by kernel_rfl)
def c_law23_PolypSums:AC:= .seq (.reg [o 8 (.mv (.c (.bool false)))]) (.seq (.reg [mv 16 1,o 17 (.call 13 [.t 16,i64 40]),mv 18 2,o 19 (.call 13 [.t 18,i64 40]),mv 1 17,mv 2 19]) (.seq (.reg [mv 21 0,o 22 (.call 14 [.t 21]),mv 20 22,o 23 (.ext (.t 20) 0),o 24 (.ext (.t 20) 1),mv 9 23,mv 10 24]) (.seq (.seq (.reg [mv 25 9,o 26 (.peq false (.t 25) (.c (.ptr none)))]) (.cond (.t 26) (.seq (.reg [o 8 (.mv (.c (.bool false)))]) .ret) .skip)) (.seq (.reg [mv 27 1,o 28 (.call 15 [.t 27]),mv 29 2,o 30 (.call 15 [.t 29]),mv 11 28,mv 12 30]) (.seq (.reg [mv 31 9,mv 32 11,mv 33 12,o 34 (.bsl 33 1 2 [.sl none 0 0 none] [(0, .t 32),(1, .t 33)]),o 35 (.call 33 [.t 31, .t 34]),mv 13 35]) (.seq (.seq (.reg [mv 36 13,mv 37 1,mv 38 2,mv 39 10,o 40 (.call 34 [.t 37, .t 38, .t 39]),o 41 (.call 16 [.t 36, .t 40]),o 42 (.un .not (.t 41)),mv 43 42,og 44 43 false (.mv (.t 9)),og 45 43 false (.mv (.t 11)),og 46 43 false (.mv (.t 12)),og 47 43 false (.call 35 [.t 44, .t 45, .t 46]),og 48 43 false (.mv (.t 1)),og 49 43 false (.mv (.t 2)),og 50 43 false (.mv (.t 10)),og 51 43 false (.call 36 [.t 48, .t 49, .t 50]),og 52 43 false (.call 16 [.t 47, .t 51]),og 53 43 false (.un .not (.t 52)),o 54 (.pick (.t 43) (.c (.bool true)) (.t 53)),mv 55 54,og 56 55 false (.mv (.t 9)),og 57 55 false (.mv (.t 11)),og 58 55 false (.mv (.t 3)),og 59 55 false (.call 37 [.t 56, .t 57, .t 58]),og 60 55 false (.mv (.t 1)),og 61 55 false (.mv (.t 3)),og 62 55 false (.mv (.t 10)),og 63 55 false (.call 38 [.t 60, .t 61, .t 62]),og 64 55 false (.call 16 [.t 59, .t 63]),og 65 55 false (.un .not (.t 64)),o 66 (.pick (.t 55) (.c (.bool true)) (.t 65)),mv 67 66,og 68 67 false (.mv (.t 9)),og 69 67 false (.mv (.t 11)),og 70 67 false (.call 39 [.t 68, .t 69]),og 71 67 false (.mv (.t 1)),og 72 67 false (.mv (.t 10)),og 73 67 false (.call 40 [.t 71, .t 72]),og 74 67 false (.call 16 [.t 70, .t 73]),og 75 67 false (.un .not (.t 74)),o 76 (.pick (.t 67) (.c (.bool true)) (.t 75))]) (.cond (.t 76) (.seq (.reg [o 8 (.mv (.c (.bool false)))]) .ret) .skip)) (.seq (.reg [mv 77 13,o 78 (.call 41 [.t 77])]) (.seq (.reg [mv 79 9,mv 80 11,o 81 (.call 39 [.t 79, .t 80]),mv 14 81]) (.seq (.reg [mv 82 14,o 83 (.call 41 [.t 82])]) (.seq (.reg [mv 84 1,mv 85 2,mv 86 10,o 87 (.call 36 [.t 84, .t 85, .t 86]),o 88 (.len false (.t 87)),o 89 (.bin .eql (.t 88) (i64 0)),mv 15 89]) (.seq (.reg [mv 90 9,mv 91 11,o 92 (.call 42 [.t 90, .t 91]),mv 93 1,mv 94 10,o 95 (.call 31 [.t 93, .t 94]),bn 96 .eql 92 95,mv 97 96,og 98 97 true (.mv (.t 9)),og 99 97 true (.mv (.t 11)),og 100 97 true (.mv (.t 12)),og 101 97 true (.call 43 [.t 98, .t 99, .t 100]),og 102 97 true (.mv (.t 15)),og 103 97 true (.beq false (.t 101) (.t 102)),o 104 (.pick (.t 97) (.t 103) (.c (.bool false))),mv 105 104,og 106 105 true (.mv (.t 11)),og 107 105 true (.mv (.t 1)),og 108 105 true (.call 21 [.t 106, .t 107]),o 109 (.pick (.t 105) (.t 108) (.c (.bool false))),mv 110 109,og 111 110 true (.mv (.t 12)),og 112 110 true (.mv (.t 2)),og 113 110 true (.call 21 [.t 111, .t 112]),o 114 (.pick (.t 110) (.t 113) (.c (.bool false))),mv 115 114,og 116 115 true (.call 12 []),o 117 (.pick (.t 115) (.t 116) (.c (.bool false))),mv 8 117]) .ret)))))))))))
theorem in_law23_PolypSums:Ent 7 118 c_law23_PolypSums [.t 8]:=ent Tryd.func7 rfl rfl rfl (show compile _ 118 _=_ by kernel_rfl) (show compRes _ 118 _=_ by kernel_rfl)
def c_law23_PolypLaws:AC:= .seq (.reg [o 10 (.mv (.c (.bool false)))]) (.seq (.reg [mv 19 1,o 20 (.call 13 [.t 19,i64 24]),mv 21 2,o 22 (.call 13 [.t 21,i64 24]),mv 23 4,o 24 (.call 13 [.t 23,i64 12]),mv 1 20,mv 2 22,mv 4 24]) (.seq (.reg [mv 26 0,o 27 (.call 14 [.t 26]),mv 25 27,o 28 (.ext (.t 25) 0),o 29 (.ext (.t 25) 1),mv 11 28,mv 12 29]) (.seq (.seq (.reg [mv 30 11,o 31 (.peq false (.t 30) (.c (.ptr none)))]) (.cond (.t 31) (.seq (.reg [o 10 (.mv (.c (.bool false)))]) .ret) .skip)) (.seq (.reg [mv 32 11,mv 33 1,mv 34 2,o 35 (.call 22 [.t 32, .t 33, .t 34]),mv 13 35]) (.seq (.reg [mv 36 11,mv 37 13,mv 38 3,o 39 (.bsl 22 1 1 [.int .u64 0] [(0, .t 38)]),o 40 (.call 26 [.t 36, .t 37, .t 39]),mv 41 11,mv 42 1,mv 43 3,o 44 (.bsl 22 1 1 [.int .u64 0] [(0, .t 43)]),o 45 (.call 26 [.t 41, .t 42, .t 44]),mv 46 11,mv 47 2,mv 48 3,o 49 (.bsl 22 1 1 [.int .u64 0] [(0, .t 48)]),o 50 (.call 26 [.t 46, .t 47, .t 49]),mv 14 40,mv 15 45,mv 16 50]) (.seq (.seq (.reg [mv 51 14,o 52 (.len false (.t 51)),o 53 (.bin .neq (.t 52) (i64 1)),mv 54 53,og 55 54 false (.mv (.t 15)),og 56 54 false (.len false (.t 55)),og 57 54 false (.bin .neq (.t 56) (i64 1)),o 58 (.pick (.t 54) (.c (.bool true)) (.t 57)),mv 59 58,og 60 59 false (.mv (.t 16)),og 61 59 false (.len false (.t 60)),og 62 59 false (.bin .neq (.t 61) (i64 1)),o 63 (.pick (.t 59) (.c (.bool true)) (.t 62)),mv 64 63,og 65 64 false (.mv (.t 14)),og 66 64 false (.idx 1 (.t 65) (i64 0)),og 67 64 false (.ld none (.t 66)),og 68 64 false (.mv (.t 11)),og 69 64 false (.nn (.t 68)),og 70 64 false (.fld 0 (.t 69)),og 71 64 false (.ld none (.t 70)),og 72 64 false (.mv (.t 15)),og 73 64 false (.idx 1 (.t 72) (i64 0)),og 74 64 false (.ld none (.t 73)),og 75 64 false (.mv (.t 16)),og 76 64 false (.idx 1 (.t 75) (i64 0)),og 77 64 false (.ld none (.t 76)),⟨some 78,some (64,false), .call 44 [.t 71, .t 74, .t 77],[(some 67,some (64,false), .ld none (.t 66))]⟩,og 79 64 false (.bin .neq (.t 67) (.t 78)),o 80 (.pick (.t 64) (.c (.bool true)) (.t 79))]) (.cond (.t 80) (.seq (.reg [o 10 (.mv (.c (.bool false)))]) .ret) .skip)) (.seq (.seq (.reg [mv 81 11,mv 82 11,mv 83 13,o 84 (.call 29 [.t 82, .t 83]),mv 85 11,mv 86 11,mv 87 11,mv 88 1,o 89 (.call 29 [.t 87, .t 88]),mv 90 2,o 91 (.call 22 [.t 86, .t 89, .t 90]),mv 92 11,mv 93 1,mv 94 11,mv 95 2,o 96 (.call 29 [.t 94, .t 95]),o 97 (.call 22 [.t 92, .t 93, .t 96]),o 98 (.bsl 33 1 2 [.sl none 0 0 none] [(0, .t 91),(1, .t 97)]),o 99 (.call 33 [.t 85, .t 98]),o 100 (.call 43 [.t 81, .t 84, .t 99]),o 101 (.un .not (.t 100)),mv 102 101,og 103 102 false (.mv (.t 11)),og 104 102 false (.mv (.t 11)),og 105 102 false (.mv (.t 11)),og 106 102 false (.mv (.t 1)),og 107 102 false (.mv (.t 2)),og 108 102 false (.bsl 33 1 2 [.sl none 0 0 none] [(0, .t 106),(1, .t 107)]),og 109 102 false (.call 33 [.t 105, .t 108]),og 110 102 false (.mv (.t 2)),og 111 102 false (.call 35 [.t 104, .t 109, .t 110]),og 112 102 false (.mv (.t 1)),og 113 102 false (.call 43 [.t 103, .t 111, .t 112]),og 114 102 false (.un .not (.t 113)),o 115 (.pick (.t 102) (.c (.bool true)) (.t 114))]) (.cond (.t 115) (.seq (.reg [o 10 (.mv (.c (.bool false)))]) .ret) .skip)) (.seq (.reg [mv 116 11,mv 117 11,mv 118 4,o 119 (.call 24 [.t 117, .t 118]),mv 120 4,o 121 (.call 26 [.t 116, .t 119, .t 120]),mv 17 121]) (.seq (.seq (.reg [o 18 (.mv (i64 0))]) (.block 0 (.loop (.seq (.seq (.reg [mv 122 18,mv 123 17,o 124 (.len false (.t 123)),bn 125 .lss 122 124]) (.cond (.t 125) .skip (.exit 0))) (.seq (.block 1 (.seq (.reg [mv 128 17,mv 129 18,o 130 (.idx 1 (.t 128) (.t 129)),o 131 (.ld none (.t 130)),o 132 (.bin .neq (.t 131) (u64 0))]) (.cond (.t 132) (.seq (.reg [o 10 (.mv (.c (.bool false)))]) .ret) .skip))) (.reg [mv 126 18,o 127 (.bin .add (.t 126) (i64 1)),mv 18 127])))))) (.seq (.reg [mv 133 17,o 134 (.len false (.t 133)),mv 135 4,o 136 (.len false (.t 135)),bn 137 .eql 134 136,mv 138 137,og 139 138 true (.mv (.t 11)),og 140 138 true (.nn (.t 139)),og 141 138 true (.fld 0 (.t 140)),og 142 138 true (.ld none (.t 141)),og 143 138 true (.call 11 [.t 142]),og 144 138 true (.mv (.t 12)),og 145 138 true (.bin .eql (.t 143) (.t 144)),o 146 (.pick (.t 138) (.t 145) (.c (.bool false))),mv 147 146,og 148 147 true (.mv (.t 11)),og 149 147 true (.mv (.t 11)),og 150 147 true (.mv (.t 4)),og 151 147 true (.call 24 [.t 149, .t 150]),og 152 147 true (.call 42 [.t 148, .t 151]),og 153 147 true (.mv (.t 4)),og 154 147 true (.len false (.t 153)),og 155 147 true (.bin .eql (.t 152) (.t 154)),o 156 (.pick (.t 147) (.t 155) (.c (.bool false))),mv 157 156,og 158 157 true (.mv (.t 12)),og 159 157 true (.call 45 [.t 158]),o 160 (.pick (.t 157) (.t 159) (.c (.bool false))),mv 161 160,og 162 161 true (.call 12 []),o 163 (.pick (.t 161) (.t 162) (.c (.bool false))),mv 10 163]) .ret))))))))))
theorem in_law23_PolypLaws:Ent 8 164 c_law23_PolypLaws [.t 10]:=ent Tryd.func8 rfl rfl rfl (show compile _ 164 _=_ by kernel_rfl) (show compRes _ 164 _=_ by kernel_rfl)
def c_law23_wakes:AC:= .seq (.reg [o 0 (.mv (.c (.bool false)))]) (.seq (.reg [o 4 (.call 9 [u64 7]),mv 3 4,o 5 (.ext (.t 3) 0),o 6 (.ext (.t 3) 1),mv 1 5,mv 2 6]) (.seq (.reg [mv 7 2,o 8 (.bin .eql (.t 7) (i64 0)),mv 9 8,og 10 9 true (.mv (.t 1)),og 11 9 true (.peq true (.t 10) (.c (.ptr none))),o 12 (.pick (.t 9) (.t 11) (.c (.bool false))),mv 13 12,og 14 13 true (.mv (.t 1)),og 15 13 true (.bsl 22 1 2 [.int .u64 0] [(0,u64 3),(1,u64 7)]),og 16 13 true (.call 39 [.t 14, .t 15]),og 17 13 true (.bsl 22 1 1 [.int .u64 0] [(0,u64 3)]),og 18 13 true (.call 16 [.t 16, .t 17]),o 19 (.pick (.t 13) (.t 18) (.c (.bool false))),mv 20 19,og 21 20 true (.mv (.t 1)),og 22 20 true (.call 42 [.t 21, .c (.sl none 0 0 none)]),og 23 20 true (.bin .eql (.t 22) (i64 (-1))),o 24 (.pick (.t 20) (.t 23) (.c (.bool false))),mv 25 24,og 26 25 true (.mv (.t 1)),og 27 25 true (.bsl 22 1 8 [.int .u64 0] [(0,u64 0),(1,u64 0),(2,u64 0),(3,u64 0),(4,u64 0),(5,u64 0),(6,u64 0),(7,u64 1)]),og 28 25 true (.call 29 [.t 26, .t 27]),og 29 25 true (.len false (.t 28)),og 30 25 true (.bin .eql (.t 29) (i64 0)),o 31 (.pick (.t 25) (.t 30) (.c (.bool false))),mv 32 31,og 33 32 true (.mv (.t 1)),og 34 32 true (.nn (.t 33)),og 35 32 true (.fld 0 (.t 34)),og 36 32 true (.ld none (.t 35)),og 37 32 true (.call 44 [.t 36,u64 3,u64 5]),og 38 32 true (.bin .eql (.t 37) (u64 1)),o 39 (.pick (.t 32) (.t 38) (.c (.bool false))),mv 0 39]) .ret))
theorem in_law23_wakes:Ent 12 40 c_law23_wakes [.t 0]:=ent Tryd.func12 rfl rfl rfl (show compile _ 40 _=_ by kernel_rfl) (show compRes _ 40 _=_ by kernel_rfl)
def c_law23_ring:AC:= .seq (.reg [o 2 (.mv (.c (.ptr none))),o 3 (.mv (u64 0))]) (.seq (.reg [mv 7 0,o 8 (.call 48 [.t 7]),mv 4 8]) (.seq (.reg [mv 10 4,o 11 (.call 9 [.t 10]),mv 9 11,o 12 (.ext (.t 9) 0),o 13 (.ext (.t 9) 1),mv 5 12,mv 6 13]) (.seq (.seq (.reg [mv 14 6,o 15 (.bin .neq (.t 14) (i64 0))]) (.cond (.t 15) (.seq (.reg [mv 16 4,o 2 (.mv (.c (.ptr none))),mv 3 16]) .ret) .skip)) (.seq (.reg [mv 17 5,mv 18 4,mv 2 17,mv 3 18]) .ret))))
theorem in_law23_ring:Ent 14 19 c_law23_ring [.t 2, .t 3]:=ent Tryd.func14 rfl rfl rfl (show compile _ 19 _=_ by kernel_rfl) (show compRes _ 19 _=_ by kernel_rfl)
def c_law23_Prime:AC:= .seq (.reg [o 2 (.mv (u64 0))]) (.seq (.reg [o 4 (.bsl 22 1 12 [.int .u64 0] [(0,u64 3),(1,u64 5),(2,u64 7),(3,u64 17),(4,u64 97),(5,u64 257),(6,u64 65537),(7,u64 998244353),(8,u64 4294967291),(9,u64 4611686018427387847),(10,u64 4179340454199820289),(11,u64 1000003)]),mv 3 4]) (.seq (.reg [mv 5 3,mv 6 0,mv 7 3,o 8 (.len false (.t 7)),o 9 (.cvI .u64 (.t 8)),bn 10 .rem 6 9,o 11 (.idx 1 (.t 5) (.t 10)),o 12 (.ld none (.t 11)),mv 2 12]) .ret))
theorem in_law23_Prime:Ent 48 13 c_law23_Prime [.t 2]:=ent Tryd.func48 rfl rfl rfl (show compile _ 13 _=_ by kernel_rfl) (show compRes _ 13 _=_ by kernel_rfl)
end
def IsC (z:Nat) (h:H) (v:AV) (n:Nat) (cs:List AV):Prop:=
 cs.length=n*z∧∃id off c,v= .sl id off n c∧((id=none∧n=0∧off=0)∨∃i r,id=some i∧h.rows i=some r∧(r.own=none∨r.esz=z)∧off+n*z≤r.cells.length∧(r.cells.drop off).take (n*z)=cs)
theorem IsC.mono {z n:Nat} {h h':H} {v:AV} {cs:List AV} (hv:IsC z h v n cs) (hl:h.le h'):IsC z h' v n cs:=by
 obtain⟨h0,id,off,c,rfl,h1⟩:=hv
 refine⟨h0,id,off,c,rfl, ?_⟩
 rcases h1 with h1|⟨i,r,rfl,hr,h2⟩
 ·exact .inl h1
 ·exact .inr ⟨i,r,rfl,hl.2 i r hr,h2⟩
theorem IsC.form {z n:Nat} {h:H} {v:AV} {cs:List AV} (hv:IsC z h v n cs):∃id off c,v= .sl id off n c:=by
 obtain⟨_,id,off,c,e,_⟩:=hv
 exact⟨id,off,c,e⟩
theorem IsC.at {z n m:Nat} {h:H} {id:Option Nat} {off:Nat} {c:Option Nat} {cs:List AV} (hv:IsC z h (.sl id off m c) n cs) {j:Nat} (hj:j<n*z):∃i,id=some i∧m=n∧h.get i (off+j)=cs[j]? :=by
 obtain⟨hl,id',off',c',e,h1⟩:=hv
 injection e with e1 e2 e3 e4
 subst e1;subst e2;subst e3;subst e4
 rcases h1 with⟨_,rfl,_⟩|⟨i,r,rfl,hr,_,hf,ht⟩
 ·simp at hj
 ·refine⟨i,rfl,rfl, ?_⟩
  rw[←ht,List.getElem?_take,if_pos hj,List.getElem?_drop]
  simp[H.get,hr]
section
set_option maxRecDepth 100000
def AllC {α:Type} (z:Nat) (R:List AV→α→Prop) (cs:List AV) (xs:List α):Prop:=cs.length=xs.length*z∧∀(j:Nat) (x:α),xs[j]? =some x→R ((cs.drop (j*z)).take z) x
theorem AllC.mono {α:Type} {z:Nat} {R R':List AV→α→Prop} {cs:List AV} {xs:List α} (h:AllC z R cs xs) (hr:∀c x,R c x→R' c x):AllC z R' cs xs:=⟨h.1,fun j x h1=>hr _ x (h.2 j x h1)⟩
def IsA {α:Type} (z:Nat) (R:H→List AV→α→Prop) (h:H) (v:AV) (xs:List α):Prop:=∃cs,IsC z h v xs.length cs∧AllC z (R h) cs xs
def Grows {α:Type} (R:H→List AV→α→Prop):Prop:=∀⦃h h':H⦄ ⦃c:List AV⦄ ⦃x:α⦄,R h c x→h.le h'→R h' c x
theorem IsA.form {α:Type} {z:Nat} {R:H→List AV→α→Prop} {h:H} {v:AV} {xs:List α} (hv:IsA z R h v xs):∃id off c,v= .sl id off xs.length c:=by
 obtain⟨cs,h1,_⟩:=hv
 exact h1.form
theorem IsA.mono {α:Type} {z:Nat} {R:H→List AV→α→Prop} (hR:Grows R) {h h':H} {v:AV} {xs:List α} (hv:IsA z R h v xs) (hl:h.le h'):IsA z R h' v xs:=by
 obtain⟨cs,h1,h2⟩:=hv
 exact⟨cs,h1.mono hl,h2.mono fun c x hc=>hR hc hl⟩
theorem take_one {l:List AV} {j:Nat} (h:j<l.length):(l.drop j).take 1=[l[j]]:=by
 rw[List.drop_eq_getElem_cons h]
 rfl
theorem IsA.at1 {α:Type} {R:H→List AV→α→Prop} {h:H} {id:Option Nat} {off n:Nat} {c:Option Nat} {xs:List α} (hv:IsA 1 R h (.sl id off n c) xs) {j:Nat} (hj:j<xs.length):∃i a,id=some i∧n=xs.length∧h.get i (off+j)=some a∧R h [a] xs[j]:=by
 obtain⟨cs,h1,h2⟩:=hv
 obtain⟨i,e1,e2,e3⟩:=h1.at (j:=j) (by omega)
 have hl:=h2.1
 have h3:=h2.2 j _ (List.getElem?_eq_getElem hj)
 rw[Nat.mul_one,take_one (by omega)] at h3
 exact⟨i,cs[j],e1,e2,e3.trans (List.getElem?_eq_getElem (by omega)),h3⟩
theorem H.get_le {a h:H} (hl:a.le h) {i j:Nat} {v:AV} (e:a.get i j=some v):h.get i j=some v:=by
 unfold H.get at*
 cases hr:a.rows i with
 |none=>rw[hr] at e;cases e
 |some r=>rw[hr] at e;rw[hl.2 _ _ hr];exact e
end
theorem loop_cut2 {P:Program} {c:AC} {id id2:Nat} {next:Env→H→Prop} {Q:Post} {ρ:Env} {h:H} (M:Env→H→Prop) (h1:awp P (.loop c) (ablk id (ablk id2 (onN M Q))) ρ h) (h2:∀ρ h,M ρ h→next ρ h):awp P (.loop c) (ablk id (ablk id2 (athen next Q))) ρ h:=by
 have key:∀e ρ h,ablk id2 (onN M Q) e ρ h→ablk id2 (athen next Q) e ρ h:=by
  intro e ρ h hh
  cases e with
  |exit id'=>
   simp only[ablk] at hh⊢
   split
   ·rename_i hi;rw[if_pos hi] at hh;exact h2 _ _ hh
   ·rename_i hi;rw[if_neg hi] at hh;exact hh
  |normal=>exact h2 _ _ hh
  |_=>exact hh
 refine awp_mono (fun e ρ h hh=> ?_) h1
 cases e with
 |exit id'=>
  simp only[ablk] at hh⊢
  split
  ·rename_i hi;rw[if_pos hi] at hh;exact key .normal ρ h hh
  ·rename_i hi;rw[if_neg hi] at hh;exact key (.exit id') ρ h hh
 |normal=>exact key .normal ρ h hh
 |ret=>exact key .ret ρ h hh
 |goto l=>exact key (.goto l) ρ h hh
 |panic l=>exact key (.panic l) ρ h hh
 |outgrown=>exact key .outgrown ρ h hh
section
section
variable {α:Type} {F G:Nat→α} {n k:Nat} {v z:α}
def rowF (F:Nat→α) (n:Nat):List α:=(List.range n).map F
theorem rowF_len:(rowF F n).length=n:=by simp[rowF]
theorem rowF_get (h:k<n):(rowF F n)[k]'(by rw[rowF_len];exact h)=F k:=by simp[rowF]
theorem rowF_getD:(rowF F n).getD k z=if k<n then F k else z:=by
 rw[List.getD_eq_getElem?_getD]
 split
 ·rename_i h
  rw[List.getElem?_eq_getElem (by rw[rowF_len];exact h),rowF_get h]
  rfl
 ·rename_i h
  rw[List.getElem?_eq_none (by rw[rowF_len];omega)]
  rfl
theorem rowF_ext (h:∀i,i<n→F i=G i):rowF F n=rowF G n:=by
 refine List.ext_getElem (by rw[rowF_len,rowF_len]) fun i h1 h2=> ?_
 rw[rowF_len] at h1
 rw[rowF_get h1,rowF_get h1,h i h1]
theorem rowF_set (hv:G k=v) (h:∀i,i<n→i≠k→G i=F i):(rowF F n).set k v=rowF G n:=by
 refine List.ext_getElem (by rw[List.length_set,rowF_len,rowF_len]) fun i h1 h2=> ?_
 rw[rowF_len] at h2
 rw[List.getElem_set]
 split
 ·rename_i e
  subst e
  rw[rowF_get h2]
  exact hv.symm
 ·rename_i e
  rw[rowF_get h2,rowF_get h2,h i h2 (Ne.symm e)]
theorem rowF_rep:rowF (fun _=>v) n=List.replicate n v:=by
 refine List.ext_getElem (by rw[rowF_len,List.length_replicate]) fun i h1 h2=> ?_
 rw[rowF_len] at h1
 rw[rowF_get h1,List.getElem_replicate]
def upF (F:Nat→α) (z:α) (j i:Nat):α:=if i<j then F i else z
theorem upF_zero:rowF (upF F z 0) n=List.replicate n z:=by
 rw[←rowF_rep]
 exact rowF_ext fun i _=>if_neg (by omega)
theorem upF_step {j:Nat}:(rowF (upF F z j) n).set j (F j)=rowF (upF F z (j+1)) n:=by
 refine rowF_set (if_pos (by omega)) fun i _ hi=> ?_
 unfold upF
 by_cases h:i<j
 ·rw[if_pos h,if_pos (by omega)]
 ·rw[if_neg h,if_neg (by omega)]
theorem upF_all:rowF (upF F z n) n=rowF F n:=rowF_ext fun i hi=>if_pos hi
end
section
variable {f g:Nat→Nat} {i j k n:Nat}
def partJ (f g:Nat→Nat) (i j k:Nat):Nat:=part f g i k+(if i≤k∧k<i+j then f i*g (k-i) else 0)
theorem partJ_zero:partJ f g i 0 k=part f g i k:=by
 unfold partJ
 rw[if_neg (by omega),Nat.add_zero]
theorem partJ_full (hg:∀i,n≤i→g i=0):partJ f g i n k=part f g (i+1) k:=by
 unfold partJ
 show _=part f g i k+(if i≤k then f i*g (k-i) else 0)
 by_cases h:i≤k
 ·rw[if_pos h]
  by_cases h2:k<i+n
  ·rw[if_pos ⟨h,h2⟩]
  ·rw[if_neg (fun x=>h2 x.2),hg (k-i) (by omega),Nat.mul_zero]
 ·rw[if_neg (fun x=>h x.1),if_neg h]
theorem partJ_here:partJ f g i (j+1) (i+j)=partJ f g i j (i+j)+f i*g j:=by
 unfold partJ
 rw[if_pos ⟨by omega,by omega⟩,if_neg (by omega),Nat.add_zero,Nat.add_sub_cancel_left]
theorem partJ_other (h:k≠i+j):partJ f g i (j+1) k=partJ f g i j k:=by
 unfold partJ
 by_cases h1:i≤k∧k<i+j
 ·rw[if_pos h1,if_pos ⟨h1.1,by omega⟩]
 ·rw[if_neg h1,if_neg (by omega)]
end
def RG (h:H) (e p:Nat):Prop:=∃i,h.get e 0=some (.ptr (some (i,0)))∧MW h i p
theorem RG.mono {h h':H} {e p:Nat} (hr:RG h e p) (hl:h.le h'):RG h' e p:=by
 obtain⟨i,h1,h2⟩:=hr
 exact⟨i,H.get_le hl h1,h2.mono hl⟩
theorem IsG.cut0 {b:Nat} {h:H} {io c c':Option Nat} {n:Nat} {xs:List Nat} (hv:IsG b h (.sl io 0 n c) xs) {k:Nat} (hk:k≤xs.length):IsG b h (.sl io 0 k c') (xs.take k):=by
 unfold IsG at*
 rw[List.map_take]
 exact hv.cut (by rw[List.length_map];exact hk)
section
variable {e p b:Nat} {xs ys os:List Nat} {v:AV} {h:H} {K:AV→H→Prop}
theorem ptrim_calls (hv:IsG b h v os) (hl:os.length≤4000000) (hk:∀r ys,IsG b h r ys→TrimF (fun i=>os.getD i 0) ys→ys.length≤os.length→K r h):ACalls Tryd.prog 50 [v] h K:=by
 obtain⟨id,c,rfl⟩:=hv.form
 refine in_polyp_trim (by simp) fun hw=> ?_
 unfold c_polyp_trim
 simp only[go_sem]
 refine⟨fun k ρ h2=>h2=h∧ρ 0= .sl id 0 k c∧k≤os.length∧(∀x∈os.drop k,x=0),os.length,⟨rfl,by first|rfl|trivial|assumption,Nat.le_refl _,by simp⟩, ?_⟩
 rintro k ρ h2 ⟨rfl,q0,hk1,hz⟩
 have hvk:IsG b h2 (.sl id 0 k c) (os.take k):=hv.cut0 hk1
 have fin:(∀x,(os.take k).getLast? =some x→x≠0)→K (.sl id 0 k c) h2:=fun hl=>hk _ _ hvk (TrimG.of (z:=0) hz hl) (by rw[List.length_take];omega)
 rcases Nat.eq_zero_or_pos k with h0|h0
 ·subst h0
  simp only[go_sem,q0,show decide ((0:Int)<((0:Nat):Int))=false from rfl]
  exact fun _=>fin (by simp)
 ·obtain⟨i,e7,_,hg⟩:=hv.isN.at (j:=k-1) (by omega)
  subst e7
  rw[Nat.zero_add] at hg
  have e1:IntKind.i64.wrap ((k:Int)-1)=((k-1:Nat):Int):=by rw[wI]<;>omega
  simp only[go_sem,q0,show decide ((0:Int)<(k:Int))=true from decide_eq_true (by omega),e1]
  refine⟨by omega,by omega, ?_⟩
  simp only[go_sem,hg]
  by_cases hx:os[k-1]=0
  ·simp only[go_sem,show(((os[k-1]:Nat):Int)==0)=true by simp[hx],q0,e1]
   refine⟨by omega, .inl (by omega),hvk.isN.row, ?_⟩
   refine⟨k-1,by omega,by first|rfl|trivial|assumption,by first|rfl|trivial|assumption,by omega,fun x hm=> ?_⟩
   rw[List.drop_eq_getElem_cons (by omega)] at hm
   rcases List.mem_cons.1 hm with rfl|hm
   ·exact hx
   ·exact hz x (by rwa[show k-1+1=k from by omega] at hm)
  ·simp only[go_sem,show(((os[k-1]:Nat):Int)==0)=false by simp;omega,q0]
   refine fun _=>fin fun x hl=> ?_
   rw[List.getLast?_eq_getElem?,List.length_take,Nat.min_eq_left hk1,List.getElem?_take,if_pos (by omega),List.getElem?_eq_getElem (by omega)] at hl
   injection hl with hl
   omega
theorem pNorm_calls (hr:RG h e p) (hv:IsN h v xs) (hl:xs.length≤1000000) (hk:∀r ys h',h'.wf→h.le h'→IsG h.next h' r ys→TrimF (fun i=>xs.getD i 0%p) ys→ys.length≤xs.length→K r h'):ACalls Tryd.prog 39 [.ptr (some (e,0)),v] h K:=by
 obtain⟨id,off,c,rfl⟩:=hv.form
 refine in_polyp_Ring_Norm (by simp) fun hw=> ?_
 unfold c_polyp_Ring_Norm
 simp only[go_sem]
 refine⟨by omega,by omega,by omega, ?_⟩
 have hl2:=H.le_new hw (H.le_refl h) ⟨some 22,1,zs [AV.int .u64 0] xs.length⟩
 refine loop_cut (fun ρ h'=>h'.wf∧h.le h'∧ρ 5= .sl (some h.next) 0 xs.length (some xs.length)∧IsG h.next h' (.sl (some h.next) 0 xs.length (some xs.length)) (rowF (fun i=>xs.getD i 0%p) xs.length)) ?_ ?_
 ·refine for_rule (fun j ρ h'=>j≤xs.length∧h'.wf∧h.le h'∧ρ 0= .ptr (some (e,0))∧ρ 5= .sl (some h.next) 0 xs.length (some xs.length)∧ρ 11= .sl id off xs.length c∧ρ 12= .int .i64 (xs.length:Int)∧ρ 13= .int .i64 (j:Int)∧IsG h.next h' (.sl (some h.next) 0 xs.length (some xs.length)) (rowF (upF (fun i=>xs.getD i 0%p) 0 j) xs.length)) xs.length
   ⟨by omega,H.wf_new hw _,hl2,by first|rfl|trivial|assumption,by first|rfl|trivial|assumption,by first|rfl|trivial|assumption,by first|rfl|trivial|assumption,by first|rfl|trivial|assumption,by rw[upF_zero];exact IsG.made (Nat.le_refl _) _⟩ (fun i ρ h hI=>hI.1) ?_
  rintro j ρ h' ⟨hj,hw',hle,q0,q5,q11,q12,q13,hs⟩
  rcases Nat.lt_or_ge j xs.length with h3|h3
  ·obtain⟨ii,rfl,_,hg⟩:=(hv.mono hle).at h3
   obtain⟨i,hgi,hm⟩:=hr.mono hle
   obtain⟨io',rr,e0',hbi,_,hrr,ho,hcl,hput⟩:=hs.put hw' (j:=j) (by rw[rowF_len];exact h3)
   injection e0' with e0'
   subst e0'
   have hput:=hput (xs[j]%p)
   rw[show xs[j]%p=(fun i=>xs.getD i 0%p) j by show _=xs.getD j 0%p;rw[getD_in h3],upF_step] at hput
   simp only[go_sem,q11,q12,q13,ltT h3]
   refine⟨by omega,by omega, ?_⟩
   simp only[go_sem,hg,q0,q5,q11,q12,q13,hgi]
   refine mRed_calls hm ?_
   simp only[go_sem,q0,q5,q11,q12,q13]
   refine⟨by omega,by omega, ?_⟩
   simp only[go_sem,hrr]
   refine⟨ho,hcl, ?_⟩
   simp only[go_sem,q0,q5,q11,q12,q13,incI (i:=j) (by omega)]
   have hxj:((xs[j]%p:Nat):Int)=(((fun i=>xs.getD i 0%p) j:Nat):Int):=by show _=((xs.getD j 0%p:Nat):Int);rw[getD_in h3]
   exact⟨by omega,H.wf_set hw' (H.row_lt hw' hrr) _,H.le_set hw hle hbi _,by first|rfl|trivial|assumption,by first|rfl|trivial|assumption,by first|rfl|trivial|assumption,by first|rfl|trivial|assumption,by first|rfl|trivial|assumption,by rw[hxj];exact hput⟩
  ·obtain rfl:j=xs.length:=by omega
   simp only[go_sem,q12,q13,ltF (Nat.le_refl xs.length)]
   rw[upF_all] at hs
   exact⟨hw',hle,q5,hs⟩
 rintro ρ h' ⟨hw',hle,q5,hs⟩
 simp only[go_sem,q5]
 refine ptrim_calls hs (by rw[rowF_len];omega) fun r ys hy ht hyl=> ?_
 simp only[go_sem]
 rw[rowF_len] at hyl
 exact fun _=>hk r ys h' hw' hle hy (ht.congr fun i=>by
  rw[rowF_getD]
  split
  ·rfl
  ·rw[getD_out (by omega),Nat.zero_mod]) hyl
end
end
section
def IsNl (h:H) (l:List AV) (xs:List Nat):Prop:=∃v,l=[v]∧IsN h v xs
theorem IsNl.grows:Grows IsNl:=by
 rintro h h' c x ⟨v,e,h1⟩ hl
 exact⟨v,e,h1.mono hl⟩
def sumL (p:Nat) (ls:List (List Nat)) (j i:Nat):Nat:=((ls.take j).map fun l=>l.getD i 0).sum%p
theorem sumL_succ {p:Nat} {ls:List (List Nat)} {j:Nat} (h:j<ls.length) (i:Nat):sumL p ls (j+1) i=(sumL p ls j i+ls[j].getD i 0)%p:=by
 unfold sumL
 rw[List.take_succ_eq_append_getElem h,List.map_append,List.sum_append,Nat.add_mod,Nat.add_mod (_%p),Nat.mod_mod]
 simp
def mxL (ls:List (List Nat)):Nat:=ls.foldl (fun n l=>max n l.length) 0
theorem mxL_succ {ls:List (List Nat)} {j:Nat} (h:j<ls.length):mxL (ls.take (j+1))=max (mxL (ls.take j)) ls[j].length:=by
 unfold mxL
 rw[List.take_succ_eq_append_getElem h,List.foldl_append]
 rfl
theorem mxL_bound {M:Nat}:∀(ls:List (List Nat)) (n:Nat),n≤M→(∀l∈ls,l.length≤M)→ls.foldl (fun n l=>max n l.length) n≤M
 |[],n,h,_=>h
 |l::ls,n,h,hl=>by
  rw[List.foldl_cons]
  exact mxL_bound ls _ (Nat.max_le.2 ⟨h,hl l (by simp)⟩) fun x hx=>hl x (by simp[hx])
theorem mxL_ge:∀(ls:List (List Nat)) (n:Nat),n≤ls.foldl (fun n l=>max n l.length) n∧∀l∈ls,l.length≤ls.foldl (fun n l=>max n l.length) n
 |[],n=>⟨Nat.le_refl _,by simp⟩
 |l::ls,n=>by
  obtain⟨h1,h2⟩:=mxL_ge ls (max n l.length)
  refine⟨by rw[List.foldl_cons];omega,fun x hx=> ?_⟩
  rw[List.foldl_cons]
  rcases List.mem_cons.1 hx with rfl|hx
  ·omega
  ·exact h2 x hx
section
variable {e p b x:Nat} {xs ys os:List Nat} {v va vb:AV} {h:H} {K:AV→H→Prop}
theorem pat_calls {j:Nat} (hv:IsN h v xs) (hk:K (.int .u64 (xs.getD j 0:Nat)) h):ACalls Tryd.prog 61 [v, .int .i64 (j:Int)] h K:=by
 obtain⟨id,off,c,rfl⟩:=hv.form
 refine in_polyp_at (by simp) fun hw=> ?_
 unfold c_polyp_at
 rcases Nat.lt_or_ge j xs.length with h1|h1
 ·obtain⟨i,rfl,_,hg⟩:=hv.at h1
  simp only[go_sem,ltT h1]
  refine⟨by omega,by omega, ?_⟩
  simp only[go_sem,hg]
  rw[getD_in h1] at hk
  exact fun _=>hk
 ·rw[getD_out h1] at hk
  simp only[go_sem,ltF h1]
  exact fun _=>hk
theorem mNeg_calls {i a:Nat} (hm:MW h i p) (hk:K (.int .u64 ((p-a%p)%p:Nat)) h):ACalls Tryd.prog 52 [.ptr (some (i,0)), .int .u64 (a:Int)] h K:=by
 refine in_modw_Mod_Neg (by simp) fun hw=> ?_
 unfold c_modw_Mod_Neg
 have:=hm.p0
 simp only[go_sem,hm.get.1,tmodN]
 refine⟨by omega, ?_⟩
 refine msub_calls (a:=0) hm (by omega) (Nat.mod_lt _ (by omega)) ?_
 rw[Nat.zero_add]
 simp only[go_sem]
 exact fun _=>hk
theorem pDeg_calls (hr:RG h e p) (hv:IsN h v xs) (hl:xs.length≤1000000) (hk:∀ys,TrimF (fun i=>xs.getD i 0%p) ys→K (.int .i64 ((ys.length:Int)-1)) h):ACalls Tryd.prog 42 [.ptr (some (e,0)),v] h K:=by
 obtain⟨id,off,c,rfl⟩:=hv.form
 obtain⟨i,hgi,hm⟩:=hr
 refine in_polyp_Ring_Deg (by simp) fun hw=> ?_
 unfold c_polyp_Ring_Deg
 simp only[go_sem]
 have hln:(rowF (fun i=>xs.getD i 0%p) xs.length).length=xs.length:=rowF_len
 refine⟨fun k ρ h2=>h2=h∧ρ 0= .ptr (some (e,0))∧ρ 1= .sl id off xs.length c∧ρ 5= .int .i64 (k:Int)∧k≤xs.length∧(∀x∈(rowF (fun i=>xs.getD i 0%p) xs.length).drop k,x=0),xs.length,⟨rfl,by first|rfl|trivial|assumption,by first|rfl|trivial|assumption,by first|rfl|trivial|assumption,Nat.le_refl _,by rw[List.drop_of_length_le (by omega)];simp⟩, ?_⟩
 rintro k ρ h2 ⟨rfl,q0,q1,q5,hk1,hz⟩
 have hcg:∀i,(rowF (fun i=>xs.getD i 0%p) xs.length).getD i 0=xs.getD i 0%p:=fun i=>by
  rw[rowF_getD]
  split
  ·rfl
  ·rw[getD_out (by omega),Nat.zero_mod]
 have e1:IntKind.i64.wrap ((k:Int)-1)=(k:Int)-1:=by rw[wI]<;>omega
 have fin:(∀x,((rowF (fun i=>xs.getD i 0%p) xs.length).take k).getLast? =some x→x≠0)→K (.int .i64 ((k:Int)-1)) h2:=fun hl=>by
  have h3:=hk _ ((TrimG.of (z:=0) hz hl).congr hcg)
  rw[List.length_take,hln,Nat.min_eq_left hk1] at h3
  exact h3
 rcases Nat.eq_zero_or_pos k with h0|h0
 ·subst h0
  simp only[go_sem,q5,e1,show decide ((0:Int)<((0:Nat):Int))=false from rfl]
  exact fun _=>fin (by simp)
 ·obtain⟨ii,rfl,_,hg⟩:=hv.at (j:=k-1) (by omega)
  have e2:IntKind.i64.wrap ((k:Int)-1)=((k-1:Nat):Int):=by rw[wI]<;>omega
  have hxk:(rowF (fun i=>xs.getD i 0%p) xs.length)[k-1]'(by omega)=xs[k-1]%p:=by
   rw[rowF_get (by omega),getD_in (by omega)]
  simp only[go_sem,q0,q1,q5,show decide ((0:Int)<(k:Int))=true from decide_eq_true (by omega),e2,hgi]
  refine⟨by omega,by omega, ?_⟩
  simp only[go_sem,hg]
  refine mRed_calls hm ?_
  by_cases hx:xs[k-1]%p=0
  ·simp only[go_sem,show(((xs[k-1]%p:Nat):Int)==0)=true by rw[hx];rfl,q0,q1,q5,e2]
   refine⟨k-1,by omega,by first|rfl|trivial|assumption,by first|rfl|trivial|assumption,by first|rfl|trivial|assumption,by first|rfl|trivial|assumption,by omega,fun x hm=> ?_⟩
   rw[List.drop_eq_getElem_cons (by omega)] at hm
   rcases List.mem_cons.1 hm with rfl|hm
   ·rw[hxk];exact hx
   ·exact hz x (by rwa[show k-1+1=k from by omega] at hm)
  ·simp only[go_sem,show(((xs[k-1]%p:Nat):Int)==0)=false from eqF (by omega),q0,q1,q5,e1]
   refine fun _=>fin fun x hl=> ?_
   rw[List.getLast?_eq_getElem?,List.length_take,hln,Nat.min_eq_left hk1,List.getElem?_take,if_pos (by omega),List.getElem?_eq_getElem (by omega)] at hl
   injection hl with hl
   omega
theorem pSame_calls (hr:RG h e p) (ha:IsN h va xs) (hb:IsN h vb ys) (hlx:xs.length≤1000000) (hly:ys.length≤1000000) (hk:∀s:Bool,(s=true↔∀i,xs.getD i 0%p=ys.getD i 0%p)→K (.bool s) h):ACalls Tryd.prog 43 [.ptr (some (e,0)),va,vb] h K:=by
 obtain⟨id,off,c,rfl⟩:=ha.form
 obtain⟨id2,off2,c2,rfl⟩:=hb.form
 obtain⟨i,hgi,hm⟩:=hr
 have hp:=hm.p0
 refine in_polyp_Ring_Same (by simp) fun hw=> ?_
 unfold c_polyp_Ring_Same
 simp only[go_sem]
 refine for_rule (fun j ρ h'=>j≤max xs.length ys.length∧h'=h∧ρ 0= .ptr (some (e,0))∧ρ 1= .sl id off xs.length c∧ρ 2= .sl id2 off2 ys.length c2∧ρ 7= .int .i64 (j:Int)∧∀i,i<j→xs.getD i 0%p=ys.getD i 0%p) (max xs.length ys.length) ⟨by omega,rfl,by first|rfl|trivial|assumption,by first|rfl|trivial|assumption,by first|rfl|trivial|assumption,by first|rfl|trivial|assumption,fun i hi=>by omega⟩ (fun i ρ h hI=>hI.1) ?_
 rintro j ρ h' ⟨hj,rfl,q0,q1,q2,q7,hs⟩
 rcases Nat.lt_or_ge j xs.length with h1|h1
 ·simp only[go_sem,q0,q1,q2,q7,ltT h1,hgi]
  refine pat_calls ha ?_
  simp only[go_sem,q0,q1,q2,q7,hgi,true_and]
  refine mP_calls hm ?_
  simp only[go_sem,q0,q1,q2,q7,hgi,true_and,tmodN]
  refine⟨by omega, ?_⟩
  refine pat_calls hb ?_
  simp only[go_sem,q0,q1,q2,q7,hgi,true_and]
  refine mP_calls hm ?_
  by_cases he:xs.getD j 0%p=ys.getD j 0%p
  ·simp only[go_sem,q0,q1,q2,q7,tmodN,neF (show((xs.getD j 0%p:Nat):Int)=(ys.getD j 0%p:Nat) by rw[he]),incI (i:=j) (by omega)]
   exact⟨by omega,by omega,by first|rfl|trivial|assumption,by first|rfl|trivial|assumption,by first|rfl|trivial|assumption,by first|rfl|trivial|assumption,by first|rfl|trivial|assumption,fun i hi=>by
    rcases Nat.lt_or_ge i j with h3|h3
    ·exact hs i h3
    ·obtain rfl:i=j:=by omega
     exact he⟩
  ·simp only[go_sem,q0,q1,q2,q7,tmodN,neT (show((xs.getD j 0%p:Nat):Int)≠(ys.getD j 0%p:Nat) by omega)]
   exact⟨by omega,fun _=>hk false ⟨(fun h=>by cases h),fun h=>absurd (h j) he⟩⟩
 rcases Nat.lt_or_ge j ys.length with h2|h2
 ·simp only[go_sem,q0,q1,q2,q7,ltF h1,ltT h2,hgi]
  refine pat_calls ha ?_
  simp only[go_sem,q0,q1,q2,q7,hgi,true_and]
  refine mP_calls hm ?_
  simp only[go_sem,q0,q1,q2,q7,hgi,true_and,tmodN]
  refine⟨by omega, ?_⟩
  refine pat_calls hb ?_
  simp only[go_sem,q0,q1,q2,q7,hgi,true_and]
  refine mP_calls hm ?_
  by_cases he:xs.getD j 0%p=ys.getD j 0%p
  ·simp only[go_sem,q0,q1,q2,q7,tmodN,neF (show((xs.getD j 0%p:Nat):Int)=(ys.getD j 0%p:Nat) by rw[he]),incI (i:=j) (by omega)]
   exact⟨by omega,by omega,by first|rfl|trivial|assumption,by first|rfl|trivial|assumption,by first|rfl|trivial|assumption,by first|rfl|trivial|assumption,by first|rfl|trivial|assumption,fun i hi=>by
    rcases Nat.lt_or_ge i j with h3|h3
    ·exact hs i h3
    ·obtain rfl:i=j:=by omega
     exact he⟩
  ·simp only[go_sem,q0,q1,q2,q7,tmodN,neT (show((xs.getD j 0%p:Nat):Int)≠(ys.getD j 0%p:Nat) by omega)]
   exact⟨by omega,fun _=>hk false ⟨(fun h=>by cases h),fun h=>absurd (h j) he⟩⟩
 ·simp only[go_sem,q0,q1,q2,q7,ltF h1,ltF h2]
  exact fun _=>hk true ⟨fun _ i=>by
   rcases Nat.lt_or_ge i j with h3|h3
   ·exact hs i h3
   ·rw[getD_out (by omega),getD_out (by omega)],fun _=>rfl⟩
theorem pScale_calls (hr:RG h e p) (hv:IsN h v xs) (hl:xs.length≤1000000) (hk:∀r ys h',h'.wf→h.le h'→IsG h.next h' r ys→TrimF (fun i=>xs.getD i 0*x%p) ys→ys.length≤xs.length→K r h'):ACalls Tryd.prog 37 [.ptr (some (e,0)),v, .int .u64 (x:Int)] h K:=by
 obtain⟨id,off,c,rfl⟩:=hv.form
 refine in_polyp_Ring_Scale (by simp) fun hw=> ?_
 unfold c_polyp_Ring_Scale
 simp only[go_sem]
 refine⟨by omega,by omega,by omega, ?_⟩
 have hl2:=H.le_new hw (H.le_refl h) ⟨some 22,1,zs [AV.int .u64 0] xs.length⟩
 refine loop_cut (fun ρ h'=>h'.wf∧h.le h'∧ρ 7= .sl (some h.next) 0 xs.length (some xs.length)∧IsG h.next h' (.sl (some h.next) 0 xs.length (some xs.length)) (rowF (fun i=>xs.getD i 0*x%p) xs.length)) ?_ ?_
 ·refine for_rule (fun j ρ h'=>j≤xs.length∧h'.wf∧h.le h'∧ρ 0= .ptr (some (e,0))∧ρ 2= .int .u64 (x:Int)∧ρ 7= .sl (some h.next) 0 xs.length (some xs.length)∧ρ 13= .sl id off xs.length c∧ρ 14= .int .i64 (xs.length:Int)∧ρ 15= .int .i64 (j:Int)∧IsG h.next h' (.sl (some h.next) 0 xs.length (some xs.length)) (rowF (upF (fun i=>xs.getD i 0*x%p) 0 j) xs.length)) xs.length
   ⟨by omega,H.wf_new hw _,hl2,by first|rfl|trivial|assumption,by first|rfl|trivial|assumption,by first|rfl|trivial|assumption,by first|rfl|trivial|assumption,by first|rfl|trivial|assumption,by first|rfl|trivial|assumption,by rw[upF_zero];exact IsG.made (Nat.le_refl _) _⟩ (fun i ρ h hI=>hI.1) ?_
  rintro j ρ h' ⟨hj,hw',hle,q0,q2,q7,q13,q14,q15,hs⟩
  rcases Nat.lt_or_ge j xs.length with h3|h3
  ·obtain⟨ii,rfl,_,hg⟩:=(hv.mono hle).at h3
   obtain⟨i,hgi,hm⟩:=hr.mono hle
   obtain⟨io',rr,e0',hbi,_,hrr,ho,hcl,hput⟩:=hs.put hw' (j:=j) (by rw[rowF_len];exact h3)
   injection e0' with e0'
   subst e0'
   have hput:=hput ((fun i=>xs.getD i 0*x%p) j)
   rw[upF_step] at hput
   have hxj:xs[j]=xs.getD j 0:=(getD_in h3).symm
   rw[hxj] at hg
   simp only[go_sem,q13,q14,q15,ltT h3]
   refine⟨by omega,by omega, ?_⟩
   simp only[go_sem,hg,q0,q2,q7,q13,q14,q15,hgi]
   refine mMul_calls hm ?_
   simp only[go_sem,q0,q2,q7,q13,q14,q15]
   refine⟨by omega,by omega, ?_⟩
   simp only[go_sem,hrr]
   refine⟨ho,hcl, ?_⟩
   simp only[go_sem,q0,q2,q7,q13,q14,q15,incI (i:=j) (by omega)]
   exact⟨by omega,H.wf_set hw' (H.row_lt hw' hrr) _,H.le_set hw hle hbi _,by first|rfl|trivial|assumption,by first|rfl|trivial|assumption,by first|rfl|trivial|assumption,by first|rfl|trivial|assumption,by first|rfl|trivial|assumption,by first|rfl|trivial|assumption,hput⟩
  ·obtain rfl:j=xs.length:=by omega
   simp only[go_sem,q14,q15,ltF (Nat.le_refl xs.length)]
   rw[upF_all] at hs
   exact⟨hw',hle,q7,hs⟩
 rintro ρ h' ⟨hw',hle,q7,hs⟩
 simp only[go_sem,q7]
 refine ptrim_calls hs (by rw[rowF_len];omega) fun r ys hy ht hyl=> ?_
 simp only[go_sem]
 rw[rowF_len] at hyl
 exact fun _=>hk r ys h' hw' hle hy (ht.congr fun i=>by
  rw[rowF_getD]
  split
  ·rfl
  ·rw[getD_out (by omega),Nat.zero_mul,Nat.zero_mod]) hyl
theorem pMinus_calls (hr:RG h e p) (ha:IsN h va xs) (hb:IsN h vb ys) (hlx:xs.length≤1000000) (hly:ys.length≤1000000) (hk:∀r zs h',h'.wf→h.le h'→IsG h.next h' r zs→TrimF (fun i=>(xs.getD i 0%p+p-ys.getD i 0%p)%p) zs→zs.length≤max xs.length ys.length→K r h'):ACalls Tryd.prog 35 [.ptr (some (e,0)),va,vb] h K:=by
 obtain⟨id,off,c,rfl⟩:=ha.form
 obtain⟨id2,off2,c2,rfl⟩:=hb.form
 refine in_polyp_Ring_Minus (by simp) fun hw=> ?_
 unfold c_polyp_Ring_Minus
 obtain⟨n,hn⟩:∃n,n=max xs.length ys.length:=⟨_,rfl⟩
 simp only[go_sem,maxN,←hn]
 refine⟨by omega,by omega,by omega, ?_⟩
 have hl2:=H.le_new hw (H.le_refl h) ⟨some 22,1,zs [AV.int .u64 0] n⟩
 refine loop_cut (fun ρ h'=>h'.wf∧h.le h'∧ρ 7= .sl (some h.next) 0 n (some n)∧IsG h.next h' (.sl (some h.next) 0 n (some n)) (rowF (fun i=>(xs.getD i 0%p+p-ys.getD i 0%p)%p) n)) ?_ ?_
 ·refine for_rule (fun j ρ h'=>j≤n∧h'.wf∧h.le h'∧ρ 0= .ptr (some (e,0))∧ρ 1= .sl id off xs.length c∧ρ 2= .sl id2 off2 ys.length c2∧ρ 7= .sl (some h.next) 0 n (some n)∧ρ 16= .int .i64 (n:Int)∧ρ 17= .int .i64 (j:Int)∧IsG h.next h' (.sl (some h.next) 0 n (some n)) (rowF (upF (fun i=>(xs.getD i 0%p+p-ys.getD i 0%p)%p) 0 j) n)) n
   ⟨by omega,H.wf_new hw _,hl2,by first|rfl|trivial|assumption,by first|rfl|trivial|assumption,by first|rfl|trivial|assumption,by first|rfl|trivial|assumption,by first|rfl|trivial|assumption,by first|rfl|trivial|assumption,by rw[upF_zero];exact IsG.made (Nat.le_refl _) _⟩ (fun i ρ h hI=>hI.1) ?_
  rintro j ρ h' ⟨hj,hw',hle,q0,q1,q2,q7,q16,q17,hs⟩
  rcases Nat.lt_or_ge j n with h3|h3
  ·obtain⟨i,hgi,hm⟩:=hr.mono hle
   obtain⟨io',rr,e0',hbi,_,hrr,ho,hcl,hput⟩:=hs.put hw' (j:=j) (by rw[rowF_len];exact h3)
   injection e0' with e0'
   subst e0'
   have hput:=hput ((fun i=>(xs.getD i 0%p+p-ys.getD i 0%p)%p) j)
   rw[upF_step] at hput
   simp only[go_sem,q0,q1,q2,q7,q16,q17,ltT h3,hgi]
   refine pat_calls (ha.mono hle) ?_
   simp only[go_sem,q0,q1,q2,q7,q16,q17,hgi,true_and]
   refine pat_calls (hb.mono hle) ?_
   simp only[go_sem,q0,q1,q2,q7,q16,q17,hgi,true_and]
   refine mSub_calls hm ?_
   simp only[go_sem,q0,q1,q2,q7,q16,q17]
   refine⟨by omega,by omega, ?_⟩
   simp only[go_sem,hrr]
   refine⟨ho,hcl, ?_⟩
   simp only[go_sem,q0,q1,q2,q7,q16,q17,incI (i:=j) (by omega)]
   exact⟨by omega,H.wf_set hw' (H.row_lt hw' hrr) _,H.le_set hw hle hbi _,by first|rfl|trivial|assumption,by first|rfl|trivial|assumption,by first|rfl|trivial|assumption,by first|rfl|trivial|assumption,by first|rfl|trivial|assumption,by first|rfl|trivial|assumption,hput⟩
  ·obtain rfl:j=n:=by omega
   simp only[go_sem,q16,q17,ltF (Nat.le_refl j)]
   rw[upF_all] at hs
   exact⟨hw',hle,q7,hs⟩
 rintro ρ h' ⟨hw',hle,q7,hs⟩
 simp only[go_sem,q7]
 refine ptrim_calls hs (by rw[rowF_len];omega) fun r zs hy ht hyl=> ?_
 simp only[go_sem]
 rw[rowF_len] at hyl
 exact fun _=>hk r zs h' hw' hle hy (ht.congr fun i=>by
  rw[rowF_getD]
  split
  ·rfl
  ·obtain⟨_,_,hm⟩:=hr
   rw[getD_out (by omega),getD_out (by omega),Nat.zero_mod,Nat.zero_add,Nat.sub_zero,Nat.mod_self]) (by omega)
theorem pvalue_calls (hr:RG h e p) (hv:IsN h v xs) (hl:xs.length≤1000000) (hk:K (.int .u64 (val x xs%p:Nat)) h):ACalls Tryd.prog 54 [.ptr (some (e,0)),v, .int .u64 (x:Int)] h K:=by
 obtain⟨id,off,c,rfl⟩:=hv.form
 obtain⟨i,hgi,hm⟩:=hr
 refine in_polyp_Ring_value (by simp) fun hw=> ?_
 unfold c_polyp_Ring_value
 have e0:IntKind.i64.wrap ((xs.length:Int)-1)=(xs.length:Int)-1:=wI (by omega) (by omega)
 simp only[go_sem,e0]
 refine for_rule (fun j ρ h'=>j≤xs.length∧h'=h∧ρ 0= .ptr (some (e,0))∧ρ 1= .sl id off xs.length c∧ρ 2= .int .u64 (x:Int)∧ρ 7= .int .u64 (val x (xs.drop (xs.length-j))%p:Nat)∧ρ 8= .int .i64 ((xs.length:Int)-1-(j:Int))) xs.length
  ⟨by omega,rfl,by first|rfl|trivial|assumption,by first|rfl|trivial|assumption,by first|rfl|trivial|assumption,by rw[Nat.sub_zero,List.drop_length];rfl,by rw[show(xs.length:Int)-1-((0:Nat):Int)=(xs.length:Int)-1 by omega];rfl⟩ (fun i ρ h hI=>hI.1) ?_
 rintro j ρ h' ⟨hj,rfl,q0,q1,q2,q7,q8⟩
 rcases Nat.lt_or_ge j xs.length with h3|h3
 ·obtain⟨k,hkk⟩:∃k,k=xs.length-1-j:=⟨_,rfl⟩
  have ei:(xs.length:Int)-1-(j:Int)=(k:Int):=by omega
  rw[ei] at q8
  have hkl:k<xs.length:=by omega
  obtain⟨ii,rfl,_,hg⟩:=hv.at hkl
  have hd1:xs.length-j=k+1:=by omega
  have hd2:xs.length-(j+1)=k:=by omega
  have hv1:(val x (xs.drop (k+1))%p*x%p+xs[k])%p=val x (xs.drop k)%p:=by
   rw[List.drop_eq_getElem_cons hkl,val,Nat.add_mod,Nat.mod_mod,Nat.mul_mod,Nat.mod_mod,←Nat.mul_mod,←Nat.add_mod,Nat.add_comm,Nat.mul_comm]
  rw[hd1] at q7
  have e6:IntKind.i64.wrap ((k:Int)-1)=(xs.length:Int)-1-((j+1:Nat):Int):=by rw[wI]<;>omega
  simp only[go_sem,q0,q1,q2,q7,q8,show decide ((0:Int)≤(k:Int))=true from decide_eq_true (by omega),hgi]
  refine⟨by omega,by omega, ?_⟩
  simp only[go_sem,hg,q0,q1,q2,q7,q8,hgi]
  refine mMul_calls hm ?_
  simp only[go_sem,hg,q0,q1,q2,q7,q8,hgi,true_and]
  refine mAdd_calls hm ?_
  rw[hv1]
  simp only[go_sem,q0,q1,q2,q7,q8,e6]
  exact⟨by omega,by first|rfl|trivial|assumption,by first|rfl|trivial|assumption,by first|rfl|trivial|assumption,by first|rfl|trivial|assumption,by rw[hd2],by first|rfl|trivial|assumption⟩
 ·obtain rfl:j=xs.length:=by omega
  rw[Nat.sub_self,List.drop_zero] at q7
  simp only[go_sem,q7,q8,show decide ((0:Int)≤(xs.length:Int)-1-(xs.length:Int))=false from decide_eq_false (by omega)]
  exact fun _=>hk
theorem pAt_calls (hr:RG h e p) (hv:IsN h va xs) (hu:IsN h vb ys) (hl:xs.length≤1000000) (hly:ys.length≤1000000) (hk:∀r h',h'.wf→h.le h'→IsG h.next h' r (ys.map fun x=>val x xs%p)→K r h'):ACalls Tryd.prog 26 [.ptr (some (e,0)),va,vb] h K:=by
 obtain⟨id,off,c,rfl⟩:=hv.form
 obtain⟨id2,off2,c2,rfl⟩:=hu.form
 refine in_polyp_Ring_At (by simp) fun hw=> ?_
 unfold c_polyp_Ring_At
 simp only[go_sem]
 refine for_rule (fun j ρ h'=>j≤ys.length∧h'.wf∧h.le h'∧ρ 0= .ptr (some (e,0))∧ρ 1= .sl id off xs.length c∧ρ 10= .sl id2 off2 ys.length c2∧ρ 11= .int .i64 (ys.length:Int)∧ρ 12= .int .i64 (j:Int)∧IsG h.next h' (ρ 7) ((ys.take j).map fun x=>val x xs%p)) ys.length
  ⟨by omega,hw,H.le_refl _,by first|rfl|trivial|assumption,by first|rfl|trivial|assumption,by first|rfl|trivial|assumption,by first|rfl|trivial|assumption,by first|rfl|trivial|assumption,IsF.nil _ _ _ _ _⟩ (fun i ρ h hI=>hI.1) ?_
 rintro j ρ h' ⟨hj,hw',hle,q0,q1,q10,q11,q12,hs⟩
 rcases Nat.lt_or_ge j ys.length with h3|h3
 ·obtain⟨ii,rfl,_,hg⟩:=(hu.mono hle).at h3
  simp only[go_sem,q0,q1,q10,q11,q12,ltT h3]
  refine⟨by omega,by omega, ?_⟩
  simp only[go_sem,hg,q0,q1,q10,q11,q12]
  refine pvalue_calls (hr.mono hle) (hv.mono hle) hl ?_
  simp only[go_sem,q0,q1,q10,q11,q12,show∀m:Int,abuild (zs [.int .u64 0] 1) [(0*1,1, .int .u64 m)]=some [.int .u64 m] from fun m=>rfl]
  refine app_lit [val ys[j] xs%p] hw hw' hle hs rfl rfl (by simp;omega) fun r g hwg hlg hrg=> ?_
  simp only[go_sem,q0,q1,q10,q11,q12,incI (i:=j) (by omega)]
  exact⟨by omega,hwg,hlg,by first|rfl|trivial|assumption,by first|rfl|trivial|assumption,by first|rfl|trivial|assumption,by first|rfl|trivial|assumption,by first|rfl|trivial|assumption,by rw[List.take_succ_eq_append_getElem h3,List.map_append];exact hrg⟩
 ·obtain rfl:j=ys.length:=by omega
  rw[List.take_length] at hs
  simp only[go_sem,q11,q12,ltF (Nat.le_refl ys.length)]
  exact fun _=>hk _ h' hw' hle hs
theorem pDerive_calls (hr:RG h e p) (hv:IsN h v xs) (hl:xs.length≤1000000) (hk:∀r ys h',h'.wf→h.le h'→IsG h.next h' r ys→TrimF (fun i=>drv (fun i=>xs.getD i 0) i%p) ys→ys.length≤xs.length→K r h'):ACalls Tryd.prog 29 [.ptr (some (e,0)),v] h K:=by
 obtain⟨id,off,c,rfl⟩:=hv.form
 refine in_polyp_Ring_Derive (by simp) fun hw=> ?_
 unfold c_polyp_Ring_Derive
 rcases Nat.eq_zero_or_pos xs.length with h0|h0
 ·have:xs=[]:=List.eq_nil_of_length_eq_zero h0
  subst this
  simp only[go_sem,show(((([]:List Nat).length:Nat):Int)==0)=true from rfl]
  exact fun hw'=>hk _ [] h hw' (H.le_refl h) (IsF.nil _ _ _ _ _) ⟨fun i=>by
   show([]:List Nat).getD i 0=(i+1)*([]:List Nat).getD (i+1) 0%p
   rw[getD_out (Nat.zero_le _),getD_out (Nat.zero_le _),Nat.mul_zero,Nat.zero_mod],by simp⟩ (Nat.le_refl _)
 obtain⟨n,hn⟩:∃n,xs.length=n+1:=⟨xs.length-1,by omega⟩
 have e0:IntKind.i64.wrap ((xs.length:Int)-1)=(n:Int):=by rw[wI]<;>omega
 simp only[go_sem,eqF (show(xs.length:Int)≠0 by omega),e0]
 refine⟨by omega,by omega,by omega, ?_⟩
 have hl2:=H.le_new hw (H.le_refl h) ⟨some 22,1,zs [AV.int .u64 0] n⟩
 refine loop_cut (fun ρ h'=>h'.wf∧h.le h'∧ρ 5= .sl (some h.next) 0 n (some n)∧IsG h.next h' (.sl (some h.next) 0 n (some n)) (rowF (fun i=>drv (fun i=>xs.getD i 0) i%p) n)) ?_ ?_
 ·refine for_rule (fun j ρ h'=>j≤n∧h'.wf∧h.le h'∧ρ 0= .ptr (some (e,0))∧ρ 1= .sl id off xs.length c∧ρ 5= .sl (some h.next) 0 n (some n)∧ρ 15= .int .i64 (n:Int)∧ρ 16= .int .i64 (j:Int)∧IsG h.next h' (.sl (some h.next) 0 n (some n)) (rowF (upF (fun i=>drv (fun i=>xs.getD i 0) i%p) 0 j) n)) n
   ⟨by omega,H.wf_new hw _,hl2,by first|rfl|trivial|assumption,by first|rfl|trivial|assumption,by first|rfl|trivial|assumption,by first|rfl|trivial|assumption,by first|rfl|trivial|assumption,by rw[upF_zero];exact IsG.made (Nat.le_refl _) _⟩ (fun i ρ h hI=>hI.1) ?_
  rintro j ρ h' ⟨hj,hw',hle,q0,q1,q5,q15,q16,hs⟩
  rcases Nat.lt_or_ge j n with h3|h3
  ·obtain⟨ii,rfl,_,hg⟩:=(hv.mono hle).at (j:=j+1) (by omega)
   obtain⟨i,hgi,hm⟩:=hr.mono hle
   obtain⟨io',rr,e0',hbi,_,hrr,ho,hcl,hput⟩:=hs.put hw' (j:=j) (by rw[rowF_len];exact h3)
   injection e0' with e0'
   subst e0'
   have hput:=hput ((fun i=>drv (fun i=>xs.getD i 0) i%p) j)
   rw[upF_step] at hput
   have hxj:drv (fun i=>xs.getD i 0) j=xs[j+1]'(by omega)*(j+1):=by
    show(j+1)*xs.getD (j+1) 0=_
    rw[getD_in (by omega),Nat.mul_comm]
   simp only[go_sem,q0,q1,q5,q15,q16,ltT h3,hgi,incI (i:=j) (by omega)]
   refine⟨by omega,by omega, ?_⟩
   simp only[go_sem,hg,q0,q1,q5,q15,q16,hgi,incI (i:=j) (by omega),wUn (x:=j+1) (by omega)]
   refine mMul_calls hm ?_
   rw[←hxj]
   simp only[go_sem,q0,q1,q5,q15,q16]
   refine⟨by omega,by omega, ?_⟩
   simp only[go_sem,hrr]
   refine⟨ho,hcl, ?_⟩
   simp only[go_sem,q0,q1,q5,q15,q16,incI (i:=j) (by omega)]
   exact⟨by omega,H.wf_set hw' (H.row_lt hw' hrr) _,H.le_set hw hle hbi _,by first|rfl|trivial|assumption,by first|rfl|trivial|assumption,by first|rfl|trivial|assumption,by first|rfl|trivial|assumption,by first|rfl|trivial|assumption,hput⟩
  ·obtain rfl:j=n:=by omega
   simp only[go_sem,q15,q16,ltF (Nat.le_refl j)]
   rw[upF_all] at hs
   exact⟨hw',hle,q5,hs⟩
 rintro ρ h' ⟨hw',hle,q5,hs⟩
 simp only[go_sem,q5]
 refine ptrim_calls hs (by rw[rowF_len];omega) fun r zs hy ht hyl=> ?_
 simp only[go_sem]
 rw[rowF_len] at hyl
 exact fun _=>hk r zs h' hw' hle hy (ht.congr fun i=>by
  rw[rowF_getD]
  split
  ·rfl
  ·show 0=(i+1)*xs.getD (i+1) 0%p
   rw[getD_out (by omega),Nat.mul_zero,Nat.zero_mod]) (by omega)
end
end
end Ab
end Go.Proofs.YtkbglkjpdndkiaaDoor
