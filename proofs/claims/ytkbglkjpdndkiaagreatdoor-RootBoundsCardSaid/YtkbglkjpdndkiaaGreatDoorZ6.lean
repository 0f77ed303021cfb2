/- Joined texts: C6 M7 G1 G2 G5 G7 G8 G9. No condition. -/
import Derived.Test.YtkbglkjpdndkiaaGreatDoorZ5
import Derived.Test.YtkbglkjpdndkiaaGreatDoorProg
import Derived.KernelRfl
namespace Go.Proofs.YtkbglkjpdndkiaaGreatDoor
namespace Ab
open Go Go.RowKit
set_option linter.unusedSimpArgs false
set_option linter.unusedVariables false
attribute [local go_sem ↓] x_mv x_pick x_bin x_beq x_peq x_seq x_cat x_aeq x_idxS x_idxV x_un x_cvI x_bts x_idx x_idxA x_fld x_ld x_st x_nn x_prt x_slc x_mk x_bsl x_bld x_box x_alloc x_len x_capo x_mnx x_app x_cpy x_mkf x_ext x_call x_callV x_bad s_none s_some s_nil s_cons s_chks w_skip w_reg tP_fin tP_no tP_alt w_seq w_cond w_block w_exit w_ret t_normal t_exit t_ret b_normal b_ret b_exit n_normal n_exit n_ret p_normal p_ret f_nil f_t f_c k_ops k_chk k_fin
attribute [local go_sem] e_t e_c e_f u_some u_none u_at env_at k_v k_pick k_add k_sub k_mul k_quo k_rem k_and k_or k_xor k_shl k_shr k_eql k_neq k_lss k_leq k_gtr k_geq k_beq k_peqn k_peqs k_neg k_not k_com k_cvI k_idxS k_idxV1 k_idxVn k_idx k_idxA k_idxG k_ldG k_gld k_seq k_cat k_aeq k_eqs k_fld k_ld1 k_ldn k_get k_gets k_sti k_stb k_stp k_sts k_stf k_sta k_put k_nn k_prt1 k_prtn k_slc_a k_slc_b k_slc_c k_mk k_agg k_bsl k_box k_len k_lenS k_cap k_max k_min k_ext k_callV k_true k_false k_gtt k_gtf k_gft k_gsk k_gff k_lit1i k_lit2i k_lit3i k_c0 k_c1 k_ck List.getElem?_cons_zero List.getElem?_cons_succ List.getElem?_nil Option.getD_some Option.getD_none tupOf List.map_cons List.map_nil Option.map_some Option.map_none List.nil_append List.cons_append List.append_nil Nat.mul_one Int.toNat_natCast Nat.zero_add
attribute [local go_sem] e_t e_c e_f u_some u_none u_at env_at k_v k_pick k_add k_sub k_mul k_quo k_rem k_and k_or k_xor k_shl k_shr k_eql k_neq k_lss k_leq k_gtr k_geq k_beq k_peqn k_peqs k_neg k_not k_com k_cvI k_idxS k_idxV1 k_idxVn k_idx k_idxA k_idxG k_ldG k_gld k_seq k_cat k_aeq k_eqs k_fld k_ld1 k_ldn k_get k_gets k_sti k_stb k_stp k_sts k_stf k_sta k_put k_nn k_prt1 k_prtn k_slc_a k_slc_b k_slc_c k_mk k_agg k_bsl k_box k_len k_lenS k_cap k_max k_min k_ext k_callV k_true k_false k_gtt k_gtf k_gft k_gsk k_gff k_lit1i k_lit2i k_lit3i k_c0 k_c1 k_ck List.getElem?_cons_zero List.getElem?_cons_succ List.getElem?_nil Option.getD_some Option.getD_none tupOf List.map_cons List.map_nil Option.map_some Option.map_none List.nil_append List.cons_append List.append_nil Nat.mul_one Int.toNat_natCast Nat.zero_add
--what a store into a cell of two leaves
attribute [local go_sem_proc] Nat.reduceEqDiff Nat.reduceAdd Int.reduceToNat
attribute [local go_sem_proc ↓] reduceIte
attribute [local go_sem] Bool.false_eq_true
section
open Go
def c_divs_Engine_Long:AC:= .seq (.reg [o 6 (.mv (.c (.sl none 0 0 none))),o 7 (.mv (.c (.sl none 0 0 none))),o 8 (.mv (i64 0))]) (.seq (.reg [mv 21 1,o 22 (.call 62 [.t 21]),mv 23 2,o 24 (.call 62 [.t 23]),mv 9 22,mv 10 24]) (.seq (.seq (.reg [mv 25 10,o 26 (.bin .eql (.t 25) (i64 0))]) (.cond (.t 26) (.seq (.reg [o 6 (.mv (.c (.sl none 0 0 none))),o 7 (.mv (.c (.sl none 0 0 none))),o 8 (.mv (i64 2))]) .ret) .skip)) (.seq (.seq (.reg [mv 27 9,mv 28 10,bn 29 .lss 27 28]) (.cond (.t 29) (.seq (.reg [mv 30 1,o 31 (.call 63 [.t 30]),o 6 (.mv (.c (.sl none 0 0 none))),mv 7 31,o 8 (.mv (i64 0))]) .ret) .skip)) (.seq (.reg [mv 32 0,o 33 (.nn (.t 32)),o 34 (.fld 0 (.t 33)),o 35 (.ld none (.t 34)),o 36 (.nn (.t 35)),o 37 (.fld 0 (.t 36)),o 38 (.ld none (.t 37)),o 39 (.nn (.t 38)),o 40 (.fld 0 (.t 39)),o 41 (.ld none (.t 40)),o 42 (.nn (.t 41)),o 43 (.fld 0 (.t 42)),o 44 (.ld none (.t 43)),o 45 (.nn (.t 44)),o 46 (.fld 0 (.t 45)),o 47 (.ld none (.t 46)),o 48 (.nn (.t 47)),o 49 (.fld 0 (.t 48)),mv 50 9,mv 51 10,bn 52 .sub 50 51,o 53 (.bin .add (.t 52) (i64 1)),mv 54 10,o 55 (.bin .add (.t 54) (i64 1)),bn 56 .mul 53 55,o 57 (.call 101 [.t 49, .t 56])]) (.seq (.seq (.reg [mv 58 10,o 59 (.bin .eql (.t 58) (i64 1))]) (.cond (.t 59) (.seq (.reg [mv 61 1,mv 62 2,o 63 (.idx 1 (.t 62) (i64 0)),o 64 (.ld none (.t 63)),o 65 (.call 69 [.t 61, .t 64]),mv 60 65,o 66 (.ext (.t 60) 0),o 67 (.ext (.t 60) 1),o 68 (.ext (.t 60) 2),mv 11 66,mv 12 67,mv 13 68]) (.seq (.reg [mv 69 11,mv 70 12,o 71 (.call 65 [.t 70]),mv 6 69,mv 7 71,o 8 (.mv (i64 0))]) .ret)) .skip)) (.seq (.reg [mv 72 2,mv 73 10,o 74 (.bin .sub (.t 73) (i64 1)),o 75 (.idx 1 (.t 72) (.t 74)),o 76 (.ld none (.t 75)),o 77 (.call 102 [.t 76]),mv 14 77]) (.seq (.reg [mv 78 2,mv 79 14,o 80 (.call 66 [.t 78, .t 79]),mv 15 80]) (.seq (.reg [mv 81 9,o 82 (.bin .add (.t 81) (i64 1)),o 83 (.mk 73 1 8 [.int .u64 0] (.t 82) (.t 82)),mv 16 83]) (.seq (.reg [mv 84 16,mv 85 1,mv 86 14,o 87 (.call 66 [.t 85, .t 86]),o 88 (.cpy 1 (.t 84) (.t 87))]) (.seq (.reg [mv 90 15,mv 91 10,o 92 (.bin .sub (.t 91) (i64 1)),o 93 (.idx 1 (.t 90) (.t 92)),o 94 (.ld none (.t 93)),mv 95 15,mv 96 10,o 97 (.bin .sub (.t 96) (i64 2)),o 98 (.idx 1 (.t 95) (.t 97)),o 99 (.ld none (.t 98)),o 100 (.call 103 [.t 94, .t 99]),mv 89 100,o 101 (.ext (.t 89) 0),o 102 (.ext (.t 89) 1),mv 17 101,mv 18 102]) (.seq (.reg [mv 103 9,mv 104 10,bn 105 .sub 103 104,o 106 (.bin .add (.t 105) (i64 1)),o 107 (.mk 73 1 8 [.int .u64 0] (.t 106) (.t 106)),mv 19 107]) (.seq (.seq (.reg [mv 108 9,mv 109 10,bn 110 .sub 108 109,mv 20 110]) (.block 0 (.loop (.seq (.seq (.reg [mv 111 20,o 112 (.bin .geq (.t 111) (i64 0))]) (.cond (.t 112) .skip (.exit 0))) (.seq (.block 1 (.reg [mv 115 19,mv 116 20,mv 117 16,mv 118 20,mv 119 20,mv 120 10,bn 121 .add 119 120,o 122 (.bin .add (.t 121) (i64 1)),o 123 (.slc 1 (.t 117) (some (.t 118)) (some (.t 122))),mv 124 15,mv 125 17,o 126 (.call 104 [.t 123, .t 124, .t 125]),o 127 (.idx 1 (.t 115) (.t 116)),od (.st 1 (.t 127) (.t 126))])) (.reg [mv 113 20,o 114 (.bin .sub (.t 113) (i64 1)),mv 20 114])))))) (.seq (.reg [mv 128 19,o 129 (.call 63 [.t 128]),mv 130 16,mv 131 14,o 132 (.call 105 [.t 130, .t 131]),mv 6 129,mv 7 132,o 8 (.mv (i64 0))]) .ret)))))))))))))
theorem in_divs_Engine_Long:Ent 86 133 c_divs_Engine_Long [.t 6, .t 7, .t 8]:=ent Tryz.func86 rfl rfl rfl (show compile _ 133 _=_ by kernel_rfl) (show compRes _ 133 _=_ by kernel_rfl)
def c_divs_New:AC:= .seq (.reg [o 1 (.box 23 (.t 0)),o 2 (.mv (.c (.ptr none)))]) (.seq (.reg [o 3 (.ld (some 11) (.t 1)),o 4 (.call 111 [.t 3]),o 5 (.bld [.ptr none] [(0,1, .t 4)]),o 6 (.box 124 (.t 5)),mv 2 6]) .ret)
theorem in_divs_New:Ent 96 7 c_divs_New [.t 2]:=ent Tryz.func96 rfl rfl rfl (show compile _ 7 _=_ by kernel_rfl) (show compRes _ 7 _=_ by kernel_rfl)
def c_divs_digit:AC:= .seq (.reg [o 6 (.mv (u64 0))]) (.seq (.reg [mv 20 1,o 21 (.len false (.t 20)),mv 7 21]) (.seq (.reg [mv 23 0,mv 24 7,o 25 (.idx 1 (.t 23) (.t 24)),o 26 (.ld none (.t 25)),mv 27 0,mv 28 7,o 29 (.bin .sub (.t 28) (i64 1)),o 30 (.idx 1 (.t 27) (.t 29)),o 31 (.ld none (.t 30)),mv 32 0,mv 33 7,o 34 (.bin .sub (.t 33) (i64 2)),o 35 (.idx 1 (.t 32) (.t 34)),o 36 (.ld none (.t 35)),mv 37 1,mv 38 7,o 39 (.bin .sub (.t 38) (i64 1)),o 40 (.idx 1 (.t 37) (.t 39)),o 41 (.ld none (.t 40)),mv 42 1,mv 43 7,o 44 (.bin .sub (.t 43) (i64 2)),o 45 (.idx 1 (.t 42) (.t 44)),o 46 (.ld none (.t 45)),mv 47 2,o 48 (.call 119 [.t 26, .t 31, .t 36, .t 41, .t 46, .t 47]),mv 22 48,o 49 (.ext (.t 22) 0),o 50 (.ext (.t 22) 1),o 51 (.ext (.t 22) 2),o 52 (.ext (.t 22) 3),mv 8 49,mv 9 50,mv 10 51,mv 11 52]) (.seq (.seq (.reg [mv 53 11,o 54 (.un .not (.t 53))]) (.cond (.t 54) (.reg [o 8 (.mv (u64 18446744073709551615))]) .skip)) (.seq (.reg [o 12 (.mv (u64 0))]) (.seq (.seq (.reg [o 13 (.mv (i64 0))]) (.block 0 (.loop (.seq (.seq (.reg [mv 55 13,mv 56 7,bn 57 .lss 55 56]) (.cond (.t 57) .skip (.exit 0))) (.seq (.block 1 (.seq (.reg [mv 61 8,mv 62 1,mv 63 13,o 64 (.idx 1 (.t 62) (.t 63)),o 65 (.ld none (.t 64)),o 66 (.call 90 [.t 61, .t 65]),mv 60 66,o 67 (.ext (.t 60) 0),o 68 (.ext (.t 60) 1),mv 14 67,mv 15 68]) (.seq (.reg [mv 70 15,mv 71 12,o 72 (.call 91 [.t 70, .t 71,u64 0]),mv 69 72,o 73 (.ext (.t 69) 0),o 74 (.ext (.t 69) 1),mv 15 73,mv 16 74]) (.seq (.reg [mv 75 14,mv 76 16,bn 77 .add 75 76,mv 14 77]) (.seq (.reg [mv 79 0,mv 80 13,mv 81 0,mv 82 13,o 83 (.idx 1 (.t 81) (.t 82)),o 84 (.ld none (.t 83)),mv 85 15,o 86 (.call 81 [.t 84, .t 85,u64 0]),mv 78 86,o 87 (.ext (.t 78) 0),o 88 (.ext (.t 78) 1),o 89 (.idx 1 (.t 79) (.t 80)),od (.st 1 (.t 89) (.t 87)),mv 16 88]) (.reg [mv 90 14,mv 91 16,bn 92 .add 90 91,mv 12 92])))))) (.reg [mv 58 13,o 59 (.bin .add (.t 58) (i64 1)),mv 13 59])))))) (.seq (.reg [mv 94 0,mv 95 7,o 96 (.idx 1 (.t 94) (.t 95)),o 97 (.ld none (.t 96)),mv 98 12,o 99 (.call 81 [.t 97, .t 98,u64 0]),mv 93 99,o 100 (.ext (.t 93) 0),o 101 (.ext (.t 93) 1),mv 17 100,mv 18 101]) (.seq (.reg [mv 102 0,mv 103 7,mv 104 17,o 105 (.idx 1 (.t 102) (.t 103)),od (.st 1 (.t 105) (.t 104))]) (.seq (.block 2 (.loop (.seq (.seq (.reg [mv 106 18,o 107 (.bin .neq (.t 106) (u64 0))]) (.cond (.t 107) .skip (.exit 2))) (.block 3 (.seq (.reg [mv 108 8,o 109 (.bin .sub (.t 108) (u64 1)),mv 8 109]) (.seq (.reg [o 12 (.mv (u64 0))]) (.seq (.seq (.reg [o 19 (.mv (i64 0))]) (.block 4 (.loop (.seq (.seq (.reg [mv 110 19,mv 111 7,bn 112 .lss 110 111]) (.cond (.t 112) .skip (.exit 4))) (.seq (.block 5 (.reg [mv 116 0,mv 117 19,mv 118 0,mv 119 19,o 120 (.idx 1 (.t 118) (.t 119)),o 121 (.ld none (.t 120)),mv 122 1,mv 123 19,o 124 (.idx 1 (.t 122) (.t 123)),o 125 (.ld none (.t 124)),mv 126 12,o 127 (.call 91 [.t 121, .t 125, .t 126]),mv 115 127,o 128 (.ext (.t 115) 0),o 129 (.ext (.t 115) 1),o 130 (.idx 1 (.t 116) (.t 117)),od (.st 1 (.t 130) (.t 128)),mv 12 129])) (.reg [mv 113 19,o 114 (.bin .add (.t 113) (i64 1)),mv 19 114])))))) (.seq (.reg [mv 132 0,mv 133 7,mv 134 0,mv 135 7,o 136 (.idx 1 (.t 134) (.t 135)),o 137 (.ld none (.t 136)),mv 138 12,o 139 (.call 91 [.t 137,u64 0, .t 138]),mv 131 139,o 140 (.ext (.t 131) 0),o 141 (.ext (.t 131) 1),o 142 (.idx 1 (.t 132) (.t 133)),od (.st 1 (.t 142) (.t 140)),mv 12 141]) (.reg [mv 143 18,mv 144 12,bn 145 .sub 143 144,mv 18 145]))))))))) (.seq (.reg [mv 146 8,mv 6 146]) .ret)))))))))
theorem in_divs_digit:Ent 104 147 c_divs_digit [.t 6]:=ent Tryz.func104 rfl rfl rfl (show compile _ 147 _=_ by kernel_rfl) (show compRes _ 147 _=_ by kernel_rfl)
def c_mul_Engine_Mul:AC:= .seq (.reg [o 6 (.mv (.c (.sl none 0 0 none)))]) (.seq (.reg [mv 7 0,mv 8 1,o 9 (.call 83 [.t 8]),mv 10 2,o 11 (.call 83 [.t 10]),o 12 (.call 82 [.t 7, .t 9, .t 11]),mv 6 12]) .ret)
theorem in_mul_Engine_Mul:Ent 60 13 c_mul_Engine_Mul [.t 6]:=ent Tryz.func60 rfl rfl rfl (show compile _ 13 _=_ by kernel_rfl) (show compRes _ 13 _=_ by kernel_rfl)
def c_mul_Engine_times:AC:= .seq (.reg [o 6 (.mv (.c (.sl none 0 0 none)))]) (.seq (.seq (.reg [mv 9 1,o 10 (.len false (.t 9)),o 11 (.bin .gtr (.t 10) (i64 16384)),mv 12 11,og 13 12 false (.mv (.t 2)),og 14 12 false (.len false (.t 13)),og 15 12 false (.bin .gtr (.t 14) (i64 16384)),o 16 (.pick (.t 12) (.c (.bool true)) (.t 15))]) (.cond (.t 16) (.seq (.reg [mv 17 0,mv 18 1,mv 19 2,o 20 (.call 97 [.t 17, .t 18, .t 19]),mv 6 20]) .ret) .skip)) (.seq (.reg [mv 22 0,mv 23 0,o 24 (.nn (.t 23)),o 25 (.fld 0 (.t 24)),o 26 (.ld none (.t 25)),o 27 (.nn (.t 26)),o 28 (.fld 0 (.t 27)),o 29 (.ld none (.t 28)),o 30 (.nn (.t 29)),o 31 (.fld 0 (.t 30)),o 32 (.ld none (.t 31)),o 33 (.nn (.t 32)),o 34 (.fld 0 (.t 33)),o 35 (.ld none (.t 34)),mv 36 1,o 37 (.len false (.t 36)),mv 38 2,o 39 (.len false (.t 38)),o 40 (.call 99 [.t 35, .t 37, .t 39]),mv 41 1,mv 42 2,o 43 (.call 98 [.t 22, .t 40, .t 41, .t 42]),mv 21 43,o 44 (.ext (.t 21) 0),o 45 (.ext (.t 21) 1),mv 7 44,mv 8 45]) (.seq (.seq (.reg [mv 46 8,o 47 (.un .not (.t 46))]) (.cond (.t 47) (.seq (.reg [mv 48 0,o 49 (.nn (.t 48)),o 50 (.fld 0 (.t 49)),o 51 (.ld none (.t 50)),o 52 (.nn (.t 51)),o 53 (.fld 0 (.t 52)),o 54 (.ld none (.t 53)),o 55 (.nn (.t 54)),o 56 (.fld 0 (.t 55)),o 57 (.ld none (.t 56)),mv 58 1,mv 59 2,o 60 (.call 100 [.t 57, .t 58, .t 59]),mv 6 60]) .ret) .skip)) (.seq (.reg [mv 61 7,mv 6 61]) .ret))))
theorem in_mul_Engine_times:Ent 82 62 c_mul_Engine_times [.t 6]:=ent Tryz.func82 rfl rfl rfl (show compile _ 62 _=_ by kernel_rfl) (show compRes _ 62 _=_ by kernel_rfl)
def c_mul_words:AC:= .seq (.reg [o 2 (.mv (.c (.sl none 0 0 none)))]) (.seq (.reg [mv 3 0,mv 4 0,o 5 (.call 62 [.t 4]),o 6 (.slc 1 (.t 3) none (some (.t 5))),mv 2 6]) .ret)
theorem in_mul_words:Ent 83 7 c_mul_words [.t 2]:=ent Tryz.func83 rfl rfl rfl (show compile _ 7 _=_ by kernel_rfl) (show compRes _ 7 _=_ by kernel_rfl)
def c_mul_Engine_gone:AC:= .seq (.reg [o 8 (.mv (.c (.sl none 0 0 none))),o 9 (.mv (.c (.bool false)))]) (.seq (.seq (.reg [mv 10 1]) (.block 0 (.seq (.reg [o 12 (.bin .eql (.t 10) (i64 0)),mv 11 12]) (.cond (.t 11) (.seq (.reg [o 8 (.mv (.c (.sl none 0 0 none))),o 9 (.mv (.c (.bool true)))]) .ret) (.seq (.reg [o 14 (.bin .eql (.t 10) (i64 1)),mv 13 14]) (.cond (.t 13) (.seq (.reg [mv 15 0,o 16 (.nn (.t 15)),o 17 (.fld 0 (.t 16)),o 18 (.ld none (.t 17)),o 19 (.nn (.t 18)),o 20 (.fld 0 (.t 19)),o 21 (.ld none (.t 20)),o 22 (.nn (.t 21)),o 23 (.fld 0 (.t 22)),o 24 (.ld none (.t 23)),mv 25 2,mv 26 3,o 27 (.call 100 [.t 24, .t 25, .t 26]),mv 8 27,o 9 (.mv (.c (.bool true)))]) .ret) (.seq (.reg [o 29 (.bin .eql (.t 10) (i64 2)),mv 28 29]) (.cond (.t 28) (.seq (.reg [mv 30 0,mv 31 2,mv 32 3,o 33 (.call 113 [.t 30, .t 31, .t 32]),mv 8 33,o 9 (.mv (.c (.bool true)))]) .ret) (.seq (.reg [o 35 (.bin .eql (.t 10) (i64 3)),mv 34 35]) (.cond (.t 34) (.seq (.reg [mv 36 0,o 37 (.nn (.t 36)),o 38 (.fld 0 (.t 37)),o 39 (.ld none (.t 38)),o 40 (.nn (.t 39)),o 41 (.fld 0 (.t 40)),o 42 (.ld none (.t 41)),mv 43 2,mv 44 3,mv 45 0,o 46 (.mkf 82 [.t 45] []),o 47 (.call 114 [.t 42, .t 43, .t 44, .t 46]),o 48 (.ext (.t 47) 0),o 49 (.ext (.t 47) 1),mv 8 48,mv 9 49]) .ret) (.seq (.reg [o 51 (.bin .eql (.t 10) (i64 4)),mv 50 51]) (.cond (.t 50) (.seq (.reg [mv 52 0,o 53 (.nn (.t 52)),o 54 (.fld 0 (.t 53)),o 55 (.ld none (.t 54)),mv 56 2,mv 57 3,mv 58 0,o 59 (.mkf 82 [.t 58] []),o 60 (.call 115 [.t 55, .t 56, .t 57, .t 59]),o 61 (.ext (.t 60) 0),o 62 (.ext (.t 60) 1),mv 8 61,mv 9 62]) .ret) (.seq (.reg [o 64 (.bin .eql (.t 10) (i64 5)),mv 63 64]) (.cond (.t 63) (.seq (.reg [mv 65 0,o 66 (.nn (.t 65)),o 67 (.fld 0 (.t 66)),o 68 (.ld none (.t 67)),o 69 (.nn (.t 68)),o 70 (.fld 0 (.t 69)),o 71 (.ld none (.t 70)),o 72 (.nn (.t 71)),o 73 (.fld 0 (.t 72)),o 74 (.ld none (.t 73)),o 75 (.nn (.t 74)),o 76 (.fld 0 (.t 75)),o 77 (.ld none (.t 76)),o 78 (.nn (.t 77)),o 79 (.fld 0 (.t 78)),mv 80 2,mv 81 3,o 82 (.call 116 [.t 79, .t 80, .t 81]),o 83 (.ext (.t 82) 0),o 84 (.ext (.t 82) 1),mv 8 83,mv 9 84]) .ret) .skip)))))))))))))) (.seq (.reg [o 8 (.mv (.c (.sl none 0 0 none))),o 9 (.mv (.c (.bool false)))]) .ret))
theorem in_mul_Engine_gone:Ent 98 85 c_mul_Engine_gone [.t 8, .t 9]:=ent Tryz.func98 rfl rfl rfl (show compile _ 85 _=_ by kernel_rfl) (show compRes _ 85 _=_ by kernel_rfl)
def c_mul_New:AC:= .seq (.reg [o 1 (.box 23 (.t 0)),o 2 (.mv (.c (.ptr none)))]) (.seq (.reg [o 3 (.ld (some 11) (.t 1)),o 4 (.call 126 [.t 3]),o 5 (.bld [.ptr none] [(0,1, .t 4)]),o 6 (.box 155 (.t 5)),mv 2 6]) .ret)
theorem in_mul_New:Ent 111 7 c_mul_New [.t 2]:=ent Tryz.func111 rfl rfl rfl (show compile _ 7 _=_ by kernel_rfl) (show compRes _ 7 _=_ by kernel_rfl)
def c_mul_Engine_pieces:AC:= .seq (.reg [o 8 (.mv (.c (.sl none 0 0 none)))]) (.seq (.seq (.reg [mv 11 1,o 12 (.len false (.t 11)),mv 13 2,o 14 (.len false (.t 13)),bn 15 .lss 12 14]) (.cond (.t 15) (.reg [mv 16 2,mv 17 1,mv 1 16,mv 2 17]) .skip)) (.seq (.reg [o 9 (.mv (.c (.sl none 0 0 none)))]) (.seq (.seq (.reg [o 10 (.mv (i64 0))]) (.block 0 (.loop (.seq (.seq (.reg [mv 18 10,mv 19 1,o 20 (.len false (.t 19)),bn 21 .lss 18 20]) (.cond (.t 21) .skip (.exit 0))) (.seq (.block 1 (.reg [mv 25 9,mv 26 0,mv 27 1,mv 28 10,mv 29 1,o 30 (.len false (.t 29)),mv 31 10,mv 32 3,bn 33 .add 31 32,o 34 (.mnx false (.t 30) [.t 33]),o 35 (.slc 1 (.t 27) (some (.t 28)) (some (.t 34))),o 36 (.app 73 1 8 (.c (.sl none 0 0 none)) (.t 35)),mv 37 2,o 38 (.call 82 [.t 26, .t 36, .t 37]),o 39 (.bsl 37 1 1 [.sl none 0 0 none] [(0, .t 38)]),o 40 (.app 37 1 24 (.t 25) (.t 39)),mv 9 40])) (.reg [mv 22 10,mv 23 3,bn 24 .add 22 23,mv 10 24])))))) (.seq (.reg [mv 41 3,mv 42 9,o 43 (.call 108 [.t 41, .t 42]),mv 8 43]) .ret))))
theorem in_mul_Engine_pieces:Ent 112 44 c_mul_Engine_pieces [.t 8]:=ent Tryz.func112 rfl rfl rfl (show compile _ 44 _=_ by kernel_rfl) (show compRes _ 44 _=_ by kernel_rfl)
def c_mul_Engine_block:AC:= .seq (.reg [o 6 (.mv (.c (.sl none 0 0 none)))]) (.seq (.reg [mv 8 0,o 9 (.nn (.t 8)),o 10 (.fld 0 (.t 9)),o 11 (.ld none (.t 10)),o 12 (.nn (.t 11)),o 13 (.fld 0 (.t 12)),o 14 (.ld none (.t 13)),o 15 (.nn (.t 14)),o 16 (.fld 0 (.t 15)),o 17 (.ld none (.t 16)),o 18 (.nn (.t 17)),o 19 (.fld 0 (.t 18)),o 20 (.ld none (.t 19)),o 21 (.nn (.t 20)),o 22 (.fld 0 (.t 21)),o 23 (.call 121 [.t 22])]) (.seq (.reg [mv 24 0,mv 25 1,mv 26 2,mv 27 1,o 28 (.len false (.t 27)),mv 29 2,o 30 (.len false (.t 29)),o 31 (.mnx false (.t 28) [.t 30]),o 32 (.call 112 [.t 24, .t 25, .t 26, .t 31]),mv 7 32]) (.seq (.reg [mv 33 0,o 34 (.nn (.t 33)),o 35 (.fld 0 (.t 34)),o 36 (.ld none (.t 35)),o 37 (.nn (.t 36)),o 38 (.fld 0 (.t 37)),o 39 (.ld none (.t 38)),o 40 (.nn (.t 39)),o 41 (.fld 0 (.t 40)),o 42 (.ld none (.t 41)),o 43 (.nn (.t 42)),o 44 (.fld 0 (.t 43)),o 45 (.ld none (.t 44)),o 46 (.nn (.t 45)),o 47 (.fld 0 (.t 46)),o 48 (.call 124 [.t 47])]) (.seq (.reg [mv 49 7,mv 6 49]) .ret))))
theorem in_mul_Engine_block:Ent 113 50 c_mul_Engine_block [.t 6]:=ent Tryz.func113 rfl rfl rfl (show compile _ 50 _=_ by kernel_rfl) (show compRes _ 50 _=_ by kernel_rfl)
def c_toom_Engine_Toom:AC:= .seq (.reg [o 8 (.mv (.c (.sl none 0 0 none))),o 9 (.mv (.c (.bool false)))]) (.seq (.seq (.reg [mv 28 1,o 29 (.len false (.t 28)),mv 30 2,o 31 (.len false (.t 30)),bn 32 .lss 29 31]) (.cond (.t 32) (.reg [mv 33 2,mv 34 1,mv 1 33,mv 2 34]) .skip)) (.seq (.reg [mv 35 1,o 36 (.len false (.t 35)),mv 37 2,o 38 (.len false (.t 37)),mv 10 36,mv 11 38]) (.seq (.reg [mv 39 10,o 40 (.bin .add (.t 39) (i64 2)),o 41 (.bin .quo (.t 40) (i64 3)),mv 12 41]) (.seq (.seq (.reg [mv 42 11,mv 43 12,o 44 (.bin .mul (i64 2) (.t 43)),bn 45 .leq 42 44]) (.cond (.t 45) (.seq (.reg [o 8 (.mv (.c (.sl none 0 0 none))),o 9 (.mv (.c (.bool false)))]) .ret) .skip)) (.seq (.reg [mv 46 0,o 47 (.nn (.t 46)),o 48 (.fld 0 (.t 47)),o 49 (.ld none (.t 48)),o 50 (.nn (.t 49)),o 51 (.fld 0 (.t 50)),o 52 (.ld none (.t 51)),o 53 (.nn (.t 52)),o 54 (.fld 0 (.t 53)),o 55 (.ld none (.t 54)),o 56 (.nn (.t 55)),o 57 (.fld 0 (.t 56)),o 58 (.call 121 [.t 57])]) (.seq (.reg [mv 60 1,mv 61 12,o 62 (.call 129 [.t 60, .t 61]),mv 59 62,o 63 (.ext (.t 59) 0),o 64 (.ext (.t 59) 1),o 65 (.ext (.t 59) 2),o 66 (.ext (.t 59) 3),o 67 (.ext (.t 59) 4),o 13 (.alloc 39 [.sl none 0 0 none, .bool false]),o 14 (.alloc 39 [.sl none 0 0 none, .bool false]),o 15 (.alloc 39 [.sl none 0 0 none, .bool false]),o 16 (.alloc 39 [.sl none 0 0 none, .bool false]),o 17 (.alloc 39 [.sl none 0 0 none, .bool false]),od (.st 2 (.t 13) (.t 63)),od (.st 2 (.t 14) (.t 64)),od (.st 2 (.t 15) (.t 65)),od (.st 2 (.t 16) (.t 66)),od (.st 2 (.t 17) (.t 67))]) (.seq (.reg [mv 69 2,mv 70 12,o 71 (.call 129 [.t 69, .t 70]),mv 68 71,o 72 (.ext (.t 68) 0),o 73 (.ext (.t 68) 1),o 74 (.ext (.t 68) 2),o 75 (.ext (.t 68) 3),o 76 (.ext (.t 68) 4),o 18 (.alloc 39 [.sl none 0 0 none, .bool false]),o 19 (.alloc 39 [.sl none 0 0 none, .bool false]),o 20 (.alloc 39 [.sl none 0 0 none, .bool false]),o 21 (.alloc 39 [.sl none 0 0 none, .bool false]),o 22 (.alloc 39 [.sl none 0 0 none, .bool false]),od (.st 2 (.t 18) (.t 72)),od (.st 2 (.t 19) (.t 73)),od (.st 2 (.t 20) (.t 74)),od (.st 2 (.t 21) (.t 75)),od (.st 2 (.t 22) (.t 76))]) (.seq (.reg [mv 77 3,o 78 (.fld 0 (.t 13)),o 79 (.ld none (.t 78)),mv 80 12,o 82 (.fld 0 (.t 18)),o 83 (.ld none (.t 82)),mv 84 12,⟨some 81,none, .call 130 [.t 79, .t 80],[(some 83,none, .ld none (.t 82))]⟩,o 85 (.call 130 [.t 83, .t 84]),o 86 (.callV (.t 77) [.t 81, .t 85]),mv 23 86]) (.seq (.reg [mv 87 3,o 88 (.fld 0 (.t 14)),o 89 (.ld none (.t 88)),mv 90 12,o 91 (.bin .add (.t 90) (i64 1)),o 93 (.fld 0 (.t 19)),o 94 (.ld none (.t 93)),mv 95 12,o 96 (.bin .add (.t 95) (i64 1)),⟨some 92,none, .call 130 [.t 89, .t 91],[(some 94,none, .ld none (.t 93))]⟩,o 97 (.call 130 [.t 94, .t 96]),o 98 (.callV (.t 87) [.t 92, .t 97]),mv 24 98]) (.seq (.reg [mv 99 3,o 100 (.fld 0 (.t 15)),o 101 (.ld none (.t 100)),mv 102 12,o 103 (.bin .add (.t 102) (i64 1)),o 105 (.fld 0 (.t 20)),o 106 (.ld none (.t 105)),mv 107 12,o 108 (.bin .add (.t 107) (i64 1)),⟨some 104,none, .call 130 [.t 101, .t 103],[(some 106,none, .ld none (.t 105))]⟩,o 109 (.call 130 [.t 106, .t 108]),o 110 (.callV (.t 99) [.t 104, .t 109]),mv 25 110]) (.seq (.reg [mv 111 3,o 112 (.fld 0 (.t 16)),o 113 (.ld none (.t 112)),mv 114 12,o 115 (.bin .add (.t 114) (i64 1)),o 117 (.fld 0 (.t 21)),o 118 (.ld none (.t 117)),mv 119 12,o 120 (.bin .add (.t 119) (i64 1)),⟨some 116,none, .call 130 [.t 113, .t 115],[(some 118,none, .ld none (.t 117))]⟩,o 121 (.call 130 [.t 118, .t 120]),o 122 (.callV (.t 111) [.t 116, .t 121]),mv 26 122]) (.seq (.reg [mv 123 3,o 124 (.fld 0 (.t 17)),o 125 (.ld none (.t 124)),mv 126 10,mv 127 12,o 128 (.bin .mul (i64 2) (.t 127)),bn 129 .sub 126 128,o 131 (.fld 0 (.t 22)),o 132 (.ld none (.t 131)),mv 133 11,mv 134 12,o 135 (.bin .mul (i64 2) (.t 134)),bn 136 .sub 133 135,⟨some 130,none, .call 130 [.t 125, .t 129],[(some 132,none, .ld none (.t 131))]⟩,o 137 (.call 130 [.t 132, .t 136]),o 138 (.callV (.t 123) [.t 130, .t 137]),mv 27 138]) (.seq (.reg [mv 139 0,o 140 (.nn (.t 139)),o 141 (.fld 0 (.t 140)),o 142 (.ld none (.t 141)),o 143 (.nn (.t 142)),o 144 (.fld 0 (.t 143)),o 145 (.ld none (.t 144)),o 146 (.nn (.t 145)),o 147 (.fld 0 (.t 146)),o 148 (.ld none (.t 147)),o 149 (.nn (.t 148)),o 150 (.fld 0 (.t 149)),o 151 (.call 124 [.t 150])]) (.seq (.reg [mv 152 12,mv 153 23,mv 154 24,mv 155 25,mv 156 26,mv 157 27,o 158 (.fld 1 (.t 15)),o 159 (.ld none (.t 158)),o 160 (.fld 1 (.t 20)),o 161 (.ld none (.t 160)),o 162 (.beq true (.t 159) (.t 161)),o 163 (.call 131 [.t 152, .t 153, .t 154, .t 155, .t 156, .t 157, .t 162]),mv 8 163,o 9 (.mv (.c (.bool true)))]) .ret))))))))))))))
theorem in_toom_Engine_Toom:Ent 115 164 c_toom_Engine_Toom [.t 8, .t 9]:=ent Tryz.func115 rfl rfl rfl (show compile _ 164 _=_ by kernel_rfl) (show compRes _ 164 _=_ by kernel_rfl)
def c_toom_New:AC:= .seq (.reg [o 1 (.box 23 (.t 0)),o 2 (.mv (.c (.ptr none)))]) (.seq (.reg [o 3 (.ld (some 11) (.t 1)),o 4 (.call 142 [.t 3]),o 5 (.bld [.ptr none] [(0,1, .t 4)]),o 6 (.box 158 (.t 5)),mv 2 6]) .ret)
theorem in_toom_New:Ent 126 7 c_toom_New [.t 2]:=ent Tryz.func126 rfl rfl rfl (show compile _ 7 _=_ by kernel_rfl) (show compRes _ 7 _=_ by kernel_rfl)
def c_toom_Points:AC:= .seq (.reg [o 4 (.alloc 39 [.sl none 0 0 none, .bool false]),o 5 (.alloc 39 [.sl none 0 0 none, .bool false]),o 6 (.alloc 39 [.sl none 0 0 none, .bool false]),o 7 (.alloc 39 [.sl none 0 0 none, .bool false]),o 8 (.alloc 39 [.sl none 0 0 none, .bool false])]) (.seq (.reg [mv 13 1,o 14 (.mnx false (.t 13) [i64 16384]),o 15 (.mnx true (i64 1) [.t 14]),mv 1 15]) (.seq (.reg [mv 16 0,o 17 (.call 63 [.t 16]),mv 0 17]) (.seq (.reg [mv 18 0,mv 19 1,o 20 (.call 143 [.t 18,i64 0, .t 19]),mv 21 0,mv 22 1,mv 23 1,o 24 (.bin .mul (i64 2) (.t 23)),o 25 (.call 143 [.t 21, .t 22, .t 24]),mv 26 0,mv 27 1,o 28 (.bin .mul (i64 2) (.t 27)),mv 29 0,o 30 (.len false (.t 29)),o 31 (.call 143 [.t 26, .t 28, .t 30]),mv 9 20,mv 10 25,mv 11 31]) (.seq (.reg [mv 32 9,mv 33 11,o 34 (.call 75 [.t 32, .t 33]),mv 12 34]) (.seq (.reg [mv 35 9,o 36 (.call 63 [.t 35]),o 37 (.fld 0 (.t 4)),od (.st 1 (.t 37) (.t 36))]) (.seq (.reg [mv 38 12,mv 39 10,o 40 (.call 75 [.t 38, .t 39]),o 41 (.fld 0 (.t 5)),od (.st 1 (.t 41) (.t 40))]) (.seq (.reg [mv 42 12,mv 43 10,o 44 (.call 144 [.t 42, .t 43]),od (.st 2 (.t 6) (.t 44))]) (.seq (.reg [mv 45 9,mv 46 10,o 47 (.call 66 [.t 46,i64 1]),mv 48 11,o 49 (.call 66 [.t 48,i64 2]),o 50 (.bsl 37 1 3 [.sl none 0 0 none] [(0, .t 45),(1, .t 47),(2, .t 49)]),o 51 (.call 145 [.t 50]),o 52 (.fld 0 (.t 7)),od (.st 1 (.t 52) (.t 51))]) (.seq (.reg [mv 53 11,o 54 (.call 63 [.t 53]),o 55 (.fld 0 (.t 8)),od (.st 1 (.t 55) (.t 54))]) (.seq (.reg [o 56 (.ld (some 2) (.t 4)),o 57 (.ld (some 2) (.t 5)),o 58 (.ld (some 2) (.t 6)),o 59 (.ld (some 2) (.t 7)),o 60 (.ld (some 2) (.t 8)),⟨none,none, .st 2 (.t 4) (.t 56),[(some 57,none, .ld (some 2) (.t 5)),(some 58,none, .ld (some 2) (.t 6)),(some 59,none, .ld (some 2) (.t 7)),(some 60,none, .ld (some 2) (.t 8))]⟩,⟨none,none, .st 2 (.t 5) (.t 57),[(some 58,none, .ld (some 2) (.t 6)),(some 59,none, .ld (some 2) (.t 7)),(some 60,none, .ld (some 2) (.t 8))]⟩,⟨none,none, .st 2 (.t 6) (.t 58),[(some 59,none, .ld (some 2) (.t 7)),(some 60,none, .ld (some 2) (.t 8))]⟩,⟨none,none, .st 2 (.t 7) (.t 59),[(some 60,none, .ld (some 2) (.t 8))]⟩,od (.st 2 (.t 8) (.t 60))]) .ret))))))))))
theorem in_toom_Points:Ent 129 61 c_toom_Points [.c 4 (some 2), .c 5 (some 2), .c 6 (some 2), .c 7 (some 2), .c 8 (some 2)]:=ent Tryz.func129 rfl rfl rfl (show compile _ 61 _=_ by kernel_rfl) (show compRes _ 61 _=_ by kernel_rfl)
def c_toom_wide:AC:= .seq (.reg [o 4 (.mv (.c (.sl none 0 0 none)))]) (.seq (.reg [mv 6 1,o 7 (.mk 73 1 8 [.int .u64 0] (.t 6) (.t 6)),mv 5 7]) (.seq (.reg [mv 8 5,mv 9 0,mv 10 0,o 11 (.call 62 [.t 10]),o 12 (.slc 1 (.t 9) none (some (.t 11))),o 13 (.cpy 1 (.t 8) (.t 12))]) (.seq (.reg [mv 14 5,mv 4 14]) .ret)))
theorem in_toom_wide:Ent 130 15 c_toom_wide [.t 4]:=ent Tryz.func130 rfl rfl rfl (show compile _ 15 _=_ by kernel_rfl) (show compRes _ 15 _=_ by kernel_rfl)
def c_toom_joined:AC:= .seq (.reg [o 14 (.mv (.c (.sl none 0 0 none)))]) (.seq (.reg [mv 22 2,mv 23 3,o 24 (.call 75 [.t 22, .t 23]),mv 25 2,mv 26 3,o 27 (.call 146 [.t 25, .t 26]),mv 15 24,mv 16 27]) (.seq (.seq (.reg [mv 28 6]) (.cond (.t 28) (.reg [mv 29 16,mv 30 15,mv 15 29,mv 16 30]) .skip)) (.seq (.reg [mv 31 15,o 32 (.call 105 [.t 31,i64 1]),mv 33 16,o 34 (.call 105 [.t 33,i64 1]),mv 15 32,mv 16 34]) (.seq (.reg [mv 35 15,mv 36 1,mv 37 5,o 38 (.bsl 37 1 2 [.sl none 0 0 none] [(0, .t 36),(1, .t 37)]),o 39 (.call 147 [.t 35, .t 38]),mv 17 39]) (.seq (.reg [mv 40 4,mv 41 1,mv 42 17,o 43 (.call 66 [.t 42,i64 2]),mv 44 5,o 45 (.call 66 [.t 44,i64 4]),o 46 (.bsl 37 1 3 [.sl none 0 0 none] [(0, .t 41),(1, .t 43),(2, .t 45)]),o 47 (.call 147 [.t 40, .t 46]),o 48 (.call 105 [.t 47,i64 1]),mv 18 48]) (.seq (.reg [mv 50 18,mv 51 16,o 52 (.bsl 37 1 1 [.sl none 0 0 none] [(0, .t 51)]),o 53 (.call 147 [.t 50, .t 52]),o 54 (.call 148 [.t 53]),mv 49 54,o 55 (.ext (.t 49) 0),o 56 (.ext (.t 49) 1),mv 19 55,mv 20 56]) (.seq (.reg [mv 57 16,mv 58 19,o 59 (.bsl 37 1 1 [.sl none 0 0 none] [(0, .t 58)]),o 60 (.call 147 [.t 57, .t 59]),mv 21 60]) (.seq (.reg [mv 61 0,mv 62 1,mv 63 21,mv 64 17,mv 65 19,mv 66 5,o 67 (.bsl 37 1 5 [.sl none 0 0 none] [(0, .t 62),(1, .t 63),(2, .t 64),(3, .t 65),(4, .t 66)]),o 68 (.call 108 [.t 61, .t 67]),mv 14 68]) .ret))))))))
theorem in_toom_joined:Ent 131 69 c_toom_joined [.t 14]:=ent Tryz.func131 rfl rfl rfl (show compile _ 69 _=_ by kernel_rfl) (show compRes _ 69 _=_ by kernel_rfl)
def c_toom_part:AC:= .seq (.reg [o 6 (.mv (.c (.sl none 0 0 none)))]) (.seq (.seq (.reg [mv 7 1,mv 8 0,o 9 (.len false (.t 8)),bn 10 .geq 7 9]) (.cond (.t 10) (.seq (.reg [o 6 (.mv (.c (.sl none 0 0 none)))]) .ret) .skip)) (.seq (.reg [mv 11 0,mv 12 1,mv 13 2,mv 14 0,o 15 (.len false (.t 14)),o 16 (.mnx false (.t 13) [.t 15]),o 17 (.slc 1 (.t 11) (some (.t 12)) (some (.t 16))),mv 6 17]) .ret))
theorem in_toom_part:Ent 143 18 c_toom_part [.t 6]:=ent Tryz.func143 rfl rfl rfl (show compile _ 18 _=_ by kernel_rfl) (show compRes _ 18 _=_ by kernel_rfl)
def c_toom_less:AC:= .seq (.reg [o 4 (.alloc 39 [.sl none 0 0 none, .bool false])]) (.seq (.seq (.reg [mv 10 0,mv 11 1,o 12 (.call 59 [.t 10, .t 11]),mv 9 12,o 13 (.ext (.t 9) 0),o 14 (.ext (.t 9) 1),mv 5 13,mv 6 14]) (.seq (.reg [mv 15 6]) (.cond (.t 15) (.seq (.reg [mv 16 5,o 17 (.bld [.sl none 0 0 none, .bool false] [(0,1, .t 16)]),od (.st 2 (.t 4) (.t 17))]) .ret) .skip))) (.seq (.reg [mv 19 1,mv 20 0,o 21 (.call 59 [.t 19, .t 20]),mv 18 21,o 22 (.ext (.t 18) 0),o 23 (.ext (.t 18) 1),mv 7 22,mv 8 23]) (.seq (.reg [mv 24 7,o 25 (.bld [.sl none 0 0 none, .bool false] [(0,1, .t 24),(1,1, .c (.bool true))]),od (.st 2 (.t 4) (.t 25))]) .ret)))
theorem in_toom_less:Ent 144 26 c_toom_less [.c 4 (some 2)]:=ent Tryz.func144 rfl rfl rfl (show compile _ 26 _=_ by kernel_rfl) (show compRes _ 26 _=_ by kernel_rfl)
def c_toom_sub2:AC:= .seq (.reg [o 4 (.mv (.c (.sl none 0 0 none)))]) (.seq (.reg [mv 8 0,mv 9 1,o 10 (.call 59 [.t 8, .t 9]),mv 7 10,o 11 (.ext (.t 7) 0),o 12 (.ext (.t 7) 1),mv 5 11,mv 6 12]) (.seq (.reg [mv 13 5,mv 4 13]) .ret))
theorem in_toom_sub2:Ent 146 14 c_toom_sub2 [.t 4]:=ent Tryz.func146 rfl rfl rfl (show compile _ 14 _=_ by kernel_rfl) (show compRes _ 14 _=_ by kernel_rfl)
def c_toom_sub:AC:= .seq (.reg [o 4 (.mv (.c (.sl none 0 0 none)))]) (.seq (.reg [mv 8 0,mv 9 1,o 10 (.call 145 [.t 9]),o 11 (.call 59 [.t 8, .t 10]),mv 7 11,o 12 (.ext (.t 7) 0),o 13 (.ext (.t 7) 1),mv 5 12,mv 6 13]) (.seq (.reg [mv 14 5,mv 4 14]) .ret))
theorem in_toom_sub:Ent 147 15 c_toom_sub [.t 4]:=ent Tryz.func147 rfl rfl rfl (show compile _ 15 _=_ by kernel_rfl) (show compRes _ 15 _=_ by kernel_rfl)
def c_toom_Third:AC:= .seq (.reg [o 2 (.mv (.c (.sl none 0 0 none))),o 3 (.mv (.c (.bool false)))]) (.seq (.reg [mv 12 0,o 13 (.call 63 [.t 12]),mv 0 13]) (.seq (.reg [o 4 (.mv (u64 0))]) (.seq (.seq (.reg [mv 14 0,o 15 (.len false (.t 14)),o 16 (.mv (i64 0))]) (.block 0 (.loop (.seq (.reg [bn 17 .lss 16 15]) (.seq (.cond (.t 17) .skip (.exit 0)) (.seq (.block 1 (.seq (.reg [mv 18 16,o 19 (.idx 1 (.t 14) (.t 16)),o 20 (.ld none (.t 19)),mv 5 18,mv 6 20]) (.seq (.reg [mv 22 6,mv 23 4,o 24 (.call 81 [.t 22, .t 23,u64 0]),mv 21 24,o 25 (.ext (.t 21) 0),o 26 (.ext (.t 21) 1),mv 7 25,mv 8 26]) (.seq (.reg [mv 27 7,o 28 (.bin .mul (.t 27) (u64 12297829382473034411)),mv 9 28]) (.seq (.reg [mv 29 0,mv 30 5,mv 31 9,o 32 (.idx 1 (.t 29) (.t 30)),od (.st 1 (.t 32) (.t 31))]) (.seq (.reg [mv 34 9,o 35 (.call 90 [.t 34,u64 3]),mv 33 35,o 36 (.ext (.t 33) 0),o 37 (.ext (.t 33) 1),mv 10 36,mv 11 37]) (.reg [mv 38 10,mv 39 8,bn 40 .add 38 39,mv 4 40]))))))) (.reg [o 41 (.bin .add (.t 16) (i64 1)),mv 16 41]))))))) (.seq (.seq (.reg [mv 42 4,o 43 (.bin .neq (.t 42) (u64 0))]) (.cond (.t 43) (.seq (.reg [o 2 (.mv (.c (.sl none 0 0 none))),o 3 (.mv (.c (.bool false)))]) .ret) .skip)) (.seq (.reg [mv 44 0,o 45 (.call 63 [.t 44]),mv 2 45,o 3 (.mv (.c (.bool true)))]) .ret)))))
theorem in_toom_Third:Ent 148 46 c_toom_Third [.t 2, .t 3]:=ent Tryz.func148 rfl rfl rfl (show compile _ 46 _=_ by kernel_rfl) (show compRes _ 46 _=_ by kernel_rfl)
def c_kara_Engine_Kara:AC:= .seq (.reg [o 8 (.mv (.c (.sl none 0 0 none))),o 9 (.mv (.c (.bool false)))]) (.seq (.seq (.reg [mv 24 1,o 25 (.len false (.t 24)),mv 26 2,o 27 (.len false (.t 26)),bn 28 .lss 25 27]) (.cond (.t 28) (.reg [mv 29 2,mv 30 1,mv 1 29,mv 2 30]) .skip)) (.seq (.reg [mv 31 1,o 32 (.len false (.t 31)),mv 33 2,o 34 (.len false (.t 33)),mv 10 32,mv 11 34]) (.seq (.reg [mv 35 10,o 36 (.bin .add (.t 35) (i64 1)),o 37 (.bin .quo (.t 36) (i64 2)),mv 12 37]) (.seq (.seq (.reg [mv 38 11,mv 39 12,bn 40 .leq 38 39]) (.cond (.t 40) (.seq (.reg [o 8 (.mv (.c (.sl none 0 0 none))),o 9 (.mv (.c (.bool false)))]) .ret) .skip)) (.seq (.reg [mv 41 0,o 42 (.nn (.t 41)),o 43 (.fld 0 (.t 42)),o 44 (.ld none (.t 43)),o 45 (.nn (.t 44)),o 46 (.fld 0 (.t 45)),o 47 (.ld none (.t 46)),o 48 (.nn (.t 47)),o 49 (.fld 0 (.t 48)),o 50 (.call 121 [.t 49])]) (.seq (.reg [mv 51 1,mv 52 12,o 53 (.call 127 [.t 51,i64 0, .t 52]),mv 54 1,mv 55 12,mv 56 10,mv 57 12,bn 58 .sub 56 57,o 59 (.call 127 [.t 54, .t 55, .t 58]),mv 13 53,mv 14 59]) (.seq (.reg [mv 60 2,mv 61 12,o 62 (.call 127 [.t 60,i64 0, .t 61]),mv 63 2,mv 64 12,mv 65 11,mv 66 12,bn 67 .sub 65 66,o 68 (.call 127 [.t 63, .t 64, .t 67]),mv 15 62,mv 16 68]) (.seq (.reg [mv 69 13,mv 70 14,o 71 (.call 75 [.t 69, .t 70]),mv 72 12,o 73 (.bin .add (.t 72) (i64 1)),o 74 (.call 128 [.t 71, .t 73]),mv 75 15,mv 76 16,o 77 (.call 75 [.t 75, .t 76]),mv 78 12,o 79 (.bin .add (.t 78) (i64 1)),o 80 (.call 128 [.t 77, .t 79]),mv 17 74,mv 18 80]) (.seq (.reg [mv 81 3,mv 82 13,mv 83 15,o 84 (.callV (.t 81) [.t 82, .t 83]),mv 85 3,mv 86 14,mv 87 16,o 88 (.callV (.t 85) [.t 86, .t 87]),mv 19 84,mv 20 88]) (.seq (.reg [mv 89 3,mv 90 17,mv 91 18,o 92 (.callV (.t 89) [.t 90, .t 91]),mv 21 92]) (.seq (.reg [mv 93 0,o 94 (.nn (.t 93)),o 95 (.fld 0 (.t 94)),o 96 (.ld none (.t 95)),o 97 (.nn (.t 96)),o 98 (.fld 0 (.t 97)),o 99 (.ld none (.t 98)),o 100 (.nn (.t 99)),o 101 (.fld 0 (.t 100)),o 102 (.call 124 [.t 101])]) (.seq (.reg [mv 104 21,mv 105 19,mv 106 20,o 107 (.call 75 [.t 105, .t 106]),o 108 (.call 59 [.t 104, .t 107]),mv 103 108,o 109 (.ext (.t 103) 0),o 110 (.ext (.t 103) 1),mv 22 109,mv 23 110]) (.seq (.reg [mv 111 12,mv 112 19,mv 113 22,mv 114 20,o 115 (.bsl 37 1 3 [.sl none 0 0 none] [(0, .t 112),(1, .t 113),(2, .t 114)]),o 116 (.call 108 [.t 111, .t 115]),mv 8 116,o 9 (.mv (.c (.bool true)))]) .ret)))))))))))))
theorem in_kara_Engine_Kara:Ent 114 117 c_kara_Engine_Kara [.t 8, .t 9]:=ent Tryz.func114 rfl rfl rfl (show compile _ 117 _=_ by kernel_rfl) (show compRes _ 117 _=_ by kernel_rfl)
def c_kara_piece:AC:= .seq (.reg [o 6 (.mv (.c (.sl none 0 0 none)))]) (.seq (.reg [mv 8 2,o 9 (.mk 73 1 8 [.int .u64 0] (.t 8) (.t 8)),mv 7 9]) (.seq (.seq (.reg [mv 10 1,mv 11 0,o 12 (.len false (.t 11)),bn 13 .lss 10 12]) (.cond (.t 13) (.reg [mv 14 7,mv 15 0,mv 16 1,mv 17 0,o 18 (.len false (.t 17)),mv 19 1,mv 20 2,bn 21 .add 19 20,o 22 (.mnx false (.t 18) [.t 21]),o 23 (.slc 1 (.t 15) (some (.t 16)) (some (.t 22))),o 24 (.cpy 1 (.t 14) (.t 23))]) .skip)) (.seq (.reg [mv 25 7,mv 6 25]) .ret)))
theorem in_kara_piece:Ent 127 26 c_kara_piece [.t 6]:=ent Tryz.func127 rfl rfl rfl (show compile _ 26 _=_ by kernel_rfl) (show compRes _ 26 _=_ by kernel_rfl)
def c_kara_wide:AC:= .seq (.reg [o 4 (.mv (.c (.sl none 0 0 none)))]) (.seq (.reg [mv 5 0,mv 6 1,o 7 (.call 127 [.t 5,i64 0, .t 6]),mv 4 7]) .ret)
theorem in_kara_wide:Ent 128 8 c_kara_wide [.t 4]:=ent Tryz.func128 rfl rfl rfl (show compile _ 8 _=_ by kernel_rfl) (show compRes _ 8 _=_ by kernel_rfl)
def c_kara_New:AC:= .seq (.reg [o 1 (.box 23 (.t 0)),o 2 (.mv (.c (.ptr none)))]) (.seq (.reg [o 3 (.ld (some 11) (.t 1)),o 4 (.call 154 [.t 3]),o 5 (.bld [.ptr none] [(0,1, .t 4)]),o 6 (.box 161 (.t 5)),mv 2 6]) .ret)
theorem in_kara_New:Ent 142 7 c_kara_New [.t 2]:=ent Tryz.func142 rfl rfl rfl (show compile _ 7 _=_ by kernel_rfl) (show compRes _ 7 _=_ by kernel_rfl)
def c_school_Engine_Mul:AC:= .seq (.reg [o 6 (.mv (.c (.sl none 0 0 none)))]) (.seq (.reg [mv 17 0,o 18 (.nn (.t 17)),o 19 (.fld 0 (.t 18)),o 20 (.ld none (.t 19)),o 21 (.nn (.t 20)),o 22 (.fld 0 (.t 21)),mv 23 1,o 24 (.len false (.t 23)),mv 25 2,o 26 (.len false (.t 25)),bn 27 .mul 24 26,o 28 (.call 101 [.t 22, .t 27])]) (.seq (.reg [mv 29 1,o 30 (.len false (.t 29)),mv 31 2,o 32 (.len false (.t 31)),bn 33 .add 30 32,o 34 (.mk 73 1 8 [.int .u64 0] (.t 33) (.t 33)),mv 7 34]) (.seq (.seq (.reg [mv 35 1,o 36 (.len false (.t 35)),o 37 (.mv (i64 0))]) (.block 0 (.loop (.seq (.reg [bn 38 .lss 37 36]) (.seq (.cond (.t 38) .skip (.exit 0)) (.seq (.block 1 (.seq (.reg [mv 39 37,o 40 (.idx 1 (.t 35) (.t 37)),o 41 (.ld none (.t 40)),mv 8 39,mv 9 41]) (.seq (.reg [o 10 (.mv (u64 0))]) (.seq (.seq (.reg [mv 42 2,o 43 (.len false (.t 42)),o 44 (.mv (i64 0))]) (.block 2 (.loop (.seq (.reg [bn 45 .lss 44 43]) (.seq (.cond (.t 45) .skip (.exit 2)) (.seq (.block 3 (.seq (.reg [mv 46 44,o 47 (.idx 1 (.t 42) (.t 44)),o 48 (.ld none (.t 47)),mv 11 46,mv 12 48]) (.seq (.reg [mv 50 9,mv 51 12,o 52 (.call 90 [.t 50, .t 51]),mv 49 52,o 53 (.ext (.t 49) 0),o 54 (.ext (.t 49) 1),mv 13 53,mv 14 54]) (.seq (.reg [mv 56 14,mv 57 10,o 58 (.call 91 [.t 56, .t 57,u64 0]),mv 55 58,o 59 (.ext (.t 55) 0),o 60 (.ext (.t 55) 1),mv 15 59,mv 16 60]) (.seq (.reg [mv 61 13,mv 62 16,bn 63 .add 61 62,mv 13 63]) (.seq (.reg [mv 65 7,mv 66 8,mv 67 11,bn 68 .add 66 67,mv 69 7,mv 70 8,mv 71 11,bn 72 .add 70 71,o 73 (.idx 1 (.t 69) (.t 72)),o 74 (.ld none (.t 73)),mv 75 15,o 76 (.call 91 [.t 74, .t 75,u64 0]),mv 64 76,o 77 (.ext (.t 64) 0),o 78 (.ext (.t 64) 1),o 79 (.idx 1 (.t 65) (.t 68)),od (.st 1 (.t 79) (.t 77)),mv 16 78]) (.reg [mv 80 13,mv 81 16,bn 82 .add 80 81,mv 10 82]))))))) (.reg [o 83 (.bin .add (.t 44) (i64 1)),mv 44 83]))))))) (.reg [mv 84 7,mv 85 8,mv 86 2,o 87 (.len false (.t 86)),bn 88 .add 85 87,mv 89 10,o 90 (.idx 1 (.t 84) (.t 88)),od (.st 1 (.t 90) (.t 89))]))))) (.reg [o 91 (.bin .add (.t 37) (i64 1)),mv 37 91]))))))) (.seq (.reg [mv 92 7,o 93 (.call 63 [.t 92]),mv 6 93]) .ret))))
theorem in_school_Engine_Mul:Ent 100 94 c_school_Engine_Mul [.t 6]:=ent Tryz.func100 rfl rfl rfl (show compile _ 94 _=_ by kernel_rfl) (show compRes _ 94 _=_ by kernel_rfl)
def c_school_New:AC:= .seq (.reg [o 1 (.box 23 (.t 0)),o 2 (.mv (.c (.ptr none)))]) (.seq (.reg [o 3 (.ld (some 11) (.t 1)),o 4 (.call 161 [.t 3]),o 5 (.bld [.ptr none] [(0,1, .t 4)]),o 6 (.box 164 (.t 5)),mv 2 6]) .ret)
theorem in_school_New:Ent 154 7 c_school_New [.t 2]:=ent Tryz.func154 rfl rfl rfl (show compile _ 7 _=_ by kernel_rfl) (show compRes _ 7 _=_ by kernel_rfl)
def c_root_New:AC:= .seq (.reg [o 1 (.box 23 (.t 0)),o 2 (.mv (.c (.ptr none)))]) (.seq (.reg [o 3 (.ld (some 11) (.t 1)),o 4 (.call 58 [.t 3]),o 5 (.bld [.ptr none] [(0,1, .t 4)]),o 6 (.box 112 (.t 5)),mv 2 6]) .ret)
theorem in_root_New:Ent 27 7 c_root_New [.t 2]:=ent Tryz.func27 rfl rfl rfl (show compile _ 7 _=_ by kernel_rfl) (show compRes _ 7 _=_ by kernel_rfl)
def c_root_Engine_Sqrt:AC:= .seq (.reg [o 4 (.mv (.c (.sl none 0 0 none))),o 5 (.mv (.c (.sl none 0 0 none)))]) (.seq (.reg [mv 7 0,mv 8 1,o 9 (.call 33 [.t 7, .t 8,i64 2]),mv 6 9,o 10 (.ext (.t 6) 0),o 11 (.ext (.t 6) 1),mv 4 10]) (.seq (.reg [mv 13 1,mv 14 0,o 15 (.nn (.t 14)),o 16 (.fld 0 (.t 15)),o 17 (.ld none (.t 16)),o 18 (.nn (.t 17)),o 19 (.fld 0 (.t 18)),o 20 (.ld none (.t 19)),o 21 (.nn (.t 20)),o 22 (.fld 0 (.t 21)),o 23 (.ld none (.t 22)),o 24 (.nn (.t 23)),o 25 (.fld 0 (.t 24)),o 26 (.ld none (.t 25)),mv 27 4,mv 28 4,o 29 (.call 60 [.t 26, .t 27, .t 28]),o 30 (.call 59 [.t 13, .t 29]),mv 12 30,o 31 (.ext (.t 12) 0),o 32 (.ext (.t 12) 1),mv 5 31]) (.seq (.reg [mv 33 4,mv 34 5,mv 4 33,mv 5 34]) .ret)))
theorem in_root_Engine_Sqrt:Ent 28 35 c_root_Engine_Sqrt [.t 4, .t 5]:=ent Tryz.func28 rfl rfl rfl (show compile _ 35 _=_ by kernel_rfl) (show compRes _ 35 _=_ by kernel_rfl)
def c_root_Engine_Root:AC:= .seq (.reg [o 6 (.mv (.c (.sl none 0 0 none))),o 7 (.mv (i64 0))]) (.seq (.seq (.reg [mv 15 2,o 16 (.bin .lss (.t 15) (i64 1)),mv 17 16,og 18 17 false (.mv (.t 2)),og 19 17 false (.bin .gtr (.t 18) (i64 64)),o 20 (.pick (.t 17) (.c (.bool true)) (.t 19))]) (.cond (.t 20) (.seq (.reg [o 6 (.mv (.c (.sl none 0 0 none))),o 7 (.mv (i64 1))]) .ret) .skip)) (.seq (.seq (.reg [mv 21 2,o 22 (.bin .eql (.t 21) (i64 1)),mv 23 22,og 24 23 false (.mv (.t 1)),og 25 23 false (.call 62 [.t 24]),og 26 23 false (.bin .eql (.t 25) (i64 0)),o 27 (.pick (.t 23) (.c (.bool true)) (.t 26))]) (.cond (.t 27) (.seq (.reg [mv 28 1,o 29 (.call 63 [.t 28]),mv 6 29,o 7 (.mv (i64 0))]) .ret) .skip)) (.seq (.seq (.reg [mv 30 1,o 31 (.call 64 [.t 30]),mv 32 2,bn 33 .leq 31 32]) (.cond (.t 33) (.seq (.reg [o 34 (.call 65 [u64 1]),mv 6 34,o 7 (.mv (i64 0))]) .ret) .skip)) (.seq (.reg [o 35 (.call 65 [u64 1]),mv 36 1,o 37 (.call 64 [.t 36]),mv 38 2,bn 39 .add 37 38,o 40 (.bin .sub (.t 39) (i64 1)),mv 41 2,bn 42 .quo 40 41,o 43 (.call 66 [.t 35, .t 42]),mv 8 43]) (.block 0 (.loop (.block 1 (.seq (.reg [mv 45 0,o 46 (.nn (.t 45)),o 47 (.fld 0 (.t 46)),o 48 (.ld none (.t 47)),mv 49 1,mv 50 0,mv 51 8,mv 52 2,o 53 (.bin .sub (.t 52) (i64 1)),⟨some 54,none, .call 68 [.t 50, .t 51, .t 53],[(some 48,none, .ld none (.t 47))]⟩,o 55 (.call 67 [.t 48, .t 49, .t 54]),mv 44 55,o 56 (.ext (.t 44) 0),o 57 (.ext (.t 44) 1),o 58 (.ext (.t 44) 2),mv 9 56,mv 10 57,mv 11 58]) (.seq (.reg [mv 60 9,mv 61 8,mv 62 2,o 63 (.bin .sub (.t 62) (i64 1)),o 64 (.cvI .u64 (.t 63)),o 65 (.call 70 [.t 60, .t 61, .t 64]),mv 66 2,o 67 (.cvI .u64 (.t 66)),o 68 (.call 69 [.t 65, .t 67]),mv 59 68,o 69 (.ext (.t 59) 0),o 70 (.ext (.t 59) 1),o 71 (.ext (.t 59) 2),mv 12 69,mv 13 70,mv 14 71]) (.seq (.seq (.reg [mv 72 12,mv 73 8,o 74 (.call 71 [.t 72, .t 73]),o 75 (.bin .geq (.t 74) (i64 0))]) (.cond (.t 75) (.seq (.reg [mv 76 8,mv 6 76,o 7 (.mv (i64 0))]) .ret) .skip)) (.reg [mv 77 12,mv 8 77])))))))))))
theorem in_root_Engine_Root:Ent 33 78 c_root_Engine_Root [.t 6, .t 7]:=ent Tryz.func33 rfl rfl rfl (show compile _ 78 _=_ by kernel_rfl) (show compRes _ 78 _=_ by kernel_rfl)
def c_root_Engine_raise:AC:= .seq (.reg [o 6 (.mv (.c (.sl none 0 0 none)))]) (.seq (.reg [o 8 (.call 65 [u64 1]),mv 7 8]) (.seq (.block 0 (.loop (.seq (.seq (.reg [mv 9 2,o 10 (.bin .gtr (.t 9) (i64 0))]) (.cond (.t 10) .skip (.exit 0))) (.seq (.block 1 (.seq (.seq (.reg [mv 13 2,o 14 (.bin .rem (.t 13) (i64 2)),o 15 (.bin .eql (.t 14) (i64 1))]) (.cond (.t 15) (.reg [mv 16 0,o 17 (.nn (.t 16)),o 18 (.fld 0 (.t 17)),o 19 (.ld none (.t 18)),o 20 (.nn (.t 19)),o 21 (.fld 0 (.t 20)),o 22 (.ld none (.t 21)),o 23 (.nn (.t 22)),o 24 (.fld 0 (.t 23)),o 25 (.ld none (.t 24)),o 26 (.nn (.t 25)),o 27 (.fld 0 (.t 26)),o 28 (.ld none (.t 27)),mv 29 7,mv 30 1,o 31 (.call 60 [.t 28, .t 29, .t 30]),mv 7 31]) .skip)) (.seq (.reg [mv 32 2,o 33 (.bin .gtr (.t 32) (i64 1))]) (.cond (.t 33) (.reg [mv 34 0,o 35 (.nn (.t 34)),o 36 (.fld 0 (.t 35)),o 37 (.ld none (.t 36)),o 38 (.nn (.t 37)),o 39 (.fld 0 (.t 38)),o 40 (.ld none (.t 39)),o 41 (.nn (.t 40)),o 42 (.fld 0 (.t 41)),o 43 (.ld none (.t 42)),o 44 (.nn (.t 43)),o 45 (.fld 0 (.t 44)),o 46 (.ld none (.t 45)),mv 47 1,mv 48 1,o 49 (.call 60 [.t 46, .t 47, .t 48]),mv 1 49]) .skip)))) (.reg [mv 11 2,o 12 (.bin .quo (.t 11) (i64 2)),mv 2 12]))))) (.seq (.reg [mv 50 7,mv 6 50]) .ret)))
theorem in_root_Engine_raise:Ent 68 51 c_root_Engine_raise [.t 6]:=ent Tryz.func68 rfl rfl rfl (show compile _ 51 _=_ by kernel_rfl) (show compRes _ 51 _=_ by kernel_rfl)
def c_div_New:AC:= .seq (.reg [o 1 (.box 23 (.t 0)),o 2 (.mv (.c (.ptr none)))]) (.seq (.reg [o 3 (.ld (some 11) (.t 1)),o 4 (.call 79 [.t 3]),o 5 (.bld [.ptr none] [(0,1, .t 4)]),o 6 (.box 118 (.t 5)),mv 2 6]) .ret)
theorem in_div_New:Ent 58 7 c_div_New [.t 2]:=ent Tryz.func58 rfl rfl rfl (show compile _ 7 _=_ by kernel_rfl) (show compRes _ 7 _=_ by kernel_rfl)
def c_div_Engine_DivMod:AC:= .seq (.reg [o 6 (.mv (.c (.sl none 0 0 none))),o 7 (.mv (.c (.sl none 0 0 none))),o 8 (.mv (i64 0))]) (.seq (.reg [mv 11 1,o 12 (.call 62 [.t 11]),mv 13 2,o 14 (.call 62 [.t 13]),mv 9 12,mv 10 14]) (.seq (.block 0 (.seq (.reg [mv 16 10,o 17 (.bin .eql (.t 16) (i64 0)),mv 15 17]) (.cond (.t 15) (.seq (.reg [o 6 (.mv (.c (.sl none 0 0 none))),o 7 (.mv (.c (.sl none 0 0 none))),o 8 (.mv (i64 2))]) .ret) (.seq (.reg [mv 19 9,mv 20 10,bn 21 .lss 19 20,mv 22 21,og 23 22 false (.mv (.t 10)),og 24 22 false (.mv (.t 0)),og 25 22 false (.nn (.t 24)),og 26 22 false (.fld 0 (.t 25)),og 27 22 false (.ld none (.t 26)),og 28 22 false (.nn (.t 27)),og 29 22 false (.fld 0 (.t 28)),og 30 22 false (.ld none (.t 29)),og 31 22 false (.nn (.t 30)),og 32 22 false (.fld 0 (.t 31)),og 33 22 false (.ld none (.t 32)),og 34 22 false (.nn (.t 33)),og 35 22 false (.fld 0 (.t 34)),og 36 22 false (.ld none (.t 35)),og 37 22 false (.nn (.t 36)),og 38 22 false (.fld 0 (.t 37)),og 39 22 false (.ld none (.t 38)),og 40 22 false (.nn (.t 39)),og 41 22 false (.fld 0 (.t 40)),og 42 22 false (.ld none (.t 41)),og 43 22 false (.nn (.t 42)),og 44 22 false (.fld 0 (.t 43)),og 45 22 false (.ld none (.t 44)),og 46 22 false (.nn (.t 45)),og 47 22 false (.fld 3 (.t 46)),og 48 22 false (.fld 3 (.t 47)),og 49 22 false (.ld none (.t 48)),og 50 22 false (.bin .lss (.t 23) (.t 49)),o 51 (.pick (.t 22) (.c (.bool true)) (.t 50)),mv 52 51,og 53 52 false (.mv (.t 9)),og 54 52 false (.mv (.t 10)),og 55 52 false (.bin .sub (.t 53) (.t 54)),og 56 52 false (.bin .add (.t 55) (i64 1)),og 57 52 false (.mv (.t 0)),og 58 52 false (.nn (.t 57)),og 59 52 false (.fld 0 (.t 58)),og 60 52 false (.ld none (.t 59)),og 61 52 false (.nn (.t 60)),og 62 52 false (.fld 0 (.t 61)),og 63 52 false (.ld none (.t 62)),og 64 52 false (.nn (.t 63)),og 65 52 false (.fld 0 (.t 64)),og 66 52 false (.ld none (.t 65)),og 67 52 false (.nn (.t 66)),og 68 52 false (.fld 0 (.t 67)),og 69 52 false (.ld none (.t 68)),og 70 52 false (.nn (.t 69)),og 71 52 false (.fld 0 (.t 70)),og 72 52 false (.ld none (.t 71)),og 73 52 false (.nn (.t 72)),og 74 52 false (.fld 0 (.t 73)),og 75 52 false (.ld none (.t 74)),og 76 52 false (.nn (.t 75)),og 77 52 false (.fld 0 (.t 76)),og 78 52 false (.ld none (.t 77)),og 79 52 false (.nn (.t 78)),og 80 52 false (.fld 3 (.t 79)),og 81 52 false (.fld 3 (.t 80)),og 82 52 false (.ld none (.t 81)),og 83 52 false (.bin .lss (.t 56) (.t 82)),o 84 (.pick (.t 52) (.c (.bool true)) (.t 83)),mv 18 84]) (.cond (.t 18) (.seq (.reg [mv 85 0,o 86 (.nn (.t 85)),o 87 (.fld 0 (.t 86)),o 88 (.ld none (.t 87)),o 89 (.nn (.t 88)),o 90 (.fld 0 (.t 89)),o 91 (.ld none (.t 90)),mv 92 1,mv 93 2,o 94 (.call 86 [.t 91, .t 92, .t 93]),o 95 (.ext (.t 94) 0),o 96 (.ext (.t 94) 1),o 97 (.ext (.t 94) 2),mv 6 95,mv 7 96,mv 8 97]) .ret) (.seq (.reg [mv 99 10,mv 100 0,o 101 (.nn (.t 100)),o 102 (.fld 0 (.t 101)),o 103 (.ld none (.t 102)),o 104 (.nn (.t 103)),o 105 (.fld 0 (.t 104)),o 106 (.ld none (.t 105)),o 107 (.nn (.t 106)),o 108 (.fld 0 (.t 107)),o 109 (.ld none (.t 108)),o 110 (.nn (.t 109)),o 111 (.fld 0 (.t 110)),o 112 (.ld none (.t 111)),o 113 (.nn (.t 112)),o 114 (.fld 0 (.t 113)),o 115 (.ld none (.t 114)),o 116 (.nn (.t 115)),o 117 (.fld 0 (.t 116)),o 118 (.ld none (.t 117)),o 119 (.nn (.t 118)),o 120 (.fld 0 (.t 119)),o 121 (.ld none (.t 120)),o 122 (.nn (.t 121)),o 123 (.fld 3 (.t 122)),o 124 (.fld 4 (.t 123)),o 125 (.ld none (.t 124)),bn 126 .geq 99 125,mv 127 126,og 128 127 true (.mv (.t 9)),og 129 127 true (.bin .leq (.t 128) (i64 16384)),o 130 (.pick (.t 127) (.t 129) (.c (.bool false))),mv 98 130]) (.cond (.t 98) (.seq (.reg [mv 132 0,mv 133 1,mv 134 2,o 135 (.call 87 [.t 132, .t 133, .t 134]),mv 131 135,o 136 (.ext (.t 131) 0),o 137 (.ext (.t 131) 1),mv 6 136,mv 7 137]) (.seq (.reg [mv 138 6,mv 139 7,mv 6 138,mv 7 139,o 8 (.mv (i64 0))]) .ret)) .skip))))))) (.seq (.reg [mv 140 0,mv 141 1,mv 142 2,o 143 (.call 88 [.t 140, .t 141, .t 142]),o 144 (.ext (.t 143) 0),o 145 (.ext (.t 143) 1),o 146 (.ext (.t 143) 2),mv 6 144,mv 7 145,mv 8 146]) .ret)))
theorem in_div_Engine_DivMod:Ent 67 147 c_div_Engine_DivMod [.t 6, .t 7, .t 8]:=ent Tryz.func67 rfl rfl rfl (show compile _ 147 _=_ by kernel_rfl) (show compRes _ 147 _=_ by kernel_rfl)
def c_div_Engine_newton:AC:= .seq (.reg [o 6 (.mv (.c (.sl none 0 0 none))),o 7 (.mv (.c (.sl none 0 0 none)))]) (.seq (.reg [mv 11 1,o 12 (.call 62 [.t 11]),o 13 (.bin .mul (i64 64) (.t 12)),mv 8 13]) (.seq (.reg [mv 15 0,o 16 (.nn (.t 15)),o 17 (.fld 0 (.t 16)),o 18 (.ld none (.t 17)),mv 19 2,mv 20 8,o 21 (.call 106 [.t 18, .t 19, .t 20]),mv 14 21,o 22 (.ext (.t 14) 0),o 23 (.ext (.t 14) 1),mv 9 22,mv 10 23]) (.seq (.reg [mv 24 0,o 25 (.nn (.t 24)),o 26 (.fld 0 (.t 25)),o 27 (.ld none (.t 26)),o 28 (.nn (.t 27)),o 29 (.fld 0 (.t 28)),o 30 (.ld none (.t 29)),o 31 (.nn (.t 30)),o 32 (.fld 0 (.t 31)),o 33 (.ld none (.t 32)),mv 34 1,mv 35 9,o 36 (.call 60 [.t 33, .t 34, .t 35]),mv 37 8,o 38 (.call 105 [.t 36, .t 37]),mv 6 38]) (.seq (.reg [mv 40 1,mv 41 0,o 42 (.nn (.t 41)),o 43 (.fld 0 (.t 42)),o 44 (.ld none (.t 43)),o 45 (.nn (.t 44)),o 46 (.fld 0 (.t 45)),o 47 (.ld none (.t 46)),o 48 (.nn (.t 47)),o 49 (.fld 0 (.t 48)),o 50 (.ld none (.t 49)),mv 51 6,mv 52 2,o 53 (.call 60 [.t 50, .t 51, .t 52]),o 54 (.call 59 [.t 40, .t 53]),mv 39 54,o 55 (.ext (.t 39) 0),o 56 (.ext (.t 39) 1),mv 7 55]) (.seq (.block 0 (.loop (.seq (.seq (.reg [mv 57 7,mv 58 2,o 59 (.call 71 [.t 57, .t 58]),o 60 (.bin .geq (.t 59) (i64 0))]) (.cond (.t 60) .skip (.exit 0))) (.block 1 (.seq (.reg [mv 62 7,mv 63 2,o 64 (.call 59 [.t 62, .t 63]),mv 61 64,o 65 (.ext (.t 61) 0),o 66 (.ext (.t 61) 1),mv 7 65]) (.reg [mv 67 6,o 68 (.call 65 [u64 1]),o 69 (.call 75 [.t 67, .t 68]),mv 6 69])))))) (.seq (.reg [mv 70 6,mv 71 7,mv 6 70,mv 7 71]) .ret))))))
theorem in_div_Engine_newton:Ent 87 72 c_div_Engine_newton [.t 6, .t 7]:=ent Tryz.func87 rfl rfl rfl (show compile _ 72 _=_ by kernel_rfl) (show compRes _ 72 _=_ by kernel_rfl)
def c_div_Engine_Halves:AC:= .seq (.reg [o 6 (.mv (.c (.sl none 0 0 none))),o 7 (.mv (.c (.sl none 0 0 none))),o 8 (.mv (i64 0))]) (.seq (.reg [mv 21 2,o 22 (.call 62 [.t 21]),mv 9 22]) (.seq (.seq (.reg [mv 23 9,o 24 (.bin .eql (.t 23) (i64 0))]) (.cond (.t 24) (.seq (.reg [o 6 (.mv (.c (.sl none 0 0 none))),o 7 (.mv (.c (.sl none 0 0 none))),o 8 (.mv (i64 2))]) .ret) .skip)) (.seq (.seq (.reg [mv 25 1,mv 26 2,o 27 (.call 71 [.t 25, .t 26]),o 28 (.bin .lss (.t 27) (i64 0))]) (.cond (.t 28) (.seq (.reg [mv 29 1,o 30 (.call 63 [.t 29]),o 6 (.mv (.c (.sl none 0 0 none))),mv 7 30,o 8 (.mv (i64 0))]) .ret) .skip)) (.seq (.reg [mv 31 9,mv 10 31,o 11 (.mv (i64 0))]) (.seq (.block 0 (.loop (.seq (.seq (.reg [mv 32 10,mv 33 0,o 34 (.nn (.t 33)),o 35 (.fld 0 (.t 34)),o 36 (.ld none (.t 35)),o 37 (.nn (.t 36)),o 38 (.fld 0 (.t 37)),o 39 (.ld none (.t 38)),o 40 (.nn (.t 39)),o 41 (.fld 0 (.t 40)),o 42 (.ld none (.t 41)),o 43 (.nn (.t 42)),o 44 (.fld 0 (.t 43)),o 45 (.ld none (.t 44)),o 46 (.nn (.t 45)),o 47 (.fld 0 (.t 46)),o 48 (.ld none (.t 47)),o 49 (.nn (.t 48)),o 50 (.fld 0 (.t 49)),o 51 (.ld none (.t 50)),o 52 (.nn (.t 51)),o 53 (.fld 0 (.t 52)),o 54 (.ld none (.t 53)),o 55 (.nn (.t 54)),o 56 (.fld 3 (.t 55)),o 57 (.fld 3 (.t 56)),o 58 (.ld none (.t 57)),bn 59 .geq 32 58]) (.cond (.t 59) .skip (.exit 0))) (.block 1 (.seq (.reg [mv 60 10,o 61 (.bin .add (.t 60) (i64 1)),o 62 (.bin .quo (.t 61) (i64 2)),mv 10 62]) (.reg [mv 63 11,o 64 (.bin .add (.t 63) (i64 1)),mv 11 64])))))) (.seq (.reg [mv 65 10,mv 66 11,o 67 (.cvI .u64 (.t 66)),bn 68 .shl 65 67,mv 10 68]) (.seq (.reg [mv 69 10,mv 70 9,bn 71 .sub 69 70,o 72 (.bin .mul (i64 64) (.t 71)),mv 73 2,mv 74 9,o 75 (.bin .sub (.t 74) (i64 1)),o 76 (.idx 1 (.t 73) (.t 75)),o 77 (.ld none (.t 76)),o 78 (.call 102 [.t 77]),bn 79 .add 72 78,mv 12 79]) (.seq (.reg [mv 80 2,mv 81 12,o 82 (.call 66 [.t 80, .t 81]),mv 13 82]) (.seq (.reg [mv 83 1,mv 84 12,o 85 (.call 66 [.t 83, .t 84]),mv 14 85]) (.seq (.reg [o 15 (.mv (.c (.sl none 0 0 none)))]) (.seq (.reg [mv 86 14,o 87 (.len false (.t 86)),mv 88 10,bn 89 .add 87 88,o 90 (.bin .sub (.t 89) (i64 1)),mv 91 10,bn 92 .quo 90 91,mv 16 92]) (.seq (.seq (.reg [mv 93 16,o 94 (.bin .sub (.t 93) (i64 1)),mv 17 94]) (.block 2 (.loop (.seq (.seq (.reg [mv 95 17,o 96 (.bin .geq (.t 95) (i64 0))]) (.cond (.t 96) .skip (.exit 2))) (.seq (.block 3 (.seq (.reg [o 18 (.mv (.c (.sl none 0 0 none)))]) (.seq (.reg [mv 100 0,mv 101 10,mv 102 14,mv 103 17,mv 104 10,bn 105 .mul 103 104,mv 106 10,o 107 (.call 109 [.t 102, .t 105, .t 106]),mv 108 7,o 109 (.bsl 37 1 2 [.sl none 0 0 none] [(0, .t 107),(1, .t 108)]),o 110 (.call 108 [.t 101, .t 109]),mv 111 13,mv 112 10,o 113 (.call 107 [.t 100, .t 110, .t 111, .t 112]),mv 99 113,o 114 (.ext (.t 99) 0),o 115 (.ext (.t 99) 1),mv 18 114,mv 7 115]) (.reg [mv 116 15,mv 117 18,o 118 (.bsl 37 1 1 [.sl none 0 0 none] [(0, .t 117)]),o 119 (.app 37 1 24 (.t 116) (.t 118)),mv 15 119])))) (.reg [mv 97 17,o 98 (.bin .sub (.t 97) (i64 1)),mv 17 98])))))) (.seq (.seq (.reg [mv 120 15,o 121 (.len false (.t 120)),o 122 (.bin .sub (.t 121) (i64 1)),o 19 (.mv (i64 0)),mv 20 122]) (.block 4 (.loop (.seq (.seq (.reg [mv 123 19,mv 124 20,bn 125 .lss 123 124]) (.cond (.t 125) .skip (.exit 4))) (.seq (.block 5 (.reg [mv 130 15,mv 131 19,mv 132 15,mv 133 20,mv 134 15,mv 135 20,o 136 (.idx 1 (.t 134) (.t 135)),o 137 (.ld none (.t 136)),mv 138 15,mv 139 19,o 140 (.idx 1 (.t 138) (.t 139)),o 141 (.ld none (.t 140)),o 142 (.idx 1 (.t 130) (.t 131)),od (.st 1 (.t 142) (.t 137)),o 143 (.idx 1 (.t 132) (.t 133)),od (.st 1 (.t 143) (.t 141))])) (.reg [mv 126 19,o 127 (.bin .add (.t 126) (i64 1)),mv 128 20,o 129 (.bin .sub (.t 128) (i64 1)),mv 19 127,mv 20 129])))))) (.seq (.reg [mv 144 10,mv 145 15,o 146 (.call 108 [.t 144, .t 145]),mv 147 7,mv 148 12,o 149 (.call 105 [.t 147, .t 148]),mv 6 146,mv 7 149,o 8 (.mv (i64 0))]) .ret))))))))))))))
theorem in_div_Engine_Halves:Ent 88 150 c_div_Engine_Halves [.t 6, .t 7, .t 8]:=ent Tryz.func88 rfl rfl rfl (show compile _ 150 _=_ by kernel_rfl) (show compRes _ 150 _=_ by kernel_rfl)
def c_div_Engine_two:AC:= .seq (.reg [o 8 (.mv (.c (.sl none 0 0 none))),o 9 (.mv (.c (.sl none 0 0 none)))]) (.seq (.seq (.reg [mv 15 3,o 16 (.bin .rem (.t 15) (i64 2)),o 17 (.bin .eql (.t 16) (i64 1)),mv 18 17,og 19 18 false (.mv (.t 3)),og 20 18 false (.mv (.t 0)),og 21 18 false (.nn (.t 20)),og 22 18 false (.fld 0 (.t 21)),og 23 18 false (.ld none (.t 22)),og 24 18 false (.nn (.t 23)),og 25 18 false (.fld 0 (.t 24)),og 26 18 false (.ld none (.t 25)),og 27 18 false (.nn (.t 26)),og 28 18 false (.fld 0 (.t 27)),og 29 18 false (.ld none (.t 28)),og 30 18 false (.nn (.t 29)),og 31 18 false (.fld 0 (.t 30)),og 32 18 false (.ld none (.t 31)),og 33 18 false (.nn (.t 32)),og 34 18 false (.fld 0 (.t 33)),og 35 18 false (.ld none (.t 34)),og 36 18 false (.nn (.t 35)),og 37 18 false (.fld 0 (.t 36)),og 38 18 false (.ld none (.t 37)),og 39 18 false (.nn (.t 38)),og 40 18 false (.fld 0 (.t 39)),og 41 18 false (.ld none (.t 40)),og 42 18 false (.nn (.t 41)),og 43 18 false (.fld 3 (.t 42)),og 44 18 false (.fld 3 (.t 43)),og 45 18 false (.ld none (.t 44)),og 46 18 false (.bin .lss (.t 19) (.t 45)),o 47 (.pick (.t 18) (.c (.bool true)) (.t 46))]) (.cond (.t 47) (.seq (.reg [mv 49 0,o 50 (.nn (.t 49)),o 51 (.fld 0 (.t 50)),o 52 (.ld none (.t 51)),o 53 (.nn (.t 52)),o 54 (.fld 0 (.t 53)),o 55 (.ld none (.t 54)),mv 56 1,mv 57 2,o 58 (.call 86 [.t 55, .t 56, .t 57]),mv 48 58,o 59 (.ext (.t 48) 0),o 60 (.ext (.t 48) 1),o 61 (.ext (.t 48) 2),mv 8 59,mv 9 60]) (.seq (.reg [mv 62 8,mv 63 9,mv 8 62,mv 9 63]) .ret)) .skip)) (.seq (.reg [mv 64 0,o 65 (.nn (.t 64)),o 66 (.fld 0 (.t 65)),o 67 (.ld none (.t 66)),o 68 (.nn (.t 67)),o 69 (.fld 0 (.t 68)),o 70 (.ld none (.t 69)),o 71 (.nn (.t 70)),o 72 (.fld 0 (.t 71)),o 73 (.ld none (.t 72)),o 74 (.nn (.t 73)),o 75 (.fld 0 (.t 74)),o 76 (.ld none (.t 75)),o 77 (.nn (.t 76)),o 78 (.fld 0 (.t 77)),o 79 (.ld none (.t 78)),o 80 (.nn (.t 79)),o 81 (.fld 0 (.t 80)),o 82 (.ld none (.t 81)),o 83 (.nn (.t 82)),o 84 (.fld 0 (.t 83)),o 85 (.ld none (.t 84)),o 86 (.nn (.t 85)),o 87 (.fld 0 (.t 86)),o 88 (.call 121 [.t 87])]) (.seq (.reg [mv 89 3,o 90 (.bin .quo (.t 89) (i64 2)),mv 10 90]) (.seq (.reg [mv 92 1,mv 93 10,o 94 (.call 122 [.t 92, .t 93]),mv 91 94,o 95 (.ext (.t 91) 0),o 96 (.ext (.t 91) 1),mv 11 95,mv 12 96]) (.seq (.reg [mv 98 0,mv 99 12,mv 100 2,mv 101 10,o 102 (.call 123 [.t 98, .t 99, .t 100, .t 101]),mv 97 102,o 103 (.ext (.t 97) 0),o 104 (.ext (.t 97) 1),mv 13 103,mv 9 104]) (.seq (.reg [mv 106 0,mv 107 10,mv 108 11,mv 109 9,o 110 (.bsl 37 1 2 [.sl none 0 0 none] [(0, .t 108),(1, .t 109)]),o 111 (.call 108 [.t 107, .t 110]),mv 112 2,mv 113 10,o 114 (.call 123 [.t 106, .t 111, .t 112, .t 113]),mv 105 114,o 115 (.ext (.t 105) 0),o 116 (.ext (.t 105) 1),mv 14 115,mv 9 116]) (.seq (.reg [mv 117 0,o 118 (.nn (.t 117)),o 119 (.fld 0 (.t 118)),o 120 (.ld none (.t 119)),o 121 (.nn (.t 120)),o 122 (.fld 0 (.t 121)),o 123 (.ld none (.t 122)),o 124 (.nn (.t 123)),o 125 (.fld 0 (.t 124)),o 126 (.ld none (.t 125)),o 127 (.nn (.t 126)),o 128 (.fld 0 (.t 127)),o 129 (.ld none (.t 128)),o 130 (.nn (.t 129)),o 131 (.fld 0 (.t 130)),o 132 (.ld none (.t 131)),o 133 (.nn (.t 132)),o 134 (.fld 0 (.t 133)),o 135 (.ld none (.t 134)),o 136 (.nn (.t 135)),o 137 (.fld 0 (.t 136)),o 138 (.ld none (.t 137)),o 139 (.nn (.t 138)),o 140 (.fld 0 (.t 139)),o 141 (.call 124 [.t 140])]) (.seq (.reg [mv 142 10,mv 143 14,mv 144 13,o 145 (.bsl 37 1 2 [.sl none 0 0 none] [(0, .t 143),(1, .t 144)]),o 146 (.call 108 [.t 142, .t 145]),mv 147 9,mv 8 146,mv 9 147]) .ret))))))))
theorem in_div_Engine_two:Ent 107 148 c_div_Engine_two [.t 8, .t 9]:=ent Tryz.func107 rfl rfl rfl (show compile _ 148 _=_ by kernel_rfl) (show compRes _ 148 _=_ by kernel_rfl)
def c_div_piece:AC:= .seq (.reg [o 6 (.mv (.c (.sl none 0 0 none)))]) (.seq (.seq (.reg [mv 7 1,mv 8 0,o 9 (.len false (.t 8)),bn 10 .geq 7 9]) (.cond (.t 10) (.seq (.reg [o 6 (.mv (.c (.sl none 0 0 none)))]) .ret) .skip)) (.seq (.reg [mv 11 0,mv 12 1,mv 13 0,o 14 (.len false (.t 13)),mv 15 1,mv 16 2,bn 17 .add 15 16,o 18 (.mnx false (.t 14) [.t 17]),o 19 (.slc 1 (.t 11) (some (.t 12)) (some (.t 18))),o 20 (.call 63 [.t 19]),mv 6 20]) .ret))
theorem in_div_piece:Ent 109 21 c_div_piece [.t 6]:=ent Tryz.func109 rfl rfl rfl (show compile _ 21 _=_ by kernel_rfl) (show compRes _ 21 _=_ by kernel_rfl)
def c_div_Engine_three:AC:= .seq (.reg [o 8 (.mv (.c (.sl none 0 0 none))),o 9 (.mv (.c (.sl none 0 0 none)))]) (.seq (.reg [mv 18 2,mv 19 3,o 20 (.call 122 [.t 18, .t 19]),mv 17 20,o 21 (.ext (.t 17) 0),o 22 (.ext (.t 17) 1),mv 10 21,mv 11 22]) (.seq (.reg [mv 24 1,mv 25 3,o 26 (.call 122 [.t 24, .t 25]),mv 23 26,o 27 (.ext (.t 23) 0),o 28 (.ext (.t 23) 1),mv 12 27,mv 13 28]) (.seq (.reg [mv 30 13,mv 31 3,o 32 (.call 122 [.t 30, .t 31]),mv 29 32,o 33 (.ext (.t 29) 0),o 34 (.ext (.t 29) 1),mv 14 33,mv 15 34]) (.seq (.seq (.reg [mv 35 15,mv 36 11,o 37 (.call 71 [.t 35, .t 36]),o 38 (.bin .lss (.t 37) (i64 0))]) (.cond (.t 38) (.reg [mv 40 0,mv 41 13,mv 42 11,mv 43 3,o 44 (.call 107 [.t 40, .t 41, .t 42, .t 43]),mv 39 44,o 45 (.ext (.t 39) 0),o 46 (.ext (.t 39) 1),mv 8 45,mv 9 46]) (.seq (.reg [mv 48 3,o 49 (.call 65 [u64 1]),o 50 (.bsl 37 1 2 [.sl none 0 0 none] [(0, .c (.sl none 0 0 none)),(1, .t 49)]),o 51 (.call 108 [.t 48, .t 50]),o 52 (.call 65 [u64 1]),o 53 (.call 59 [.t 51, .t 52]),mv 47 53,o 54 (.ext (.t 47) 0),o 55 (.ext (.t 47) 1),mv 8 54]) (.reg [mv 57 13,mv 58 11,o 59 (.call 75 [.t 57, .t 58]),mv 60 3,mv 61 11,o 62 (.bsl 37 1 2 [.sl none 0 0 none] [(0, .c (.sl none 0 0 none)),(1, .t 61)]),o 63 (.call 108 [.t 60, .t 62]),o 64 (.call 59 [.t 59, .t 63]),mv 56 64,o 65 (.ext (.t 56) 0),o 66 (.ext (.t 56) 1),mv 9 65])))) (.seq (.reg [mv 67 3,mv 68 12,mv 69 9,o 70 (.bsl 37 1 2 [.sl none 0 0 none] [(0, .t 68),(1, .t 69)]),o 71 (.call 108 [.t 67, .t 70]),mv 9 71]) (.seq (.reg [mv 72 0,o 73 (.nn (.t 72)),o 74 (.fld 0 (.t 73)),o 75 (.ld none (.t 74)),o 76 (.nn (.t 75)),o 77 (.fld 0 (.t 76)),o 78 (.ld none (.t 77)),o 79 (.nn (.t 78)),o 80 (.fld 0 (.t 79)),o 81 (.ld none (.t 80)),mv 82 8,mv 83 10,o 84 (.call 60 [.t 81, .t 82, .t 83]),mv 16 84]) (.seq (.block 0 (.loop (.seq (.seq (.reg [mv 85 9,mv 86 16,o 87 (.call 71 [.t 85, .t 86]),o 88 (.bin .lss (.t 87) (i64 0))]) (.cond (.t 88) .skip (.exit 0))) (.block 1 (.seq (.reg [mv 90 8,o 91 (.call 65 [u64 1]),o 92 (.call 59 [.t 90, .t 91]),mv 89 92,o 93 (.ext (.t 89) 0),o 94 (.ext (.t 89) 1),mv 8 93]) (.reg [mv 95 9,mv 96 2,o 97 (.call 75 [.t 95, .t 96]),mv 9 97])))))) (.seq (.reg [mv 99 9,mv 100 16,o 101 (.call 59 [.t 99, .t 100]),mv 98 101,o 102 (.ext (.t 98) 0),o 103 (.ext (.t 98) 1),mv 9 102]) (.seq (.reg [mv 104 8,mv 105 9,mv 8 104,mv 9 105]) .ret)))))))))
theorem in_div_Engine_three:Ent 123 106 c_div_Engine_three [.t 8, .t 9]:=ent Tryz.func123 rfl rfl rfl (show compile _ 106 _=_ by kernel_rfl) (show compRes _ 106 _=_ by kernel_rfl)
def c_recip_New:AC:= .seq (.reg [o 1 (.box 23 (.t 0)),o 2 (.mv (.c (.ptr none)))]) (.seq (.reg [o 3 (.ld (some 11) (.t 1)),o 4 (.call 96 [.t 3]),o 5 (.bld [.ptr none] [(0,1, .t 4)]),o 6 (.box 121 (.t 5)),mv 2 6]) .ret)
theorem in_recip_New:Ent 79 7 c_recip_New [.t 2]:=ent Tryz.func79 rfl rfl rfl (show compile _ 7 _=_ by kernel_rfl) (show compRes _ 7 _=_ by kernel_rfl)
def c_recip_Engine_Recip:AC:= .seq (.reg [o 6 (.mv (.c (.sl none 0 0 none))),o 7 (.mv (i64 0))]) (.seq (.seq (.reg [mv 8 1,o 9 (.call 54 [.t 8])]) (.cond (.t 9) (.seq (.reg [o 6 (.mv (.c (.sl none 0 0 none))),o 7 (.mv (i64 2))]) .ret) .skip)) (.seq (.seq (.reg [mv 10 2,o 11 (.bin .lss (.t 10) (i64 0)),mv 12 11,og 13 12 false (.mv (.t 2)),og 14 12 false (.bin .gtr (.t 13) (i64 1048576)),o 15 (.pick (.t 12) (.c (.bool true)) (.t 14))]) (.cond (.t 15) (.seq (.reg [o 6 (.mv (.c (.sl none 0 0 none))),o 7 (.mv (i64 1))]) .ret) .skip)) (.seq (.seq (.reg [mv 16 2,mv 17 1,o 18 (.call 64 [.t 17]),o 19 (.bin .sub (.t 18) (i64 1)),bn 20 .lss 16 19]) (.cond (.t 20) (.seq (.reg [o 6 (.mv (.c (.sl none 0 0 none))),o 7 (.mv (i64 0))]) .ret) .skip)) (.seq (.reg [mv 21 0,mv 22 1,o 23 (.call 63 [.t 22]),mv 24 2,o 25 (.call 120 [.t 21, .t 23, .t 24]),mv 6 25,o 7 (.mv (i64 0))]) .ret))))
theorem in_recip_Engine_Recip:Ent 106 26 c_recip_Engine_Recip [.t 6, .t 7]:=ent Tryz.func106 rfl rfl rfl (show compile _ 26 _=_ by kernel_rfl) (show compRes _ 26 _=_ by kernel_rfl)
def c_recip_Engine_newton:AC:= .seq (.reg [o 6 (.mv (.c (.sl none 0 0 none)))]) (.seq (.reg [mv 16 2,mv 17 1,o 18 (.call 64 [.t 17]),bn 19 .sub 16 18,o 20 (.bin .add (.t 19) (i64 1)),mv 7 20]) (.seq (.seq (.reg [mv 21 1,o 22 (.len false (.t 21)),mv 23 0,o 24 (.nn (.t 23)),o 25 (.fld 0 (.t 24)),o 26 (.ld none (.t 25)),o 27 (.nn (.t 26)),o 28 (.fld 0 (.t 27)),o 29 (.ld none (.t 28)),o 30 (.nn (.t 29)),o 31 (.fld 0 (.t 30)),o 32 (.ld none (.t 31)),o 33 (.nn (.t 32)),o 34 (.fld 0 (.t 33)),o 35 (.ld none (.t 34)),o 36 (.nn (.t 35)),o 37 (.fld 0 (.t 36)),o 38 (.ld none (.t 37)),o 39 (.nn (.t 38)),o 40 (.fld 0 (.t 39)),o 41 (.ld none (.t 40)),o 42 (.nn (.t 41)),o 43 (.fld 3 (.t 42)),o 44 (.fld 4 (.t 43)),o 45 (.ld none (.t 44)),bn 46 .lss 22 45,mv 47 46,og 48 47 false (.mv (.t 7)),og 49 47 false (.bin .leq (.t 48) (i64 64)),o 50 (.pick (.t 47) (.c (.bool true)) (.t 49))]) (.cond (.t 50) (.seq (.reg [mv 52 0,o 53 (.nn (.t 52)),o 54 (.fld 0 (.t 53)),o 55 (.ld none (.t 54)),mv 56 2,mv 58 1,⟨some 57,none, .call 138 [.t 56],[(some 55,none, .ld none (.t 54))]⟩,o 59 (.call 86 [.t 55, .t 57, .t 58]),mv 51 59,o 60 (.ext (.t 51) 0),o 61 (.ext (.t 51) 1),o 62 (.ext (.t 51) 2),mv 8 60,mv 9 61,mv 10 62]) (.seq (.reg [mv 63 8,mv 6 63]) .ret)) .skip)) (.seq (.reg [mv 64 0,o 65 (.nn (.t 64)),o 66 (.fld 0 (.t 65)),o 67 (.ld none (.t 66)),o 68 (.nn (.t 67)),o 69 (.fld 0 (.t 68)),o 70 (.ld none (.t 69)),o 71 (.nn (.t 70)),o 72 (.fld 0 (.t 71)),o 73 (.ld none (.t 72)),o 74 (.nn (.t 73)),o 75 (.fld 0 (.t 74)),o 76 (.ld none (.t 75)),o 77 (.nn (.t 76)),o 78 (.fld 0 (.t 77)),o 79 (.ld none (.t 78)),o 80 (.nn (.t 79)),o 81 (.fld 0 (.t 80)),o 82 (.ld none (.t 81)),o 83 (.nn (.t 82)),o 84 (.fld 0 (.t 83)),o 85 (.call 121 [.t 84])]) (.seq (.reg [mv 86 7,o 87 (.bin .quo (.t 86) (i64 2)),o 88 (.bin .add (.t 87) (i64 4)),mv 11 88]) (.seq (.reg [mv 89 1,o 90 (.call 64 [.t 89]),mv 91 11,bn 92 .sub 90 91,o 93 (.bin .sub (.t 92) (i64 4)),o 94 (.mnx true (i64 0) [.t 93]),mv 12 94]) (.seq (.reg [mv 95 1,mv 96 12,o 97 (.call 105 [.t 95, .t 96]),mv 13 97]) (.seq (.reg [mv 98 13,o 99 (.call 64 [.t 98]),o 100 (.bin .sub (.t 99) (i64 1)),mv 101 11,bn 102 .add 100 101,mv 14 102]) (.seq (.reg [mv 103 0,mv 104 13,mv 105 14,o 106 (.call 120 [.t 103, .t 104, .t 105]),mv 15 106]) (.seq (.reg [mv 107 15,mv 108 2,mv 109 14,bn 110 .sub 108 109,mv 111 12,bn 112 .sub 110 111,o 113 (.mnx true (i64 0) [.t 112]),o 114 (.call 66 [.t 107, .t 113]),mv 15 114]) (.seq (.reg [mv 115 15,mv 116 14,mv 117 12,bn 118 .add 116 117,mv 119 2,bn 120 .sub 118 119,o 121 (.mnx true (i64 0) [.t 120]),o 122 (.call 105 [.t 115, .t 121]),mv 15 122]) (.seq (.reg [mv 123 0,mv 124 1,mv 125 15,mv 126 2,o 127 (.call 139 [.t 123, .t 124, .t 125, .t 126]),mv 15 127]) (.seq (.reg [mv 128 0,o 129 (.nn (.t 128)),o 130 (.fld 0 (.t 129)),o 131 (.ld none (.t 130)),o 132 (.nn (.t 131)),o 133 (.fld 0 (.t 132)),o 134 (.ld none (.t 133)),o 135 (.nn (.t 134)),o 136 (.fld 0 (.t 135)),o 137 (.ld none (.t 136)),o 138 (.nn (.t 137)),o 139 (.fld 0 (.t 138)),o 140 (.ld none (.t 139)),o 141 (.nn (.t 140)),o 142 (.fld 0 (.t 141)),o 143 (.ld none (.t 142)),o 144 (.nn (.t 143)),o 145 (.fld 0 (.t 144)),o 146 (.ld none (.t 145)),o 147 (.nn (.t 146)),o 148 (.fld 0 (.t 147)),o 149 (.call 124 [.t 148])]) (.seq (.reg [mv 150 0,mv 151 1,mv 152 15,mv 153 2,o 154 (.call 140 [.t 150, .t 151, .t 152, .t 153]),mv 6 154]) .ret)))))))))))))
theorem in_recip_Engine_newton:Ent 120 155 c_recip_Engine_newton [.t 6]:=ent Tryz.func120 rfl rfl rfl (show compile _ 155 _=_ by kernel_rfl) (show compRes _ 155 _=_ by kernel_rfl)
def c_recip_power:AC:= .seq (.reg [o 2 (.mv (.c (.sl none 0 0 none)))]) (.seq (.reg [o 3 (.call 65 [u64 1]),mv 4 0,o 5 (.call 66 [.t 3, .t 4]),mv 2 5]) .ret)
theorem in_recip_power:Ent 138 6 c_recip_power [.t 2]:=ent Tryz.func138 rfl rfl rfl (show compile _ 6 _=_ by kernel_rfl) (show compRes _ 6 _=_ by kernel_rfl)
def c_recip_Engine_step:AC:= .seq (.reg [o 8 (.mv (.c (.sl none 0 0 none)))]) (.seq (.reg [mv 18 0,o 19 (.nn (.t 18)),o 20 (.fld 0 (.t 19)),o 21 (.ld none (.t 20)),o 22 (.nn (.t 21)),o 23 (.fld 0 (.t 22)),o 24 (.ld none (.t 23)),mv 25 1,mv 26 2,o 27 (.call 60 [.t 24, .t 25, .t 26]),mv 9 27]) (.seq (.reg [mv 28 3,o 29 (.call 138 [.t 28]),mv 10 29]) (.seq (.seq (.reg [mv 31 10,mv 32 9,o 33 (.call 59 [.t 31, .t 32]),mv 30 33,o 34 (.ext (.t 30) 0),o 35 (.ext (.t 30) 1),mv 11 34,mv 12 35]) (.seq (.reg [mv 36 12]) (.cond (.t 36) (.seq (.reg [mv 37 2,mv 38 0,o 39 (.nn (.t 38)),o 40 (.fld 0 (.t 39)),o 41 (.ld none (.t 40)),o 42 (.nn (.t 41)),o 43 (.fld 0 (.t 42)),o 44 (.ld none (.t 43)),mv 45 2,mv 46 11,o 47 (.call 60 [.t 44, .t 45, .t 46]),mv 48 3,o 49 (.call 105 [.t 47, .t 48]),o 50 (.call 75 [.t 37, .t 49]),mv 8 50]) .ret) .skip))) (.seq (.reg [mv 52 9,mv 53 10,o 54 (.call 59 [.t 52, .t 53]),mv 51 54,o 55 (.ext (.t 51) 0),o 56 (.ext (.t 51) 1),mv 13 55,mv 14 56]) (.seq (.reg [mv 57 0,o 58 (.nn (.t 57)),o 59 (.fld 0 (.t 58)),o 60 (.ld none (.t 59)),o 61 (.nn (.t 60)),o 62 (.fld 0 (.t 61)),o 63 (.ld none (.t 62)),mv 64 2,mv 65 13,o 66 (.call 60 [.t 63, .t 64, .t 65]),mv 67 3,o 68 (.call 105 [.t 66, .t 67]),o 69 (.call 65 [u64 1]),o 70 (.call 75 [.t 68, .t 69]),mv 15 70]) (.seq (.reg [mv 72 2,mv 73 15,o 74 (.call 59 [.t 72, .t 73]),mv 71 74,o 75 (.ext (.t 71) 0),o 76 (.ext (.t 71) 1),mv 16 75,mv 17 76]) (.seq (.seq (.reg [mv 77 17,o 78 (.un .not (.t 77))]) (.cond (.t 78) (.seq (.reg [o 8 (.mv (.c (.sl none 0 0 none)))]) .ret) .skip)) (.seq (.reg [mv 79 16,mv 8 79]) .ret))))))))
theorem in_recip_Engine_step:Ent 139 80 c_recip_Engine_step [.t 8]:=ent Tryz.func139 rfl rfl rfl (show compile _ 80 _=_ by kernel_rfl) (show compRes _ 80 _=_ by kernel_rfl)
def c_recip_Engine_right:AC:= .seq (.reg [o 8 (.mv (.c (.sl none 0 0 none)))]) (.seq (.reg [mv 16 3,o 17 (.call 138 [.t 16]),mv 9 17]) (.seq (.reg [mv 18 0,o 19 (.nn (.t 18)),o 20 (.fld 0 (.t 19)),o 21 (.ld none (.t 20)),o 22 (.nn (.t 21)),o 23 (.fld 0 (.t 22)),o 24 (.ld none (.t 23)),mv 25 1,mv 26 2,o 27 (.call 60 [.t 24, .t 25, .t 26]),mv 10 27]) (.seq (.seq (.reg [o 28 (.mv (i64 0))]) (.block 0 (.loop (.seq (.reg [o 29 (.bin .lss (.t 28) (i64 8))]) (.seq (.cond (.t 29) .skip (.exit 0)) (.seq (.block 1 (.seq (.reg [mv 31 9,mv 32 10,o 33 (.call 59 [.t 31, .t 32]),mv 30 33,o 34 (.ext (.t 30) 0),o 35 (.ext (.t 30) 1),mv 11 34,mv 12 35]) (.seq (.seq (.reg [mv 36 12,o 37 (.un .not (.t 36))]) (.cond (.t 37) (.seq (.reg [mv 39 2,o 40 (.call 65 [u64 1]),o 41 (.call 59 [.t 39, .t 40]),mv 38 41,o 42 (.ext (.t 38) 0),o 43 (.ext (.t 38) 1),mv 2 42]) (.seq (.reg [mv 45 10,mv 46 1,o 47 (.call 59 [.t 45, .t 46]),mv 44 47,o 48 (.ext (.t 44) 0),o 49 (.ext (.t 44) 1),mv 10 48]) (.exit 1))) .skip)) (.seq (.seq (.reg [mv 50 11,mv 51 1,o 52 (.call 71 [.t 50, .t 51]),o 53 (.bin .lss (.t 52) (i64 0))]) (.cond (.t 53) (.seq (.reg [mv 54 2,mv 8 54]) .ret) .skip)) (.seq (.reg [mv 55 2,o 56 (.call 65 [u64 1]),o 57 (.call 75 [.t 55, .t 56]),mv 2 57]) (.reg [mv 58 10,mv 59 1,o 60 (.call 75 [.t 58, .t 59]),mv 10 60])))))) (.reg [o 61 (.bin .add (.t 28) (i64 1)),mv 28 61]))))))) (.seq (.reg [mv 63 0,o 64 (.nn (.t 63)),o 65 (.fld 0 (.t 64)),o 66 (.ld none (.t 65)),mv 67 9,mv 68 1,o 69 (.call 86 [.t 66, .t 67, .t 68]),mv 62 69,o 70 (.ext (.t 62) 0),o 71 (.ext (.t 62) 1),o 72 (.ext (.t 62) 2),mv 13 70,mv 14 71,mv 15 72]) (.seq (.reg [mv 73 13,mv 8 73]) .ret)))))
theorem in_recip_Engine_right:Ent 140 74 c_recip_Engine_right [.t 8]:=ent Tryz.func140 rfl rfl rfl (show compile _ 74 _=_ by kernel_rfl) (show compRes _ 74 _=_ by kernel_rfl)
end
def H.lee (u:Nat) (h h':H):Prop:=h.next≤h'.next∧∀i r,i≠u→h.rows i=some r→h'.rows i=some r
theorem H.le.lee {u:Nat} {h h':H} (hl:h.le h'):H.lee u h h':=⟨hl.1,fun i r _ hr=>hl.2 i r hr⟩
theorem H.lee.trans {u:Nat} {a b c:H} (h:H.lee u a b) (k:H.lee u b c):H.lee u a c:=⟨Nat.le_trans h.1 k.1,fun i r hi hr=>k.2 i r hi (h.2 i r hi hr)⟩
theorem H.lee_refl (u:Nat) (h:H):H.lee u h h:=(H.le_refl h).lee
theorem H.lee_set {u:Nat} {h:H} (r:Row):H.lee u h (h.set u r):=⟨Nat.le_refl _,fun i q hi hr=>by rw[H.rows_set_ne hi];exact hr⟩
theorem IsW.monoE {u:Nat} {k:IntKind} {h h':H} {v:AV} {xs:List Int} {ru:Row} (hu:h.rows u=some ru) (ho:ru.own≠none) (hz:ru.esz≠1) (hv:IsW k h v xs) (hl:H.lee u h h'):IsW k h' v xs:=by
 obtain⟨id,off,c,rfl,h1⟩:=hv
 refine⟨id,off,c,rfl, ?_⟩
 rcases h1 with h1|⟨i,r,rfl,hr,hor,h3,h4⟩
 ·exact .inl h1
 ·refine .inr ⟨i,r,rfl,hl.2 i r ?_ hr,hor,h3,h4⟩
  rintro rfl
  rw[hu] at hr
  injection hr with hr
  subst hr
  rcases hor with h|h
  ·exact ho h
  ·exact hz h
def wr (m:Nat):Int:=IntKind.i64.wrap (m:Int)
theorem wr_small {m:Nat} (h:m<9223372036854775808):wr m=(m:Int):=wI (by omega) (by omega)
theorem wr_add {m n:Nat}:IntKind.i64.wrap (wr m+(n:Int))=wr (m+n):=by
 unfold wr
 rw[IntKind.wrap_i64,IntKind.wrap_i64,IntKind.wrap_i64]
 omega
def tuneRow (m nw dp:Nat) (t:Tb):Row:=⟨some 168,14,[.int .i64 (wr m), .int .i64 (nw:Int), .int .i64 (dp:Int)]++t.cells⟩
def Tune (h:H) (u m nw dp:Nat) (t:Tb):Prop:=h.rows u=some (tuneRow m nw dp t)
def Eng:Nat→H→Nat→Nat→Prop
 |0,_,e,u=>e=u
 |d+1,h,e,u=>∃r e',h.rows e=some r∧r.cells=[.ptr (some (e',0))]∧Eng d h e' u
theorem Eng.mono {h h':H} {u:Nat}:∀{d e:Nat},Eng d h e u→h.le h'→Eng d h' e u
 |0,_,he,_=>he
 |_+1,_,⟨r,e',h1,h2,h3⟩,hl=>⟨r,e',hl.2 _ _ h1,h2,h3.mono hl⟩
theorem Eng.monoE {h h':H} {u m nw dp:Nat} {t:Tb} (ht:Tune h u m nw dp t) (hl:H.lee u h h'):∀{d e:Nat},Eng d h e u→Eng d h' e u
 |0,_,he=>he
 |_+1,e,⟨r,e',h1,h2,h3⟩=>⟨r,e',hl.2 _ _ (by
   rintro rfl
   rw[ht] at h1
   injection h1 with h1
   rw[←h1] at h2
   have:=congrArg List.length h2
   simp[tuneRow,Tb.cells] at this) h1,h2,Eng.monoE ht hl h3⟩
theorem Tune.mono {h h':H} {u m nw dp:Nat} {t:Tb} (ht:Tune h u m nw dp t) (hl:h.le h'):Tune h' u m nw dp t:=hl.2 _ _ ht
theorem IsN.monoE {h h':H} {u m nw dp:Nat} {t:Tb} {v:AV} {xs:List Nat} (ht:Tune h u m nw dp t) (hv:IsN h v xs) (hl:H.lee u h h'):IsN h' v xs:=IsW.monoE ht (by simp[tuneRow]) (by simp[tuneRow]) hv hl
theorem Nn.monoE {h h':H} {u m nw dp:Nat} {t:Tb} {v:AV} {x:Nat} (ht:Tune h u m nw dp t) (hv:Nn h v x) (hl:H.lee u h h'):Nn h' v x:=by
 obtain⟨xs,h1,h2⟩:=hv
 exact⟨xs,h1.monoE ht hl,h2⟩
theorem IsG.monoE {b:Nat} {h h':H} {u:Nat} {v:AV} {xs:List Nat} (hub:u<b) (hv:IsG b h v xs) (hl:H.lee u h h'):IsG b h' v xs:=by
 obtain⟨id,c,rfl,h1⟩:=hv
 refine⟨id,c,rfl, ?_⟩
 rcases h1 with h1|⟨i,r,rfl,hb,hr,h2⟩
 ·exact .inl h1
 ·exact .inr ⟨i,r,rfl,hb,hl.2 i r (by omega) hr,h2⟩
theorem Nf.monoE {b:Nat} {h h':H} {u:Nat} {v:AV} {x:Nat} (hub:u<b) (hv:Nf b h v x) (hl:H.lee u h h'):Nf b h' v x:=by
 obtain⟨xs,h1,h2⟩:=hv
 exact⟨xs,h1.monoE hub hl,h2⟩
theorem Spend_calls {u m nw dp n:Nat} {t:Tb} {h:H} {K:AV→H→Prop} (ht:Tune h u m nw dp t)
  (hk:∀h',h'.wf→H.lee u h h'→h'.next=h.next→Tune h' u (m+n) nw dp t→K (.int .i64 (wr (m+n))) h'):ACalls Tryz.prog 101 [.ptr (some (u,0)), .int .i64 (n:Int)] h K:=by
 refine in_meter_Meter_Spend (by simp) fun hw=> ?_
 unfold c_meter_Meter_Spend
 have hul:=H.row_lt hw ht
 have hg:h.get u 0=some (.int .i64 (wr m)):=by rw[H.get_of ht];rfl
 rcases Nat.eq_zero_or_pos n with h0|h0
 ·subst h0
  simp only[go_sem,show decide ((0:Int)<((0:Nat):Int))=false from rfl,hg]
  exact fun _=>hk h hw (H.lee_refl u h) rfl ht
 ·have hr:h.rows u=some (tuneRow m nw dp t):=ht
  simp only[go_sem,show decide ((0:Int)<(n:Int))=true from decide_eq_true (by omega),hg,wr_add (m:=m) (n:=n),hr]
  refine⟨by simp[tuneRow],by simp[tuneRow], ?_⟩
  have hp:({tuneRow m nw dp t with cells:=putAt (tuneRow m nw dp t).cells 0 [AV.int .i64 (wr (m+n))]}:Row)=tuneRow (m+n) nw dp t:=by
   simp[tuneRow,putAt]
  rw[hp]
  have hg2:(h.set u (tuneRow (m+n) nw dp t)).get u 0=some (.int .i64 (wr (m+n))):=by rw[H.get_of (H.rows_set _ _ _)];rfl
  simp only[go_sem,hg2]
  exact fun hw'=>hk _ hw' (H.lee_set _) rfl (H.rows_set _ _ _)
theorem tune_zero {t:Tb}:tuneRow 0 0 0 t=⟨some 168,14,tuneCells t⟩:=by
 have e:wr 0=0:=wr_small (by omega)
 simp[tuneRow,tuneCells,e]
theorem tNew_calls {t:Tb} {h:H} {K:AV→H→Prop} (hk:∀id h',h'.wf→h.le h'→h.next≤id→Tune h' id 0 0 0 (clampT t)→K (.ptr (some (id,0))) h'):ACalls Tryz.prog 161 [t.av] h K:=
 New_calls fun id h' hw' hl' hn hr=>hk id h' hw' hl' hn (by unfold Tune;rw[tune_zero];exact hr)
theorem bldp {p:Option (Nat×Nat)}:abuild [AV.ptr none] [(0,1,AV.ptr p)]=some [AV.ptr p]:=by simp[abuild,putAt,AV.held,AV.cells]
theorem sNew_calls {t:Tb} {h:H} {K:AV→H→Prop} (hk:∀e u h',h'.wf→h.le h'→h.next≤u→u<e→Eng 1 h' e u→Tune h' u 0 0 0 (clampT t)→K (.ptr (some (e,0))) h'):ACalls Tryz.prog 154 [t.av] h K:=by
 refine in_school_New (by simp) fun hw=> ?_
 unfold c_school_New
 have hl1:=H.le_new hw (H.le_refl h) ⟨some 23,11,t.cells⟩
 have hn1:h.next<(h.new ⟨some 23,11,t.cells⟩).next:=Nat.lt_succ_self _
 simp only[go_sem,av_held,av_cells,cells_len,true_and,gsT (H.rows_new h _)]
 refine tNew_calls fun u h1 hw1 hl2 hn2 ht=> ?_
 simp only[go_sem,bldp]
 simp only[AV.held,AV.cells,true_and,go_sem]
 have hl3:=H.le_new hw1 (H.le_refl h1) ⟨some 164,1,[AV.ptr (some (u,0))]⟩
 exact fun hw'=>hk _ u _ hw' (H.le_trans hl1 (H.le_trans hl2 hl3)) (by omega) (H.row_lt hw1 ht) ⟨_,u,H.rows_new _ _,rfl,rfl⟩ (ht.mono hl3)
theorem kNew_calls {t:Tb} {h:H} {K:AV→H→Prop} (hk:∀e u h',h'.wf→h.le h'→h.next≤u→u<e→Eng 2 h' e u→Tune h' u 0 0 0 (clampT t)→K (.ptr (some (e,0))) h'):ACalls Tryz.prog 142 [t.av] h K:=by
 refine in_kara_New (by simp) fun hw=> ?_
 unfold c_kara_New
 have hl1:=H.le_new hw (H.le_refl h) ⟨some 23,11,t.cells⟩
 have hn1:h.next<(h.new ⟨some 23,11,t.cells⟩).next:=Nat.lt_succ_self _
 simp only[go_sem,av_held,av_cells,cells_len,true_and,gsT (H.rows_new h _)]
 refine sNew_calls fun e u h1 hw1 hl2 hn2 _ he ht=> ?_
 simp only[go_sem,bldp]
 simp only[AV.held,AV.cells,true_and,go_sem]
 have hl3:=H.le_new hw1 (H.le_refl h1) ⟨some 161,1,[AV.ptr (some (e,0))]⟩
 exact fun hw'=>hk _ u _ hw' (H.le_trans hl1 (H.le_trans hl2 hl3)) (by omega) (H.row_lt hw1 ht) ⟨_,e,H.rows_new _ _,rfl,he.mono hl3⟩ (ht.mono hl3)
theorem toNew_calls {t:Tb} {h:H} {K:AV→H→Prop} (hk:∀e u h',h'.wf→h.le h'→h.next≤u→u<e→Eng 3 h' e u→Tune h' u 0 0 0 (clampT t)→K (.ptr (some (e,0))) h'):ACalls Tryz.prog 126 [t.av] h K:=by
 refine in_toom_New (by simp) fun hw=> ?_
 unfold c_toom_New
 have hl1:=H.le_new hw (H.le_refl h) ⟨some 23,11,t.cells⟩
 have hn1:h.next<(h.new ⟨some 23,11,t.cells⟩).next:=Nat.lt_succ_self _
 simp only[go_sem,av_held,av_cells,cells_len,true_and,gsT (H.rows_new h _)]
 refine kNew_calls fun e u h1 hw1 hl2 hn2 _ he ht=> ?_
 simp only[go_sem,bldp]
 simp only[AV.held,AV.cells,true_and,go_sem]
 have hl3:=H.le_new hw1 (H.le_refl h1) ⟨some 158,1,[AV.ptr (some (e,0))]⟩
 exact fun hw'=>hk _ u _ hw' (H.le_trans hl1 (H.le_trans hl2 hl3)) (by omega) (H.row_lt hw1 ht) ⟨_,e,H.rows_new _ _,rfl,he.mono hl3⟩ (ht.mono hl3)
theorem mNew_calls {t:Tb} {h:H} {K:AV→H→Prop} (hk:∀e u h',h'.wf→h.le h'→h.next≤u→u<e→Eng 4 h' e u→Tune h' u 0 0 0 (clampT t)→K (.ptr (some (e,0))) h'):ACalls Tryz.prog 111 [t.av] h K:=by
 refine in_mul_New (by simp) fun hw=> ?_
 unfold c_mul_New
 have hl1:=H.le_new hw (H.le_refl h) ⟨some 23,11,t.cells⟩
 have hn1:h.next<(h.new ⟨some 23,11,t.cells⟩).next:=Nat.lt_succ_self _
 simp only[go_sem,av_held,av_cells,cells_len,true_and,gsT (H.rows_new h _)]
 refine toNew_calls fun e u h1 hw1 hl2 hn2 _ he ht=> ?_
 simp only[go_sem,bldp]
 simp only[AV.held,AV.cells,true_and,go_sem]
 have hl3:=H.le_new hw1 (H.le_refl h1) ⟨some 155,1,[AV.ptr (some (e,0))]⟩
 exact fun hw'=>hk _ u _ hw' (H.le_trans hl1 (H.le_trans hl2 hl3)) (by omega) (H.row_lt hw1 ht) ⟨_,e,H.rows_new _ _,rfl,he.mono hl3⟩ (ht.mono hl3)
theorem dNew_calls {t:Tb} {h:H} {K:AV→H→Prop} (hk:∀e u h',h'.wf→h.le h'→h.next≤u→u<e→Eng 5 h' e u→Tune h' u 0 0 0 (clampT t)→K (.ptr (some (e,0))) h'):ACalls Tryz.prog 96 [t.av] h K:=by
 refine in_divs_New (by simp) fun hw=> ?_
 unfold c_divs_New
 have hl1:=H.le_new hw (H.le_refl h) ⟨some 23,11,t.cells⟩
 have hn1:h.next<(h.new ⟨some 23,11,t.cells⟩).next:=Nat.lt_succ_self _
 simp only[go_sem,av_held,av_cells,cells_len,true_and,gsT (H.rows_new h _)]
 refine mNew_calls fun e u h1 hw1 hl2 hn2 _ he ht=> ?_
 simp only[go_sem,bldp]
 simp only[AV.held,AV.cells,true_and,go_sem]
 have hl3:=H.le_new hw1 (H.le_refl h1) ⟨some 124,1,[AV.ptr (some (e,0))]⟩
 exact fun hw'=>hk _ u _ hw' (H.le_trans hl1 (H.le_trans hl2 hl3)) (by omega) (H.row_lt hw1 ht) ⟨_,e,H.rows_new _ _,rfl,he.mono hl3⟩ (ht.mono hl3)
theorem comU {x:Nat} (hx:x<18446744073709551616):bCom .u64 (x:Int)=((18446744073709551615-x:Nat):Int):=by
 have e1:(BitVec.ofInt 64 18446744073709551615^^^BitVec.ofInt 64 (x:Int)).toNat=18446744073709551615-x:=by
  rw[show BitVec.ofInt 64 18446744073709551615=BitVec.allOnes 64 from by decide,BitVec.allOnes_xor,BitVec.toNat_not,BitVec.toNat_ofInt]
  show 18446744073709551615-((x:Int)%18446744073709551616).toNat=_
  omega
 show IntKind.u64.wrap (((BitVec.ofInt 64 18446744073709551615^^^BitVec.ofInt 64 (x:Int)).toNat:Nat):Int)=_
 rw[e1]
 exact wUn (by omega)
theorem Inverse_calls {d:Nat} {h:H} {K:AV→H→Prop} (hd:d<18446744073709551616)
  (hk1:d<9223372036854775808→K (.tup [.int .u64 0, .bool false]) h)
  (hk2:9223372036854775808≤d→K (.tup [.int .u64 (((18446744073709551615-d)*18446744073709551616+18446744073709551615)/d:Nat), .bool true]) h):ACalls Tryz.prog 118 [.int .u64 (d:Int)] h K:=by
 refine in_word_Inverse (by simp) fun hw=> ?_
 unfold c_word_Inverse
 simp only[go_sem]
 refine cond_split (fun hc=> ?_) (fun hc=> ?_)
 ·simp only[go_sem]
  exact fun _=>hk1 (by simp at hc;omega)
 ·have hge:9223372036854775808≤d:=by simp at hc;omega
  simp only[go_sem,comU hd]
  refine Div64_calls (lo:=18446744073709551615) (by omega) (by omega) hd ?_
  simp only[go_sem]
  exact fun _=>hk2 hge
theorem cmpI_ne {x:Nat}:(cmpI x x !=0)=false:=by simp[cmpI]
theorem addUm {a b:Nat}:IntKind.u64.wrap ((a:Int)+(b:Int))=(((a+b)%18446744073709551616:Nat):Int):=by rw[wUm];omega
def IsInv (d v:Nat):Prop:=v<18446744073709551616∧∃k:Nat,k≤d∧1≤k∧(18446744073709551616+v)*d+k=340282366920938463463374607431768211456
theorem inv_of {d:Nat} (hd:d<18446744073709551616) (h2:9223372036854775808≤d):IsInv d (((18446744073709551615-d)*18446744073709551616+18446744073709551615)/d):=by
 have h1:=Nat.div_add_mod ((18446744073709551615-d)*18446744073709551616+18446744073709551615) d
 have h3:=Nat.mod_lt ((18446744073709551615-d)*18446744073709551616+18446744073709551615) (show 0<d by omega)
 have hv:((18446744073709551615-d)*18446744073709551616+18446744073709551615)/d<18446744073709551616:=by
  rw[Nat.div_lt_iff_lt_mul (by omega)]
  omega
 generalize ((18446744073709551615-d)*18446744073709551616+18446744073709551615)/d=v at*
 generalize ((18446744073709551615-d)*18446744073709551616+18446744073709551615)%d=m at*
 refine⟨hv,m+1,by omega,by omega, ?_⟩
 rw[Nat.add_mul,Nat.mul_comm v d]
 generalize d*v=t at*
 omega
def IsInv2 (d1 d0 v:Nat):Prop:=v<18446744073709551616∧∃k:Nat,1≤k∧k≤d1*18446744073709551616+d0∧(18446744073709551616+v)*(d1*18446744073709551616+d0)+k=6277101735386680763835789423207666416102355444464034512896
theorem dec_mul {v d:Nat} (hv:1≤v):(18446744073709551616+(v-1))*d+d=(18446744073709551616+v)*d:=by
 rw[←Nat.succ_mul]
 congr 1
 omega
structure Inv1 (d1 d0 v p k:Nat):Prop where
 hv:v<18446744073709551616
 eq:(18446744073709551616+v)*d1+k=340282366920938463463374607431768211456
 lo:d0<k
 hi:k≤d1+d0
 hp:p+k=18446744073709551616+d0
theorem inv2_value {d1 d0 v p k:Nat} (i:Inv1 d1 d0 v p k):(6277101735386680763835789423207666416102355444464034512896:Int)-(18446744073709551616+v)*(d1*18446744073709551616+d0)=18446744073709551616*((k:Int)-d0)-v*d0:=by
 have h:=i.eq
 have h2:((18446744073709551616:Int)+v)*d1+k=340282366920938463463374607431768211456:=by
  have:=congrArg (fun n:Nat=>(n:Int)) h
  simpa using this
 have h3:((18446744073709551616:Int)+v)*(d1*18446744073709551616+d0)=18446744073709551616*(((18446744073709551616:Int)+v)*d1)+18446744073709551616*d0+v*d0:=by grind
 rw[h3]
 generalize ((18446744073709551616:Int)+v)*d1=t at*
 generalize (v:Int)*d0=s at*
 omega
theorem inv2_keep {d1 d0 v p k:Nat} (i:Inv1 d1 d0 v p k) (hc:v*d0/18446744073709551616+d0<k):IsInv2 d1 d0 v:=by
 have h:=inv2_value i
 have e:=Nat.div_add_mod (v*d0) 18446744073709551616
 have e2:v*d0%18446744073709551616<18446744073709551616:=Nat.mod_lt _ (by decide)
 have a:=i.lo
 have b:=i.hi
 refine⟨i.hv,18446744073709551616*(k-d0)-v*d0, ?_, ?_, ?_⟩
 ·generalize v*d0=t at*;omega
 ·generalize v*d0=t at*;omega
 ·have h2:(((18446744073709551616+v)*(d1*18446744073709551616+d0):Nat):Int)=((18446744073709551616:Int)+v)*(d1*18446744073709551616+d0):=by simp
  have h3:((v:Int)*d0)=((v*d0:Nat):Int):=by simp
  rw[←h2,h3] at h
  generalize (18446744073709551616+v)*(d1*18446744073709551616+d0)=s at*
  generalize v*d0=t at*
  omega
theorem inv2_one {d1 d0 v p k:Nat} (i:Inv1 d1 d0 v p k) (hd1:d1<18446744073709551616) (hd0:d0<18446744073709551616) (hc:k≤v*d0/18446744073709551616+d0) (h2:v*d0<18446744073709551616*(k-d0)+(d1*18446744073709551616+d0)):1≤v∧IsInv2 d1 d0 (v-1):=by
 have h:=inv2_value i
 have e:=Nat.div_add_mod (v*d0) 18446744073709551616
 have a:=i.lo
 have b:=i.hi
 have hv:1≤v:=by
  rcases Nat.eq_zero_or_pos v with h0|h0
  ·subst h0;simp at hc;omega
  ·exact h0
 have hvb:=i.hv
 refine⟨hv,by omega,18446744073709551616*(k-d0)+(d1*18446744073709551616+d0)-v*d0, ?_, ?_, ?_⟩
 ·omega
 ·generalize v*d0=t at*;omega
 ·have h4:=dec_mul (d:=d1*18446744073709551616+d0) hv
  have h2:(((18446744073709551616+v)*(d1*18446744073709551616+d0):Nat):Int)=((18446744073709551616:Int)+v)*(d1*18446744073709551616+d0):=by simp
  have h3:((v:Int)*d0)=((v*d0:Nat):Int):=by simp
  rw[←h2,h3,←h4] at h
  generalize (18446744073709551616+(v-1))*(d1*18446744073709551616+d0)=s at*
  generalize v*d0=t at*
  omega
theorem inv2_two {d1 d0 v p k:Nat} (i:Inv1 d1 d0 v p k) (hd1:d1<18446744073709551616) (h63:9223372036854775808≤d1) (hd0:d0<18446744073709551616) (h2:18446744073709551616*(k-d0)+(d1*18446744073709551616+d0)≤v*d0):2≤v∧IsInv2 d1 d0 (v-2):=by
 have h:=inv2_value i
 have a:=i.lo
 have b:=i.hi
 have hvb:=i.hv
 have hv:2≤v:=by
  rcases Nat.lt_or_ge v 2 with h0|h0
  ·have:v*d0≤1*d0:=Nat.mul_le_mul_right d0 (by omega)
   omega
  ·exact h0
 have hmax:v*d0≤18446744073709551615*18446744073709551615:=Nat.mul_le_mul (by omega) (by omega)
 refine⟨hv,by omega,18446744073709551616*(k-d0)+2*(d1*18446744073709551616+d0)-v*d0, ?_, ?_, ?_⟩
 ·generalize v*d0=t at*;omega
 ·generalize v*d0=t at*;omega
 ·have h4:=dec_mul (v:=v) (d:=d1*18446744073709551616+d0) (by omega)
  have h5:=dec_mul (v:=v-1) (d:=d1*18446744073709551616+d0) (by omega)
  rw[show v-1-1=v-2 from by omega] at h5
  have h2:(((18446744073709551616+v)*(d1*18446744073709551616+d0):Nat):Int)=((18446744073709551616:Int)+v)*(d1*18446744073709551616+d0):=by simp
  have h3:((v:Int)*d0)=((v*d0:Nat):Int):=by simp
  rw[←h2,h3,←h4,←h5] at h
  generalize (18446744073709551616+(v-2))*(d1*18446744073709551616+d0)=s at*
  generalize v*d0=t at*
  omega
theorem Inverse2_calls {d1 d0:Nat} {h:H} {K:AV→H→Prop} (hd1:d1<18446744073709551616) (hd0:d0<18446744073709551616)
  (hk1:d1<9223372036854775808→K (.tup [.int .u64 0, .bool false]) h)
  (hk2:9223372036854775808≤d1→∀v:Nat,IsInv2 d1 d0 v→K (.tup [.int .u64 (v:Int), .bool true]) h):ACalls Tryz.prog 103 [.int .u64 (d1:Int), .int .u64 (d0:Int)] h K:=by
 refine in_word_Inverse2 (by simp) fun hw=> ?_
 unfold c_word_Inverse2
 simp only[go_sem]
 refine Inverse_calls hd1 (fun hc=> ?_) (fun hc=> ?_)
 ·simp only[go_sem,Bool.not_false]
  exact fun _=>hk1 hc
 obtain⟨hv,k,hk0,hk1,hk4⟩:=inv_of hd1 hc
 obtain⟨v,hv0⟩:∃v,v=((18446744073709551615-d1)*18446744073709551616+18446744073709551615)/d1:=⟨_,rfl⟩
 rw[←hv0] at hv hk4
 rw[←hv0]
 clear hv0
 have ht:v*d1+18446744073709551616*d1+k=340282366920938463463374607431768211456:=by rw[←hk4,Nat.add_mul];omega
 have hv1:1≤v:=by
  rcases Nat.eq_zero_or_pos v with h0|h0
  ·subst h0;omega
  ·exact h0
 have hp:IntKind.u64.wrap (IntKind.u64.wrap ((d1:Int)*(v:Int))+(d0:Int))=((if k≤d0 then d0-k else 18446744073709551616+d0-k:Nat):Int):=by
  rw[←Int.natCast_mul,Nat.mul_comm d1 v,wUm,wUm]
  generalize v*d1=t at*
  split<;>omega
 simp only[go_sem,Bool.not_true,hp]
 refine cond_cut (fun ρ' h'=>h'=h∧ρ' 0= .int .u64 (d1:Int)∧ρ' 1= .int .u64 (d0:Int)∧∃v p k:Nat,ρ' 6= .int .u64 (v:Int)∧ρ' 8= .int .u64 (p:Int)∧Inv1 d1 d0 v p k) ?_ ?_
 ·refine cond_split (fun hc1=> ?_) (fun hc1=> ?_)
  ·have hkd:k≤d0:=by
    rcases Nat.lt_or_ge d0 k with h0|h0
    ·rw[if_neg (by omega)] at hc1;simp at hc1;omega
    ·exact h0
   rw[if_pos hkd]
   have s1:=subN1 (a:=v) hv1 (by omega)
   have m1:=dec_mul (v:=v) (d:=d1) hv1
   simp only[go_sem,s1]
   refine cond_cut (fun ρ' h'=>h'=h∧ρ' 0= .int .u64 (d1:Int)∧ρ' 1= .int .u64 (d0:Int)∧∃v p k:Nat,ρ' 6= .int .u64 (v:Int)∧ρ' 8= .int .u64 (p:Int)∧v<18446744073709551616∧(18446744073709551616+v)*d1+k=340282366920938463463374607431768211456∧d0<k∧k≤d1+d0∧p+k=d1+d0∧p<18446744073709551616) ?_ ?_
   ·refine cond_split (fun hc2=> ?_) (fun hc2=> ?_)
    ·have hc2:d1≤d0-k:=by simp at hc2;omega
     have hv2:2≤v:=by
      rcases Nat.lt_or_ge v 2 with h0|h0
      ·have:v=1:=by omega
       subst this
       omega
      ·exact h0
     have s2:=subN1 (a:=v-1) (by omega) (by omega)
     have m2:=dec_mul (v:=v-1) (d:=d1) (by omega)
     have s3:=subN (a:=d0-k) (b:=d1) hc2 (by omega)
     simp only[go_sem,s2,s3]
     exact⟨by first|rfl|trivial|assumption,by first|rfl|trivial|assumption,by first|rfl|trivial|assumption,v-1-1,d0-k-d1,k+d1+d1,rfl,rfl,by omega,by omega,by omega,by omega,by omega,by omega⟩
    ·have hc2:d0-k<d1:=by simp at hc2;omega
     simp only[go_sem]
     exact⟨by first|rfl|trivial|assumption,by first|rfl|trivial|assumption,by first|rfl|trivial|assumption,v-1,d0-k,k+d1,rfl,rfl,by omega,by omega,by omega,by omega,by omega,by omega⟩
   ·rintro ρ h' ⟨rfl,g0,g1,v',p',k',g6,g8,f1,f2,f3,f4,f5,f6⟩
    have s3:IntKind.u64.wrap ((p':Int)-(d1:Int))=((18446744073709551616+d0-k':Nat):Int):=by rw[wUm];omega
    simp only[go_sem,g0,g1,g6,g8,s3]
    exact⟨by first|rfl|trivial|assumption,by first|rfl|trivial|assumption,by first|rfl|trivial|assumption,v',18446744073709551616+d0-k',k',by first|rfl|trivial|assumption,rfl,⟨f1,f2,f3,f4,by omega⟩⟩
  ·have hkd:d0<k:=by
    rcases Nat.lt_or_ge d0 k with h0|h0
    ·exact h0
    ·rw[if_pos (by omega)] at hc1;simp at hc1;omega
   rw[if_neg (by omega)]
   simp only[go_sem]
   exact⟨by first|rfl|trivial|assumption,by first|rfl|trivial|assumption,by first|rfl|trivial|assumption,v,18446744073709551616+d0-k,k,rfl,rfl,⟨hv,hk4,hkd,by omega,by omega⟩⟩
 clear hk4 ht hp hv hk0 hk1 hv1
 rintro ρ h' ⟨rfl,g0,g1,v',p',k',g6,g8,i⟩
 simp only[go_sem,g0,g1,g6,g8]
 refine Mul64_calls i.hv hd0 ?_
 have iv:=i.hv
 have ilo:=i.lo
 have ihi:=i.hi
 have ip:=i.hp
 have e:=Nat.div_add_mod (v'*d0) 18446744073709551616
 have e2:v'*d0%18446744073709551616<18446744073709551616:=Nat.mod_lt _ (by decide)
 have hmax:v'*d0≤18446744073709551615*18446744073709551615:=Nat.mul_le_mul (by omega) (by omega)
 have w1:=addUm (a:=p') (b:=v'*d0/18446744073709551616)
 simp only[go_sem,g0,g1,g6,g8,w1]
 refine cond_split (fun hc1=> ?_) (fun hc1=> ?_)
 ·have hc1:k'≤v'*d0/18446744073709551616+d0:=by simp at hc1;omega
  have hpp:(p'+v'*d0/18446744073709551616)%18446744073709551616=v'*d0/18446744073709551616+d0-k':=by omega
  have hone:v'*d0<18446744073709551616*(k'-d0)+(d1*18446744073709551616+d0)→1≤v'∧IsInv2 d1 d0 (v'-1):=inv2_one i hd1 hd0 hc1
  have htwo:18446744073709551616*(k'-d0)+(d1*18446744073709551616+d0)≤v'*d0→2≤v'∧IsInv2 d1 d0 (v'-2):=inv2_two i hd1 hc hd0
  have hv1:1≤v':=by
   rcases Nat.lt_or_ge (v'*d0) (18446744073709551616*(k'-d0)+(d1*18446744073709551616+d0)) with h0|h0
   ·exact(hone h0).1
   ·have:=(htwo h0).1;omega
  have s1:=subN1 (a:=v') hv1 (by omega)
  rw[hpp]
  obtain⟨P,hP⟩:∃P,P=v'*d0/18446744073709551616+d0-k':=⟨_,rfl⟩
  rw[←hP]
  have less:(P<d1∨(P=d1∧v'*d0%18446744073709551616<d0))→∀Q:Prop,(IsInv2 d1 d0 (v'-1)→Q)→Q:=fun hh Q hQ=>hQ (hone (by omega)).2
  have more:(d1<P∨(P=d1∧d0≤v'*d0%18446744073709551616))→∀Q:Prop,(2≤v'→IsInv2 d1 d0 (v'-2)→Q)→Q:=fun hh Q hQ=>hQ (htwo (by omega)).1 (htwo (by omega)).2
  rcases Nat.lt_trichotomy P d1 with c1|c1|c1
  ·have t1:=ltF (a:=d1) (b:=P) (by omega)
   have t2:((P:Int)==(d1:Int))=false:=by simp;omega
   simp only[go_sem,g0,g1,g6,g8,s1,t1,t2]
   exact fun _=>less (.inl c1) _ fun hh=>hk2 hc _ hh
  ·have t1:=ltF (a:=d1) (b:=P) (by omega)
   have t2:((P:Int)==(d1:Int))=true:=by simp;omega
   simp only[go_sem,g0,g1,g6,g8,s1,t1,t2]
   refine cond_split (fun c2=> ?_) (fun c2=> ?_)
   ·refine more (.inr ⟨c1,by simp at c2;omega⟩) _ fun h2 hh=> ?_
    have s2:=subN1 (a:=v'-1) (by omega) (by omega)
    simp only[go_sem,s2]
    exact fun _=>hk2 hc _ hh
   ·refine less (.inr ⟨c1,by simp at c2;omega⟩) _ fun hh=> ?_
    simp only[go_sem]
    exact fun _=>hk2 hc _ hh
  ·have t1:=ltT (a:=d1) (b:=P) c1
   refine more (.inl c1) _ fun h2 hh=> ?_
   have s2:=subN1 (a:=v'-1) (by omega) (by omega)
   simp only[go_sem,g0,g1,g6,g8,s1,t1,s2]
   exact fun _=>hk2 hc _ hh
 ·have hc1:v'*d0/18446744073709551616+d0<k':=by simp at hc1;omega
  simp only[go_sem,g0,g1,g6,g8]
  exact fun _=>hk2 hc _ (inv2_keep i hc1)
theorem mg3_bounds {B v D k a2 a1 a0 q1 q0 r:Int} (h1:(B+v)*D+k=B*B*B) (h2:(B+v)*a2+a1=q1*B+q0) (h3:r=a2*B*B+a1*B+a0-(q1+1)*D) (hk0:0≤k) (hk:k≤D) (hD:D<B*B) (hDB:B≤D) (hB:0<B) (hv:0≤v)
  (ha2:0≤a2) (ha1:0≤a1) (ha1B:a1<B) (ha0:0≤a0) (ha0B:a0<B) (hx:a2*B+a1<D) (hq0:0≤q0) (hq0B:q0<B): -D≤r∧q0*B≤B*B+r∧(r<B*B-D∨r<q0*B):=by
 have key:B*r=a2*k+a1*(B*B-D)+a0*B+q0*D-B*D:=by grind
 have p1:0≤a2*k:=Int.mul_nonneg ha2 hk0
 have p2:0≤a1*(B*B-D):=Int.mul_nonneg ha1 (by omega)
 have p3:0≤a0*B:=Int.mul_nonneg ha0 (by omega)
 have p4:0≤q0*D:=Int.mul_nonneg hq0 (by omega)
 refine⟨?_, ?_, ?_⟩
 ·have e:B*(-D)≤B*r:=by rw[key];grind
  exact Int.le_of_mul_le_mul_left e hB
 ·have e0:(B-q0)*D≤(B-q0)*(B*B):=Int.mul_le_mul_of_nonneg_left (by omega) (by omega)
  have e:B*(q0*B-B*B)≤B*r:=by rw[key];grind
  have:=Int.le_of_mul_le_mul_left e hB
  omega
 ·rcases Int.lt_or_le r (B*B-D) with c1|c1
  ·exact .inl c1
  ·refine .inr ?_
   rcases Int.lt_or_le r (q0*B) with c2|c2
   ·exact c2
   ·exfalso
    have hvD:v*D=B*B*B-B*D-k:=by grind
    have key2:B*B*r=(a2*B+a1)*k+a1*(v*D)+a0*(B*B)+q0*B*D-B*B*D:=by
     have:B*B*r=B*(B*r):=by grind
     rw[this,key,hvD]
     grind
    have b1:(a2*B+a1)*k≤(D-1)*k:=Int.mul_le_mul_of_nonneg_right (by omega) hk0
    have b2:a1*(v*D)≤(B-1)*(v*D):=Int.mul_le_mul_of_nonneg_right (by omega) (Int.mul_nonneg hv (by omega))
    have b3:a0*(B*B)≤(B-1)*(B*B):=Int.mul_le_mul_of_nonneg_right (by omega) (by omega)
    have b4:(D-B)*k≤(D-B)*D:=Int.mul_le_mul_of_nonneg_left hk (by omega)
    have b5:(B*B-D)*(B*B-D)≤(B*B-D)*r:=Int.mul_le_mul_of_nonneg_left c1 (by omega)
    have b6:D*(q0*B)≤D*r:=Int.mul_le_mul_of_nonneg_left c2 (by omega)
    have b7:0<B*B:=Int.mul_pos hB hB
    rw[hvD] at b2 key2
    have e1:B*B*r=(B*B-D)*r+D*r:=by grind
    have e2:(D-1)*k+(B-1)*(B*B*B-B*D-k)+(B-1)*(B*B)=(D-B)*k+(B-1)*(B*B*B-B*D)+(B-1)*(B*B):=by grind
    have e3:(D-B)*D+(B-1)*(B*B*B-B*D)+(B-1)*(B*B)+q0*B*D-B*B*D+B*B=(B*B-D)*(B*B-D)+D*(q0*B):=by grind
    omega
theorem ite01 {p:Prop} [Decidable p]:(if p then 1 else 0:Nat)≤1:=by split<;>omega
theorem mod_congr {a b m r:Nat} (h:r=a%m) (e:b=a):b%m=r:=by rw[h,e]
theorem sub2 {x1 x0 y1 y0:Nat} (h1:x1<18446744073709551616) (h2:x0<18446744073709551616) (h3:y1<18446744073709551616) (h4:y0<18446744073709551616):
  ∃r:Nat,r<340282366920938463463374607431768211456∧r=(x1*18446744073709551616+x0+340282366920938463463374607431768211456-(y1*18446744073709551616+y0))%340282366920938463463374607431768211456∧(x1+18446744073709551616-y1-(if x0<y0+0 then 1 else 0))%18446744073709551616=r/18446744073709551616∧(x0+18446744073709551616-y0-0)%18446744073709551616=r%18446744073709551616:=by
 refine⟨_,Nat.mod_lt _ (by decide),rfl, ?_, ?_⟩
 ·split<;>omega
 ·omega
theorem add2 {x1 x0 y1 y0:Nat} (h1:x1<18446744073709551616) (h2:x0<18446744073709551616) (h3:y1<18446744073709551616) (h4:y0<18446744073709551616):
  ∃r:Nat,r<340282366920938463463374607431768211456∧r=(x1*18446744073709551616+x0+(y1*18446744073709551616+y0))%340282366920938463463374607431768211456∧(x1+y1+(x0+y0+0)/18446744073709551616)%18446744073709551616=r/18446744073709551616∧(x0+y0+0)%18446744073709551616=r%18446744073709551616:=by
 refine⟨_,Nat.mod_lt _ (by decide),rfl, ?_, ?_⟩<;>omega
theorem below_calls {a1 a0 b1 b0:Nat} {h:H} {K:AV→H→Prop} (h0:a0<18446744073709551616) (h1:b0<18446744073709551616)
  (hk:∀t,t=decide (a1*18446744073709551616+a0<b1*18446744073709551616+b0)→K (.bool t) h):ACalls Tryz.prog 137 [.int .u64 (a1:Int), .int .u64 (a0:Int), .int .u64 (b1:Int), .int .u64 (b0:Int)] h K:=by
 refine in_word_below (by simp) fun hw=> ?_
 unfold c_word_below
 rcases Nat.lt_trichotomy a1 b1 with c|c|c
 ·simp only[go_sem,ltT c]
  exact fun _=>hk true (by simp;omega)
 ·have e:((a1:Int)==(b1:Int))=true:=by simp;omega
  simp only[go_sem,ltF (Nat.le_of_eq c.symm),e]
  intro _
  refine hk _ ?_
  simp
  omega
 ·have e:((a1:Int)==(b1:Int))=false:=by simp;omega
  simp only[go_sem,ltF (Nat.le_of_lt c),e]
  exact fun _=>hk false (by simp;omega)
theorem div3_top {v a2 a1 D:Nat} (hI:(18446744073709551616+v)*D<6277101735386680763835789423207666416102355444464034512896) (hx:a2*18446744073709551616+a1<D):(18446744073709551616+v)*a2+a1<340282366920938463463374607431768211456:=by
 have h1:(18446744073709551616+v)*(a2*18446744073709551616+a1+1)≤(18446744073709551616+v)*D:=Nat.mul_le_mul_left _ hx
 have h2:(18446744073709551616+v)*(a2*18446744073709551616+a1+1)=(18446744073709551616+v)*a2*18446744073709551616+(18446744073709551616+v)*(a1+1):=by rw[Nat.add_assoc,Nat.mul_add,Nat.mul_assoc]
 have h3:18446744073709551616*(a1+1)≤(18446744073709551616+v)*(a1+1):=Nat.mul_le_mul_right _ (by omega)
 generalize (18446744073709551616+v)*a2=s at*
 generalize (18446744073709551616+v)*(a1+1)=t at*
 generalize (18446744073709551616+v)*D=u at*
 omega
theorem modN {a m r:Nat} (h:r=a%m):∃q:Int,(r:Int)=a-m*q:=⟨(a/m:Nat),by
 have:=Nat.div_add_mod a m
 rw[←h] at this
 have:=congrArg (fun n:Nat=>(n:Int)) this
 simp at this
 simp
 omega⟩
theorem div3_mod {a2 a1 a0 D t u w R1 R0:Nat} (hD:D<340282366920938463463374607431768211456) (hw:w=(a1+18446744073709551616-t%18446744073709551616)%18446744073709551616) (h1:R1=(w*18446744073709551616+a0+340282366920938463463374607431768211456-(u/18446744073709551616*18446744073709551616+u%18446744073709551616))%340282366920938463463374607431768211456) (hu:u<340282366920938463463374607431768211456)
  (h0:R0=(R1/18446744073709551616*18446744073709551616+R1%18446744073709551616+340282366920938463463374607431768211456-D)%340282366920938463463374607431768211456):
  ∃j:Int,(R0:Int)=((a2*18446744073709551616+a1)*18446744073709551616+a0:Nat)-(t*18446744073709551616+u:Nat)-D+340282366920938463463374607431768211456*j:=by
 rw[show R1/18446744073709551616*18446744073709551616+R1%18446744073709551616=R1 from by omega] at h0
 rw[show u/18446744073709551616*18446744073709551616+u%18446744073709551616=u from by omega] at h1
 obtain⟨x,hx⟩:=modN (a:=t) (m:=18446744073709551616) rfl
 obtain⟨y,hy⟩:=modN hw
 obtain⟨z,hz⟩:=modN h1
 obtain⟨v,hv⟩:=modN h0
 have hl:t%18446744073709551616<18446744073709551616:=Nat.mod_lt _ (by decide)
 rw[Int.ofNat_sub (by omega)] at hy hz hv
 generalize t%18446744073709551616=s at*
 clear hw h1 h0
 refine⟨x-y-z-v+3-a2, ?_⟩
 simp at hx hy hz hv⊢
 omega
theorem div3_plain {X D P q0 R0 Q1:Nat} (hP:P=Q1*D) (hD:D<340282366920938463463374607431768211456) (hD2:170141183460469231731687303715884105728≤D) (hX:X<D*18446744073709551616) (hq0:q0<18446744073709551616) (hQ:Q1<18446744073709551616)
  (hR:R0<340282366920938463463374607431768211456) (hj:∃j:Int,(R0:Int)=X-P-D+340282366920938463463374607431768211456*j)
  (b1: -(D:Int)≤(X:Int)-(P+D:Nat)) (b2:(q0:Int)*18446744073709551616≤340282366920938463463374607431768211456+((X:Int)-(P+D:Nat)))
  (b3:(X:Int)-(P+D:Nat)<340282366920938463463374607431768211456-D∨(X:Int)-(P+D:Nat)<q0*18446744073709551616):
  (R0/18446744073709551616<q0→(R0<D→X=(Q1+1)*D+R0)∧(D≤R0→X=(Q1+2)*D+(R0-D)∧R0-D<D))∧
  (q0≤R0/18446744073709551616→((R0+D)%340282366920938463463374607431768211456<D→X=Q1*D+(R0+D)%340282366920938463463374607431768211456)∧
   (D≤(R0+D)%340282366920938463463374607431768211456→X=(Q1+1)*D+((R0+D)%340282366920938463463374607431768211456-D)∧(R0+D)%340282366920938463463374607431768211456-D<D)):=by
 obtain⟨j,hj⟩:=hj
 have e1:(Q1+1)*D=P+D:=by rw[Nat.add_mul,hP];omega
 have e2:(Q1+2)*D=P+D+D:=by rw[Nat.add_mul,hP];omega
 rw[e1,e2,←hP]
 have hj2:j=0∨j=1:=by omega
 refine⟨fun h1=>⟨fun h2=> ?_,fun h2=> ?_⟩,fun h1=>⟨fun h2=> ?_,fun h2=> ?_⟩⟩<;>rcases hj2 with rfl|rfl<;>omega
theorem quot_lt {X D q r:Nat} (hX:X<D*18446744073709551616) (e:X=q*D+r):q<18446744073709551616:=by
 rcases Nat.lt_or_ge q 18446744073709551616 with h|h
 ·exact h
 ·have:=Nat.mul_le_mul_right D h
  rw[Nat.mul_comm D] at hX
  omega
theorem below_t {R D:Nat} (h:R<D):decide (R/18446744073709551616*18446744073709551616+R%18446744073709551616<D)=true:=decide_eq_true (by omega)
theorem below_f {R D:Nat} (h:D≤R):decide (R/18446744073709551616*18446744073709551616+R%18446744073709551616<D)=false:=decide_eq_false (by omega)
theorem div3_lt0 {y a0 D:Nat} (h0:a0<18446744073709551616) (c2:y<D):y*18446744073709551616+a0<D*18446744073709551616:=by omega
theorem div3_lt {a2 a1 a0 D:Nat} (h0:a0<18446744073709551616) (c2:a2*18446744073709551616+a1<D):(a2*18446744073709551616+a1)*18446744073709551616+a0<D*18446744073709551616:=div3_lt0 h0 c2
theorem div3_law {a2 a1 a0 d1 d0 v k Q1 q0 R1 R0 D X:Nat} (hDe:D=d1*18446744073709551616+d0) (hXe:X=(a2*18446744073709551616+a1)*18446744073709551616+a0) (h2:a2<18446744073709551616) (h1:a1<18446744073709551616) (h0:a0<18446744073709551616) (hd1:d1<18446744073709551616) (hd0:d0<18446744073709551616) (c1:9223372036854775808≤d1) (c2:a2*18446744073709551616+a1<D)
  (hk3:k≤D) (hk4:(18446744073709551616+v)*D+k=6277101735386680763835789423207666416102355444464034512896)
  (hQ1:Q1<18446744073709551616) (hQ0:q0<18446744073709551616) (hsum:(18446744073709551616+v)*a2+a1=Q1*18446744073709551616+q0) (hR0:R0<340282366920938463463374607431768211456)
  (eR1:R1=((a1+18446744073709551616-Q1*d1%18446744073709551616)%18446744073709551616*18446744073709551616+a0+340282366920938463463374607431768211456-(d0*Q1/18446744073709551616*18446744073709551616+d0*Q1%18446744073709551616))%340282366920938463463374607431768211456)
  (eR0:R0=(R1/18446744073709551616*18446744073709551616+R1%18446744073709551616+340282366920938463463374607431768211456-(d1*18446744073709551616+d0))%340282366920938463463374607431768211456):
  (R0/18446744073709551616<q0→(R0<D→X=(Q1+1)*D+R0)∧(D≤R0→X=(Q1+2)*D+(R0-D)∧R0-D<D))∧
  (q0≤R0/18446744073709551616→((R0+D)%340282366920938463463374607431768211456<D→X=Q1*D+(R0+D)%340282366920938463463374607431768211456)∧
   (D≤(R0+D)%340282366920938463463374607431768211456→X=(Q1+1)*D+((R0+D)%340282366920938463463374607431768211456-D)∧(R0+D)%340282366920938463463374607431768211456-D<D)):=by
 have hDt:D<340282366920938463463374607431768211456:=by omega
 have hD2:170141183460469231731687303715884105728≤D:=by omega
 have hX:X<D*18446744073709551616:=by
  rw[hXe]
  exact div3_lt h0 c2
 have hu:d0*Q1<340282366920938463463374607431768211456:=by
  have:=Nat.mul_lt_mul'' hd0 hQ1
  clear hsum hk4 eR1 eR0
  omega
 have em:Q1*D=Q1*d1*18446744073709551616+d0*Q1:=by rw[hDe,Nat.mul_add,Nat.mul_assoc,Nat.mul_comm Q1 d0]
 rw[←hDe] at eR0
 have hj:=div3_mod (a2:=a2) hDt rfl eR1 hu eR0
 rw[←em,←hXe] at hj
 have hXi:(X:Int)=a2*18446744073709551616*18446744073709551616+a1*18446744073709551616+a0:=by rw[hXe];simp;grind
 have hB2:(18446744073709551616:Int)*18446744073709551616=340282366920938463463374607431768211456:=by decide
 obtain⟨b1,b2,b3⟩:=mg3_bounds (B:=18446744073709551616) (v:=v) (D:=D) (k:=k) (a2:=a2) (a1:=a1) (a0:=a0) (q1:=Q1) (q0:=q0) (r:=X-(Q1+1)*(D:Int))
  (by have:=congrArg (fun n:Nat=>(n:Int)) hk4;simpa using this) (by have:=congrArg (fun n:Nat=>(n:Int)) hsum;simpa using this) (by rw[hXi]) (by omega) (by omega) (by rw[hB2];omega) (by omega) (by decide) (by omega) (by omega) (by omega) (by omega) (by omega) (by omega) (by omega) (by omega) (by omega)
 have eP:((Q1:Int)+1)*(D:Int)=((Q1*D+D:Nat):Int):=by simp;grind
 rw[eP] at b1 b2 b3
 rw[hB2] at b2 b3
 exact div3_plain rfl hDt hD2 hX hQ0 hQ1 hR0 hj b1 b2 b3
theorem Div3_calls {a2 a1 a0 d1 d0 v:Nat} {h:H} {K:AV→H→Prop} (h2:a2<18446744073709551616) (h1:a1<18446744073709551616) (h0:a0<18446744073709551616) (hd1:d1<18446744073709551616) (hd0:d0<18446744073709551616)
  (hk1:d1<9223372036854775808∨d1*18446744073709551616+d0≤a2*18446744073709551616+a1→K (.tup [.int .u64 0, .int .u64 0, .int .u64 0, .bool false]) h)
  (hI:9223372036854775808≤d1→a2*18446744073709551616+a1<d1*18446744073709551616+d0→IsInv2 d1 d0 v)
  (hk2:9223372036854775808≤d1→a2*18446744073709551616+a1<d1*18446744073709551616+d0→∀q r,q<18446744073709551616→r<d1*18446744073709551616+d0→(a2*18446744073709551616+a1)*18446744073709551616+a0=q*(d1*18446744073709551616+d0)+r→K (.tup [.int .u64 (q:Nat), .int .u64 (r/18446744073709551616:Nat), .int .u64 (r%18446744073709551616:Nat), .bool true]) h):
  ACalls Tryz.prog 119 [.int .u64 (a2:Int), .int .u64 (a1:Int), .int .u64 (a0:Int), .int .u64 (d1:Int), .int .u64 (d0:Int), .int .u64 (v:Int)] h K:=by
 refine in_word_Div3 (by simp) fun hw=> ?_
 unfold c_word_Div3
 rcases Nat.lt_or_ge d1 9223372036854775808 with c1|c1
 ·have t1:decide ((d1:Int)<9223372036854775808)=true:=by simp;omega
  simp only[go_sem,t1]
  exact fun _=>hk1 (.inl c1)
 have t1:decide ((d1:Int)<9223372036854775808)=false:=by simp;omega
 simp only[go_sem,t1]
 refine below_calls h1 hd0 fun t ht=> ?_
 rcases Nat.lt_or_ge (a2*18446744073709551616+a1) (d1*18446744073709551616+d0) with c2|c2
 case inr=>
  have:t=false:=by rw[ht];simp;omega
  subst this
  simp only[go_sem,Bool.not_false]
  exact fun _=>hk1 (.inr c2)
 have:t=true:=by rw[ht];simp;omega
 subst this
 clear ht hk1
 obtain⟨hv,k,hk0,hk3,hk4⟩:=hI c1 c2
 have hk2:=hk2 c1 c2
 simp only[go_sem,Bool.not_true]
 refine Mul64_calls hv h2 ?_
 simp only[go_sem]
 refine Add64_calls (c:=0) (by omega) h1 (by omega) ?_
 simp only[go_sem]
 have hva:v*a2/18446744073709551616<18446744073709551616:=by
  have:=Nat.mul_lt_mul'' hv h2
  omega
 refine Add64_calls hva h2 (by omega) ?_
 simp only[go_sem]
 --the first digit
 have e1:v*a2=18446744073709551616*(v*a2/18446744073709551616)+v*a2%18446744073709551616:=(Nat.div_add_mod _ _).symm
 have e2:v*a2%18446744073709551616<18446744073709551616:=Nat.mod_lt _ (by decide)
 have hsum:(18446744073709551616+v)*a2+a1=(v*a2/18446744073709551616+a2+(v*a2%18446744073709551616+a1+0)/18446744073709551616)*18446744073709551616+(v*a2%18446744073709551616+a1+0)%18446744073709551616:=by
  rw[Nat.add_mul]
  generalize v*a2=t at*
  omega
 have htop:=div3_top (v:=v) (a2:=a2) (a1:=a1) (D:=d1*18446744073709551616+d0) (by omega) c2
 have hQ1:v*a2/18446744073709551616+a2+(v*a2%18446744073709551616+a1+0)/18446744073709551616<18446744073709551616:=by omega
 rw[Nat.mod_eq_of_lt hQ1]
 have hQ0:(v*a2%18446744073709551616+a1+0)%18446744073709551616<18446744073709551616:=Nat.mod_lt _ (by decide)
 generalize v*a2/18446744073709551616+a2+(v*a2%18446744073709551616+a1+0)/18446744073709551616=Q1 at*
 generalize (v*a2%18446744073709551616+a1+0)%18446744073709551616=Q0 at*
 have w1:IntKind.u64.wrap ((a1:Int)-IntKind.u64.wrap ((Q1:Int)*(d1:Int)))=(((a1+18446744073709551616-Q1*d1%18446744073709551616)%18446744073709551616:Nat):Int):=by
  rw[←Int.natCast_mul,wUm,wUm]
  generalize Q1*d1=t
  omega
 rw[w1]
 refine Mul64_calls hd0 hQ1 ?_
 simp only[go_sem]
 have hw1:(a1+18446744073709551616-Q1*d1%18446744073709551616)%18446744073709551616<18446744073709551616:=Nat.mod_lt _ (by decide)
 have ht:d0*Q1/18446744073709551616<18446744073709551616:=by
  have:=Nat.mul_lt_mul'' hd0 hQ1
  omega
 obtain⟨R1,hR1,eR1,s1,s0⟩:=sub2 (x1:=(a1+18446744073709551616-Q1*d1%18446744073709551616)%18446744073709551616) (x0:=a0) (y1:=d0*Q1/18446744073709551616) (y0:=d0*Q1%18446744073709551616) hw1 h0 ht (Nat.mod_lt _ (by decide))
 refine Sub64_calls (c:=0) (by omega) ?_
 simp only[go_sem]
 refine Sub64_calls ite01 ?_
 simp only[go_sem,s1,s0]
 obtain⟨R0,hR0,eR0,s1,s0⟩:=sub2 (x1:=R1/18446744073709551616) (x0:=R1%18446744073709551616) (y1:=d1) (y0:=d0) (by omega) (by omega) hd1 hd0
 refine Sub64_calls (c:=0) (by omega) ?_
 simp only[go_sem]
 refine Sub64_calls ite01 ?_
 simp only[go_sem,s1,s0]
 have hX:=div3_lt h0 c2
 obtain⟨p1,p2⟩:=div3_law rfl rfl h2 h1 h0 hd1 hd0 c1 c2 hk3 hk4 hQ1 hQ0 hsum hR0 eR1 eR0
 clear eR0 eR1 s1 s0 hsum htop e1 e2 w1 hI hk4
 obtain⟨X,hXe⟩:∃X,X=(a2*18446744073709551616+a1)*18446744073709551616+a0:=⟨_,rfl⟩
 rw[←hXe] at hX p1 p2 hk2
 clear hXe
 have fin:∀q r:Nat,X=q*(d1*18446744073709551616+d0)+r→r<d1*18446744073709551616+d0→K (AV.tup [AV.int IntKind.u64 ((q%18446744073709551616:Nat):Int),AV.int IntKind.u64 ((r/18446744073709551616:Nat):Int),AV.int IntKind.u64 ((r%18446744073709551616:Nat):Int),AV.bool true]) h:=fun q r e hr=>by
  have hq:=quot_lt hX e
  rw[Nat.mod_eq_of_lt hq]
  exact hk2 q r hq hr e
 have wq1:IntKind.u64.wrap ((Q1:Int)+1)=(((Q1+1)%18446744073709551616:Nat):Int):=by rw[wUm];omega
 have wq0:IntKind.u64.wrap ((((Q1+1)%18446744073709551616:Nat):Int)-1)=((Q1%18446744073709551616:Nat):Int):=by rw[wUm];omega
 rw[wq1]
 refine cond_cut (fun ρ' h'=>h'=h∧ρ' 3= .int .u64 (d1:Int)∧ρ' 4= .int .u64 (d0:Int)∧∃q R:Nat,ρ' 16= .int .u64 ((q%18446744073709551616:Nat):Int)∧ρ' 13= .int .u64 (R/18446744073709551616:Nat)∧ρ' 14= .int .u64 (R%18446744073709551616:Nat)∧R<340282366920938463463374607431768211456∧(R<d1*18446744073709551616+d0→X=q*(d1*18446744073709551616+d0)+R)∧(d1*18446744073709551616+d0≤R→X=(q+1)*(d1*18446744073709551616+d0)+(R-(d1*18446744073709551616+d0))∧R-(d1*18446744073709551616+d0)<d1*18446744073709551616+d0)) ?_ ?_
 ·rcases Nat.lt_or_ge (R0/18446744073709551616) Q0 with c3|c3
  ·have t2:decide (((Q0:Nat):Int)≤((R0/18446744073709551616:Nat):Int))=false:=by simp;omega
   simp only[go_sem,t2]
   exact⟨trivial,trivial,trivial,Q1+1,R0,rfl,rfl,rfl,hR0,(p1 c3).1,(p1 c3).2⟩
  ·have t2:decide (((Q0:Nat):Int)≤((R0/18446744073709551616:Nat):Int))=true:=by simp;omega
   simp only[go_sem,t2,wq0]
   obtain⟨R2,hR2,eR2,s1,s0⟩:=add2 (x1:=R0/18446744073709551616) (x0:=R0%18446744073709551616) (y1:=d1) (y0:=d0) (by omega) (by omega) hd1 hd0
   refine Add64_calls (c:=0) (by omega) hd0 (by omega) ?_
   simp only[go_sem]
   refine Add64_calls (by omega) hd1 (by omega) ?_
   simp only[go_sem,s1,s0]
   have e3:(R0+(d1*18446744073709551616+d0))%340282366920938463463374607431768211456=R2:=mod_congr eR2 (by omega)
   rw[e3] at p2
   exact⟨trivial,trivial,trivial,Q1,R2,rfl,rfl,rfl,hR2,(p2 c3).1,(p2 c3).2⟩
 ·rintro ρ h' ⟨rfl,h3,h4,q,R,h16,h13,h14,hR,f1,f2⟩
  simp only[go_sem,h3,h4,h13,h14]
  refine below_calls (by omega) hd0 fun t ht=> ?_
  rcases Nat.lt_or_ge R (d1*18446744073709551616+d0) with c3|c3
  ·have:t=true:=by rw[ht];exact below_t c3
   subst this
   simp only[go_sem,Bool.not_true,h13,h14,h16]
   exact fun _=>fin q R (f1 c3) c3
  ·have:t=false:=by rw[ht];exact below_f c3
   subst this
   have wq:IntKind.u64.wrap (((q%18446744073709551616:Nat):Int)+1)=(((q+1)%18446744073709551616:Nat):Int):=by rw[wUm];omega
   simp only[go_sem,Bool.not_false,h3,h4,h13,h14,h16,wq]
   obtain⟨R2,hR2,eR2,s1,s0⟩:=sub2 (x1:=R/18446744073709551616) (x0:=R%18446744073709551616) (y1:=d1) (y0:=d0) (by omega) (by omega) hd1 hd0
   refine Sub64_calls (c:=0) (by omega) ?_
   simp only[go_sem,h3,h4,h13,h14,h16]
   refine Sub64_calls ite01 ?_
   simp only[go_sem,h3,h4,h13,h14,h16,s1,s0]
   intro _
   have e3:R2=R-(d1*18446744073709551616+d0):=by omega
   rw[e3]
   exact fin (q+1) _ (f2 c3).1 (f2 c3).2
end Ab
end Go.Proofs.YtkbglkjpdndkiaaGreatDoor
