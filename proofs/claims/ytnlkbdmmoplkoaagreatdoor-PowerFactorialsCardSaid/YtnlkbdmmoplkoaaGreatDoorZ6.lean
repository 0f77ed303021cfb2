/- Joined texts: C6 M7 G2 M9 M11 M12 P1 V1 V2 P2 O1. No condition. -/
import Derived.Test.YtnlkbdmmoplkoaaGreatDoorZ5
import Derived.Test.YtnlkbdmmoplkoaaGreatDoorProg
import Derived.KernelRfl
namespace Go.Proofs.YtnlkbdmmoplkoaaGreatDoor
namespace Ab
open Go Go.RowKit
set_option linter.unusedSimpArgs false
set_option linter.unusedVariables false
attribute [local go_sem ↓] x_mv x_pick x_bin x_beq x_peq x_seq x_cat x_aeq x_idxS x_idxV x_un x_cvI x_idx x_idxA x_fld x_ld x_st x_nn x_prt x_slc x_mk x_bsl x_bld x_box x_alloc x_len x_capo x_mnx x_app x_cpy x_mkf x_ext x_call x_callV x_bad s_none s_some s_nil s_cons s_chks w_skip w_reg tP_fin tP_no tP_alt w_seq w_cond w_block w_exit w_ret t_normal t_exit t_ret b_normal b_ret b_exit n_normal n_exit n_ret p_normal p_ret f_nil f_t f_c k_ops k_chk k_fin
attribute [local go_sem] e_t e_c e_f u_some u_none u_at env_at k_v k_pick k_add k_sub k_mul k_quo k_rem k_and k_or k_xor k_shl k_shr k_eql k_neq k_lss k_leq k_gtr k_geq k_beq k_peqn k_peqs k_neg k_not k_com k_cvI k_idxS k_idxV1 k_idxVn k_idx k_idxA k_idxG k_ldG k_gld k_seq k_cat k_aeq k_eqs k_fld k_ld1 k_ldn k_get k_gets k_sti k_stb k_stp k_sts k_stf k_sta k_put k_nn k_prt1 k_prtn k_slc_a k_slc_b k_slc_c k_mk k_agg k_bsl k_box k_len k_lenS k_cap k_max k_min k_ext k_callV k_true k_false k_gtt k_gtf k_gft k_gsk k_gff k_lit1i k_lit2i k_lit3i k_c0 k_c1 k_ck List.getElem?_cons_zero List.getElem?_cons_succ List.getElem?_nil Option.getD_some Option.getD_none tupOf List.map_cons List.map_nil Option.map_some Option.map_none List.nil_append List.cons_append List.append_nil Nat.mul_one Int.toNat_natCast Nat.zero_add
attribute [local go_sem] e_t e_c e_f u_some u_none u_at env_at k_v k_pick k_add k_sub k_mul k_quo k_rem k_and k_or k_xor k_shl k_shr k_eql k_neq k_lss k_leq k_gtr k_geq k_beq k_peqn k_peqs k_neg k_not k_com k_cvI k_idxS k_idxV1 k_idxVn k_idx k_idxA k_idxG k_ldG k_gld k_seq k_cat k_aeq k_eqs k_fld k_ld1 k_ldn k_get k_gets k_sti k_stb k_stp k_sts k_stf k_sta k_put k_nn k_prt1 k_prtn k_slc_a k_slc_b k_slc_c k_mk k_agg k_bsl k_box k_len k_lenS k_cap k_max k_min k_ext k_callV k_true k_false k_gtt k_gtf k_gft k_gsk k_gff k_lit1i k_lit2i k_lit3i k_c0 k_c1 k_ck List.getElem?_cons_zero List.getElem?_cons_succ List.getElem?_nil Option.getD_some Option.getD_none tupOf List.map_cons List.map_nil Option.map_some Option.map_none List.nil_append List.cons_append List.append_nil Nat.mul_one Int.toNat_natCast Nat.zero_add
--what a store into a cell of two leaves
attribute [local go_sem_proc] Nat.reduceEqDiff Nat.reduceAdd Int.reduceToNat
attribute [local go_sem_proc ↓] reduceIte
attribute [local go_sem] Bool.false_eq_true
section
open Go
def c_divs_New:AC:= .seq (.reg [o 1 (.box 23 (.t 0)),o 2 (.mv (.c (.ptr none)))]) (.seq (.reg [o 3 (.ld (some 11) (.t 1)),o 4 (.call 212 [.t 3]),o 5 (.bld [.ptr none] [(0,1, .t 4)]),o 6 (.box 142 (.t 5)),mv 2 6]) .ret)
theorem in_divs_New:Ent 188 7 c_divs_New [.t 2]:=ent Tryz.func188 rfl rfl rfl (show compile _ 7 _=_ by kernel_rfl) (show compRes _ 7 _=_ by kernel_rfl)
def c_mul_Engine_Mul:AC:= .seq (.reg [o 6 (.mv (.c (.sl none 0 0 none)))]) (.seq (.reg [mv 7 0,mv 8 1,o 9 (.call 124 [.t 8]),mv 10 2,o 11 (.call 124 [.t 10]),o 12 (.call 123 [.t 7, .t 9, .t 11]),mv 6 12]) .ret)
theorem in_mul_Engine_Mul:Ent 104 13 c_mul_Engine_Mul [.t 6]:=ent Tryz.func104 rfl rfl rfl (show compile _ 13 _=_ by kernel_rfl) (show compRes _ 13 _=_ by kernel_rfl)
def c_mul_Engine_Sqr:AC:= .seq (.reg [o 4 (.mv (.c (.sl none 0 0 none)))]) (.seq (.reg [mv 5 0,mv 6 1,o 7 (.call 124 [.t 6]),o 8 (.call 133 [.t 5, .t 7]),mv 4 8]) .ret)
theorem in_mul_Engine_Sqr:Ent 115 9 c_mul_Engine_Sqr [.t 4]:=ent Tryz.func115 rfl rfl rfl (show compile _ 9 _=_ by kernel_rfl) (show compRes _ 9 _=_ by kernel_rfl)
def c_mul_Engine_times:AC:= .seq (.reg [o 6 (.mv (.c (.sl none 0 0 none)))]) (.seq (.seq (.reg [mv 9 1,o 10 (.len false (.t 9)),o 11 (.bin .gtr (.t 10) (i64 16384)),mv 12 11,og 13 12 false (.mv (.t 2)),og 14 12 false (.len false (.t 13)),og 15 12 false (.bin .gtr (.t 14) (i64 16384)),o 16 (.pick (.t 12) (.c (.bool true)) (.t 15))]) (.cond (.t 16) (.seq (.reg [mv 17 0,mv 18 1,mv 19 2,o 20 (.call 140 [.t 17, .t 18, .t 19]),mv 6 20]) .ret) .skip)) (.seq (.reg [mv 22 0,mv 23 0,o 24 (.nn (.t 23)),o 25 (.fld 0 (.t 24)),o 26 (.ld none (.t 25)),o 27 (.nn (.t 26)),o 28 (.fld 0 (.t 27)),o 29 (.ld none (.t 28)),o 30 (.nn (.t 29)),o 31 (.fld 0 (.t 30)),o 32 (.ld none (.t 31)),o 33 (.nn (.t 32)),o 34 (.fld 0 (.t 33)),o 35 (.ld none (.t 34)),mv 36 1,o 37 (.len false (.t 36)),mv 38 2,o 39 (.len false (.t 38)),o 40 (.call 142 [.t 35, .t 37, .t 39]),mv 41 1,mv 42 2,o 43 (.call 141 [.t 22, .t 40, .t 41, .t 42]),mv 21 43,o 44 (.ext (.t 21) 0),o 45 (.ext (.t 21) 1),mv 7 44,mv 8 45]) (.seq (.seq (.reg [mv 46 8,o 47 (.un .not (.t 46))]) (.cond (.t 47) (.seq (.reg [mv 48 0,o 49 (.nn (.t 48)),o 50 (.fld 0 (.t 49)),o 51 (.ld none (.t 50)),o 52 (.nn (.t 51)),o 53 (.fld 0 (.t 52)),o 54 (.ld none (.t 53)),o 55 (.nn (.t 54)),o 56 (.fld 0 (.t 55)),o 57 (.ld none (.t 56)),mv 58 1,mv 59 2,o 60 (.call 143 [.t 57, .t 58, .t 59]),mv 6 60]) .ret) .skip)) (.seq (.reg [mv 61 7,mv 6 61]) .ret))))
theorem in_mul_Engine_times:Ent 123 62 c_mul_Engine_times [.t 6]:=ent Tryz.func123 rfl rfl rfl (show compile _ 62 _=_ by kernel_rfl) (show compRes _ 62 _=_ by kernel_rfl)
def c_mul_words:AC:= .seq (.reg [o 2 (.mv (.c (.sl none 0 0 none)))]) (.seq (.reg [mv 3 0,mv 4 0,o 5 (.call 52 [.t 4]),o 6 (.slc 1 (.t 3) none (some (.t 5))),mv 2 6]) .ret)
theorem in_mul_words:Ent 124 7 c_mul_words [.t 2]:=ent Tryz.func124 rfl rfl rfl (show compile _ 7 _=_ by kernel_rfl) (show compRes _ 7 _=_ by kernel_rfl)
def c_mul_Engine_square:AC:= .seq (.reg [o 4 (.mv (.c (.sl none 0 0 none)))]) (.seq (.reg [o 5 (.mv (.c (.sl none 0 0 none)))]) (.seq (.reg [o 6 (.mv (.c (.bool false)))]) (.seq (.seq (.reg [mv 7 0,o 8 (.nn (.t 7)),o 9 (.fld 0 (.t 8)),o 10 (.ld none (.t 9)),o 11 (.nn (.t 10)),o 12 (.fld 0 (.t 11)),o 13 (.ld none (.t 12)),o 14 (.nn (.t 13)),o 15 (.fld 0 (.t 14)),o 16 (.ld none (.t 15)),o 17 (.nn (.t 16)),o 18 (.fld 0 (.t 17)),o 19 (.ld none (.t 18)),mv 20 1,o 21 (.len false (.t 20)),mv 22 1,o 23 (.len false (.t 22)),o 24 (.call 142 [.t 19, .t 21, .t 23])]) (.block 0 (.seq (.reg [o 26 (.bin .eql (.t 24) (i64 0)),mv 25 26]) (.cond (.t 25) (.seq (.reg [mv 27 0,mv 28 1,mv 29 1,o 30 (.call 123 [.t 27, .t 28, .t 29]),mv 4 30]) .ret) (.seq (.reg [o 32 (.bin .eql (.t 24) (i64 3)),mv 31 32]) (.cond (.t 31) (.reg [mv 34 0,o 35 (.nn (.t 34)),o 36 (.fld 0 (.t 35)),o 37 (.ld none (.t 36)),o 38 (.nn (.t 37)),o 39 (.fld 0 (.t 38)),o 40 (.ld none (.t 39)),mv 41 1,mv 42 0,o 43 (.mkf 133 [.t 42] []),o 44 (.call 155 [.t 40, .t 41, .t 43]),mv 33 44,o 45 (.ext (.t 33) 0),o 46 (.ext (.t 33) 1),mv 5 45,mv 6 46]) (.seq (.reg [o 48 (.bin .eql (.t 24) (i64 4)),mv 47 48]) (.cond (.t 47) (.reg [mv 50 0,o 51 (.nn (.t 50)),o 52 (.fld 0 (.t 51)),o 53 (.ld none (.t 52)),mv 54 1,mv 55 0,o 56 (.mkf 133 [.t 55] []),o 57 (.call 156 [.t 53, .t 54, .t 56]),mv 49 57,o 58 (.ext (.t 49) 0),o 59 (.ext (.t 49) 1),mv 5 58,mv 6 59]) (.seq (.reg [o 61 (.bin .eql (.t 24) (i64 5)),mv 60 61]) (.cond (.t 60) (.reg [mv 63 0,o 64 (.nn (.t 63)),o 65 (.fld 0 (.t 64)),o 66 (.ld none (.t 65)),o 67 (.nn (.t 66)),o 68 (.fld 0 (.t 67)),o 69 (.ld none (.t 68)),o 70 (.nn (.t 69)),o 71 (.fld 0 (.t 70)),o 72 (.ld none (.t 71)),o 73 (.nn (.t 72)),o 74 (.fld 0 (.t 73)),o 75 (.ld none (.t 74)),o 76 (.nn (.t 75)),o 77 (.fld 0 (.t 76)),mv 78 1,o 79 (.call 157 [.t 77, .t 78]),mv 62 79,o 80 (.ext (.t 62) 0),o 81 (.ext (.t 62) 1),mv 5 80,mv 6 81]) .skip)))))))))) (.seq (.seq (.reg [mv 82 6,o 83 (.un .not (.t 82))]) (.cond (.t 83) (.seq (.reg [mv 84 0,o 85 (.nn (.t 84)),o 86 (.fld 0 (.t 85)),o 87 (.ld none (.t 86)),o 88 (.nn (.t 87)),o 89 (.fld 0 (.t 88)),o 90 (.ld none (.t 89)),o 91 (.nn (.t 90)),o 92 (.fld 0 (.t 91)),o 93 (.ld none (.t 92)),mv 94 1,o 95 (.call 158 [.t 93, .t 94]),mv 4 95]) .ret) .skip)) (.seq (.reg [mv 96 5,mv 4 96]) .ret)))))
theorem in_mul_Engine_square:Ent 133 97 c_mul_Engine_square [.t 4]:=ent Tryz.func133 rfl rfl rfl (show compile _ 97 _=_ by kernel_rfl) (show compRes _ 97 _=_ by kernel_rfl)
def c_mul_Engine_gone:AC:= .seq (.reg [o 8 (.mv (.c (.sl none 0 0 none))),o 9 (.mv (.c (.bool false)))]) (.seq (.seq (.reg [mv 10 1]) (.block 0 (.seq (.reg [o 12 (.bin .eql (.t 10) (i64 0)),mv 11 12]) (.cond (.t 11) (.seq (.reg [o 8 (.mv (.c (.sl none 0 0 none))),o 9 (.mv (.c (.bool true)))]) .ret) (.seq (.reg [o 14 (.bin .eql (.t 10) (i64 1)),mv 13 14]) (.cond (.t 13) (.seq (.reg [mv 15 0,o 16 (.nn (.t 15)),o 17 (.fld 0 (.t 16)),o 18 (.ld none (.t 17)),o 19 (.nn (.t 18)),o 20 (.fld 0 (.t 19)),o 21 (.ld none (.t 20)),o 22 (.nn (.t 21)),o 23 (.fld 0 (.t 22)),o 24 (.ld none (.t 23)),mv 25 2,mv 26 3,o 27 (.call 143 [.t 24, .t 25, .t 26]),mv 8 27,o 9 (.mv (.c (.bool true)))]) .ret) (.seq (.reg [o 29 (.bin .eql (.t 10) (i64 2)),mv 28 29]) (.cond (.t 28) (.seq (.reg [mv 30 0,mv 31 2,mv 32 3,o 33 (.call 166 [.t 30, .t 31, .t 32]),mv 8 33,o 9 (.mv (.c (.bool true)))]) .ret) (.seq (.reg [o 35 (.bin .eql (.t 10) (i64 3)),mv 34 35]) (.cond (.t 34) (.seq (.reg [mv 36 0,o 37 (.nn (.t 36)),o 38 (.fld 0 (.t 37)),o 39 (.ld none (.t 38)),o 40 (.nn (.t 39)),o 41 (.fld 0 (.t 40)),o 42 (.ld none (.t 41)),mv 43 2,mv 44 3,mv 45 0,o 46 (.mkf 123 [.t 45] []),o 47 (.call 167 [.t 42, .t 43, .t 44, .t 46]),o 48 (.ext (.t 47) 0),o 49 (.ext (.t 47) 1),mv 8 48,mv 9 49]) .ret) (.seq (.reg [o 51 (.bin .eql (.t 10) (i64 4)),mv 50 51]) (.cond (.t 50) (.seq (.reg [mv 52 0,o 53 (.nn (.t 52)),o 54 (.fld 0 (.t 53)),o 55 (.ld none (.t 54)),mv 56 2,mv 57 3,mv 58 0,o 59 (.mkf 123 [.t 58] []),o 60 (.call 168 [.t 55, .t 56, .t 57, .t 59]),o 61 (.ext (.t 60) 0),o 62 (.ext (.t 60) 1),mv 8 61,mv 9 62]) .ret) (.seq (.reg [o 64 (.bin .eql (.t 10) (i64 5)),mv 63 64]) (.cond (.t 63) (.seq (.reg [mv 65 0,o 66 (.nn (.t 65)),o 67 (.fld 0 (.t 66)),o 68 (.ld none (.t 67)),o 69 (.nn (.t 68)),o 70 (.fld 0 (.t 69)),o 71 (.ld none (.t 70)),o 72 (.nn (.t 71)),o 73 (.fld 0 (.t 72)),o 74 (.ld none (.t 73)),o 75 (.nn (.t 74)),o 76 (.fld 0 (.t 75)),o 77 (.ld none (.t 76)),o 78 (.nn (.t 77)),o 79 (.fld 0 (.t 78)),mv 80 2,mv 81 3,o 82 (.call 169 [.t 79, .t 80, .t 81]),o 83 (.ext (.t 82) 0),o 84 (.ext (.t 82) 1),mv 8 83,mv 9 84]) .ret) .skip)))))))))))))) (.seq (.reg [o 8 (.mv (.c (.sl none 0 0 none))),o 9 (.mv (.c (.bool false)))]) .ret))
theorem in_mul_Engine_gone:Ent 141 85 c_mul_Engine_gone [.t 8, .t 9]:=ent Tryz.func141 rfl rfl rfl (show compile _ 85 _=_ by kernel_rfl) (show compRes _ 85 _=_ by kernel_rfl)
def c_mul_Engine_pieces:AC:= .seq (.reg [o 8 (.mv (.c (.sl none 0 0 none)))]) (.seq (.seq (.reg [mv 11 1,o 12 (.len false (.t 11)),mv 13 2,o 14 (.len false (.t 13)),bn 15 .lss 12 14]) (.cond (.t 15) (.reg [mv 16 2,mv 17 1,mv 1 16,mv 2 17]) .skip)) (.seq (.reg [o 9 (.mv (.c (.sl none 0 0 none)))]) (.seq (.seq (.reg [o 10 (.mv (i64 0))]) (.block 0 (.loop (.seq (.seq (.reg [mv 18 10,mv 19 1,o 20 (.len false (.t 19)),bn 21 .lss 18 20]) (.cond (.t 21) .skip (.exit 0))) (.seq (.block 1 (.reg [mv 25 9,mv 26 0,mv 27 1,mv 28 10,mv 29 1,o 30 (.len false (.t 29)),mv 31 10,mv 32 3,bn 33 .add 31 32,o 34 (.mnx false (.t 30) [.t 33]),o 35 (.slc 1 (.t 27) (some (.t 28)) (some (.t 34))),o 36 (.app 54 1 8 (.c (.sl none 0 0 none)) (.t 35)),mv 37 2,o 38 (.call 123 [.t 26, .t 36, .t 37]),o 39 (.bsl 25 1 1 [.sl none 0 0 none] [(0, .t 38)]),o 40 (.app 25 1 24 (.t 25) (.t 39)),mv 9 40])) (.reg [mv 22 10,mv 23 3,bn 24 .add 22 23,mv 10 24])))))) (.seq (.reg [mv 41 3,mv 42 9,o 43 (.call 153 [.t 41, .t 42]),mv 8 43]) .ret))))
theorem in_mul_Engine_pieces:Ent 165 44 c_mul_Engine_pieces [.t 8]:=ent Tryz.func165 rfl rfl rfl (show compile _ 44 _=_ by kernel_rfl) (show compRes _ 44 _=_ by kernel_rfl)
def c_mul_Engine_block:AC:= .seq (.reg [o 6 (.mv (.c (.sl none 0 0 none)))]) (.seq (.reg [mv 8 0,o 9 (.nn (.t 8)),o 10 (.fld 0 (.t 9)),o 11 (.ld none (.t 10)),o 12 (.nn (.t 11)),o 13 (.fld 0 (.t 12)),o 14 (.ld none (.t 13)),o 15 (.nn (.t 14)),o 16 (.fld 0 (.t 15)),o 17 (.ld none (.t 16)),o 18 (.nn (.t 17)),o 19 (.fld 0 (.t 18)),o 20 (.ld none (.t 19)),o 21 (.nn (.t 20)),o 22 (.fld 0 (.t 21)),o 23 (.call 161 [.t 22])]) (.seq (.reg [mv 24 0,mv 25 1,mv 26 2,mv 27 1,o 28 (.len false (.t 27)),mv 29 2,o 30 (.len false (.t 29)),o 31 (.mnx false (.t 28) [.t 30]),o 32 (.call 165 [.t 24, .t 25, .t 26, .t 31]),mv 7 32]) (.seq (.reg [mv 33 0,o 34 (.nn (.t 33)),o 35 (.fld 0 (.t 34)),o 36 (.ld none (.t 35)),o 37 (.nn (.t 36)),o 38 (.fld 0 (.t 37)),o 39 (.ld none (.t 38)),o 40 (.nn (.t 39)),o 41 (.fld 0 (.t 40)),o 42 (.ld none (.t 41)),o 43 (.nn (.t 42)),o 44 (.fld 0 (.t 43)),o 45 (.ld none (.t 44)),o 46 (.nn (.t 45)),o 47 (.fld 0 (.t 46)),o 48 (.call 162 [.t 47])]) (.seq (.reg [mv 49 7,mv 6 49]) .ret))))
theorem in_mul_Engine_block:Ent 166 50 c_mul_Engine_block [.t 6]:=ent Tryz.func166 rfl rfl rfl (show compile _ 50 _=_ by kernel_rfl) (show compRes _ 50 _=_ by kernel_rfl)
def c_mul_New:AC:= .seq (.reg [o 1 (.box 23 (.t 0)),o 2 (.mv (.c (.ptr none)))]) (.seq (.reg [o 3 (.ld (some 11) (.t 1)),o 4 (.call 226 [.t 3]),o 5 (.bld [.ptr none] [(0,1, .t 4)]),o 6 (.box 167 (.t 5)),mv 2 6]) .ret)
theorem in_mul_New:Ent 212 7 c_mul_New [.t 2]:=ent Tryz.func212 rfl rfl rfl (show compile _ 7 _=_ by kernel_rfl) (show compRes _ 7 _=_ by kernel_rfl)
def c_toom_Engine_ToomSqr:AC:= .seq (.reg [o 6 (.mv (.c (.sl none 0 0 none))),o 7 (.mv (.c (.bool false)))]) (.seq (.reg [mv 20 1,o 21 (.len false (.t 20)),mv 8 21]) (.seq (.reg [mv 22 8,o 23 (.bin .add (.t 22) (i64 2)),o 24 (.bin .quo (.t 23) (i64 3)),mv 9 24]) (.seq (.seq (.reg [mv 25 8,mv 26 9,o 27 (.bin .mul (i64 2) (.t 26)),bn 28 .leq 25 27]) (.cond (.t 28) (.seq (.reg [o 6 (.mv (.c (.sl none 0 0 none))),o 7 (.mv (.c (.bool false)))]) .ret) .skip)) (.seq (.reg [mv 29 0,o 30 (.nn (.t 29)),o 31 (.fld 0 (.t 30)),o 32 (.ld none (.t 31)),o 33 (.nn (.t 32)),o 34 (.fld 0 (.t 33)),o 35 (.ld none (.t 34)),o 36 (.nn (.t 35)),o 37 (.fld 0 (.t 36)),o 38 (.ld none (.t 37)),o 39 (.nn (.t 38)),o 40 (.fld 0 (.t 39)),o 41 (.call 161 [.t 40])]) (.seq (.reg [mv 43 1,mv 44 9,o 45 (.call 180 [.t 43, .t 44]),mv 42 45,o 46 (.ext (.t 42) 0),o 47 (.ext (.t 42) 1),o 48 (.ext (.t 42) 2),o 49 (.ext (.t 42) 3),o 50 (.ext (.t 42) 4),o 10 (.alloc 27 [.sl none 0 0 none, .bool false]),o 11 (.alloc 27 [.sl none 0 0 none, .bool false]),o 12 (.alloc 27 [.sl none 0 0 none, .bool false]),o 13 (.alloc 27 [.sl none 0 0 none, .bool false]),o 14 (.alloc 27 [.sl none 0 0 none, .bool false]),od (.st 2 (.t 10) (.t 46)),od (.st 2 (.t 11) (.t 47)),od (.st 2 (.t 12) (.t 48)),od (.st 2 (.t 13) (.t 49)),od (.st 2 (.t 14) (.t 50))]) (.seq (.reg [mv 51 2,o 52 (.fld 0 (.t 10)),o 53 (.ld none (.t 52)),mv 54 9,o 55 (.call 181 [.t 53, .t 54]),o 56 (.callV (.t 51) [.t 55]),mv 15 56]) (.seq (.reg [mv 57 2,o 58 (.fld 0 (.t 11)),o 59 (.ld none (.t 58)),mv 60 9,o 61 (.bin .add (.t 60) (i64 1)),o 62 (.call 181 [.t 59, .t 61]),o 63 (.callV (.t 57) [.t 62]),mv 16 63]) (.seq (.reg [mv 64 2,o 65 (.fld 0 (.t 12)),o 66 (.ld none (.t 65)),mv 67 9,o 68 (.bin .add (.t 67) (i64 1)),o 69 (.call 181 [.t 66, .t 68]),o 70 (.callV (.t 64) [.t 69]),mv 17 70]) (.seq (.reg [mv 71 2,o 72 (.fld 0 (.t 13)),o 73 (.ld none (.t 72)),mv 74 9,o 75 (.bin .add (.t 74) (i64 1)),o 76 (.call 181 [.t 73, .t 75]),o 77 (.callV (.t 71) [.t 76]),mv 18 77]) (.seq (.reg [mv 78 2,o 79 (.fld 0 (.t 14)),o 80 (.ld none (.t 79)),mv 81 8,mv 82 9,o 83 (.bin .mul (i64 2) (.t 82)),bn 84 .sub 81 83,o 85 (.call 181 [.t 80, .t 84]),o 86 (.callV (.t 78) [.t 85]),mv 19 86]) (.seq (.reg [mv 87 0,o 88 (.nn (.t 87)),o 89 (.fld 0 (.t 88)),o 90 (.ld none (.t 89)),o 91 (.nn (.t 90)),o 92 (.fld 0 (.t 91)),o 93 (.ld none (.t 92)),o 94 (.nn (.t 93)),o 95 (.fld 0 (.t 94)),o 96 (.ld none (.t 95)),o 97 (.nn (.t 96)),o 98 (.fld 0 (.t 97)),o 99 (.call 162 [.t 98])]) (.seq (.reg [mv 100 9,mv 101 15,mv 102 16,mv 103 17,mv 104 18,mv 105 19,o 106 (.call 182 [.t 100, .t 101, .t 102, .t 103, .t 104, .t 105, .c (.bool false)]),mv 6 106,o 7 (.mv (.c (.bool true)))]) .ret))))))))))))
theorem in_toom_Engine_ToomSqr:Ent 156 107 c_toom_Engine_ToomSqr [.t 6, .t 7]:=ent Tryz.func156 rfl rfl rfl (show compile _ 107 _=_ by kernel_rfl) (show compRes _ 107 _=_ by kernel_rfl)
def c_toom_Engine_Toom:AC:= .seq (.reg [o 8 (.mv (.c (.sl none 0 0 none))),o 9 (.mv (.c (.bool false)))]) (.seq (.seq (.reg [mv 28 1,o 29 (.len false (.t 28)),mv 30 2,o 31 (.len false (.t 30)),bn 32 .lss 29 31]) (.cond (.t 32) (.reg [mv 33 2,mv 34 1,mv 1 33,mv 2 34]) .skip)) (.seq (.reg [mv 35 1,o 36 (.len false (.t 35)),mv 37 2,o 38 (.len false (.t 37)),mv 10 36,mv 11 38]) (.seq (.reg [mv 39 10,o 40 (.bin .add (.t 39) (i64 2)),o 41 (.bin .quo (.t 40) (i64 3)),mv 12 41]) (.seq (.seq (.reg [mv 42 11,mv 43 12,o 44 (.bin .mul (i64 2) (.t 43)),bn 45 .leq 42 44]) (.cond (.t 45) (.seq (.reg [o 8 (.mv (.c (.sl none 0 0 none))),o 9 (.mv (.c (.bool false)))]) .ret) .skip)) (.seq (.reg [mv 46 0,o 47 (.nn (.t 46)),o 48 (.fld 0 (.t 47)),o 49 (.ld none (.t 48)),o 50 (.nn (.t 49)),o 51 (.fld 0 (.t 50)),o 52 (.ld none (.t 51)),o 53 (.nn (.t 52)),o 54 (.fld 0 (.t 53)),o 55 (.ld none (.t 54)),o 56 (.nn (.t 55)),o 57 (.fld 0 (.t 56)),o 58 (.call 161 [.t 57])]) (.seq (.reg [mv 60 1,mv 61 12,o 62 (.call 180 [.t 60, .t 61]),mv 59 62,o 63 (.ext (.t 59) 0),o 64 (.ext (.t 59) 1),o 65 (.ext (.t 59) 2),o 66 (.ext (.t 59) 3),o 67 (.ext (.t 59) 4),o 13 (.alloc 27 [.sl none 0 0 none, .bool false]),o 14 (.alloc 27 [.sl none 0 0 none, .bool false]),o 15 (.alloc 27 [.sl none 0 0 none, .bool false]),o 16 (.alloc 27 [.sl none 0 0 none, .bool false]),o 17 (.alloc 27 [.sl none 0 0 none, .bool false]),od (.st 2 (.t 13) (.t 63)),od (.st 2 (.t 14) (.t 64)),od (.st 2 (.t 15) (.t 65)),od (.st 2 (.t 16) (.t 66)),od (.st 2 (.t 17) (.t 67))]) (.seq (.reg [mv 69 2,mv 70 12,o 71 (.call 180 [.t 69, .t 70]),mv 68 71,o 72 (.ext (.t 68) 0),o 73 (.ext (.t 68) 1),o 74 (.ext (.t 68) 2),o 75 (.ext (.t 68) 3),o 76 (.ext (.t 68) 4),o 18 (.alloc 27 [.sl none 0 0 none, .bool false]),o 19 (.alloc 27 [.sl none 0 0 none, .bool false]),o 20 (.alloc 27 [.sl none 0 0 none, .bool false]),o 21 (.alloc 27 [.sl none 0 0 none, .bool false]),o 22 (.alloc 27 [.sl none 0 0 none, .bool false]),od (.st 2 (.t 18) (.t 72)),od (.st 2 (.t 19) (.t 73)),od (.st 2 (.t 20) (.t 74)),od (.st 2 (.t 21) (.t 75)),od (.st 2 (.t 22) (.t 76))]) (.seq (.reg [mv 77 3,o 78 (.fld 0 (.t 13)),o 79 (.ld none (.t 78)),mv 80 12,o 82 (.fld 0 (.t 18)),o 83 (.ld none (.t 82)),mv 84 12,⟨some 81,none, .call 181 [.t 79, .t 80],[(some 83,none, .ld none (.t 82))]⟩,o 85 (.call 181 [.t 83, .t 84]),o 86 (.callV (.t 77) [.t 81, .t 85]),mv 23 86]) (.seq (.reg [mv 87 3,o 88 (.fld 0 (.t 14)),o 89 (.ld none (.t 88)),mv 90 12,o 91 (.bin .add (.t 90) (i64 1)),o 93 (.fld 0 (.t 19)),o 94 (.ld none (.t 93)),mv 95 12,o 96 (.bin .add (.t 95) (i64 1)),⟨some 92,none, .call 181 [.t 89, .t 91],[(some 94,none, .ld none (.t 93))]⟩,o 97 (.call 181 [.t 94, .t 96]),o 98 (.callV (.t 87) [.t 92, .t 97]),mv 24 98]) (.seq (.reg [mv 99 3,o 100 (.fld 0 (.t 15)),o 101 (.ld none (.t 100)),mv 102 12,o 103 (.bin .add (.t 102) (i64 1)),o 105 (.fld 0 (.t 20)),o 106 (.ld none (.t 105)),mv 107 12,o 108 (.bin .add (.t 107) (i64 1)),⟨some 104,none, .call 181 [.t 101, .t 103],[(some 106,none, .ld none (.t 105))]⟩,o 109 (.call 181 [.t 106, .t 108]),o 110 (.callV (.t 99) [.t 104, .t 109]),mv 25 110]) (.seq (.reg [mv 111 3,o 112 (.fld 0 (.t 16)),o 113 (.ld none (.t 112)),mv 114 12,o 115 (.bin .add (.t 114) (i64 1)),o 117 (.fld 0 (.t 21)),o 118 (.ld none (.t 117)),mv 119 12,o 120 (.bin .add (.t 119) (i64 1)),⟨some 116,none, .call 181 [.t 113, .t 115],[(some 118,none, .ld none (.t 117))]⟩,o 121 (.call 181 [.t 118, .t 120]),o 122 (.callV (.t 111) [.t 116, .t 121]),mv 26 122]) (.seq (.reg [mv 123 3,o 124 (.fld 0 (.t 17)),o 125 (.ld none (.t 124)),mv 126 10,mv 127 12,o 128 (.bin .mul (i64 2) (.t 127)),bn 129 .sub 126 128,o 131 (.fld 0 (.t 22)),o 132 (.ld none (.t 131)),mv 133 11,mv 134 12,o 135 (.bin .mul (i64 2) (.t 134)),bn 136 .sub 133 135,⟨some 130,none, .call 181 [.t 125, .t 129],[(some 132,none, .ld none (.t 131))]⟩,o 137 (.call 181 [.t 132, .t 136]),o 138 (.callV (.t 123) [.t 130, .t 137]),mv 27 138]) (.seq (.reg [mv 139 0,o 140 (.nn (.t 139)),o 141 (.fld 0 (.t 140)),o 142 (.ld none (.t 141)),o 143 (.nn (.t 142)),o 144 (.fld 0 (.t 143)),o 145 (.ld none (.t 144)),o 146 (.nn (.t 145)),o 147 (.fld 0 (.t 146)),o 148 (.ld none (.t 147)),o 149 (.nn (.t 148)),o 150 (.fld 0 (.t 149)),o 151 (.call 162 [.t 150])]) (.seq (.reg [mv 152 12,mv 153 23,mv 154 24,mv 155 25,mv 156 26,mv 157 27,o 158 (.fld 1 (.t 15)),o 159 (.ld none (.t 158)),o 160 (.fld 1 (.t 20)),o 161 (.ld none (.t 160)),o 162 (.beq true (.t 159) (.t 161)),o 163 (.call 182 [.t 152, .t 153, .t 154, .t 155, .t 156, .t 157, .t 162]),mv 8 163,o 9 (.mv (.c (.bool true)))]) .ret))))))))))))))
theorem in_toom_Engine_Toom:Ent 168 164 c_toom_Engine_Toom [.t 8, .t 9]:=ent Tryz.func168 rfl rfl rfl (show compile _ 164 _=_ by kernel_rfl) (show compRes _ 164 _=_ by kernel_rfl)
def c_toom_Points:AC:= .seq (.reg [o 4 (.alloc 27 [.sl none 0 0 none, .bool false]),o 5 (.alloc 27 [.sl none 0 0 none, .bool false]),o 6 (.alloc 27 [.sl none 0 0 none, .bool false]),o 7 (.alloc 27 [.sl none 0 0 none, .bool false]),o 8 (.alloc 27 [.sl none 0 0 none, .bool false])]) (.seq (.reg [mv 13 1,o 14 (.mnx false (.t 13) [i64 16384]),o 15 (.mnx true (i64 1) [.t 14]),mv 1 15]) (.seq (.reg [mv 16 0,o 17 (.call 107 [.t 16]),mv 0 17]) (.seq (.reg [mv 18 0,mv 19 1,o 20 (.call 198 [.t 18,i64 0, .t 19]),mv 21 0,mv 22 1,mv 23 1,o 24 (.bin .mul (i64 2) (.t 23)),o 25 (.call 198 [.t 21, .t 22, .t 24]),mv 26 0,mv 27 1,o 28 (.bin .mul (i64 2) (.t 27)),mv 29 0,o 30 (.len false (.t 29)),o 31 (.call 198 [.t 26, .t 28, .t 30]),mv 9 20,mv 10 25,mv 11 31]) (.seq (.reg [mv 32 9,mv 33 11,o 34 (.call 111 [.t 32, .t 33]),mv 12 34]) (.seq (.reg [mv 35 9,o 36 (.call 107 [.t 35]),o 37 (.fld 0 (.t 4)),od (.st 1 (.t 37) (.t 36))]) (.seq (.reg [mv 38 12,mv 39 10,o 40 (.call 111 [.t 38, .t 39]),o 41 (.fld 0 (.t 5)),od (.st 1 (.t 41) (.t 40))]) (.seq (.reg [mv 42 12,mv 43 10,o 44 (.call 199 [.t 42, .t 43]),od (.st 2 (.t 6) (.t 44))]) (.seq (.reg [mv 45 9,mv 46 10,o 47 (.call 147 [.t 46,i64 1]),mv 48 11,o 49 (.call 147 [.t 48,i64 2]),o 50 (.bsl 25 1 3 [.sl none 0 0 none] [(0, .t 45),(1, .t 47),(2, .t 49)]),o 51 (.call 200 [.t 50]),o 52 (.fld 0 (.t 7)),od (.st 1 (.t 52) (.t 51))]) (.seq (.reg [mv 53 11,o 54 (.call 107 [.t 53]),o 55 (.fld 0 (.t 8)),od (.st 1 (.t 55) (.t 54))]) (.seq (.reg [o 56 (.ld (some 2) (.t 4)),o 57 (.ld (some 2) (.t 5)),o 58 (.ld (some 2) (.t 6)),o 59 (.ld (some 2) (.t 7)),o 60 (.ld (some 2) (.t 8)),⟨none,none, .st 2 (.t 4) (.t 56),[(some 57,none, .ld (some 2) (.t 5)),(some 58,none, .ld (some 2) (.t 6)),(some 59,none, .ld (some 2) (.t 7)),(some 60,none, .ld (some 2) (.t 8))]⟩,⟨none,none, .st 2 (.t 5) (.t 57),[(some 58,none, .ld (some 2) (.t 6)),(some 59,none, .ld (some 2) (.t 7)),(some 60,none, .ld (some 2) (.t 8))]⟩,⟨none,none, .st 2 (.t 6) (.t 58),[(some 59,none, .ld (some 2) (.t 7)),(some 60,none, .ld (some 2) (.t 8))]⟩,⟨none,none, .st 2 (.t 7) (.t 59),[(some 60,none, .ld (some 2) (.t 8))]⟩,od (.st 2 (.t 8) (.t 60))]) .ret))))))))))
theorem in_toom_Points:Ent 180 61 c_toom_Points [.c 4 (some 2), .c 5 (some 2), .c 6 (some 2), .c 7 (some 2), .c 8 (some 2)]:=ent Tryz.func180 rfl rfl rfl (show compile _ 61 _=_ by kernel_rfl) (show compRes _ 61 _=_ by kernel_rfl)
def c_toom_wide:AC:= .seq (.reg [o 4 (.mv (.c (.sl none 0 0 none)))]) (.seq (.reg [mv 6 1,o 7 (.mk 54 1 8 [.int .u64 0] (.t 6) (.t 6)),mv 5 7]) (.seq (.reg [mv 8 5,mv 9 0,mv 10 0,o 11 (.call 52 [.t 10]),o 12 (.slc 1 (.t 9) none (some (.t 11))),o 13 (.cpy 1 (.t 8) (.t 12))]) (.seq (.reg [mv 14 5,mv 4 14]) .ret)))
theorem in_toom_wide:Ent 181 15 c_toom_wide [.t 4]:=ent Tryz.func181 rfl rfl rfl (show compile _ 15 _=_ by kernel_rfl) (show compRes _ 15 _=_ by kernel_rfl)
def c_toom_joined:AC:= .seq (.reg [o 14 (.mv (.c (.sl none 0 0 none)))]) (.seq (.reg [mv 22 2,mv 23 3,o 24 (.call 111 [.t 22, .t 23]),mv 25 2,mv 26 3,o 27 (.call 201 [.t 25, .t 26]),mv 15 24,mv 16 27]) (.seq (.seq (.reg [mv 28 6]) (.cond (.t 28) (.reg [mv 29 16,mv 30 15,mv 15 29,mv 16 30]) .skip)) (.seq (.reg [mv 31 15,o 32 (.call 150 [.t 31,i64 1]),mv 33 16,o 34 (.call 150 [.t 33,i64 1]),mv 15 32,mv 16 34]) (.seq (.reg [mv 35 15,mv 36 1,mv 37 5,o 38 (.bsl 25 1 2 [.sl none 0 0 none] [(0, .t 36),(1, .t 37)]),o 39 (.call 202 [.t 35, .t 38]),mv 17 39]) (.seq (.reg [mv 40 4,mv 41 1,mv 42 17,o 43 (.call 147 [.t 42,i64 2]),mv 44 5,o 45 (.call 147 [.t 44,i64 4]),o 46 (.bsl 25 1 3 [.sl none 0 0 none] [(0, .t 41),(1, .t 43),(2, .t 45)]),o 47 (.call 202 [.t 40, .t 46]),o 48 (.call 150 [.t 47,i64 1]),mv 18 48]) (.seq (.reg [mv 50 18,mv 51 16,o 52 (.bsl 25 1 1 [.sl none 0 0 none] [(0, .t 51)]),o 53 (.call 202 [.t 50, .t 52]),o 54 (.call 203 [.t 53]),mv 49 54,o 55 (.ext (.t 49) 0),o 56 (.ext (.t 49) 1),mv 19 55,mv 20 56]) (.seq (.reg [mv 57 16,mv 58 19,o 59 (.bsl 25 1 1 [.sl none 0 0 none] [(0, .t 58)]),o 60 (.call 202 [.t 57, .t 59]),mv 21 60]) (.seq (.reg [mv 61 0,mv 62 1,mv 63 21,mv 64 17,mv 65 19,mv 66 5,o 67 (.bsl 25 1 5 [.sl none 0 0 none] [(0, .t 62),(1, .t 63),(2, .t 64),(3, .t 65),(4, .t 66)]),o 68 (.call 153 [.t 61, .t 67]),mv 14 68]) .ret))))))))
theorem in_toom_joined:Ent 182 69 c_toom_joined [.t 14]:=ent Tryz.func182 rfl rfl rfl (show compile _ 69 _=_ by kernel_rfl) (show compRes _ 69 _=_ by kernel_rfl)
def c_toom_part:AC:= .seq (.reg [o 6 (.mv (.c (.sl none 0 0 none)))]) (.seq (.seq (.reg [mv 7 1,mv 8 0,o 9 (.len false (.t 8)),bn 10 .geq 7 9]) (.cond (.t 10) (.seq (.reg [o 6 (.mv (.c (.sl none 0 0 none)))]) .ret) .skip)) (.seq (.reg [mv 11 0,mv 12 1,mv 13 2,mv 14 0,o 15 (.len false (.t 14)),o 16 (.mnx false (.t 13) [.t 15]),o 17 (.slc 1 (.t 11) (some (.t 12)) (some (.t 16))),mv 6 17]) .ret))
theorem in_toom_part:Ent 198 18 c_toom_part [.t 6]:=ent Tryz.func198 rfl rfl rfl (show compile _ 18 _=_ by kernel_rfl) (show compRes _ 18 _=_ by kernel_rfl)
def c_toom_less:AC:= .seq (.reg [o 4 (.alloc 27 [.sl none 0 0 none, .bool false])]) (.seq (.seq (.reg [mv 10 0,mv 11 1,o 12 (.call 112 [.t 10, .t 11]),mv 9 12,o 13 (.ext (.t 9) 0),o 14 (.ext (.t 9) 1),mv 5 13,mv 6 14]) (.seq (.reg [mv 15 6]) (.cond (.t 15) (.seq (.reg [mv 16 5,o 17 (.bld [.sl none 0 0 none, .bool false] [(0,1, .t 16)]),od (.st 2 (.t 4) (.t 17))]) .ret) .skip))) (.seq (.reg [mv 19 1,mv 20 0,o 21 (.call 112 [.t 19, .t 20]),mv 18 21,o 22 (.ext (.t 18) 0),o 23 (.ext (.t 18) 1),mv 7 22,mv 8 23]) (.seq (.reg [mv 24 7,o 25 (.bld [.sl none 0 0 none, .bool false] [(0,1, .t 24),(1,1, .c (.bool true))]),od (.st 2 (.t 4) (.t 25))]) .ret)))
theorem in_toom_less:Ent 199 26 c_toom_less [.c 4 (some 2)]:=ent Tryz.func199 rfl rfl rfl (show compile _ 26 _=_ by kernel_rfl) (show compRes _ 26 _=_ by kernel_rfl)
def c_toom_sub2:AC:= .seq (.reg [o 4 (.mv (.c (.sl none 0 0 none)))]) (.seq (.reg [mv 8 0,mv 9 1,o 10 (.call 112 [.t 8, .t 9]),mv 7 10,o 11 (.ext (.t 7) 0),o 12 (.ext (.t 7) 1),mv 5 11,mv 6 12]) (.seq (.reg [mv 13 5,mv 4 13]) .ret))
theorem in_toom_sub2:Ent 201 14 c_toom_sub2 [.t 4]:=ent Tryz.func201 rfl rfl rfl (show compile _ 14 _=_ by kernel_rfl) (show compRes _ 14 _=_ by kernel_rfl)
def c_toom_sub:AC:= .seq (.reg [o 4 (.mv (.c (.sl none 0 0 none)))]) (.seq (.reg [mv 8 0,mv 9 1,o 10 (.call 200 [.t 9]),o 11 (.call 112 [.t 8, .t 10]),mv 7 11,o 12 (.ext (.t 7) 0),o 13 (.ext (.t 7) 1),mv 5 12,mv 6 13]) (.seq (.reg [mv 14 5,mv 4 14]) .ret))
theorem in_toom_sub:Ent 202 15 c_toom_sub [.t 4]:=ent Tryz.func202 rfl rfl rfl (show compile _ 15 _=_ by kernel_rfl) (show compRes _ 15 _=_ by kernel_rfl)
def c_toom_Third:AC:= .seq (.reg [o 2 (.mv (.c (.sl none 0 0 none))),o 3 (.mv (.c (.bool false)))]) (.seq (.reg [mv 12 0,o 13 (.call 107 [.t 12]),mv 0 13]) (.seq (.reg [o 4 (.mv (u64 0))]) (.seq (.seq (.reg [mv 14 0,o 15 (.len false (.t 14)),o 16 (.mv (i64 0))]) (.block 0 (.loop (.seq (.reg [bn 17 .lss 16 15]) (.seq (.cond (.t 17) .skip (.exit 0)) (.seq (.block 1 (.seq (.reg [mv 18 16,o 19 (.idx 1 (.t 14) (.t 16)),o 20 (.ld none (.t 19)),mv 5 18,mv 6 20]) (.seq (.reg [mv 22 6,mv 23 4,o 24 (.call 132 [.t 22, .t 23,u64 0]),mv 21 24,o 25 (.ext (.t 21) 0),o 26 (.ext (.t 21) 1),mv 7 25,mv 8 26]) (.seq (.reg [mv 27 7,o 28 (.bin .mul (.t 27) (u64 12297829382473034411)),mv 9 28]) (.seq (.reg [mv 29 0,mv 30 5,mv 31 9,o 32 (.idx 1 (.t 29) (.t 30)),od (.st 1 (.t 32) (.t 31))]) (.seq (.reg [mv 34 9,o 35 (.call 164 [.t 34,u64 3]),mv 33 35,o 36 (.ext (.t 33) 0),o 37 (.ext (.t 33) 1),mv 10 36,mv 11 37]) (.reg [mv 38 10,mv 39 8,bn 40 .add 38 39,mv 4 40]))))))) (.reg [o 41 (.bin .add (.t 16) (i64 1)),mv 16 41]))))))) (.seq (.seq (.reg [mv 42 4,o 43 (.bin .neq (.t 42) (u64 0))]) (.cond (.t 43) (.seq (.reg [o 2 (.mv (.c (.sl none 0 0 none))),o 3 (.mv (.c (.bool false)))]) .ret) .skip)) (.seq (.reg [mv 44 0,o 45 (.call 107 [.t 44]),mv 2 45,o 3 (.mv (.c (.bool true)))]) .ret)))))
theorem in_toom_Third:Ent 203 46 c_toom_Third [.t 2, .t 3]:=ent Tryz.func203 rfl rfl rfl (show compile _ 46 _=_ by kernel_rfl) (show compRes _ 46 _=_ by kernel_rfl)
def c_toom_New:AC:= .seq (.reg [o 1 (.box 23 (.t 0)),o 2 (.mv (.c (.ptr none)))]) (.seq (.reg [o 3 (.ld (some 11) (.t 1)),o 4 (.call 235 [.t 3]),o 5 (.bld [.ptr none] [(0,1, .t 4)]),o 6 (.box 170 (.t 5)),mv 2 6]) .ret)
theorem in_toom_New:Ent 226 7 c_toom_New [.t 2]:=ent Tryz.func226 rfl rfl rfl (show compile _ 7 _=_ by kernel_rfl) (show compRes _ 7 _=_ by kernel_rfl)
def c_kara_Engine_KaraSqr:AC:= .seq (.reg [o 6 (.mv (.c (.sl none 0 0 none))),o 7 (.mv (.c (.bool false)))]) (.seq (.reg [mv 18 1,o 19 (.len false (.t 18)),mv 8 19]) (.seq (.seq (.reg [mv 20 8,o 21 (.bin .lss (.t 20) (i64 2))]) (.cond (.t 21) (.seq (.reg [o 6 (.mv (.c (.sl none 0 0 none))),o 7 (.mv (.c (.bool false)))]) .ret) .skip)) (.seq (.reg [mv 22 8,o 23 (.bin .add (.t 22) (i64 1)),o 24 (.bin .quo (.t 23) (i64 2)),mv 9 24]) (.seq (.reg [mv 25 0,o 26 (.nn (.t 25)),o 27 (.fld 0 (.t 26)),o 28 (.ld none (.t 27)),o 29 (.nn (.t 28)),o 30 (.fld 0 (.t 29)),o 31 (.ld none (.t 30)),o 32 (.nn (.t 31)),o 33 (.fld 0 (.t 32)),o 34 (.call 161 [.t 33])]) (.seq (.reg [mv 35 1,mv 36 9,o 37 (.call 178 [.t 35,i64 0, .t 36]),mv 38 1,mv 39 9,mv 40 8,mv 41 9,bn 42 .sub 40 41,o 43 (.call 178 [.t 38, .t 39, .t 42]),mv 10 37,mv 11 43]) (.seq (.reg [mv 44 10,mv 45 11,o 46 (.call 111 [.t 44, .t 45]),mv 47 9,o 48 (.bin .add (.t 47) (i64 1)),o 49 (.call 179 [.t 46, .t 48]),mv 12 49]) (.seq (.reg [mv 50 2,mv 51 10,o 52 (.callV (.t 50) [.t 51]),mv 53 2,mv 54 11,o 55 (.callV (.t 53) [.t 54]),mv 13 52,mv 14 55]) (.seq (.reg [mv 56 2,mv 57 12,o 58 (.callV (.t 56) [.t 57]),mv 15 58]) (.seq (.reg [mv 59 0,o 60 (.nn (.t 59)),o 61 (.fld 0 (.t 60)),o 62 (.ld none (.t 61)),o 63 (.nn (.t 62)),o 64 (.fld 0 (.t 63)),o 65 (.ld none (.t 64)),o 66 (.nn (.t 65)),o 67 (.fld 0 (.t 66)),o 68 (.call 162 [.t 67])]) (.seq (.reg [mv 70 15,mv 71 13,mv 72 14,o 73 (.call 111 [.t 71, .t 72]),o 74 (.call 112 [.t 70, .t 73]),mv 69 74,o 75 (.ext (.t 69) 0),o 76 (.ext (.t 69) 1),mv 16 75,mv 17 76]) (.seq (.reg [mv 77 9,mv 78 13,mv 79 16,mv 80 14,o 81 (.bsl 25 1 3 [.sl none 0 0 none] [(0, .t 78),(1, .t 79),(2, .t 80)]),o 82 (.call 153 [.t 77, .t 81]),mv 6 82,o 7 (.mv (.c (.bool true)))]) .ret)))))))))))
theorem in_kara_Engine_KaraSqr:Ent 155 83 c_kara_Engine_KaraSqr [.t 6, .t 7]:=ent Tryz.func155 rfl rfl rfl (show compile _ 83 _=_ by kernel_rfl) (show compRes _ 83 _=_ by kernel_rfl)
def c_kara_Engine_Kara:AC:= .seq (.reg [o 8 (.mv (.c (.sl none 0 0 none))),o 9 (.mv (.c (.bool false)))]) (.seq (.seq (.reg [mv 24 1,o 25 (.len false (.t 24)),mv 26 2,o 27 (.len false (.t 26)),bn 28 .lss 25 27]) (.cond (.t 28) (.reg [mv 29 2,mv 30 1,mv 1 29,mv 2 30]) .skip)) (.seq (.reg [mv 31 1,o 32 (.len false (.t 31)),mv 33 2,o 34 (.len false (.t 33)),mv 10 32,mv 11 34]) (.seq (.reg [mv 35 10,o 36 (.bin .add (.t 35) (i64 1)),o 37 (.bin .quo (.t 36) (i64 2)),mv 12 37]) (.seq (.seq (.reg [mv 38 11,mv 39 12,bn 40 .leq 38 39]) (.cond (.t 40) (.seq (.reg [o 8 (.mv (.c (.sl none 0 0 none))),o 9 (.mv (.c (.bool false)))]) .ret) .skip)) (.seq (.reg [mv 41 0,o 42 (.nn (.t 41)),o 43 (.fld 0 (.t 42)),o 44 (.ld none (.t 43)),o 45 (.nn (.t 44)),o 46 (.fld 0 (.t 45)),o 47 (.ld none (.t 46)),o 48 (.nn (.t 47)),o 49 (.fld 0 (.t 48)),o 50 (.call 161 [.t 49])]) (.seq (.reg [mv 51 1,mv 52 12,o 53 (.call 178 [.t 51,i64 0, .t 52]),mv 54 1,mv 55 12,mv 56 10,mv 57 12,bn 58 .sub 56 57,o 59 (.call 178 [.t 54, .t 55, .t 58]),mv 13 53,mv 14 59]) (.seq (.reg [mv 60 2,mv 61 12,o 62 (.call 178 [.t 60,i64 0, .t 61]),mv 63 2,mv 64 12,mv 65 11,mv 66 12,bn 67 .sub 65 66,o 68 (.call 178 [.t 63, .t 64, .t 67]),mv 15 62,mv 16 68]) (.seq (.reg [mv 69 13,mv 70 14,o 71 (.call 111 [.t 69, .t 70]),mv 72 12,o 73 (.bin .add (.t 72) (i64 1)),o 74 (.call 179 [.t 71, .t 73]),mv 75 15,mv 76 16,o 77 (.call 111 [.t 75, .t 76]),mv 78 12,o 79 (.bin .add (.t 78) (i64 1)),o 80 (.call 179 [.t 77, .t 79]),mv 17 74,mv 18 80]) (.seq (.reg [mv 81 3,mv 82 13,mv 83 15,o 84 (.callV (.t 81) [.t 82, .t 83]),mv 85 3,mv 86 14,mv 87 16,o 88 (.callV (.t 85) [.t 86, .t 87]),mv 19 84,mv 20 88]) (.seq (.reg [mv 89 3,mv 90 17,mv 91 18,o 92 (.callV (.t 89) [.t 90, .t 91]),mv 21 92]) (.seq (.reg [mv 93 0,o 94 (.nn (.t 93)),o 95 (.fld 0 (.t 94)),o 96 (.ld none (.t 95)),o 97 (.nn (.t 96)),o 98 (.fld 0 (.t 97)),o 99 (.ld none (.t 98)),o 100 (.nn (.t 99)),o 101 (.fld 0 (.t 100)),o 102 (.call 162 [.t 101])]) (.seq (.reg [mv 104 21,mv 105 19,mv 106 20,o 107 (.call 111 [.t 105, .t 106]),o 108 (.call 112 [.t 104, .t 107]),mv 103 108,o 109 (.ext (.t 103) 0),o 110 (.ext (.t 103) 1),mv 22 109,mv 23 110]) (.seq (.reg [mv 111 12,mv 112 19,mv 113 22,mv 114 20,o 115 (.bsl 25 1 3 [.sl none 0 0 none] [(0, .t 112),(1, .t 113),(2, .t 114)]),o 116 (.call 153 [.t 111, .t 115]),mv 8 116,o 9 (.mv (.c (.bool true)))]) .ret)))))))))))))
theorem in_kara_Engine_Kara:Ent 167 117 c_kara_Engine_Kara [.t 8, .t 9]:=ent Tryz.func167 rfl rfl rfl (show compile _ 117 _=_ by kernel_rfl) (show compRes _ 117 _=_ by kernel_rfl)
def c_kara_piece:AC:= .seq (.reg [o 6 (.mv (.c (.sl none 0 0 none)))]) (.seq (.reg [mv 8 2,o 9 (.mk 54 1 8 [.int .u64 0] (.t 8) (.t 8)),mv 7 9]) (.seq (.seq (.reg [mv 10 1,mv 11 0,o 12 (.len false (.t 11)),bn 13 .lss 10 12]) (.cond (.t 13) (.reg [mv 14 7,mv 15 0,mv 16 1,mv 17 0,o 18 (.len false (.t 17)),mv 19 1,mv 20 2,bn 21 .add 19 20,o 22 (.mnx false (.t 18) [.t 21]),o 23 (.slc 1 (.t 15) (some (.t 16)) (some (.t 22))),o 24 (.cpy 1 (.t 14) (.t 23))]) .skip)) (.seq (.reg [mv 25 7,mv 6 25]) .ret)))
theorem in_kara_piece:Ent 178 26 c_kara_piece [.t 6]:=ent Tryz.func178 rfl rfl rfl (show compile _ 26 _=_ by kernel_rfl) (show compRes _ 26 _=_ by kernel_rfl)
def c_kara_wide:AC:= .seq (.reg [o 4 (.mv (.c (.sl none 0 0 none)))]) (.seq (.reg [mv 5 0,mv 6 1,o 7 (.call 178 [.t 5,i64 0, .t 6]),mv 4 7]) .ret)
theorem in_kara_wide:Ent 179 8 c_kara_wide [.t 4]:=ent Tryz.func179 rfl rfl rfl (show compile _ 8 _=_ by kernel_rfl) (show compRes _ 8 _=_ by kernel_rfl)
def c_kara_New:AC:= .seq (.reg [o 1 (.box 23 (.t 0)),o 2 (.mv (.c (.ptr none)))]) (.seq (.reg [o 3 (.ld (some 11) (.t 1)),o 4 (.call 243 [.t 3]),o 5 (.bld [.ptr none] [(0,1, .t 4)]),o 6 (.box 173 (.t 5)),mv 2 6]) .ret)
theorem in_kara_New:Ent 235 7 c_kara_New [.t 2]:=ent Tryz.func235 rfl rfl rfl (show compile _ 7 _=_ by kernel_rfl) (show compRes _ 7 _=_ by kernel_rfl)
def c_school_Engine_Mul:AC:= .seq (.reg [o 6 (.mv (.c (.sl none 0 0 none)))]) (.seq (.reg [mv 17 0,o 18 (.nn (.t 17)),o 19 (.fld 0 (.t 18)),o 20 (.ld none (.t 19)),o 21 (.nn (.t 20)),o 22 (.fld 0 (.t 21)),mv 23 1,o 24 (.len false (.t 23)),mv 25 2,o 26 (.len false (.t 25)),bn 27 .mul 24 26,o 28 (.call 144 [.t 22, .t 27])]) (.seq (.reg [mv 29 1,o 30 (.len false (.t 29)),mv 31 2,o 32 (.len false (.t 31)),bn 33 .add 30 32,o 34 (.mk 54 1 8 [.int .u64 0] (.t 33) (.t 33)),mv 7 34]) (.seq (.seq (.reg [mv 35 1,o 36 (.len false (.t 35)),o 37 (.mv (i64 0))]) (.block 0 (.loop (.seq (.reg [bn 38 .lss 37 36]) (.seq (.cond (.t 38) .skip (.exit 0)) (.seq (.block 1 (.seq (.reg [mv 39 37,o 40 (.idx 1 (.t 35) (.t 37)),o 41 (.ld none (.t 40)),mv 8 39,mv 9 41]) (.seq (.reg [o 10 (.mv (u64 0))]) (.seq (.seq (.reg [mv 42 2,o 43 (.len false (.t 42)),o 44 (.mv (i64 0))]) (.block 2 (.loop (.seq (.reg [bn 45 .lss 44 43]) (.seq (.cond (.t 45) .skip (.exit 2)) (.seq (.block 3 (.seq (.reg [mv 46 44,o 47 (.idx 1 (.t 42) (.t 44)),o 48 (.ld none (.t 47)),mv 11 46,mv 12 48]) (.seq (.reg [mv 50 9,mv 51 12,o 52 (.call 164 [.t 50, .t 51]),mv 49 52,o 53 (.ext (.t 49) 0),o 54 (.ext (.t 49) 1),mv 13 53,mv 14 54]) (.seq (.reg [mv 56 14,mv 57 10,o 58 (.call 131 [.t 56, .t 57,u64 0]),mv 55 58,o 59 (.ext (.t 55) 0),o 60 (.ext (.t 55) 1),mv 15 59,mv 16 60]) (.seq (.reg [mv 61 13,mv 62 16,bn 63 .add 61 62,mv 13 63]) (.seq (.reg [mv 65 7,mv 66 8,mv 67 11,bn 68 .add 66 67,mv 69 7,mv 70 8,mv 71 11,bn 72 .add 70 71,o 73 (.idx 1 (.t 69) (.t 72)),o 74 (.ld none (.t 73)),mv 75 15,o 76 (.call 131 [.t 74, .t 75,u64 0]),mv 64 76,o 77 (.ext (.t 64) 0),o 78 (.ext (.t 64) 1),o 79 (.idx 1 (.t 65) (.t 68)),od (.st 1 (.t 79) (.t 77)),mv 16 78]) (.reg [mv 80 13,mv 81 16,bn 82 .add 80 81,mv 10 82]))))))) (.reg [o 83 (.bin .add (.t 44) (i64 1)),mv 44 83]))))))) (.reg [mv 84 7,mv 85 8,mv 86 2,o 87 (.len false (.t 86)),bn 88 .add 85 87,mv 89 10,o 90 (.idx 1 (.t 84) (.t 88)),od (.st 1 (.t 90) (.t 89))]))))) (.reg [o 91 (.bin .add (.t 37) (i64 1)),mv 37 91]))))))) (.seq (.reg [mv 92 7,o 93 (.call 107 [.t 92]),mv 6 93]) .ret))))
theorem in_school_Engine_Mul:Ent 143 94 c_school_Engine_Mul [.t 6]:=ent Tryz.func143 rfl rfl rfl (show compile _ 94 _=_ by kernel_rfl) (show compRes _ 94 _=_ by kernel_rfl)
def c_school_Engine_Sqr:AC:= .seq (.reg [o 4 (.mv (.c (.sl none 0 0 none)))]) (.seq (.reg [mv 25 1,o 26 (.len false (.t 25)),mv 5 26]) (.seq (.reg [mv 27 0,o 28 (.nn (.t 27)),o 29 (.fld 0 (.t 28)),o 30 (.ld none (.t 29)),o 31 (.nn (.t 30)),o 32 (.fld 0 (.t 31)),mv 33 5,mv 34 5,o 35 (.bin .add (.t 34) (i64 1)),bn 36 .mul 33 35,o 37 (.bin .quo (.t 36) (i64 2)),o 38 (.call 144 [.t 32, .t 37])]) (.seq (.reg [mv 39 5,o 40 (.bin .mul (i64 2) (.t 39)),o 41 (.mk 54 1 8 [.int .u64 0] (.t 40) (.t 40)),mv 6 41]) (.seq (.seq (.reg [mv 42 1,o 43 (.len false (.t 42)),o 44 (.mv (i64 0))]) (.block 0 (.loop (.seq (.reg [bn 45 .lss 44 43]) (.seq (.cond (.t 45) .skip (.exit 0)) (.seq (.block 1 (.seq (.reg [mv 46 44,o 47 (.idx 1 (.t 42) (.t 44)),o 48 (.ld none (.t 47)),mv 7 46,mv 8 48]) (.seq (.reg [o 9 (.mv (u64 0))]) (.seq (.seq (.reg [mv 49 7,o 50 (.bin .add (.t 49) (i64 1)),mv 10 50]) (.block 2 (.loop (.seq (.seq (.reg [mv 51 10,mv 52 5,bn 53 .lss 51 52]) (.cond (.t 53) .skip (.exit 2))) (.seq (.block 3 (.seq (.reg [mv 57 8,mv 58 1,mv 59 10,o 60 (.idx 1 (.t 58) (.t 59)),o 61 (.ld none (.t 60)),o 62 (.call 164 [.t 57, .t 61]),mv 56 62,o 63 (.ext (.t 56) 0),o 64 (.ext (.t 56) 1),mv 11 63,mv 12 64]) (.seq (.reg [mv 66 12,mv 67 9,o 68 (.call 131 [.t 66, .t 67,u64 0]),mv 65 68,o 69 (.ext (.t 65) 0),o 70 (.ext (.t 65) 1),mv 13 69,mv 14 70]) (.seq (.reg [mv 71 11,mv 72 14,bn 73 .add 71 72,mv 11 73]) (.seq (.reg [mv 75 6,mv 76 7,mv 77 10,bn 78 .add 76 77,mv 79 6,mv 80 7,mv 81 10,bn 82 .add 80 81,o 83 (.idx 1 (.t 79) (.t 82)),o 84 (.ld none (.t 83)),mv 85 13,o 86 (.call 131 [.t 84, .t 85,u64 0]),mv 74 86,o 87 (.ext (.t 74) 0),o 88 (.ext (.t 74) 1),o 89 (.idx 1 (.t 75) (.t 78)),od (.st 1 (.t 89) (.t 87)),mv 14 88]) (.reg [mv 90 11,mv 91 14,bn 92 .add 90 91,mv 9 92])))))) (.reg [mv 54 10,o 55 (.bin .add (.t 54) (i64 1)),mv 10 55])))))) (.reg [mv 93 6,mv 94 7,mv 95 5,bn 96 .add 94 95,mv 97 9,o 98 (.idx 1 (.t 93) (.t 96)),od (.st 1 (.t 98) (.t 97))]))))) (.reg [o 99 (.bin .add (.t 44) (i64 1)),mv 44 99]))))))) (.seq (.reg [o 15 (.mv (u64 0))]) (.seq (.reg [o 16 (.mv (u64 0))]) (.seq (.seq (.reg [mv 100 1,o 101 (.len false (.t 100)),o 102 (.mv (i64 0))]) (.block 4 (.loop (.seq (.reg [bn 103 .lss 102 101]) (.seq (.cond (.t 103) .skip (.exit 4)) (.seq (.block 5 (.seq (.reg [mv 104 102,o 105 (.idx 1 (.t 100) (.t 102)),o 106 (.ld none (.t 105)),mv 17 104,mv 18 106]) (.seq (.reg [mv 108 18,mv 109 18,o 110 (.call 164 [.t 108, .t 109]),mv 107 110,o 111 (.ext (.t 107) 0),o 112 (.ext (.t 107) 1),mv 19 111,mv 20 112]) (.seq (.reg [mv 113 6,mv 114 17,o 115 (.bin .mul (i64 2) (.t 114)),o 116 (.idx 1 (.t 113) (.t 115)),o 117 (.ld none (.t 116)),mv 118 6,mv 119 17,o 120 (.bin .mul (i64 2) (.t 119)),o 121 (.bin .add (.t 120) (i64 1)),o 122 (.idx 1 (.t 118) (.t 121)),o 123 (.ld none (.t 122)),mv 21 117,mv 22 123]) (.seq (.reg [mv 125 21,o 126 (.bin .shl (.t 125) (u64 1)),mv 127 16,bn 128 .or 126 127,mv 129 20,mv 130 15,o 131 (.call 131 [.t 128, .t 129, .t 130]),mv 124 131,o 132 (.ext (.t 124) 0),o 133 (.ext (.t 124) 1),mv 23 132,mv 24 133]) (.seq (.reg [mv 134 6,mv 135 17,o 136 (.bin .mul (i64 2) (.t 135)),mv 137 23,o 138 (.idx 1 (.t 134) (.t 136)),od (.st 1 (.t 138) (.t 137))]) (.seq (.reg [mv 140 22,o 141 (.bin .shl (.t 140) (u64 1)),mv 142 21,o 143 (.bin .shr (.t 142) (u64 63)),bn 144 .or 141 143,mv 145 19,mv 146 24,o 147 (.call 131 [.t 144, .t 145, .t 146]),mv 139 147,o 148 (.ext (.t 139) 0),o 149 (.ext (.t 139) 1),mv 23 148,mv 15 149]) (.seq (.reg [mv 150 6,mv 151 17,o 152 (.bin .mul (i64 2) (.t 151)),o 153 (.bin .add (.t 152) (i64 1)),mv 154 23,o 155 (.idx 1 (.t 150) (.t 153)),od (.st 1 (.t 155) (.t 154))]) (.reg [mv 156 22,o 157 (.bin .shr (.t 156) (u64 63)),mv 16 157]))))))))) (.reg [o 158 (.bin .add (.t 102) (i64 1)),mv 102 158]))))))) (.seq (.reg [mv 159 6,o 160 (.call 107 [.t 159]),mv 4 160]) .ret))))))))
theorem in_school_Engine_Sqr:Ent 158 161 c_school_Engine_Sqr [.t 4]:=ent Tryz.func158 rfl rfl rfl (show compile _ 161 _=_ by kernel_rfl) (show compRes _ 161 _=_ by kernel_rfl)
def c_school_New:AC:= .seq (.reg [o 1 (.box 23 (.t 0)),o 2 (.mv (.c (.ptr none)))]) (.seq (.reg [o 3 (.ld (some 11) (.t 1)),o 4 (.call 247 [.t 3]),o 5 (.bld [.ptr none] [(0,1, .t 4)]),o 6 (.box 176 (.t 5)),mv 2 6]) .ret)
theorem in_school_New:Ent 243 7 c_school_New [.t 2]:=ent Tryz.func243 rfl rfl rfl (show compile _ 7 _=_ by kernel_rfl) (show compRes _ 7 _=_ by kernel_rfl)
def c_power_New:AC:= .seq (.reg [o 1 (.box 23 (.t 0)),o 2 (.mv (.c (.ptr none)))]) (.seq (.reg [o 3 (.ld (some 11) (.t 1)),o 4 (.call 40 [.t 3]),o 5 (.bld [.ptr none] [(0,1, .t 4)]),o 6 (.box 116 (.t 5)),mv 2 6]) .ret)
theorem in_power_New:Ent 23 7 c_power_New [.t 2]:=ent Tryz.func23 rfl rfl rfl (show compile _ 7 _=_ by kernel_rfl) (show compRes _ 7 _=_ by kernel_rfl)
def c_power_Engine_Pow:AC:= .seq (.reg [o 5 (.box 27 (.t 1)),o 8 (.alloc 27 [.sl none 0 0 none, .bool false]),o 9 (.mv (i64 0))]) (.seq (.seq (.reg [mv 14 2,o 15 (.bin .lss (.t 14) (i64 0)),mv 16 15,og 17 16 false (.mv (.t 3)),og 18 16 false (.call 96 [.t 17]),og 19 16 false (.un .not (.t 18)),o 20 (.pick (.t 16) (.c (.bool true)) (.t 19))]) (.cond (.t 20) (.seq (.reg [o 21 (.bld [.sl none 0 0 none, .bool false] []),od (.st 2 (.t 8) (.t 21)),o 9 (.mv (i64 1))]) .ret) .skip)) (.seq (.reg [o 23 (.ld (some 2) (.t 5)),mv 24 2,o 25 (.call 31 [.t 23, .t 24]),mv 22 25,o 26 (.ext (.t 22) 0),o 27 (.ext (.t 22) 1),mv 10 26,mv 11 27]) (.seq (.seq (.reg [mv 28 10,mv 29 3,bn 30 .gtr 28 29]) (.cond (.t 30) (.seq (.reg [o 31 (.bld [.sl none 0 0 none, .bool false] []),od (.st 2 (.t 8) (.t 31)),o 9 (.mv (i64 10))]) .ret) .skip)) (.seq (.reg [o 32 (.call 97 [u64 1]),mv 12 32]) (.seq (.seq (.reg [o 33 (.fld 0 (.t 5)),o 34 (.ld none (.t 33)),o 35 (.call 32 [.t 34]),mv 13 35]) (.block 0 (.seq (.reg [mv 42 2,o 43 (.bin .eql (.t 42) (i64 0)),mv 44 43,og 45 44 false (.mv (.t 13)),og 46 44 false (.bin .eql (.t 45) (i64 1)),o 47 (.pick (.t 44) (.c (.bool true)) (.t 46)),mv 41 47]) (.cond (.t 41) .skip (.seq (.reg [mv 49 13,o 50 (.bin .eql (.t 49) (i64 0)),mv 48 50]) (.cond (.t 48) (.reg [o 12 (.mv (.c (.sl none 0 0 none)))]) (.reg [mv 36 0,o 37 (.fld 0 (.t 5)),o 38 (.ld none (.t 37)),mv 39 2,o 40 (.call 98 [.t 36, .t 38, .t 39]),mv 12 40]))))))) (.seq (.seq (.reg [mv 51 12,o 52 (.call 32 [.t 51]),mv 53 3,bn 54 .gtr 52 53]) (.cond (.t 54) (.seq (.reg [o 55 (.bld [.sl none 0 0 none, .bool false] []),od (.st 2 (.t 8) (.t 55)),o 9 (.mv (i64 10))]) .ret) .skip)) (.seq (.reg [mv 56 12,o 57 (.fld 1 (.t 5)),o 58 (.ld none (.t 57)),mv 59 58,og 60 59 true (.mv (.t 2)),og 61 59 true (.bin .rem (.t 60) (i64 2)),og 62 59 true (.bin .eql (.t 61) (i64 1)),o 63 (.pick (.t 59) (.t 62) (.c (.bool false))),mv 64 63,og 65 64 true (.mv (.t 12)),og 66 64 true (.call 53 [.t 65]),og 67 64 true (.un .not (.t 66)),o 68 (.pick (.t 64) (.t 67) (.c (.bool false))),o 69 (.bld [.sl none 0 0 none, .bool false] [(0,1, .t 56),(1,1, .t 68)]),od (.st 2 (.t 8) (.t 69)),o 9 (.mv (i64 0))]) .ret)))))))
theorem in_power_Engine_Pow:Ent 25 70 c_power_Engine_Pow [.c 8 (some 2), .t 9]:=ent Tryz.func25 rfl rfl rfl (show compile _ 70 _=_ by kernel_rfl) (show compRes _ 70 _=_ by kernel_rfl)
def c_power_Bits:AC:= .seq (.reg [o 2 (.box 27 (.t 0)),o 4 (.mv (i64 0)),o 5 (.mv (i64 0))]) (.seq (.reg [o 7 (.fld 0 (.t 2)),o 8 (.ld none (.t 7)),o 9 (.call 32 [.t 8]),mv 6 9]) (.seq (.seq (.reg [mv 10 1,o 11 (.bin .lss (.t 10) (i64 1)),mv 12 11,og 13 12 false (.mv (.t 6)),og 14 12 false (.bin .eql (.t 13) (i64 0)),o 15 (.pick (.t 12) (.c (.bool true)) (.t 14))]) (.cond (.t 15) (.seq (.reg [o 4 (.mv (i64 0)),o 5 (.mv (i64 1))]) .ret) .skip)) (.seq (.seq (.reg [mv 16 6,o 17 (.bin .eql (.t 16) (i64 1))]) (.cond (.t 17) (.seq (.reg [o 4 (.mv (i64 1)),o 5 (.mv (i64 1))]) .ret) .skip)) (.seq (.reg [mv 18 1,o 19 (.mnx false (.t 18) [i64 1048576]),mv 1 19]) (.seq (.reg [mv 20 6,o 21 (.bin .sub (.t 20) (i64 1)),mv 22 1,bn 23 .mul 21 22,o 24 (.bin .add (.t 23) (i64 1)),mv 25 6,mv 26 1,bn 27 .mul 25 26,mv 4 24,mv 5 27]) .ret)))))
theorem in_power_Bits:Ent 31 28 c_power_Bits [.t 4, .t 5]:=ent Tryz.func31 rfl rfl rfl (show compile _ 28 _=_ by kernel_rfl) (show compRes _ 28 _=_ by kernel_rfl)
def c_power_Engine_Factorial:AC:= .seq (.reg [o 6 (.mv (.c (.sl none 0 0 none))),o 7 (.mv (i64 0))]) (.seq (.seq (.reg [mv 11 1,o 12 (.bin .lss (.t 11) (i64 0)),mv 13 12,og 14 13 false (.mv (.t 1)),og 15 13 false (.bin .gtr (.t 14) (i64 1048576)),o 16 (.pick (.t 13) (.c (.bool true)) (.t 15)),mv 17 16,og 18 17 false (.mv (.t 2)),og 19 17 false (.call 96 [.t 18]),og 20 17 false (.un .not (.t 19)),o 21 (.pick (.t 17) (.c (.bool true)) (.t 20))]) (.cond (.t 21) (.seq (.reg [o 6 (.mv (.c (.sl none 0 0 none))),o 7 (.mv (i64 1))]) .ret) .skip)) (.seq (.reg [o 8 (.mv (i64 1))]) (.seq (.seq (.reg [o 9 (.mv (i64 2))]) (.block 0 (.loop (.seq (.seq (.reg [mv 22 9,mv 23 1,bn 24 .leq 22 23,mv 25 24,og 26 25 true (.mv (.t 8)),og 27 25 true (.mv (.t 2)),og 28 25 true (.bin .leq (.t 26) (.t 27)),o 29 (.pick (.t 25) (.t 28) (.c (.bool false)))]) (.cond (.t 29) .skip (.exit 0))) (.seq (.block 1 (.reg [mv 32 8,mv 33 9,o 34 (.cvI .u64 (.t 33)),o 35 (.call 100 [.t 34]),bn 36 .add 32 35,o 37 (.bin .sub (.t 36) (i64 1)),mv 8 37])) (.reg [mv 30 9,o 31 (.bin .add (.t 30) (i64 1)),mv 9 31])))))) (.seq (.seq (.reg [mv 38 8,mv 39 2,bn 40 .gtr 38 39]) (.cond (.t 40) (.seq (.reg [o 6 (.mv (.c (.sl none 0 0 none))),o 7 (.mv (i64 10))]) .ret) .skip)) (.seq (.reg [mv 41 0,mv 42 1,o 43 (.call 101 [.t 41,i64 1, .t 42]),mv 10 43]) (.seq (.seq (.reg [mv 44 10,o 45 (.call 32 [.t 44]),mv 46 2,bn 47 .gtr 45 46]) (.cond (.t 47) (.seq (.reg [o 6 (.mv (.c (.sl none 0 0 none))),o 7 (.mv (i64 10))]) .ret) .skip)) (.seq (.reg [mv 48 10,mv 6 48,o 7 (.mv (i64 0))]) .ret)))))))
theorem in_power_Engine_Factorial:Ent 35 49 c_power_Engine_Factorial [.t 6, .t 7]:=ent Tryz.func35 rfl rfl rfl (show compile _ 49 _=_ by kernel_rfl) (show compRes _ 49 _=_ by kernel_rfl)
def c_power_may:AC:= .seq (.reg [o 2 (.mv (.c (.bool false)))]) (.seq (.reg [mv 3 0,o 4 (.bin .geq (.t 3) (i64 0)),mv 5 4,og 6 5 true (.mv (.t 0)),og 7 5 true (.bin .leq (.t 6) (i64 1048576)),o 8 (.pick (.t 5) (.t 7) (.c (.bool false))),mv 2 8]) .ret)
theorem in_power_may:Ent 96 9 c_power_may [.t 2]:=ent Tryz.func96 rfl rfl rfl (show compile _ 9 _=_ by kernel_rfl) (show compRes _ 9 _=_ by kernel_rfl)
def c_power_Engine_raise:AC:= .seq (.reg [o 6 (.mv (.c (.sl none 0 0 none)))]) (.seq (.reg [o 8 (.call 97 [u64 1]),mv 7 8]) (.seq (.block 0 (.loop (.seq (.seq (.reg [mv 9 2,o 10 (.bin .gtr (.t 9) (i64 0))]) (.cond (.t 10) .skip (.exit 0))) (.seq (.block 1 (.seq (.seq (.reg [mv 13 2,o 14 (.bin .rem (.t 13) (i64 2)),o 15 (.bin .eql (.t 14) (i64 1))]) (.cond (.t 15) (.reg [mv 16 0,o 17 (.nn (.t 16)),o 18 (.fld 0 (.t 17)),o 19 (.ld none (.t 18)),o 20 (.nn (.t 19)),o 21 (.fld 0 (.t 20)),o 22 (.ld none (.t 21)),o 23 (.nn (.t 22)),o 24 (.fld 0 (.t 23)),o 25 (.ld none (.t 24)),o 26 (.nn (.t 25)),o 27 (.fld 0 (.t 26)),o 28 (.ld none (.t 27)),o 29 (.nn (.t 28)),o 30 (.fld 0 (.t 29)),o 31 (.ld none (.t 30)),o 32 (.nn (.t 31)),o 33 (.fld 0 (.t 32)),o 34 (.ld none (.t 33)),o 35 (.nn (.t 34)),o 36 (.fld 0 (.t 35)),o 37 (.ld none (.t 36)),mv 38 7,mv 39 1,o 40 (.call 104 [.t 37, .t 38, .t 39]),mv 7 40]) .skip)) (.seq (.reg [mv 41 2,o 42 (.bin .gtr (.t 41) (i64 1))]) (.cond (.t 42) (.reg [mv 43 0,o 44 (.nn (.t 43)),o 45 (.fld 0 (.t 44)),o 46 (.ld none (.t 45)),o 47 (.nn (.t 46)),o 48 (.fld 0 (.t 47)),o 49 (.ld none (.t 48)),o 50 (.nn (.t 49)),o 51 (.fld 0 (.t 50)),o 52 (.ld none (.t 51)),o 53 (.nn (.t 52)),o 54 (.fld 0 (.t 53)),o 55 (.ld none (.t 54)),o 56 (.nn (.t 55)),o 57 (.fld 0 (.t 56)),o 58 (.ld none (.t 57)),o 59 (.nn (.t 58)),o 60 (.fld 0 (.t 59)),o 61 (.ld none (.t 60)),o 62 (.nn (.t 61)),o 63 (.fld 0 (.t 62)),o 64 (.ld none (.t 63)),mv 65 1,o 66 (.call 115 [.t 64, .t 65]),mv 1 66]) .skip)))) (.reg [mv 11 2,o 12 (.bin .quo (.t 11) (i64 2)),mv 2 12]))))) (.seq (.reg [mv 67 7,mv 6 67]) .ret)))
theorem in_power_Engine_raise:Ent 98 68 c_power_Engine_raise [.t 6]:=ent Tryz.func98 rfl rfl rfl (show compile _ 68 _=_ by kernel_rfl) (show compRes _ 68 _=_ by kernel_rfl)
def c_power_Engine_run:AC:= .seq (.reg [o 6 (.mv (.c (.sl none 0 0 none)))]) (.seq (.seq (.reg [mv 10 2,mv 11 1,bn 12 .sub 10 11,o 13 (.bin .lss (.t 12) (i64 4))]) (.cond (.t 13) (.seq (.reg [o 14 (.call 97 [u64 1]),mv 7 14]) (.seq (.seq (.reg [mv 15 1,mv 8 15]) (.block 0 (.loop (.seq (.seq (.reg [mv 16 8,mv 17 2,bn 18 .leq 16 17]) (.cond (.t 18) .skip (.exit 0))) (.seq (.block 1 (.reg [mv 21 7,mv 22 8,o 23 (.cvI .u64 (.t 22)),o 24 (.call 122 [.t 21, .t 23]),mv 7 24])) (.reg [mv 19 8,o 20 (.bin .add (.t 19) (i64 1)),mv 8 20])))))) (.seq (.reg [mv 25 7,mv 6 25]) .ret))) .skip)) (.seq (.reg [mv 26 1,mv 27 2,mv 28 1,bn 29 .sub 27 28,o 30 (.bin .quo (.t 29) (i64 2)),bn 31 .add 26 30,mv 9 31]) (.seq (.reg [mv 32 0,o 33 (.nn (.t 32)),o 34 (.fld 0 (.t 33)),o 35 (.ld none (.t 34)),o 36 (.nn (.t 35)),o 37 (.fld 0 (.t 36)),o 38 (.ld none (.t 37)),o 39 (.nn (.t 38)),o 40 (.fld 0 (.t 39)),o 41 (.ld none (.t 40)),o 42 (.nn (.t 41)),o 43 (.fld 0 (.t 42)),o 44 (.ld none (.t 43)),o 45 (.nn (.t 44)),o 46 (.fld 0 (.t 45)),o 47 (.ld none (.t 46)),o 48 (.nn (.t 47)),o 49 (.fld 0 (.t 48)),o 50 (.ld none (.t 49)),o 51 (.nn (.t 50)),o 52 (.fld 0 (.t 51)),o 53 (.ld none (.t 52)),mv 54 0,mv 55 1,mv 56 9,mv 58 0,mv 59 9,o 60 (.bin .add (.t 59) (i64 1)),mv 61 2,⟨some 57,none, .call 101 [.t 54, .t 55, .t 56],[(some 35,none, .ld none (.t 34)),(some 38,none, .ld none (.t 37)),(some 41,none, .ld none (.t 40)),(some 44,none, .ld none (.t 43)),(some 47,none, .ld none (.t 46)),(some 50,none, .ld none (.t 49)),(some 53,none, .ld none (.t 52))]⟩,⟨some 62,none, .call 101 [.t 58, .t 60, .t 61],[(some 35,none, .ld none (.t 34)),(some 38,none, .ld none (.t 37)),(some 41,none, .ld none (.t 40)),(some 44,none, .ld none (.t 43)),(some 47,none, .ld none (.t 46)),(some 50,none, .ld none (.t 49)),(some 53,none, .ld none (.t 52))]⟩,o 63 (.call 104 [.t 53, .t 57, .t 62]),mv 6 63]) .ret)))
theorem in_power_Engine_run:Ent 101 64 c_power_Engine_run [.t 6]:=ent Tryz.func101 rfl rfl rfl (show compile _ 64 _=_ by kernel_rfl) (show compRes _ 64 _=_ by kernel_rfl)
def c_radix_New:AC:= .seq (.reg [o 1 (.box 23 (.t 0)),o 2 (.mv (.c (.ptr none)))]) (.seq (.reg [o 3 (.ld (some 11) (.t 1)),o 4 (.call 116 [.t 3]),o 5 (.bld [.ptr none] [(0,1, .t 4)]),o 6 (.box 130 (.t 5)),mv 2 6]) .ret)
theorem in_radix_New:Ent 84 7 c_radix_New [.t 2]:=ent Tryz.func84 rfl rfl rfl (show compile _ 7 _=_ by kernel_rfl) (show compRes _ 7 _=_ by kernel_rfl)
def c_root_New:AC:= .seq (.reg [o 1 (.box 23 (.t 0)),o 2 (.mv (.c (.ptr none)))]) (.seq (.reg [o 3 (.ld (some 11) (.t 1)),o 4 (.call 134 [.t 3]),o 5 (.bld [.ptr none] [(0,1, .t 4)]),o 6 (.box 133 (.t 5)),mv 2 6]) .ret)
theorem in_root_New:Ent 116 7 c_root_New [.t 2]:=ent Tryz.func116 rfl rfl rfl (show compile _ 7 _=_ by kernel_rfl) (show compRes _ 7 _=_ by kernel_rfl)
def c_div_New:AC:= .seq (.reg [o 1 (.box 23 (.t 0)),o 2 (.mv (.c (.ptr none)))]) (.seq (.reg [o 3 (.ld (some 11) (.t 1)),o 4 (.call 159 [.t 3]),o 5 (.bld [.ptr none] [(0,1, .t 4)]),o 6 (.box 136 (.t 5)),mv 2 6]) .ret)
theorem in_div_New:Ent 134 7 c_div_New [.t 2]:=ent Tryz.func134 rfl rfl rfl (show compile _ 7 _=_ by kernel_rfl) (show compRes _ 7 _=_ by kernel_rfl)
def c_recip_New:AC:= .seq (.reg [o 1 (.box 23 (.t 0)),o 2 (.mv (.c (.ptr none)))]) (.seq (.reg [o 3 (.ld (some 11) (.t 1)),o 4 (.call 188 [.t 3]),o 5 (.bld [.ptr none] [(0,1, .t 4)]),o 6 (.box 139 (.t 5)),mv 2 6]) .ret)
theorem in_recip_New:Ent 159 7 c_recip_New [.t 2]:=ent Tryz.func159 rfl rfl rfl (show compile _ 7 _=_ by kernel_rfl) (show compRes _ 7 _=_ by kernel_rfl)
end
def H.lee (u:Nat) (h h':H):Prop:=h.next≤h'.next∧∀i r,i≠u→h.rows i=some r→h'.rows i=some r
theorem H.le.lee {u:Nat} {h h':H} (hl:h.le h'):H.lee u h h':=⟨hl.1,fun i r _ hr=>hl.2 i r hr⟩
theorem H.lee.trans {u:Nat} {a b c:H} (h:H.lee u a b) (k:H.lee u b c):H.lee u a c:=⟨Nat.le_trans h.1 k.1,fun i r hi hr=>k.2 i r hi (h.2 i r hi hr)⟩
theorem H.lee_refl (u:Nat) (h:H):H.lee u h h:=(H.le_refl h).lee
theorem H.lee_set {u:Nat} {h:H} (r:Row):H.lee u h (h.set u r):=⟨Nat.le_refl _,fun i q hi hr=>by rw[H.rows_set_ne hi];exact hr⟩
theorem IsW.monoE {u:Nat} {k:IntKind} {h h':H} {v:AV} {xs:List Int} {ru:Row} (hu:h.rows u=some ru) (ho:ru.own≠none) (hz:ru.esz≠1) (hv:IsW k h v xs) (hl:H.lee u h h'):IsW k h' v xs:=by
 obtain⟨id,off,c,rfl,h1⟩:=hv
 refine⟨id,off,c,rfl, ?_⟩
 rcases h1 with h1|⟨i,r,rfl,hr,hor,h3,h4⟩
 ·exact .inl h1
 ·refine .inr ⟨i,r,rfl,hl.2 i r ?_ hr,hor,h3,h4⟩
  rintro rfl
  rw[hu] at hr
  injection hr with hr
  subst hr
  rcases hor with h|h
  ·exact ho h
  ·exact hz h
def wr (m:Nat):Int:=IntKind.i64.wrap (m:Int)
theorem wr_small {m:Nat} (h:m<9223372036854775808):wr m=(m:Int):=wI (by omega) (by omega)
theorem wr_add {m n:Nat}:IntKind.i64.wrap (wr m+(n:Int))=wr (m+n):=by
 unfold wr
 rw[IntKind.wrap_i64,IntKind.wrap_i64,IntKind.wrap_i64]
 omega
def tuneRow (m nw dp:Nat) (t:Tb):Row:=⟨some 180,14,[.int .i64 (wr m), .int .i64 (nw:Int), .int .i64 (dp:Int)]++t.cells⟩
def Tune (h:H) (u m nw dp:Nat) (t:Tb):Prop:=h.rows u=some (tuneRow m nw dp t)
def Eng:Nat→H→Nat→Nat→Prop
 |0,_,e,u=>e=u
 |d+1,h,e,u=>∃r e',h.rows e=some r∧r.cells=[.ptr (some (e',0))]∧Eng d h e' u
theorem Eng.mono {h h':H} {u:Nat}:∀{d e:Nat},Eng d h e u→h.le h'→Eng d h' e u
 |0,_,he,_=>he
 |_+1,_,⟨r,e',h1,h2,h3⟩,hl=>⟨r,e',hl.2 _ _ h1,h2,h3.mono hl⟩
theorem Eng.monoE {h h':H} {u m nw dp:Nat} {t:Tb} (ht:Tune h u m nw dp t) (hl:H.lee u h h'):∀{d e:Nat},Eng d h e u→Eng d h' e u
 |0,_,he=>he
 |_+1,e,⟨r,e',h1,h2,h3⟩=>⟨r,e',hl.2 _ _ (by
   rintro rfl
   rw[ht] at h1
   injection h1 with h1
   rw[←h1] at h2
   have:=congrArg List.length h2
   simp[tuneRow,Tb.cells] at this) h1,h2,Eng.monoE ht hl h3⟩
theorem Tune.mono {h h':H} {u m nw dp:Nat} {t:Tb} (ht:Tune h u m nw dp t) (hl:h.le h'):Tune h' u m nw dp t:=hl.2 _ _ ht
theorem IsN.monoE {h h':H} {u m nw dp:Nat} {t:Tb} {v:AV} {xs:List Nat} (ht:Tune h u m nw dp t) (hv:IsN h v xs) (hl:H.lee u h h'):IsN h' v xs:=IsW.monoE ht (by simp[tuneRow]) (by simp[tuneRow]) hv hl
theorem Nn.monoE {h h':H} {u m nw dp:Nat} {t:Tb} {v:AV} {x:Nat} (ht:Tune h u m nw dp t) (hv:Nn h v x) (hl:H.lee u h h'):Nn h' v x:=by
 obtain⟨xs,h1,h2⟩:=hv
 exact⟨xs,h1.monoE ht hl,h2⟩
theorem IsG.monoE {b:Nat} {h h':H} {u:Nat} {v:AV} {xs:List Nat} (hub:u<b) (hv:IsG b h v xs) (hl:H.lee u h h'):IsG b h' v xs:=by
 obtain⟨id,c,rfl,h1⟩:=hv
 refine⟨id,c,rfl, ?_⟩
 rcases h1 with h1|⟨i,r,rfl,hb,hr,h2⟩
 ·exact .inl h1
 ·exact .inr ⟨i,r,rfl,hb,hl.2 i r (by omega) hr,h2⟩
theorem Nf.monoE {b:Nat} {h h':H} {u:Nat} {v:AV} {x:Nat} (hub:u<b) (hv:Nf b h v x) (hl:H.lee u h h'):Nf b h' v x:=by
 obtain⟨xs,h1,h2⟩:=hv
 exact⟨xs,h1.monoE hub hl,h2⟩
theorem Spend_calls {u m nw dp n:Nat} {t:Tb} {h:H} {K:AV→H→Prop} (ht:Tune h u m nw dp t)
  (hk:∀h',h'.wf→H.lee u h h'→h'.next=h.next→Tune h' u (m+n) nw dp t→K (.int .i64 (wr (m+n))) h'):ACalls Tryz.prog 144 [.ptr (some (u,0)), .int .i64 (n:Int)] h K:=by
 refine in_meter_Meter_Spend (by simp) fun hw=> ?_
 unfold c_meter_Meter_Spend
 have hul:=H.row_lt hw ht
 have hg:h.get u 0=some (.int .i64 (wr m)):=by rw[H.get_of ht];rfl
 rcases Nat.eq_zero_or_pos n with h0|h0
 ·subst h0
  simp only[go_sem,show decide ((0:Int)<((0:Nat):Int))=false from rfl,hg]
  exact fun _=>hk h hw (H.lee_refl u h) rfl ht
 ·have hr:h.rows u=some (tuneRow m nw dp t):=ht
  simp only[go_sem,show decide ((0:Int)<(n:Int))=true from decide_eq_true (by omega),hg,wr_add (m:=m) (n:=n),hr]
  refine⟨by simp[tuneRow],by simp[tuneRow], ?_⟩
  have hp:({tuneRow m nw dp t with cells:=putAt (tuneRow m nw dp t).cells 0 [AV.int .i64 (wr (m+n))]}:Row)=tuneRow (m+n) nw dp t:=by
   simp[tuneRow,putAt]
  rw[hp]
  have hg2:(h.set u (tuneRow (m+n) nw dp t)).get u 0=some (.int .i64 (wr (m+n))):=by rw[H.get_of (H.rows_set _ _ _)];rfl
  simp only[go_sem,hg2]
  exact fun hw'=>hk _ hw' (H.lee_set _) rfl (H.rows_set _ _ _)
theorem tune_zero {t:Tb}:tuneRow 0 0 0 t=⟨some 180,14,tuneCells t⟩:=by
 have e:wr 0=0:=wr_small (by omega)
 simp[tuneRow,tuneCells,e]
theorem tNew_calls {t:Tb} {h:H} {K:AV→H→Prop} (hk:∀id h',h'.wf→h.le h'→h.next≤id→Tune h' id 0 0 0 (clampT t)→K (.ptr (some (id,0))) h'):ACalls Tryz.prog 247 [t.av] h K:=
 New_calls fun id h' hw' hl' hn hr=>hk id h' hw' hl' hn (by unfold Tune;rw[tune_zero];exact hr)
theorem bldp {p:Option (Nat×Nat)}:abuild [AV.ptr none] [(0,1,AV.ptr p)]=some [AV.ptr p]:=by simp[abuild,putAt,AV.held,AV.cells]
theorem sNew_calls {t:Tb} {h:H} {K:AV→H→Prop} (hk:∀e u h',h'.wf→h.le h'→h.next≤u→u<e→Eng 1 h' e u→Tune h' u 0 0 0 (clampT t)→K (.ptr (some (e,0))) h'):ACalls Tryz.prog 243 [t.av] h K:=by
 refine in_school_New (by simp) fun hw=> ?_
 unfold c_school_New
 have hl1:=H.le_new hw (H.le_refl h) ⟨some 23,11,t.cells⟩
 have hn1:h.next<(h.new ⟨some 23,11,t.cells⟩).next:=Nat.lt_succ_self _
 simp only[go_sem,av_held,av_cells,cells_len,true_and,gsT (H.rows_new h _)]
 refine tNew_calls fun u h1 hw1 hl2 hn2 ht=> ?_
 simp only[go_sem,bldp]
 simp only[AV.held,AV.cells,true_and,go_sem]
 have hl3:=H.le_new hw1 (H.le_refl h1) ⟨some 176,1,[AV.ptr (some (u,0))]⟩
 exact fun hw'=>hk _ u _ hw' (H.le_trans hl1 (H.le_trans hl2 hl3)) (by omega) (H.row_lt hw1 ht) ⟨_,u,H.rows_new _ _,rfl,rfl⟩ (ht.mono hl3)
theorem kNew_calls {t:Tb} {h:H} {K:AV→H→Prop} (hk:∀e u h',h'.wf→h.le h'→h.next≤u→u<e→Eng 2 h' e u→Tune h' u 0 0 0 (clampT t)→K (.ptr (some (e,0))) h'):ACalls Tryz.prog 235 [t.av] h K:=by
 refine in_kara_New (by simp) fun hw=> ?_
 unfold c_kara_New
 have hl1:=H.le_new hw (H.le_refl h) ⟨some 23,11,t.cells⟩
 have hn1:h.next<(h.new ⟨some 23,11,t.cells⟩).next:=Nat.lt_succ_self _
 simp only[go_sem,av_held,av_cells,cells_len,true_and,gsT (H.rows_new h _)]
 refine sNew_calls fun e u h1 hw1 hl2 hn2 _ he ht=> ?_
 simp only[go_sem,bldp]
 simp only[AV.held,AV.cells,true_and,go_sem]
 have hl3:=H.le_new hw1 (H.le_refl h1) ⟨some 173,1,[AV.ptr (some (e,0))]⟩
 exact fun hw'=>hk _ u _ hw' (H.le_trans hl1 (H.le_trans hl2 hl3)) (by omega) (H.row_lt hw1 ht) ⟨_,e,H.rows_new _ _,rfl,he.mono hl3⟩ (ht.mono hl3)
theorem toNew_calls {t:Tb} {h:H} {K:AV→H→Prop} (hk:∀e u h',h'.wf→h.le h'→h.next≤u→u<e→Eng 3 h' e u→Tune h' u 0 0 0 (clampT t)→K (.ptr (some (e,0))) h'):ACalls Tryz.prog 226 [t.av] h K:=by
 refine in_toom_New (by simp) fun hw=> ?_
 unfold c_toom_New
 have hl1:=H.le_new hw (H.le_refl h) ⟨some 23,11,t.cells⟩
 have hn1:h.next<(h.new ⟨some 23,11,t.cells⟩).next:=Nat.lt_succ_self _
 simp only[go_sem,av_held,av_cells,cells_len,true_and,gsT (H.rows_new h _)]
 refine kNew_calls fun e u h1 hw1 hl2 hn2 _ he ht=> ?_
 simp only[go_sem,bldp]
 simp only[AV.held,AV.cells,true_and,go_sem]
 have hl3:=H.le_new hw1 (H.le_refl h1) ⟨some 170,1,[AV.ptr (some (e,0))]⟩
 exact fun hw'=>hk _ u _ hw' (H.le_trans hl1 (H.le_trans hl2 hl3)) (by omega) (H.row_lt hw1 ht) ⟨_,e,H.rows_new _ _,rfl,he.mono hl3⟩ (ht.mono hl3)
theorem mNew_calls {t:Tb} {h:H} {K:AV→H→Prop} (hk:∀e u h',h'.wf→h.le h'→h.next≤u→u<e→Eng 4 h' e u→Tune h' u 0 0 0 (clampT t)→K (.ptr (some (e,0))) h'):ACalls Tryz.prog 212 [t.av] h K:=by
 refine in_mul_New (by simp) fun hw=> ?_
 unfold c_mul_New
 have hl1:=H.le_new hw (H.le_refl h) ⟨some 23,11,t.cells⟩
 have hn1:h.next<(h.new ⟨some 23,11,t.cells⟩).next:=Nat.lt_succ_self _
 simp only[go_sem,av_held,av_cells,cells_len,true_and,gsT (H.rows_new h _)]
 refine toNew_calls fun e u h1 hw1 hl2 hn2 _ he ht=> ?_
 simp only[go_sem,bldp]
 simp only[AV.held,AV.cells,true_and,go_sem]
 have hl3:=H.le_new hw1 (H.le_refl h1) ⟨some 167,1,[AV.ptr (some (e,0))]⟩
 exact fun hw'=>hk _ u _ hw' (H.le_trans hl1 (H.le_trans hl2 hl3)) (by omega) (H.row_lt hw1 ht) ⟨_,e,H.rows_new _ _,rfl,he.mono hl3⟩ (ht.mono hl3)
theorem dNew_calls {t:Tb} {h:H} {K:AV→H→Prop} (hk:∀e u h',h'.wf→h.le h'→h.next≤u→u<e→Eng 5 h' e u→Tune h' u 0 0 0 (clampT t)→K (.ptr (some (e,0))) h'):ACalls Tryz.prog 188 [t.av] h K:=by
 refine in_divs_New (by simp) fun hw=> ?_
 unfold c_divs_New
 have hl1:=H.le_new hw (H.le_refl h) ⟨some 23,11,t.cells⟩
 have hn1:h.next<(h.new ⟨some 23,11,t.cells⟩).next:=Nat.lt_succ_self _
 simp only[go_sem,av_held,av_cells,cells_len,true_and,gsT (H.rows_new h _)]
 refine mNew_calls fun e u h1 hw1 hl2 hn2 _ he ht=> ?_
 simp only[go_sem,bldp]
 simp only[AV.held,AV.cells,true_and,go_sem]
 have hl3:=H.le_new hw1 (H.le_refl h1) ⟨some 142,1,[AV.ptr (some (e,0))]⟩
 exact fun hw'=>hk _ u _ hw' (H.le_trans hl1 (H.le_trans hl2 hl3)) (by omega) (H.row_lt hw1 ht) ⟨_,e,H.rows_new _ _,rfl,he.mono hl3⟩ (ht.mono hl3)
theorem Big.w1 {x:Nat} (h:x<18446744073709551616):Big x:=lt_big64 (k:=1) (by omega) (by omega)
theorem IsG.other {b:Nat} {h:H} {iu k n:Nat} {ck:Option Nat} {us:List Nat} {r:Row} (hs:IsG b h (.sl (some iu) 0 n ck) us) (hne:iu≠k):IsG b (h.set k r) (.sl (some iu) 0 n ck) us:=by
 obtain⟨id,c,e,h1⟩:=hs
 refine⟨id,c,e, ?_⟩
 injection e with e1
 subst e1
 rcases h1 with⟨e2,_⟩|⟨i,q,e2,hb,hq,h2⟩
 ·cases e2
 ·injection e2 with e2
  subst e2
  exact .inr ⟨iu,q,rfl,hb,by rw[H.rows_set_ne hne];exact hq,h2⟩
theorem IsG.cut {b:Nat} {h:H} {id:Option Nat} {n:Nat} {c c':Option Nat} {xs:List Nat} (hv:IsG b h (.sl id 0 n c) xs) {m:Nat} (hm:m≤xs.length):IsG b h (.sl id 0 m c') (xs.take m):=by
 have:=IsF.cut (c':=c') hv (m:=m) (by simpa using hm)
 unfold IsG
 rw[List.map_take]
 exact this
theorem To_calls {v:AV} {x:Nat} {h:H} {K:AV→H→Prop} (nv:Num 4294967296 h v x) (hx:Big x)
  (hk:∀r h',h'.wf→h.le h'→Nf h.next h' r x→K r h'):ACalls Tryz.prog 80 [v] h K:=by
 obtain⟨xs,hv,hxd,hxt,rfl,hxl⟩:=nv.open hx
 obtain⟨id,off,c,rfl⟩:=hv.form
 refine in_ref02_To (by simp) fun hw=> ?_
 unfold c_ref02_To
 simp only[go_sem]
 refine for_rule (fun p ρ h'=>2*p≤xs.length+1∧h'.wf∧h.le h'∧ρ 0= .sl id off xs.length c∧ρ 4= .int .i64 ((2*p:Nat):Int)∧∃out,IsG h.next h' (ρ 3) out∧Dig out∧out.length=p∧val 18446744073709551616 out=val 4294967296 (xs.take (2*p))) (xs.length+1) ⟨by omega,hw,H.le_refl h,rfl,rfl,[],IsF.nil _ _ _ _ _,Dig.nil,rfl,by simp[val]⟩ (fun i ρ h hI=>by omega) ?_
 rintro p ρ h' ⟨hp,hw',hle,h0,h4,out,hs,hod,hol,hov⟩
 have e2:IntKind.i64.wrap (((2*p:Nat):Int)+2)=((2*(p+1):Nat):Int):=by rw[wI]<;>omega
 have e1:=incI (i:=2*p) (by omega)
 rcases Nat.lt_or_ge (2*p) xs.length with hlt|hge
 ·have hxb:=hxd _ (List.getElem_mem hlt)
  have hyb:=getD_lt (B:=4294967296) (by omega) hxd (2*p+1)
  have hv1:=val_take_succ 4294967296 xs (2*p) hlt
  have hv2:=val_take_get 4294967296 xs (2*p+1)
  obtain⟨j,rfl,_,hg⟩:=(hv.mono hle).at hlt
  simp only[go_sem,h0,h4,ltT hlt]
  refine⟨by omega,by omega, ?_⟩
  simp only[go_sem,h0,h4,hg,e1]
  refine cond_cut (fun ρ' h2=>h2=h'∧ρ' 0= .sl (some j) off xs.length c∧ρ' 4= .int .i64 ((2*p:Nat):Int)∧ρ' 3=ρ 3∧ρ' 5= .int .u64 ((xs[2*p]+xs.getD (2*p+1) 0*4294967296:Nat):Int)) ?_ ?_
  ·rcases Nat.lt_or_ge (2*p+1) xs.length with hy|hy
   ·obtain⟨j',ee,_,hg'⟩:=(hv.mono hle).at hy
    injection ee with ee
    subst ee
    rw[getD_at hy] at hyb⊢
    have m1:IntKind.u64.wrap ((xs[2*p+1]:Int)*4294967296)=((xs[2*p+1]*4294967296:Nat):Int):=by rw[wU]<;>omega
    simp only[go_sem,h0,h4,ltT hy,e1]
    refine⟨by omega,by omega, ?_⟩
    simp only[go_sem,hg',m1,addU (a:=xs[2*p]) (b:=xs[2*p+1]*4294967296) (by omega),h0,h4]
    exact⟨trivial,trivial,trivial,trivial,trivial⟩
   ·rw[getD_ge hy]
    simp only[go_sem,h0,h4,ltF hy]
    exact⟨trivial,trivial,trivial,trivial,by simp⟩
  rintro ρ' h2 ⟨rfl,h0,h4,h3,h5⟩
  rw[←h3] at hs
  have hwb:xs[2*p]+xs.getD (2*p+1) 0*4294967296<18446744073709551616:=by omega
  simp only[go_sem,h0,h4,h5]
  refine app_lit [xs[2*p]+xs.getD (2*p+1) 0*4294967296] hw hw' hle hs rfl rfl (by simp;omega) fun v' h3' hw3 hle3 hv3=> ?_
  simp only[go_sem,h0,h4,e2]
  refine⟨by omega,hw3,hle3,by first|rfl|trivial|assumption,by first|rfl|trivial|assumption,_,hv3,hod.append (Dig.one hwb),by simp;omega, ?_⟩
  rw[val_snoc,hol,hov,show 2*(p+1)=2*p+1+1 by omega,hv2,hv1,show 18446744073709551616^p=4294967296^(2*p) by rw[Nat.pow_mul],Nat.pow_succ,Nat.mul_add]
  rw[Nat.mul_assoc,Nat.mul_comm 4294967296,←Nat.add_assoc]
 ·simp only[go_sem,h0,h4,ltF hge]
  rw[List.take_of_length_le hge] at hov
  obtain⟨k0,ck,h3⟩:=hs.form
  rw[h3] at hs
  refine⟨fun k ρ h2=>h2=h'∧k≤out.length∧ρ 3= .sl k0 0 k ck∧(∀x∈out.drop k,x=0),out.length,⟨rfl,Nat.le_refl _,h3,by simp⟩, ?_⟩
  clear h3
  rintro k ρ h2 ⟨rfl,hk1,h3,hz⟩
  have hG:=hs.cut (c':=ck) hk1
  have fin:Top (out.take k)→K (.sl k0 0 k ck) h2:=fun ht=>hk _ h2 hw' hle ⟨out.take k,hG,hod.take k,ht,by rw[val_take 18446744073709551616 out k hz,hov]⟩
  rcases Nat.eq_zero_or_pos k with hz0|hpos
  ·subst hz0
   simp only[go_sem,h3,show decide ((0:Int)<((0:Nat):Int))=false from rfl]
   exact fun _=>fin (by simp[Top])
  ·have e3:IntKind.i64.wrap ((k:Int)-1)=((k-1:Nat):Int):=decI hpos (by omega)
   obtain⟨i,rfl,_,hg⟩:=hs.isN.at (j:=k-1) (by omega)
   rw[Nat.zero_add] at hg
   simp only[go_sem,h3,show decide ((0:Int)<(k:Int))=true from decide_eq_true (by omega),e3]
   refine⟨by omega,by omega, ?_⟩
   simp only[go_sem,hg,h3]
   by_cases hx0:out[k-1]=0
   ·simp only[go_sem,eqT (show((out[k-1]:Nat):Int)=0 by omega),h3,e3]
    refine⟨by omega,by omega,hG.isN.row, ?_⟩
    refine⟨k-1,by omega,by first|rfl|trivial|assumption,by omega,by first|rfl|trivial|assumption,fun x hm=> ?_⟩
    rw[List.drop_eq_getElem_cons (by omega)] at hm
    rcases List.mem_cons.1 hm with rfl|hm
    ·exact hx0
    ·exact hz x (by rwa[show k-1+1=k from by omega] at hm)
   ·simp only[go_sem,eqF (show((out[k-1]:Nat):Int)≠0 by omega),h3]
    refine fun _=>fin fun x hl=> ?_
    rw[List.getLast?_eq_getElem?,List.length_take,Nat.min_eq_left hk1,List.getElem?_take,if_pos (by omega),List.getElem?_eq_getElem (by omega)] at hl
    injection hl with hl
    omega
theorem rSame_calls {v u:AV} {x:Nat} {h:H} {K:AV→H→Prop} (nv:Num 4294967296 h v x) (hx:Big x) (nu:Nt h u x)
  (hk:∀h',h'.wf→h.le h'→K (.bool true) h'):ACalls Tryz.prog 38 [v,u] h K:=by
 refine in_ref02_Same (by simp) fun hw=> ?_
 unfold c_ref02_Same
 simp only[go_sem]
 refine To_calls nv hx fun r h1 hw1 hl1 hr=> ?_
 obtain⟨xs,hr1,hr2,hr3,hr4⟩:=hr
 obtain⟨ys,hu,hyd,hyt,hyv⟩:=nu
 have e:ys=xs:=top_inj hyd hr2 hyt hr3 (by rw[hyv,hr4])
 subst e
 have hyl:ys.length≤wordL:=by rw[top_len hyd hyt,hyv];exact wlen_big hx
 rw[wordL_eq] at hyl
 obtain⟨id,off,c,rfl⟩:=hu.form
 have hrn:=hr1.isN
 obtain⟨id',off',c',rfl⟩:=hrn.form
 have hu1:=hu.mono hl1
 simp only[go_sem,neF (show(ys.length:Int)=ys.length from rfl)]
 refine for_rule (fun i ρ h'=>i≤ys.length∧h'=h1∧ρ 1= .sl id off ys.length c∧ρ 5= .sl id' off' ys.length c'∧ρ 6= .int .i64 (i:Int)) ys.length ⟨by omega,rfl,rfl,rfl,rfl⟩ (fun i ρ h hI=>hI.1) ?_
 rintro i ρ h' ⟨hi,rfl,q1,q5,q6⟩
 rcases Nat.lt_or_ge i ys.length with hlt|hge
 ·obtain⟨j,rfl,_,hg⟩:=hrn.at hlt
  obtain⟨j2,rfl,_,hg2⟩:=hu1.at hlt
  simp only[go_sem,q1,q5,q6,ltT hlt]
  refine⟨by omega,by omega, ?_⟩
  simp only[go_sem,hg,q1,q6]
  refine⟨by omega,by omega, ?_⟩
  simp only[go_sem,hg2,neF (show((ys[i]:Nat):Int)=(ys[i]:Nat) from rfl),q6,incI (i:=i) (by omega)]
  exact⟨by omega,by first|rfl|trivial|assumption,by first|rfl|trivial|assumption,by first|rfl|trivial|assumption,by first|rfl|trivial|assumption⟩
 ·have:i=ys.length:=by omega
  subst this
  simp only[go_sem,q1,q5,q6,ltF (Nat.le_refl ys.length)]
  exact fun hw'=>hk h' hw' hl1
theorem kSame_calls {v u:AV} {xs:List Nat} {h:H} {K:AV→H→Prop} (hv:IsN h v xs) (hu:IsN h u xs) (hl:xs.length<4611686018427387904) (hk:K (.bool true) h):ACalls Tryz.prog 83 [v,u] h K:=by
 obtain⟨id,off,c,rfl⟩:=hv.form
 obtain⟨id',off',c',rfl⟩:=hu.form
 refine in_keep_Same (by simp) fun hw=> ?_
 unfold c_keep_Same
 simp only[go_sem,neF (show(xs.length:Int)=xs.length from rfl)]
 refine for_rule (fun i ρ h'=>i≤xs.length∧h'=h∧ρ 0= .sl id off xs.length c∧ρ 1= .sl id' off' xs.length c'∧ρ 5= .int .i64 (i:Int)) xs.length ⟨by omega,rfl,rfl,rfl,rfl⟩ (fun i ρ h hI=>hI.1) ?_
 rintro i ρ h' ⟨hi,rfl,q0,q1,q5⟩
 rcases Nat.lt_or_ge i xs.length with hlt|hge
 ·obtain⟨j,rfl,_,hg⟩:=hv.at hlt
  obtain⟨j2,rfl,_,hg2⟩:=hu.at hlt
  simp only[go_sem,q0,q1,q5,ltT hlt]
  refine⟨by omega,by omega, ?_⟩
  simp only[go_sem,hg,q1,q5]
  refine⟨by omega,by omega, ?_⟩
  simp only[go_sem,hg2,neF (show((xs[i]:Nat):Int)=(xs[i]:Nat) from rfl),q5,incI (i:=i) (by omega)]
  exact⟨by omega,by first|rfl|trivial|assumption,by first|rfl|trivial|assumption,by first|rfl|trivial|assumption,by first|rfl|trivial|assumption⟩
 ·simp only[go_sem,q0,q1,q5,ltF hge]
  exact fun _=>hk
structure Sp (m dp m' dp' nw B D:Nat):Prop where
 m1:m≤m'
 m2:m'≤m+B
 d1:dp≤dp'
 d2:dp'≤max dp (nw+D)
theorem Sp.refl (m dp nw B D:Nat):Sp m dp m dp nw B D:=⟨by omega,by omega,by omega,by omega⟩
theorem Sp.trans {m dp m1 d1 m2 d2 nw B1 D1 B2 D2:Nat} (h:Sp m dp m1 d1 nw B1 D1) (k:Sp m1 d1 m2 d2 nw B2 D2):Sp m dp m2 d2 nw (B1+B2) (max D1 D2):=by
 have:=h.1;have:=h.2;have:=h.3;have:=h.4;have:=k.1;have:=k.2;have:=k.3;have:=k.4
 exact⟨by omega,by omega,by omega,by omega⟩
theorem Sp.le {m dp m' dp' nw B D B' D':Nat} (h:Sp m dp m' dp' nw B D) (hB:B≤B') (hD:D≤D'):Sp m dp m' dp' nw B' D':=by
 have:=h.1;have:=h.2;have:=h.3;have:=h.4
 exact⟨by omega,by omega,by omega,by omega⟩
theorem Sp.deep {m dp m' dp' nw B D:Nat} (h:Sp m (max dp (nw+1)) m' dp' (nw+1) B D):Sp m dp m' dp' nw B (D+1):=by
 have:=h.1;have:=h.2;have:=h.3;have:=h.4
 exact⟨by omega,by omega,by omega,by omega⟩
theorem tune_row {m nw dp:Nat} {t:Tb} {h:H} {u:Nat} (ht:Tune h u m nw dp t):h.get u 1=some (.int .i64 (nw:Int))∧h.get u 2=some (.int .i64 (dp:Int)):=by
 rw[H.get_of ht,H.get_of ht]
 exact⟨rfl,rfl⟩
theorem Enter_calls {u m nw dp:Nat} {t:Tb} {h:H} {K:AV→H→Prop} (ht:Tune h u m nw dp t) (hn:nw≤4611686018427387904)
  (hk:∀v h',h'.wf→H.lee u h h'→h'.next=h.next→Tune h' u m (nw+1) (max dp (nw+1)) t→K v h'):ACalls Tryz.prog 161 [.ptr (some (u,0))] h K:=by
 refine in_meter_Meter_Enter (by simp) fun hw=> ?_
 unfold c_meter_Meter_Enter
 have hul:=H.row_lt hw ht
 have hr:h.rows u=some (tuneRow m nw dp t):=ht
 have e1:=incI (i:=nw) (by omega)
 have p1:({tuneRow m nw dp t with cells:=putAt (tuneRow m nw dp t).cells 1 [AV.int .i64 ((nw+1:Nat):Int)]}:Row)=tuneRow m (nw+1) dp t:=by
  simp[tuneRow,putAt]
 have p2:({tuneRow m (nw+1) dp t with cells:=putAt (tuneRow m (nw+1) dp t).cells 2 [AV.int .i64 ((max dp (nw+1):Nat):Int)]}:Row)=tuneRow m (nw+1) (max dp (nw+1)) t:=by
  simp[tuneRow,putAt]
 simp only[go_sem,(tune_row ht).1,e1,hr]
 refine⟨by simp[tuneRow],by simp[tuneRow], ?_⟩
 rw[p1]
 have ht2:Tune (h.set u (tuneRow m (nw+1) dp t)) u m (nw+1) dp t:=H.rows_set _ _ _
 have hr2:(h.set u (tuneRow m (nw+1) dp t)).rows u=some (tuneRow m (nw+1) dp t):=ht2
 simp only[go_sem,(tune_row ht2).1,(tune_row ht2).2,maxN (a:=dp) (b:=nw+1),hr2]
 refine⟨by simp[tuneRow],by simp[tuneRow], ?_⟩
 rw[p2]
 have ht3:Tune ((h.set u (tuneRow m (nw+1) dp t)).set u (tuneRow m (nw+1) (max dp (nw+1)) t)) u m (nw+1) (max dp (nw+1)) t:=H.rows_set _ _ _
 simp only[go_sem,(tune_row ht3).1]
 exact fun hw'=>hk _ _ hw' ((H.lee_set _).trans (H.lee_set _)) rfl ht3
theorem Leave_calls {u m nw dp:Nat} {t:Tb} {h:H} {K:AV→H→Prop} (ht:Tune h u m (nw+1) dp t) (hn:nw≤4611686018427387904)
  (hk:∀v h',h'.wf→H.lee u h h'→h'.next=h.next→Tune h' u m nw dp t→K v h'):ACalls Tryz.prog 162 [.ptr (some (u,0))] h K:=by
 refine in_meter_Meter_Leave (by simp) fun hw=> ?_
 unfold c_meter_Meter_Leave
 have hr:h.rows u=some (tuneRow m (nw+1) dp t):=ht
 have e1:IntKind.i64.wrap (((nw+1:Nat):Int)-1)=(nw:Int):=(wI (by omega) (by omega)).trans (by omega)
 have d1:decide ((0:Int)<((nw+1:Nat):Int))=true:=decide_eq_true (by omega)
 have p1:({tuneRow m (nw+1) dp t with cells:=putAt (tuneRow m (nw+1) dp t).cells 1 [AV.int .i64 (nw:Int)]}:Row)=tuneRow m nw dp t:=by
  simp[tuneRow,putAt]
 simp only[go_sem,(tune_row ht).1,e1,d1,hr]
 refine⟨by simp[tuneRow],by simp[tuneRow], ?_⟩
 rw[p1]
 have ht2:Tune (h.set u (tuneRow m nw dp t)) u m nw dp t:=H.rows_set _ _ _
 simp only[go_sem,(tune_row ht2).1]
 exact fun hw'=>hk _ _ hw' (H.lee_set _) rfl ht2
theorem adU {a b:Nat} (h:a+b<18446744073709551616):IntKind.u64.wrap ((a:Int)+(b:Int))=((a+b:Nat):Int):=by rw[wU]<;>omega
theorem valset {B:Nat} {d:Nat}:∀{xs:List Nat} {k:Nat} (hk:k<xs.length),val B (xs.set k d)+B^k*xs[k]=val B xs+B^k*d
 |x::xs,0,_=>by simp[val];omega
 |x::xs,k+1,hk=>by
  have ih:=valset (B:=B) (d:=d) (xs:=xs) (k:=k) (by simpa using hk)
  simp only[List.set_cons_succ,val,List.getElem_cons_succ,Nat.pow_succ]
  have e:∀z,B^k*B*z=B*(B^k*z):=fun z=>by ac_rfl
  rw[e,e,Nat.add_assoc,←Nat.mul_add,ih,Nat.mul_add,←Nat.add_assoc]
theorem schoolstep {V w vt o v c d c2 B k i j os os2:Nat} (h1:os+B^k*c=V+B^i*(w*vt)) (h2:os2+B^k*o=os+B^k*d) (h3:d+B*c2=o+v*w+c) (hk:k=i+j):os2+B^(k+1)*c2=V+B^i*(w*(vt+B^j*v)):=by
 subst hk
 have e:=congrArg (fun z=>B^(i+j)*z) h3
 simp only[Nat.mul_add] at e
 have e1:B^(i+j)*(B*c2)=B^(i+j+1)*c2:=by rw[Nat.pow_succ];ac_rfl
 have e2:B^i*(w*(B^j*v))=B^(i+j)*(v*w):=by rw[Nat.pow_add];ac_rfl
 rw[Nat.mul_add,Nat.mul_add,e2]
 omega
theorem dropset {α:Type} {l:List α} {i k:Nat} {x:α} (h:i<k):(l.set i x).drop k=l.drop k:=by
 apply List.ext_getElem?
 intro j
 rw[List.getElem?_drop,List.getElem?_drop,List.getElem?_set,if_neg (by omega)]
theorem sMul_calls {e u m0 nw dp:Nat} {t:Tb} {va vb:AV} {xs ys:List Nat} {h:H} {K:AV→H→Prop} (he:Eng 1 h e u) (ht:Tune h u m0 nw dp t) (hv:IsN h va xs) (hxd:Dig xs) (hxl:xs.length≤1073741824) (hu:IsN h vb ys) (hyd:Dig ys) (hyl:ys.length≤1073741824)
  (hk:∀r h',h'.wf→H.lee u h h'→Tune h' u (m0+xs.length*ys.length) nw dp t→Nf h.next h' r (val 18446744073709551616 xs*val 18446744073709551616 ys)→K r h'):
  ACalls Tryz.prog 143 [.ptr (some (e,0)),va,vb] h K:=by
 obtain⟨id,off,c,rfl⟩:=hv.form
 obtain⟨id',off',c',rfl⟩:=hu.form
 refine in_school_Engine_Mul (by simp) fun hw=> ?_
 unfold c_school_Engine_Mul
 simp only[Eng] at he
 obtain⟨r1,e1,hr1,hc1,rfl⟩:=he
 have g1:h.get e 0=some (.ptr (some (e1,0))):=by rw[H.get_of hr1,hc1];rfl
 have hmul:xs.length*ys.length≤1073741824*1073741824:=Nat.mul_le_mul hxl hyl
 have a1:=mulI (a:=xs.length) (b:=ys.length) (by omega)
 have a2:=addI (a:=xs.length) (b:=ys.length) (by omega)
 simp only[go_sem,g1,a1]
 refine Spend_calls ht fun h1 hw1 hl1 hn1 ht1=> ?_
 have hv1:=hv.monoE ht hl1
 have hu1:=hu.monoE ht hl1
 simp only[go_sem,a2]
 refine⟨by omega,by omega,by omega, ?_⟩
 obtain⟨N,hN⟩:∃N,N=xs.length+ys.length:=⟨_,rfl⟩
 rw[←hN]
 have hl2:=H.le_new hw1 (H.le_refl h1) ⟨some 54,1,zs [AV.int .u64 0] N⟩
 refine loop_cut (fun ρ h'=>h'.wf∧h1.le h'∧ρ 7= .sl (some h1.next) 0 N (some N)∧∃os,IsG h1.next h' (.sl (some h1.next) 0 N (some N)) os∧Dig os∧os.length=N∧val 18446744073709551616 os=val 18446744073709551616 xs*val 18446744073709551616 ys) ?_ ?_
 ·refine for_rule (fun i ρ h'=>i≤xs.length∧h'.wf∧h1.le h'∧ρ 2= .sl id' off' ys.length c'∧ρ 7= .sl (some h1.next) 0 N (some N)∧ρ 35= .sl id off xs.length c∧ρ 36= .int .i64 (xs.length:Int)∧ρ 37= .int .i64 (i:Int)∧∃os,IsG h1.next h' (.sl (some h1.next) 0 N (some N)) os∧Dig os∧os.length=N∧(∀x∈os.drop (i+ys.length),x=0)∧val 18446744073709551616 os=val 18446744073709551616 (xs.take i)*val 18446744073709551616 ys) xs.length
   ⟨by omega,H.wf_new hw1 _,hl2,by first|rfl|trivial|assumption,by first|rfl|trivial|assumption,by first|rfl|trivial|assumption,by first|rfl|trivial|assumption,by first|rfl|trivial|assumption,_,IsG.made (Nat.le_refl _) _,Dig.zeros _,by simp,fun x hx=>by rw[List.drop_replicate] at hx;exact List.eq_of_mem_replicate hx,by rw[val_zero _ _ (fun x hx=>List.eq_of_mem_replicate hx)];simp[val]⟩ (fun i ρ h hI=>hI.1) ?_
  rintro i ρ h' ⟨hi,hw',hle,q2,q7,q35,q36,q37,os,hs,hod,hol,hz,hov⟩
  rcases Nat.lt_or_ge i xs.length with hxi|hxi
  ·obtain⟨ja,rfl,_,hga⟩:=(hv1.mono hle).at hxi
   have hxb:=hxd _ (List.getElem_mem hxi)
   have hvx:=val_take_succ 18446744073709551616 xs i hxi
   simp only[go_sem,q2,q7,q35,q36,q37,ltT hxi]
   refine⟨by omega,by omega, ?_⟩
   simp only[go_sem,hga,q2,q7,q35,q36,q37]
   generalize xs[i]=w at*
   refine loop_cut (fun ρ h'=>h'.wf∧h1.le h'∧ρ 2= .sl id' off' ys.length c'∧ρ 7= .sl (some h1.next) 0 N (some N)∧ρ 35= .sl (some ja) off xs.length c∧ρ 36= .int .i64 (xs.length:Int)∧ρ 37= .int .i64 (i:Int)∧ρ 8= .int .i64 (i:Int)∧∃os cc,ρ 10= .int .u64 (cc:Nat)∧cc<18446744073709551616∧IsG h1.next h' (.sl (some h1.next) 0 N (some N)) os∧Dig os∧os.length=N∧(∀x∈os.drop (i+ys.length),x=0)∧val 18446744073709551616 os+18446744073709551616^(i+ys.length)*cc=val 18446744073709551616 (xs.take i)*val 18446744073709551616 ys+18446744073709551616^i*(w*val 18446744073709551616 ys)) ?_ ?_
   ·refine for_rule (fun j ρ h'=>j≤ys.length∧h'.wf∧h1.le h'∧ρ 2= .sl id' off' ys.length c'∧ρ 7= .sl (some h1.next) 0 N (some N)∧ρ 35= .sl (some ja) off xs.length c∧ρ 36= .int .i64 (xs.length:Int)∧ρ 37= .int .i64 (i:Int)∧ρ 8= .int .i64 (i:Int)∧ρ 9= .int .u64 (w:Int)∧ρ 42= .sl id' off' ys.length c'∧ρ 43= .int .i64 (ys.length:Int)∧ρ 44= .int .i64 (j:Int)∧∃os cc,ρ 10= .int .u64 (cc:Nat)∧cc<18446744073709551616∧IsG h1.next h' (.sl (some h1.next) 0 N (some N)) os∧Dig os∧os.length=N∧(∀x∈os.drop (i+ys.length),x=0)∧val 18446744073709551616 os+18446744073709551616^(i+j)*cc=val 18446744073709551616 (xs.take i)*val 18446744073709551616 ys+18446744073709551616^i*(w*val 18446744073709551616 (ys.take j))) ys.length
     ⟨by omega,hw',hle,q2,q7,by first|rfl|trivial|assumption,q36,q37,by first|rfl|trivial|assumption,by first|rfl|trivial|assumption,by first|rfl|trivial|assumption,by first|rfl|trivial|assumption,by first|rfl|trivial|assumption,os,0,rfl,by omega,hs,hod,hol,hz,by simp[val,hov]⟩ (fun i ρ h hI=>hI.1) ?_
    rintro j ρ h2 ⟨hj,hw2,hle2,q2,q7,q35,q36,q37,q8,q9,q42,q43,q44,os,cc,q10,hcc,hs,hod,hol,hz,hov⟩
    rcases Nat.lt_or_ge j ys.length with hyj|hyj
    ·obtain⟨jb,rfl,_,hgb⟩:=(hu1.mono hle2).at hyj
     have hyb:=hyd _ (List.getElem_mem hyj)
     have hvy:=val_take_succ 18446744073709551616 ys j hyj
     generalize ys[j]=v at*
     have hkN:i+j<os.length:=by omega
     have hob:=hod _ (List.getElem_mem hkN)
     have hset:=fun d=>valset (B:=18446744073709551616) (d:=d) hkN
     obtain⟨jo,eo,_,hgo⟩:=hs.isN.at hkN
     injection eo with eo
     subst eo
     obtain⟨i2,r2,e2,hb2,hlt2,hr2,ho2,hf2,hp2⟩:=hs.put hw2 hkN
     injection e2 with e2
     subst e2
     have ast:=addmul_step (b:=w) (w:=v) (c:=cc) (a:=os[i+j]) hxb hyb hcc hob
     generalize os[i+j]=o at*
     rw[Nat.zero_add] at hgo
     simp only[go_sem,q2,q7,q35,q36,q37,q8,q9,q42,q43,q44,q10,ltT hyj]
     refine⟨by omega,by omega, ?_⟩
     simp only[go_sem,hgb,q9]
     refine Mul64_calls hxb hyb ?_
     simp only[go_sem,q10]
     have b1:w*v/18446744073709551616<18446744073709551616:=by
      rw[Nat.div_lt_iff_lt_mul (by omega)]
      exact Nat.mul_lt_mul_of_lt_of_le hxb (Nat.le_of_lt hyb) (by omega)
     refine Add64_calls (c:=0) (Nat.mod_lt _ (by omega)) hcc (by omega) ?_
     have b3:w*v/18446744073709551616+(w*v%18446744073709551616+cc)/18446744073709551616<18446744073709551616:=Nat.lt_of_le_of_lt (Nat.le_add_right _ _) ast.2
     have a3:IntKind.u64.wrap (((w*v/18446744073709551616:Nat):Int)+(((w*v%18446744073709551616+cc+0)/18446744073709551616:Nat):Int))=((w*v/18446744073709551616+(w*v%18446744073709551616+cc)/18446744073709551616:Nat):Int):=by rw[Nat.add_zero];exact adU b3
     have a4:=addI (a:=i) (b:=j) (by omega)
     simp only[go_sem,a3,a4,q7,q8]
     refine⟨by omega,by omega, ?_⟩
     simp only[go_sem,hgo,Nat.add_zero]
     refine Add64_calls (c:=0) hob (Nat.mod_lt _ (by omega)) (by omega) ?_
     have a5:IntKind.u64.wrap (((w*v/18446744073709551616+(w*v%18446744073709551616+cc)/18446744073709551616:Nat):Int)+(((o+(w*v%18446744073709551616+cc)%18446744073709551616+0)/18446744073709551616:Nat):Int))=((w*v/18446744073709551616+(w*v%18446744073709551616+cc)/18446744073709551616+(o+(w*v%18446744073709551616+cc)%18446744073709551616)/18446744073709551616:Nat):Int):=by rw[Nat.add_zero];exact adU ast.2
     simp only[go_sem,a4,q7]
     refine⟨by omega,by omega, ?_⟩
     simp only[go_sem,hr2]
     refine⟨ho2,by omega, ?_⟩
     simp only[go_sem,a5,q2,q7,q35,q36,q37,q8,q9,q42,q43,q44,incI (i:=j) (by omega)]
     refine⟨by omega,H.wf_set hw2 hlt2 _,H.le_set hw1 hle2 hb2 _,by first|rfl|trivial|assumption,by first|rfl|trivial|assumption,by first|rfl|trivial|assumption,by first|rfl|trivial|assumption,by first|rfl|trivial|assumption,by first|rfl|trivial|assumption,by first|rfl|trivial|assumption,by first|rfl|trivial|assumption,by first|rfl|trivial|assumption,by first|rfl|trivial|assumption,_,_,by first|rfl|trivial|assumption,ast.2,hp2 ((o+(w*v%18446744073709551616+cc)%18446744073709551616+0)%18446744073709551616),hod.set _ (Nat.mod_lt _ (by omega)),by rw[List.length_set];exact hol,by rw[dropset (by omega)];exact hz, ?_⟩
     rw[hvy]
     refine schoolstep hov (hset _) ?_ rfl
     rw[Nat.add_zero,ast.1,Nat.mul_comm v w]
    ·have:j=ys.length:=by omega
     subst this
     rw[List.take_length] at hov
     simp only[go_sem,q2,q7,q35,q36,q37,q8,q42,q43,q44,ltF (Nat.le_refl ys.length)]
     exact⟨hw2,hle2,by first|rfl|trivial|assumption,by first|rfl|trivial|assumption,by first|rfl|trivial|assumption,by first|rfl|trivial|assumption,by first|rfl|trivial|assumption,by first|rfl|trivial|assumption,os,cc,by first|rfl|trivial|assumption,hcc,hs,hod,hol,hz,hov⟩
   ·rintro ρ h2 ⟨hw2,hle2,q2,q7,q35,q36,q37,q8,os,cc,q10,hcc,hs,hod,hol,hz,hov⟩
    have hkN:i+ys.length<os.length:=by omega
    have a4:=addI (a:=i) (b:=ys.length) (by omega)
    obtain⟨i2,r2,e2,hb2,hlt2,hr2,ho2,hf2,hp2⟩:=hs.put hw2 hkN
    injection e2 with e2
    subst e2
    have hset:=valset (B:=18446744073709551616) (d:=cc) hkN
    have h0:os[i+ys.length]=0:=hz _ (by have:=List.getElem_mem (l:=os.drop (i+ys.length)) (n:=0) (by simp;omega);simpa using this)
    rw[h0,Nat.mul_zero,Nat.add_zero] at hset
    simp only[go_sem,q2,q7,q8,q10,a4]
    refine⟨by omega,by omega, ?_⟩
    simp only[go_sem,hr2]
    refine⟨ho2,by omega, ?_⟩
    simp only[go_sem,q2,q7,q35,q36,q37,incI (i:=i) (by omega)]
    refine⟨by omega,H.wf_set hw2 hlt2 _,H.le_set hw1 hle2 hb2 _,by first|rfl|trivial|assumption,by first|rfl|trivial|assumption,by first|rfl|trivial|assumption,by first|rfl|trivial|assumption,by first|rfl|trivial|assumption,_,hp2 cc,hod.set _ hcc,by rw[List.length_set];exact hol,fun x hx=> ?_, ?_⟩
    ·rw[show i+1+ys.length=i+ys.length+1 by omega,dropset (by omega)] at hx
     exact hz x (by rw[List.drop_eq_getElem_cons hkN];exact List.mem_cons_of_mem _ hx)
    ·rw[hset,hov,hvx,Nat.add_mul,Nat.mul_assoc]
  ·have:i=xs.length:=by omega
   subst this
   rw[List.take_length] at hov
   simp only[go_sem,q2,q7,q35,q36,q37,ltF (Nat.le_refl xs.length)]
   exact⟨hw',hle,by first|rfl|trivial|assumption,os,hs,hod,hol,hov⟩
 ·rintro ρ h2 ⟨hw2,hle2,q7,os,hs,hod,hol,hov⟩
  simp only[go_sem,q7]
  refine Norm_calls ⟨os,hs.isN,hod,by omega,hov⟩ fun r h3 hw3 hl3 hr=> ?_
  simp only[go_sem]
  exact fun _=>hk r h3 hw3 (hl1.trans (H.le_trans hle2 hl3).lee) ((ht1.mono hle2).mono hl3) (hr.base (by have:=hle2.1;omega))
theorem putAt_len {l m:List AV} {k:Nat} (h:k+m.length≤l.length):(putAt l k m).length=l.length:=by simp[putAt];omega
theorem putAt_get {l m:List AV} {k i:Nat} (h:k+m.length≤l.length):(putAt l k m)[i]? =if k≤i∧i<k+m.length then m[i-k]? else l[i]? :=by
 unfold putAt
 have hm:min k l.length=k:=by omega
 rcases Nat.lt_or_ge i k with h1|h1
 ·rw[if_neg (by omega),List.append_assoc,List.getElem?_append_left (by simp;omega),List.getElem?_take,if_pos h1]
 ·rcases Nat.lt_or_ge i (k+m.length) with h2|h2
  ·rw[if_pos ⟨h1,h2⟩,List.append_assoc,List.getElem?_append_right (by simp;omega),List.getElem?_append_left (by simp;omega)]
   simp[hm]
  ·rw[if_neg (by omega),List.getElem?_append_right (by simp;omega),List.getElem?_drop]
   congr 1
   simp[hm]
   omega
def IsC (z:Nat) (h:H) (v:AV) (n:Nat) (cs:List AV):Prop:=
 cs.length=n*z∧∃id off c,v= .sl id off n c∧((id=none∧n=0∧off=0)∨∃i r,id=some i∧h.rows i=some r∧(r.own=none∨r.esz=z)∧off+n*z≤r.cells.length∧(r.cells.drop off).take (n*z)=cs)
def IsCF (t:TypeId) (z b:Nat) (h:H) (v:AV) (n:Nat) (cs:List AV):Prop:=
 cs.length=n*z∧∃id c,v= .sl id 0 n c∧((id=none∧n=0)∨∃i r,id=some i∧b≤i∧h.rows i=some r∧r.own=some t∧r.esz=z∧n*z≤r.cells.length∧r.cells.take (n*z)=cs)
theorem IsCF.isC {t:TypeId} {z b n:Nat} {h:H} {v:AV} {cs:List AV} (hv:IsCF t z b h v n cs):IsC z h v n cs:=by
 obtain⟨hl,id,c,rfl,h1⟩:=hv
 refine⟨hl,id,0,c,rfl, ?_⟩
 rcases h1 with⟨rfl,rfl⟩|⟨i,r,rfl,_,hr,_,he,hf,ht⟩
 ·exact .inl ⟨rfl,rfl,rfl⟩
 ·exact .inr ⟨i,r,rfl,hr, .inr he,by omega,by simpa using ht⟩
theorem IsC.mono {z n:Nat} {h h':H} {v:AV} {cs:List AV} (hv:IsC z h v n cs) (hl:h.le h'):IsC z h' v n cs:=by
 obtain⟨h0,id,off,c,rfl,h1⟩:=hv
 refine⟨h0,id,off,c,rfl, ?_⟩
 rcases h1 with h1|⟨i,r,rfl,hr,h2⟩
 ·exact .inl h1
 ·exact .inr ⟨i,r,rfl,hl.2 i r hr,h2⟩
theorem IsCF.mono {t:TypeId} {z b n:Nat} {h h':H} {v:AV} {cs:List AV} (hv:IsCF t z b h v n cs) (hl:h.le h'):IsCF t z b h' v n cs:=by
 obtain⟨h0,id,c,rfl,h1⟩:=hv
 refine⟨h0,id,c,rfl, ?_⟩
 rcases h1 with h1|⟨i,r,rfl,hb,hr,h2⟩
 ·exact .inl h1
 ·exact .inr ⟨i,r,rfl,hb,hl.2 i r hr,h2⟩
theorem IsCF.monoE {t:TypeId} {z b n u:Nat} {h h':H} {v:AV} {cs:List AV} (hub:u<b) (hv:IsCF t z b h v n cs) (hl:H.lee u h h'):IsCF t z b h' v n cs:=by
 obtain⟨h0,id,c,rfl,h1⟩:=hv
 refine⟨h0,id,c,rfl, ?_⟩
 rcases h1 with h1|⟨i,r,rfl,hb,hr,h2⟩
 ·exact .inl h1
 ·exact .inr ⟨i,r,rfl,hb,hl.2 i r (by omega) hr,h2⟩
theorem IsCF.nil (t:TypeId) (z b:Nat) (h:H) (c:Option Nat):IsCF t z b h (.sl none 0 0 c) 0 []:=⟨by simp,none,c,rfl, .inl ⟨rfl,rfl⟩⟩
theorem IsC.form {z n:Nat} {h:H} {v:AV} {cs:List AV} (hv:IsC z h v n cs):∃id off c,v= .sl id off n c:=by
 obtain⟨_,id,off,c,e,_⟩:=hv
 exact⟨id,off,c,e⟩
theorem IsC.at {z n m:Nat} {h:H} {id:Option Nat} {off:Nat} {c:Option Nat} {cs:List AV} (hv:IsC z h (.sl id off m c) n cs) {j:Nat} (hj:j<n*z):∃i,id=some i∧m=n∧h.get i (off+j)=cs[j]? :=by
 obtain⟨hl,id',off',c',e,h1⟩:=hv
 injection e with e1 e2 e3 e4
 subst e1;subst e2;subst e3;subst e4
 rcases h1 with⟨_,rfl,_⟩|⟨i,r,rfl,hr,_,hf,ht⟩
 ·simp at hj
 ·refine⟨i,rfl,rfl, ?_⟩
  rw[←ht,List.getElem?_take,if_pos hj,List.getElem?_drop]
  simp[H.get,hr]
theorem IsC.ats {z n m:Nat} {h:H} {id:Option Nat} {off:Nat} {c:Option Nat} {cs:List AV} (hv:IsC z h (.sl id off m c) n cs) {j w:Nat} (hj:j+w≤n*z) (hw:0<w):∃i,id=some i∧m=n∧h.gets i (off+j) w=some ((cs.drop j).take w):=by
 obtain⟨hl,id',off',c',e,h1⟩:=hv
 injection e with e1 e2 e3 e4
 subst e1;subst e2;subst e3;subst e4
 rcases h1 with⟨_,rfl,_⟩|⟨i,r,rfl,hr,_,hf,ht⟩
 ·simp at hj;omega
 ·refine⟨i,rfl,rfl, ?_⟩
  simp only[H.gets,hr,Option.bind_some]
  rw[if_pos (by omega),←ht,List.drop_take,List.take_take,List.drop_drop,Nat.min_eq_left (by omega)]
theorem IsCF.put {t:TypeId} {z b n m:Nat} {h:H} {id:Option Nat} {c:Option Nat} {cs:List AV} (hw:h.wf) (hv:IsCF t z b h (.sl id 0 m c) n cs) {k w:Nat} (hk:k+w≤n*z) (hw0:0<w):∃i r,id=some i∧b≤i∧i<h.next∧h.rows i=some r∧r.own≠none∧m=n∧k+w≤r.cells.length∧
  ∀l:List AV,l.length=w→IsCF t z b (h.set i {r with cells:=putAt r.cells k l}) (.sl id 0 m c) n (putAt cs k l):=by
 obtain⟨hl,id',c2,e,h1⟩:=hv
 injection e with e1 e2 e3 e4
 subst e1;subst e3;subst e4
 rcases h1 with⟨_,rfl⟩|⟨i,r,rfl,hbi,hr,ho,he,hf,ht⟩
 ·simp at hk;omega
 ·refine⟨i,r,rfl,hbi,H.row_lt hw hr,hr,by rw[ho];simp,rfl,by omega,fun l hll=> ?_⟩
  refine⟨by rw[putAt_len (by omega)];exact hl,some i,c,rfl, .inr ⟨i,_,rfl,hbi,H.rows_set _ _ _,ho,he, ?_, ?_⟩⟩
  ·show m*z≤(putAt r.cells k l).length
   rw[putAt_len (by omega)]
   exact hf
  ·show(putAt r.cells k l).take (m*z)=_
   apply List.ext_getElem?
   intro j
   rw[List.getElem?_take,putAt_get (by omega),putAt_get (by omega),←ht,List.getElem?_take]
   by_cases hj:j<m*z
   ·rw[if_pos hj,if_pos hj]
   ·rw[if_neg hj,if_neg hj,if_neg (by omega)]
theorem zs_len {z n:Nat} {zero:List AV} (h:zero.length=z):(zs zero n).length=n*z:=by
 subst h
 unfold zs
 split
 ·simp
 ·simp
theorem IsCF.made {t:TypeId} {z b:Nat} {h:H} {zero:List AV} (hb:b≤h.next) (hz:zero.length=z) (n:Nat):IsCF t z b (h.new ⟨some t,z,zs zero n⟩) (.sl (some h.next) 0 n (some n)) n (zs zero n):=
 ⟨zs_len hz,some h.next,some n,rfl, .inr ⟨h.next,_,rfl,hb,H.rows_new _ _,rfl,rfl,Nat.le_of_eq (zs_len hz).symm,List.take_of_length_le (Nat.le_of_eq (zs_len hz))⟩⟩
theorem IsCF.lit {t:TypeId} {z b:Nat} {h:H} (hb:b≤h.next) {l:List AV} {n:Nat} (hn:l.length=n*z):IsCF t z b (h.new ⟨some t,z,l⟩) (.sl (some h.next) 0 n (some n)) n l:=
 ⟨hn,some h.next,some n,rfl, .inr ⟨h.next,_,rfl,hb,H.rows_new _ _,rfl,rfl,Nat.le_of_eq hn.symm,List.take_of_length_le (Nat.le_of_eq hn)⟩⟩
def H.upto (h:H) (n:Nat):H:={rows:=fun i=>if i<n then h.rows i else none,next:=n}
theorem H.upto_next (h:H) (n:Nat):(h.upto n).next=n:=rfl
theorem H.upto_wf (h:H) (n:Nat):(h.upto n).wf:=fun i hi=>by
 show(if i<n then h.rows i else none)=none
 rw[if_neg]
 exact Nat.not_lt.2 hi
theorem H.upto_le {h:H} {n:Nat} (hn:n≤h.next):(h.upto n).le h:=⟨hn,fun i r hr=>by
 have hr':(if i<n then h.rows i else none)=some r:=hr
 split at hr'
 ·exact hr'
 ·cases hr'⟩
theorem upto_row {u:Nat} {h h':H} (hw:h.wf) (hl:H.lee u h h') {i:Nat} {r:Row} (hi:i≠u) (hr:h.rows i=some r):(h'.upto h.next).rows i=some r:=by
 show(if i<h.next then h'.rows i else none)=some r
 rw[if_pos (H.row_lt hw hr)]
 exact hl.2 i r hi hr
section
set_option maxRecDepth 100000
def AllC {α:Type} (z:Nat) (R:List AV→α→Prop) (cs:List AV) (xs:List α):Prop:=cs.length=xs.length*z∧∀(j:Nat) (x:α),xs[j]? =some x→R ((cs.drop (j*z)).take z) x
theorem AllC.nil {α:Type} (z:Nat) (R:List AV→α→Prop):AllC z R [] []:=⟨by simp,fun _ _ h=>by simp at h⟩
theorem AllC.mono {α:Type} {z:Nat} {R R':List AV→α→Prop} {cs:List AV} {xs:List α} (h:AllC z R cs xs) (hr:∀c x,R c x→R' c x):AllC z R' cs xs:=⟨h.1,fun j x h1=>hr _ x (h.2 j x h1)⟩
theorem AllC.snoc {α:Type} {z:Nat} {R:List AV→α→Prop} {cs l:List AV} {xs:List α} (h:AllC z R cs xs) {x:α} (hz:l.length=z) (hc:R l x):AllC z R (cs++l) (xs++[x]):=by
 refine⟨by simp[h.1,hz,Nat.add_mul],fun j x' h2=> ?_⟩
 rcases Nat.lt_or_ge j xs.length with hj|hj
 ·rw[List.getElem?_append_left hj] at h2
  have h3:j*z+z≤cs.length:=by rw[h.1,←Nat.succ_mul];exact Nat.mul_le_mul_right _ hj
  rw[List.drop_append_of_le_length (by omega),List.take_append_of_le_length (by simp;omega)]
  exact h.2 j x' h2
 ·rw[List.getElem?_append_right hj] at h2
  rcases hjj:j-xs.length with _|k
  ·rw[hjj] at h2
   simp at h2
   subst h2
   have:j=xs.length:=by omega
   rw[this,←h.1,List.drop_left,List.take_of_length_le (by omega)]
   exact hc
  ·rw[hjj] at h2
   simp at h2
def IsA {α:Type} (z:Nat) (R:H→List AV→α→Prop) (h:H) (v:AV) (xs:List α):Prop:=∃cs,IsC z h v xs.length cs∧AllC z (R h) cs xs
def Grows {α:Type} (R:H→List AV→α→Prop):Prop:=∀⦃h h':H⦄ ⦃c:List AV⦄ ⦃x:α⦄,R h c x→h.le h'→R h' c x
theorem IsA.form {α:Type} {z:Nat} {R:H→List AV→α→Prop} {h:H} {v:AV} {xs:List α} (hv:IsA z R h v xs):∃id off c,v= .sl id off xs.length c:=by
 obtain⟨cs,h1,_⟩:=hv
 exact h1.form
theorem take_one {l:List AV} {j:Nat} (h:j<l.length):(l.drop j).take 1=[l[j]]:=by
 rw[List.drop_eq_getElem_cons h]
 rfl
theorem IsA.at1 {α:Type} {R:H→List AV→α→Prop} {h:H} {id:Option Nat} {off n:Nat} {c:Option Nat} {xs:List α} (hv:IsA 1 R h (.sl id off n c) xs) {j:Nat} (hj:j<xs.length):∃i a,id=some i∧n=xs.length∧h.get i (off+j)=some a∧R h [a] xs[j]:=by
 obtain⟨cs,h1,h2⟩:=hv
 obtain⟨i,e1,e2,e3⟩:=h1.at (j:=j) (by omega)
 have hl:=h2.1
 have h3:=h2.2 j _ (List.getElem?_eq_getElem hj)
 rw[Nat.mul_one,take_one (by omega)] at h3
 exact⟨i,cs[j],e1,e2,e3.trans (List.getElem?_eq_getElem (by omega)),h3⟩
def Live {α:Type} (t:TypeId) (z b:Nat) (R:H→List AV→α→Prop) (h:H) (v:AV) (xs:List α):Prop:=∃io c cs,v= .sl io 0 xs.length c∧IsCF t z b h v xs.length cs∧AllC z (R (h.del io)) cs xs
theorem H.del_le {h:H} (o:Option Nat):(h.del o).le h:=⟨Nat.le_refl _,fun i r e=>by
 simp only[H.del] at e
 split at e
 ·cases e
 ·exact e⟩
theorem H.del_mono {h h':H} (hl:h.le h') (o:Option Nat):(h.del o).le (h'.del o):=⟨hl.1,fun i r e=>by
 simp only[H.del] at e⊢
 split at e
 ·cases e
 ·rename_i hi;rw[if_neg hi];exact hl.2 i r e⟩
theorem H.get_le {a h:H} (hl:a.le h) {i j:Nat} {v:AV} (e:a.get i j=some v):h.get i j=some v:=by
 unfold H.get at*
 cases hr:a.rows i with
 |none=>rw[hr] at e;cases e
 |some r=>rw[hr] at e;rw[hl.2 _ _ hr];exact e
theorem Live.nil {α:Type} (t:TypeId) (z b:Nat) (R:H→List AV→α→Prop) (h:H) (c:Option Nat):Live t z b R h (.sl none 0 0 c) []:=⟨none,c,[],rfl,IsCF.nil _ _ _ _ _,AllC.nil _ _⟩
theorem Live.form {α:Type} {t:TypeId} {z b:Nat} {R:H→List AV→α→Prop} {h:H} {v:AV} {xs:List α} (hv:Live t z b R h v xs):∃io c,v= .sl io 0 xs.length c:=by
 obtain⟨io,c,cs,e,_⟩:=hv
 exact⟨io,c,e⟩
theorem Live.isA {α:Type} {t:TypeId} {z b:Nat} {R:H→List AV→α→Prop} (hR:Grows R) {h:H} {v:AV} {xs:List α} (hv:Live t z b R h v xs):IsA z R h v xs:=by
 obtain⟨io,c,cs,e,h1,h2⟩:=hv
 exact⟨cs,h1.isC,h2.mono fun l x hx=>hR hx (H.del_le io)⟩
theorem Live.mono {α:Type} {t:TypeId} {z b:Nat} {R:H→List AV→α→Prop} (hR:Grows R) {h h':H} {v:AV} {xs:List α} (hv:Live t z b R h v xs) (hl:h.le h'):Live t z b R h' v xs:=by
 obtain⟨io,c,cs,e,h1,h2⟩:=hv
 exact⟨io,c,cs,e,h1.mono hl,h2.mono fun l x hx=>hR hx (H.del_mono hl io)⟩
theorem Live.app {α:Type} {t:TypeId} {z:Nat} {R:H→List AV→α→Prop} (hR:Grows R) {a h h2:H} {K:AV→H→Prop} {io:Option Nat} {co:Option Nat} {l:List AV} {ys:List α} {y:α} {bt n:Nat} (hz:0<z) (ha:a.wf) (hw:h.wf) (hah:a.le h)
  (hs:Live t z a.next R h (.sl io 0 n co) ys) (hn:n=ys.length) (hx:R (h.del io) l y) (hlz:l.length=z) (h1:l.all (·.one)=true) (hbt:bt≤64) (hl:n+1≤1099511627776)
  (hh:h2=h.new ⟨some t,z,l⟩) (hk:∀v h',h'.wf→a.le h'→Live t z a.next R h' v (ys++[y])→K v h'):appK t z bt (.sl io 0 n co) (.sl (some h.next) 0 1 (some 1)) h2 K:=by
 subst hh
 subst hn
 obtain⟨io',co',cs,e,hs,hc⟩:=hs
 injection e with e1 e2 e3 e4
 subst e1;subst e4
 have hbb:=Nat.mul_le_mul hl hbt
 have hw2:=H.wf_new hw ⟨some t,z,l⟩
 have hs2:=hs.mono (H.le_new hw (H.le_refl h) ⟨some t,z,l⟩)
 have hah2:=H.le_new hw hah ⟨some t,z,l⟩
 obtain⟨hcl,id',c',e,h3⟩:=hs2
 injection e with e1 e2 e3 e4
 subst e1;subst e4
 have hnx:(h.new ⟨some t,z,l⟩).next=h.next+1:=rfl
 simp only[appK]
 refine⟨fun h0=>by omega,fun _=>⟨h.next,_,rfl,H.rows_new _ _, ?_, ?_,by omega,by omega, ?_⟩⟩
 ·show 0+1*z≤l.length
  omega
 ·show((l.drop 0).take (1*z)).all (·.one)=true
  rw[List.drop_zero,Nat.one_mul,List.take_of_length_le (by omega)]
  exact h1
 have et:((⟨some t,z,l⟩:Row).cells.drop 0).take (1*z)=l:=by
  show(l.drop 0).take (1*z)=l
  rw[List.drop_zero,Nat.one_mul,List.take_of_length_le (by omega)]
 rw[et]
 have hlen1:(ys++[y]).length=ys.length+1:=by simp
 rcases h3 with⟨rfl,h0⟩|⟨i,q,rfl,hbi,hq,ho,he,hf2,ht2⟩
 ·have hy:ys=[]:=List.eq_nil_of_length_eq_zero h0
  subst hy
  have:cs=[]:=List.eq_nil_of_length_eq_zero (by simpa using hcl)
  subst this
  refine .inl ⟨rfl,rfl,hk _ _ (H.wf_new hw2 _) (H.le_new hw2 hah2 _) ⟨some (h.next+1),none,[]++l,rfl, ?_, ?_⟩⟩
  ·exact⟨by simp[hlz],some (h.next+1),none,rfl, .inr ⟨h.next+1,_,rfl,by have:=hah.1;omega,H.rows_new _ _,rfl,rfl,by simp[hlz],List.take_of_length_le (by simp[hlz])⟩⟩
  ·refine(hc.snoc hlz hx).mono fun l' x' hx'=>hR hx' ⟨by show h.next≤h.next+1+1;omega,fun j r hj=> ?_⟩
   have hj':=(H.del_le none).2 j r hj
   have hlt:=H.row_lt hw hj'
   simp only[H.del]
   rw[if_neg (by intro e;injection e;omega),H.rows_new_ne (by rw[hnx];omega),H.rows_new_ne (by omega)]
   exact hj'
 ·have hil:=H.row_lt hw2 hq
  have hi2:i≠h.next:=by
   intro e
   obtain⟨_,id2,c2,e2,h4⟩:=hs
   injection e2 with e2
   rcases h4 with⟨h4,_⟩|⟨i2,q2,h4,_,h5,_⟩
   ·rw[←e2] at h4;cases h4
   ·rw[←e2] at h4
    injection h4 with h4
    have:=H.row_lt hw h5
    omega
  refine .inr ⟨i,q,rfl,hq,ho,he,by simp,hf2,hk _ _ (H.wf_new (H.wf_del hw2 _) _) (H.le_new (H.wf_del hw2 _) (H.le_del ha hah2 hbi) _) ⟨some (h.next+1),none,cs++l,by rw[hlen1];rfl, ?_, ?_⟩⟩
  ·refine⟨by simp[hcl,hlz,Nat.add_mul],some (h.next+1),none,by rw[hlen1];rfl, .inr ⟨h.next+1,_,rfl,by have:=hah.1;omega,H.rows_new _ _,rfl,rfl, ?_, ?_⟩⟩
   ·rw[hlen1]
    simp only[List.length_append,ht2,hcl,hlz,Nat.add_mul];omega
   ·rw[hlen1,ht2]
    exact List.take_of_length_le (by simp[hcl,hlz,Nat.add_mul])
  ·refine(hc.snoc hlz hx).mono fun l' x' hx'=>hR hx' ⟨by show h.next≤h.next+1+1;omega,fun j r hj=> ?_⟩
   have hj':=(H.del_le (some i)).2 j r hj
   have hlt:=H.row_lt hw hj'
   have hji:j≠i:=by
    rintro rfl
    simp[H.del] at hj
   simp only[H.del]
   rw[if_neg (by intro e;injection e;omega)]
   show((H.del _ (some i)).new _).rows j=some r
   rw[H.rows_new_ne (by rw[H.next_del,hnx];omega),H.rows_del_ne hji,H.rows_new_ne (by omega)]
   exact hj'
theorem Nf.del {b:Nat} {h:H} {v:AV} {x:Nat} {io:Option Nat} (hio:∀i,io=some i→i<b) (hv:Nf b h v x):Nf b (h.del io) v x:=by
 obtain⟨xs,⟨id,c,rfl,h1⟩,h2⟩:=hv
 refine⟨xs,⟨id,c,rfl, ?_⟩,h2⟩
 rcases h1 with h1|⟨i,r,rfl,hb,hr,h3⟩
 ·exact .inl h1
 ·refine .inr ⟨i,r,rfl,hb, ?_,h3⟩
  simp only[H.del]
  rw[if_neg (fun e=>by have:=hio i e.symm;omega)]
  exact hr
theorem Live.io_lt {α:Type} {t:TypeId} {z b n:Nat} {R:H→List AV→α→Prop} {h:H} {io c:Option Nat} {xs:List α} (hw:h.wf) (hv:Live t z b R h (.sl io 0 n c) xs):∀i,io=some i→i<h.next:=by
 obtain⟨io',c',cs,e,⟨_,id,c2,e2,h3⟩,_⟩:=hv
 injection e2 with e2
 subst e2
 rintro i rfl
 rcases h3 with⟨h3,_⟩|⟨i',q,h3,_,hq,_⟩
 ·cases h3
 ·injection h3 with h3
  subst h3
  exact H.row_lt hw hq
theorem Live.monoE {α:Type} {t:TypeId} {z b u:Nat} {R:H→List AV→α→Prop} (hR:∀{h h':H} {c:List AV} {x:α},R h c x→H.lee u h h'→R h' c x) {h h':H} {v:AV} {xs:List α} (hub:u<b) (hv:Live t z b R h v xs) (hl:H.lee u h h'):Live t z b R h' v xs:=by
 obtain⟨io,c,cs,e,h1,h2⟩:=hv
 refine⟨io,c,cs,e,h1.monoE hub hl,h2.mono fun l x hx=>hR hx ⟨hl.1,fun i r hi he=> ?_⟩⟩
 simp only[H.del] at he⊢
 split at he
 ·cases he
 ·rename_i hj;rw[if_neg hj];exact hl.2 i r hi he
theorem lee_upto {u:Nat} {h h' h2:H} (hw:h.wf) (hl:H.lee u h h') (hu:(h'.upto h.next).le h2):H.lee u h h2:=
 ⟨hu.1,fun i r hi hr=>hu.2 i r (upto_row hw hl hi hr)⟩
theorem Tune.upto {u m nw dp:Nat} {tb:Tb} {h h' h2:H} (hu:u<h.next) (ht:Tune h' u m nw dp tb) (hl:(h'.upto h.next).le h2):Tune h2 u m nw dp tb:=by
 refine hl.2 _ _ ?_
 show(if u<h.next then h'.rows u else none)=_
 rw[if_pos hu]
 exact ht
end
theorem seq_cut {P:Program} {a b:AC} {Q:Post} {ρ:Env} {h:H} (M:Env→H→Prop) (h1:awp P a (onN M Q) ρ h) (h2:∀ρ h,M ρ h→awp P b Q ρ h):awp P (.seq a b) Q ρ h:=
 awp_cut (next:=awp P b Q) M h1 h2
theorem loop_cut2 {P:Program} {c:AC} {id id2:Nat} {next:Env→H→Prop} {Q:Post} {ρ:Env} {h:H} (M:Env→H→Prop) (h1:awp P (.loop c) (ablk id (ablk id2 (onN M Q))) ρ h) (h2:∀ρ h,M ρ h→next ρ h):awp P (.loop c) (ablk id (ablk id2 (athen next Q))) ρ h:=by
 have key:∀e ρ h,ablk id2 (onN M Q) e ρ h→ablk id2 (athen next Q) e ρ h:=by
  intro e ρ h hh
  cases e with
  |exit id'=>
   simp only[ablk] at hh⊢
   split
   ·rename_i hi;rw[if_pos hi] at hh;exact h2 _ _ hh
   ·rename_i hi;rw[if_neg hi] at hh;exact hh
  |normal=>exact h2 _ _ hh
  |_=>exact hh
 refine awp_mono (fun e ρ h hh=> ?_) h1
 cases e with
 |exit id'=>
  simp only[ablk] at hh⊢
  split
  ·rename_i hi;rw[if_pos hi] at hh;exact key .normal ρ h hh
  ·rename_i hi;rw[if_neg hi] at hh;exact key (.exit id') ρ h hh
 |normal=>exact key .normal ρ h hh
 |ret=>exact key .ret ρ h hh
 |goto l=>exact key (.goto l) ρ h hh
 |panic l=>exact key (.panic l) ρ h hh
 |outgrown=>exact key .outgrown ρ h hh
theorem trimA_calls {v:AV} {x:Nat} {a h:H} {K:AV→H→Prop} (hah:a.le h) (hv:Nn a v x) (hk:∀r xs,IsN a r xs→Dig xs→Top xs→val 18446744073709551616 xs=x→xs.length=wlen x→xs.length≤1099511627776→K r h):ACalls Tryz.prog 125 [v] h K:=by
 obtain⟨xs,h1,h2,h3,rfl⟩:=hv
 obtain⟨id,off,c,rfl⟩:=h1.form
 refine in_limb_trim (by simp) fun hw=> ?_
 unfold c_limb_trim
 simp only[go_sem]
 refine Len_calls (h1.mono hah) h2 (by omega) ?_
 have hl:=wlen_len h2
 have e:=top_cut h2
 simp only[go_sem]
 exact⟨by omega,by omega,(h1.mono hah).row,fun _=>hk _ _ (h1.take hl) (h2.take _) e.1 e.2 (by rw[List.length_take];omega) (by rw[List.length_take];omega)⟩
theorem LenN_calls {v:AV} {x:Nat} {h:H} {K:AV→H→Prop} (nv:Nn h v x) (hk:K (.int .i64 (wlen x:Nat)) h):ACalls Tryz.prog 52 [v] h K:=by
 obtain⟨xs,h1,h2,h3,rfl⟩:=nv
 exact Len_calls h1 h2 (by omega) hk
def NnL (h:H) (l:List AV) (x:Nat):Prop:=∃v,l=[v]∧Nn h v x
theorem parts_le {B k n:Nat} (hB:0<B):∀{xs:List Nat} (i0:Nat),(∀i (hi:i<xs.length),xs[i]≠0→xs[i]<B^(n-k*(i0+i))∧k*(i0+i)≤n)→(B^k)^i0*val (B^k) xs≤xs.length*B^n
 |[],i0,_=>by simp[val]
 |x::xs,i0,h=>by
  have ih:=parts_le (n:=n) hB (xs:=xs) (i0+1) (fun i hi h0=>by
   have:=h (i+1) (by simpa using hi) (by simpa using h0)
   rw[show i0+1+i=i0+(i+1) by omega]
   simpa using this)
  have h0:(B^k)^i0*x≤B^n:=by
   by_cases hx:x=0
   ·subst hx;simp
   ·obtain⟨h1,h2⟩:=h 0 (by simp) (by simpa using hx)
    simp only[List.getElem_cons_zero,Nat.add_zero] at h1 h2
    have e:B^n=(B^k)^i0*B^(n-k*i0):=by rw[←Nat.pow_mul,←Nat.pow_add];congr 1;omega
    rw[e]
    exact Nat.mul_le_mul_left _ (Nat.le_of_lt h1)
  rw[val,Nat.mul_add,List.length_cons,Nat.succ_mul]
  have e2:(B^k)^i0*(B^k*val (B^k) xs)=(B^k)^(i0+1)*val (B^k) xs:=by rw[Nat.pow_succ];ac_rfl
  rw[e2]
  omega
theorem parts_lt {k n:Nat} {xs:List Nat} (hl:xs.length<18446744073709551616) (h:∀i (hi:i<xs.length),xs[i]≠0→k*i+wlen xs[i]≤n):val (18446744073709551616^k) xs<18446744073709551616^(n+1):=by
 have:=parts_le (B:=18446744073709551616) (k:=k) (n:=n) (by omega) (xs:=xs) 0 (fun i hi h0=>by
  have h1:=h i hi h0
  rw[Nat.zero_add]
  exact⟨Nat.lt_of_lt_of_le (wlen_lt _) (Nat.pow_le_pow_right (by omega) (by omega)),by omega⟩)
 rw[Nat.pow_zero,Nat.one_mul] at this
 have h2:xs.length*18446744073709551616^n<18446744073709551616*18446744073709551616^n:=Nat.mul_lt_mul_of_pos_right hl (Nat.pow_pos (by omega))
 rw[Nat.pow_succ,Nat.mul_comm (18446744073709551616^n)]
 omega
theorem val_mono_take {B:Nat} {xs:List Nat} {i:Nat}:val B (xs.take i)≤val B xs:=by
 rcases Nat.le_total i xs.length with h|h
 ·rw[val_cut B xs i h];omega
 ·rw[List.take_of_length_le h];exact Nat.le_refl _
theorem join_step {V vt o v c d c2 B k a j os os2:Nat} (h1:os+B^k*c=V+B^a*vt) (h2:os2+B^k*o=os+B^k*d) (h3:d+B*c2=o+v+c) (hk:k=a+j):os2+B^(k+1)*c2=V+B^a*(vt+B^j*v):=by
 subst hk
 have e:=congrArg (fun z=>B^(a+j)*z) h3
 simp only[Nat.mul_add] at e
 have e1:B^(a+j)*(B*c2)=B^(a+j+1)*c2:=by rw[Nat.pow_succ];ac_rfl
 have e2:B^a*(B^j*v)=B^(a+j)*v:=by rw[Nat.pow_add];ac_rfl
 rw[Nat.mul_add,e2]
 omega
theorem Join_calls {v:AV} {k:Nat} {xs:List Nat} {h:H} {K:AV→H→Prop} (hk16:k≤16384) (hv:IsA 1 NnL h v xs) (hb:∀x∈xs,Big x) (hl:xs.length≤1000000)
  (hk:∀r h',h'.wf→h.le h'→Nf h.next h' r (val (18446744073709551616^k) xs)→K r h'):ACalls Tryz.prog 153 [.int .i64 (k:Int),v] h K:=by
 obtain⟨id,off,c,rfl⟩:=hv.form
 refine in_limb_Join (by simp) fun hw=> ?_
 unfold c_limb_Join
 simp only[go_sem]
 refine within_limb (by omega) ?_
 simp only[go_sem]
 have hwl:∀i (hi:i<xs.length),wlen xs[i]≤500000:=fun i hi=>by
  have:=wlen_big (hb _ (List.getElem_mem hi))
  rw[wordL_eq] at this
  exact this
 have hki:∀i,i<xs.length→k*i≤16384*1000000:=fun i hi=>Nat.mul_le_mul hk16 (by omega)
 refine loop_cut (fun ρ h'=>h'=h∧ρ 0= .int .i64 (k:Int)∧ρ 1= .sl id off xs.length c∧∃n:Nat,ρ 5= .int .i64 (n:Int)∧n≤20000000000∧∀i (hi:i<xs.length),xs[i]≠0→k*i+wlen xs[i]≤n) ?_ ?_
 ·refine for_rule (fun i ρ h'=>i≤xs.length∧h'=h∧ρ 0= .int .i64 (k:Int)∧ρ 1= .sl id off xs.length c∧ρ 17= .sl id off xs.length c∧ρ 18= .int .i64 (xs.length:Int)∧ρ 19= .int .i64 (i:Int)∧∃n:Nat,ρ 5= .int .i64 (n:Int)∧n≤20000000000∧∀j (hj:j<xs.length),j<i→xs[j]≠0→k*j+wlen xs[j]≤n) xs.length
   ⟨by omega,rfl,rfl,rfl,rfl,rfl,rfl,0,rfl,by omega,fun j _ hj=>by omega⟩ (fun i ρ h hI=>hI.1) ?_
  rintro i ρ h' ⟨hi,rfl,q0,q1,q17,q18,q19,n,q5,hn,hall⟩
  rcases Nat.lt_or_ge i xs.length with h1|h1
  ·obtain⟨ii,a,rfl,_,hg,a',e,ha⟩:=hv.at1 h1
   injection e with e
   subst e
   simp only[go_sem,q0,q1,q17,q18,q19,q5,ltT h1]
   refine⟨by omega,by omega, ?_⟩
   simp only[go_sem,hg]
   refine LenN_calls ha ?_
   have hw1:=hwl i h1
   have hk1:=hki i h1
   by_cases h0:xs[i]=0
   ·rw[h0,wlen_zero]
    have hd:decide ((0:Int)<((0:Nat):Int))=false:=by decide
    simp only[go_sem,hd,q0,q1,q17,q18,q19,q5,incI (i:=i) (by omega)]
    refine⟨by omega,by first|rfl|trivial|assumption,by first|rfl|trivial|assumption,by first|rfl|trivial|assumption,by first|rfl|trivial|assumption,by first|rfl|trivial|assumption,by first|rfl|trivial|assumption,n,by first|rfl|trivial|assumption,hn,fun j hj hji h2=> ?_⟩
    by_cases e:j=i
    ·subst e;exact absurd h0 h2
    ·exact hall j hj (by omega) h2
   ·have hp:0<wlen xs[i]:=by
     have:=mt wlen_eq_zero.1 h0;omega
    have hd:decide ((0:Int)<((wlen xs[i]:Nat):Int))=true:=decide_eq_true (by omega)
    have a1:=mulI (a:=k) (b:=i) (by omega)
    have a2:=addI (a:=k*i) (b:=wlen xs[i]) (by omega)
    simp only[go_sem,hd,q0,q1,q17,q18,q19,q5,a1,a2,maxN,incI (i:=i) (by omega)]
    refine⟨by omega,by first|rfl|trivial|assumption,by first|rfl|trivial|assumption,by first|rfl|trivial|assumption,by first|rfl|trivial|assumption,by first|rfl|trivial|assumption,by first|rfl|trivial|assumption,_,rfl,by omega,fun j hj hji h2=> ?_⟩
    by_cases e:j=i
    ·subst e;omega
    ·have:=hall j hj (by omega) h2
     omega
  ·simp only[go_sem,q0,q1,q17,q18,q19,q5,ltF h1]
   exact⟨trivial,trivial,trivial,n,rfl,hn,fun j hj h2=>hall j hj (by omega) h2⟩
 ·rintro ρ h' ⟨rfl,q0,q1,n,q5,hn,hall⟩
  have a1:IntKind.i64.wrap ((n:Int)+2)=((n+2:Nat):Int):=by rw[wI]<;>omega
  have hT:=parts_lt (by omega) hall
  simp only[go_sem,q0,q1,q5,a1]
  refine⟨by omega,by omega,by omega, ?_⟩
  have hl2:=H.le_new hw (H.le_refl h') ⟨some 54,1,zs [AV.int .u64 0] (n+2)⟩
  refine for_rule (fun i ρ h2=>i≤xs.length∧h2.wf∧h'.le h2∧ρ 0= .int .i64 (k:Int)∧ρ 9= .sl (some h'.next) 0 (n+2) (some (n+2))∧ρ 39= .sl id off xs.length c∧ρ 40= .int .i64 (xs.length:Int)∧ρ 41= .int .i64 (i:Int)∧∃os,IsG h'.next h2 (.sl (some h'.next) 0 (n+2) (some (n+2))) os∧Dig os∧os.length=n+2∧val 18446744073709551616 os=val (18446744073709551616^k) (xs.take i)) xs.length
   ⟨by omega,H.wf_new hw _,hl2,by first|rfl|trivial|assumption,by first|rfl|trivial|assumption,by first|rfl|trivial|assumption,by first|rfl|trivial|assumption,by first|rfl|trivial|assumption,_,IsG.made (Nat.le_refl _) _,Dig.zeros _,by simp,by rw[val_zero _ _ (fun x hx=>List.eq_of_mem_replicate hx)];simp[val]⟩ (fun i ρ h hI=>hI.1) ?_
  rintro i ρ h2 ⟨hi,hw2,hle,q0,q9,q39,q40,q41,os,hs,hod,hol,hov⟩
  rcases Nat.lt_or_ge i xs.length with h1|h1
  ·obtain⟨ii,a,rfl,_,hg0,a',e,ha⟩:=hv.at1 h1
   injection e with e
   subst e
   have hg:=H.get_le hle hg0
   simp only[go_sem,q0,q9,q39,q40,q41,ltT h1]
   refine⟨by omega,by omega, ?_⟩
   simp only[go_sem,hg]
   refine trimA_calls hle ha fun r ps hp hpd hpt hpv hpl _=> ?_
   have hw1:=hwl i h1
   have hk1:=hki i h1
   have hsum:=val_take_succ (18446744073709551616^k) xs i h1
   rw[←Nat.pow_mul] at hsum
   have hle1:val (18446744073709551616^k) (xs.take (i+1))≤val (18446744073709551616^k) xs:=val_mono_take
   have hin:xs[i]≠0→k*i+wlen xs[i]≤n:=hall i h1
   generalize hx:xs[i]=x at*
   obtain⟨idp,offp,cp,rfl⟩:=hp.form
   simp only[go_sem,q0,q9,q39,q40,q41]
   refine loop_cut2 (fun ρ h3=>h3.wf∧h'.le h3∧ρ 0= .int .i64 (k:Int)∧ρ 9= .sl (some h'.next) 0 (n+2) (some (n+2))∧ρ 39= .sl (some ii) off xs.length c∧ρ 40= .int .i64 (xs.length:Int)∧ρ 41= .int .i64 (i:Int)∧∃os,IsG h'.next h3 (.sl (some h'.next) 0 (n+2) (some (n+2))) os∧Dig os∧os.length=n+2∧val 18446744073709551616 os=val (18446744073709551616^k) (xs.take (i+1))) ?_ ?_
   ·refine for_rule (fun j ρ h3=>j≤n+2∧h3.wf∧h'.le h3∧ρ 0= .int .i64 (k:Int)∧ρ 9= .sl (some h'.next) 0 (n+2) (some (n+2))∧ρ 39= .sl (some ii) off xs.length c∧ρ 40= .int .i64 (xs.length:Int)∧ρ 41= .int .i64 (i:Int)∧ρ 10= .int .i64 (i:Int)∧ρ 11= .sl idp offp ps.length cp∧ρ 13= .int .i64 (j:Int)∧∃os cc,ρ 12= .int .u64 (cc:Nat)∧cc≤1∧IsG h'.next h3 (.sl (some h'.next) 0 (n+2) (some (n+2))) os∧Dig os∧os.length=n+2∧val 18446744073709551616 os+18446744073709551616^(k*i+j)*cc=val (18446744073709551616^k) (xs.take i)+18446744073709551616^(k*i)*val 18446744073709551616 (ps.take j)) (n+2)
     ⟨by omega,hw2,hle,by first|rfl|trivial|assumption,by first|rfl|trivial|assumption,by first|rfl|trivial|assumption,by first|rfl|trivial|assumption,by first|rfl|trivial|assumption,by first|rfl|trivial|assumption,by first|rfl|trivial|assumption,by first|rfl|trivial|assumption,os,0,by first|rfl|trivial|assumption,by omega,hs,hod,hol,by simp[val,hov]⟩ (fun i ρ h hI=>hI.1) ?_
    rintro j ρ h3 ⟨hj,hw3,hle3,q0,q9,q39,q40,q41,q10,q11,q13,os,cc,q12,hcc,hs,hod,hol,hov⟩
    have hpv2:val 18446744073709551616 (ps.take j)≤x:=by rw[←hpv];exact val_mono_take
    refine seq_cut (fun ρ h4=>h4=h3∧(j<ps.length∨0<cc)∧ρ 0= .int .i64 (k:Int)∧ρ 9= .sl (some h'.next) 0 (n+2) (some (n+2))∧ρ 39= .sl (some ii) off xs.length c∧ρ 40= .int .i64 (xs.length:Int)∧ρ 41= .int .i64 (i:Int)∧ρ 10= .int .i64 (i:Int)∧ρ 11= .sl idp offp ps.length cp∧ρ 13= .int .i64 (j:Int)∧ρ 12= .int .u64 (cc:Nat)) ?_ ?_
    ·rcases Nat.lt_or_ge j ps.length with h5|h5
     ·simp only[go_sem,q0,q9,q39,q40,q41,q10,q11,q13,q12,ltT h5]
      exact⟨trivial, .inl h5,trivial,trivial,trivial,trivial,trivial,trivial,trivial,trivial,trivial⟩
     ·by_cases h6:0<cc
      ·simp only[go_sem,q0,q9,q39,q40,q41,q10,q11,q13,q12,ltF h5,show decide ((0:Int)<(cc:Int))=true from decide_eq_true (by omega)]
       exact⟨trivial, .inr h6,trivial,trivial,trivial,trivial,trivial,trivial,trivial,trivial,trivial⟩
      ·have:cc=0:=by omega
       subst this
       simp only[go_sem,q0,q9,q39,q40,q41,q10,q11,q13,q12,ltF h5,show decide ((0:Int)<((0:Nat):Int))=false from rfl]
       refine⟨hw3,hle3,by first|rfl|trivial|assumption,by first|rfl|trivial|assumption,by first|rfl|trivial|assumption,by first|rfl|trivial|assumption,by first|rfl|trivial|assumption,os,hs,hod,hol, ?_⟩
       rw[Nat.mul_zero,Nat.add_zero,List.take_of_length_le h5,hpv] at hov
       rw[hov,hsum]
    rintro ρ h4 ⟨rfl,hgo,q0,q9,q39,q40,q41,q10,q11,q13,q12⟩
    --one more word
    have hkj:k*i+j≤n:=by
     rcases hgo with h5|h5
     ·have:x≠0:=by rintro rfl;rw[hpl,wlen_zero] at h5;omega
      have:=hin this
      omega
     ·rcases Nat.lt_or_ge n (k*i+j) with h6|h6
      ·exfalso
       have h7:18446744073709551616^(n+1)≤18446744073709551616^(k*i+j):=Nat.pow_le_pow_right (by omega) h6
       have h8:18446744073709551616^(k*i+j)*1≤18446744073709551616^(k*i+j)*cc:=Nat.mul_le_mul_left _ h5
       have h9:18446744073709551616^(k*i)*val 18446744073709551616 (ps.take j)≤18446744073709551616^(k*i)*x:=Nat.mul_le_mul_left _ hpv2
       omega
      ·exact h6
    have hkN:k*i+j<os.length:=by omega
    have hob:=hod _ (List.getElem_mem hkN)
    have hset:=fun d=>valset (B:=18446744073709551616) (d:=d) hkN
    obtain⟨jo,eo,_,hgo2⟩:=hs.isN.at hkN
    injection eo with eo
    subst eo
    obtain⟨i2,r2,e2,hb2,hlt2,hr2,ho2,hf2,hp2⟩:=hs.put hw3 hkN
    injection e2 with e2
    subst e2
    generalize os[k*i+j]=o at*
    rw[Nat.zero_add] at hgo2
    have hyb:=getD_lt (B:=18446744073709551616) (by omega) hpd j
    have hvy:=val_take_get 18446744073709551616 ps j
    have a1:=mulI (a:=k) (b:=i) (by omega)
    have a2:=addI (a:=k*i) (b:=j) (by omega)
    simp only[go_sem,q0,q9,q39,q40,q41,q10,q11,q13,q12]
    refine cond_cut (fun ρ h5=>h5=h4∧ρ 0= .int .i64 (k:Int)∧ρ 9= .sl (some h'.next) 0 (n+2) (some (n+2))∧ρ 39= .sl (some ii) off xs.length c∧ρ 40= .int .i64 (xs.length:Int)∧ρ 41= .int .i64 (i:Int)∧ρ 10= .int .i64 (i:Int)∧ρ 11= .sl idp offp ps.length cp∧ρ 13= .int .i64 (j:Int)∧ρ 12= .int .u64 (cc:Nat)∧ρ 14= .int .u64 ((ps.getD j 0:Nat):Int)) ?_ ?_
    ·rcases Nat.lt_or_ge j ps.length with hyi|hyi
     ·have hp':=hp.mono hle3
      obtain⟨j',rfl,_,hg'⟩:=hp'.at hyi
      rw[getD_at hyi]
      simp only[go_sem,q0,q9,q39,q40,q41,q10,q11,q13,q12,ltT hyi]
      refine⟨by omega,by omega, ?_⟩
      simp only[go_sem,hg',q0,q9,q39,q40,q41,q10,q11,q13,q12]
      exact⟨trivial,trivial,trivial,trivial,trivial,trivial,trivial,trivial,trivial,trivial,trivial⟩
     ·rw[getD_ge hyi]
      simp only[go_sem,q0,q9,q39,q40,q41,q10,q11,q13,q12,ltF hyi]
      exact⟨trivial,trivial,trivial,trivial,trivial,trivial,trivial,trivial,trivial,trivial,rfl⟩
    rintro ρ h5 ⟨rfl,q0,q9,q39,q40,q41,q10,q11,q13,q12,q14⟩
    generalize ps.getD j 0=v at*
    simp only[go_sem,q0,q9,q39,q40,q41,q10,q11,q13,q12,q14,a1,a2]
    refine⟨by omega,by omega, ?_⟩
    simp only[go_sem,hgo2,q12,q14]
    refine Add64_calls hob hyb hcc ?_
    simp only[go_sem,q9,a2]
    refine⟨by omega,by omega, ?_⟩
    simp only[go_sem,hr2]
    refine⟨ho2,by omega, ?_⟩
    simp only[go_sem,q0,q9,q39,q40,q41,q10,q11,q13,incI (i:=j) (by omega)]
    refine⟨by omega,H.wf_set hw3 hlt2 _,H.le_set hw hle3 hb2 _,by first|rfl|trivial|assumption,by first|rfl|trivial|assumption,by first|rfl|trivial|assumption,by first|rfl|trivial|assumption,by first|rfl|trivial|assumption,by first|rfl|trivial|assumption,by first|rfl|trivial|assumption,by first|rfl|trivial|assumption,_,_,rfl,by omega,hp2 ((o+v+cc)%18446744073709551616),hod.set _ (Nat.mod_lt _ (by omega)),by rw[List.length_set];exact hol, ?_⟩
    rw[hvy]
    exact join_step hov (hset _) (by omega) rfl
   ·rintro ρ h3 ⟨hw3,hle3,q0,q9,q39,q40,q41,os,hs,hod,hol,hov⟩
    simp only[go_sem,q0,q9,q39,q40,q41,incI (i:=i) (by omega)]
    exact⟨by omega,hw3,hle3,by first|rfl|trivial|assumption,by first|rfl|trivial|assumption,by first|rfl|trivial|assumption,by first|rfl|trivial|assumption,by first|rfl|trivial|assumption,os,hs,hod,hol,hov⟩
  ·have:i=xs.length:=by omega
   subst this
   rw[List.take_length] at hov
   simp only[go_sem,q0,q9,q39,q40,q41,ltF (Nat.le_refl xs.length)]
   refine trimG_calls hs hod (by omega) fun r hr=> ?_
   rw[hov] at hr
   simp only[go_sem]
   exact fun _=>hk r h2 hw2 hle hr
def am1 (s d:Nat):Nat:=if s<d then d-s else s-d
theorem toom_am {s d s' d':Nat}:((decide (s<d) !=decide (s'<d'))=false→am1 s d*am1 s' d'+(s*d'+d*s')=s*s'+d*d')∧
  ((decide (s<d) !=decide (s'<d'))=true→am1 s d*am1 s' d'+(s*s'+d*d')=s*d'+d*s'):=by
 unfold am1
 rcases Nat.lt_or_ge s d with h|h<;>rcases Nat.lt_or_ge s' d' with h'|h'
 ·obtain⟨u,rfl⟩:∃u,d=s+u:=⟨d-s,by omega⟩
  obtain⟨v,rfl⟩:∃v,d'=s'+v:=⟨d'-s',by omega⟩
  rw[if_pos h,if_pos h',decide_eq_true h,decide_eq_true h',Nat.add_sub_cancel_left,Nat.add_sub_cancel_left]
  exact⟨fun _=>by grind,fun e=>by cases e⟩
 ·obtain⟨u,rfl⟩:∃u,d=s+u:=⟨d-s,by omega⟩
  obtain⟨v,rfl⟩:∃v,s'=d'+v:=⟨s'-d',by omega⟩
  rw[if_pos h,if_neg (by omega),decide_eq_true h,decide_eq_false (by omega),Nat.add_sub_cancel_left,Nat.add_sub_cancel_left]
  exact⟨fun e=>(by cases e),fun _=>by grind⟩
 ·obtain⟨u,rfl⟩:∃u,s=d+u:=⟨s-d,by omega⟩
  obtain⟨v,rfl⟩:∃v,d'=s'+v:=⟨d'-s',by omega⟩
  rw[if_neg (by omega),if_pos h',decide_eq_false (by omega),decide_eq_true h',Nat.add_sub_cancel_left,Nat.add_sub_cancel_left]
  exact⟨fun e=>(by cases e),fun _=>by grind⟩
 ·obtain⟨u,rfl⟩:∃u,s=d+u:=⟨s-d,by omega⟩
  obtain⟨v,rfl⟩:∃v,s'=d'+v:=⟨s'-d',by omega⟩
  rw[if_neg (by omega),if_neg (by omega),decide_eq_false (by omega),decide_eq_false (by omega),Nat.add_sub_cancel_left,Nat.add_sub_cancel_left]
  exact⟨fun _=>by grind,fun e=>by cases e⟩
structure FiveV (c0 c1 c2 c3 c4 r0 r1 rm r2 ri:Nat) (neg:Bool):Prop where
 h0:r0=c0
 h1:r1=c0+c1+c2+c3+c4
 hm:neg=false→rm+(c1+c3)=c0+c2+c4
 hn:neg=true→rm+(c0+c2+c4)=c1+c3
 h2:r2=c0+2*c1+4*c2+8*c3+16*c4
 hi:ri=c4
theorem five_of {a0 a1 a2 b0 b1 b2:Nat}:FiveV (a0*b0) (a0*b1+a1*b0) (a0*b2+a1*b1+a2*b0) (a1*b2+a2*b1) (a2*b2)
  (a0*b0) ((a0+a1+a2)*(b0+b1+b2)) (am1 (a0+a2) a1*am1 (b0+b2) b1) ((a0+2*a1+4*a2)*(b0+2*b1+4*b2)) (a2*b2) (decide (a0+a2<a1) !=decide (b0+b2<b1)):=by
 have h:=toom_am (s:=a0+a2) (d:=a1) (s':=b0+b2) (d':=b1)
 refine⟨rfl,by grind,fun e=> ?_,fun e=> ?_,by grind,rfl⟩
 ·have h1:=h.1 e
  generalize am1 (a0+a2) a1*am1 (b0+b2) b1=r at*
  grind
 ·have h1:=h.2 e
  generalize am1 (a0+a2) a1*am1 (b0+b2) b1=r at*
  grind
theorem toom_val {X a0 a1 a2 b0 b1 b2:Nat}:(a0+X*a1+X*X*a2)*(b0+X*b1+X*X*b2)=
  a0*b0+X*(a0*b1+a1*b0)+X*X*(a0*b2+a1*b1+a2*b0)+X*X*X*(a1*b2+a2*b1)+X*X*X*X*(a2*b2):=by grind
theorem kara_mid {a0 a1 b0 b1:Nat}:(a0+a1)*(b0+b1)-(a0*b0+a1*b1)=a0*b1+a1*b0∧a0*b0+a1*b1≤(a0+a1)*(b0+b1):=by
 have e:(a0+a1)*(b0+b1)=a0*b1+a1*b0+(a0*b0+a1*b1):=by grind
 rw[e]
 omega
theorem kara_val {X a0 a1 b0 b1:Nat}:(a0+X*a1)*(b0+X*b1)=a0*b0+X*(a0*b1+a1*b0)+X*X*(a1*b1):=by grind
end Ab
end Go.Proofs.YtnlkbdmmoplkoaaGreatDoor
