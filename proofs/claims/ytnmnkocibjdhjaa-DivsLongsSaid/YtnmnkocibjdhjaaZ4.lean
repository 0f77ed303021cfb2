/- Joined texts: C3 C4 C5 D1 E1 E2 E3 E4 E5. No condition. -/
import Derived.Test.YtnmnkocibjdhjaaZ3
import Derived.Test.YtnmnkocibjdhjaaProg
import Derived.KernelRfl
import Derived.Laws.BitsLemmas
import Derived.Laws.Bits64
namespace Go.Proofs.Ytnmnkocibjdhjaa
namespace Ab
open Go

def c_keep_Same : AC := .seq (.reg [o 4 (.mv (.c (.bool false)))]) (.seq (.seq (.reg [mv 6 0, o 7 (.len false (.t 6)), mv 8 1, o 9 (.len false (.t 8)), bn 10 .neq 7 9]) (.cond (.t 10) (.seq (.reg [o 4 (.mv (.c (.bool false)))]) .ret) .skip)) (.seq (.seq (.reg [o 5 (.mv (i64 0))]) (.block 0 (.loop (.seq (.seq (.reg [mv 11 5, mv 12 0, o 13 (.len false (.t 12)), bn 14 .lss 11 13]) (.cond (.t 14) .skip (.exit 0))) (.seq (.block 1 (.seq (.reg [mv 17 0, mv 18 5, o 19 (.idx 1 (.t 17) (.t 18)), o 20 (.ld none (.t 19)), mv 21 1, mv 22 5, o 23 (.idx 1 (.t 21) (.t 22)), o 24 (.ld none (.t 23)), bn 25 .neq 20 24]) (.cond (.t 25) (.seq (.reg [o 4 (.mv (.c (.bool false)))]) .ret) .skip))) (.reg [mv 15 5, o 16 (.bin .add (.t 15) (i64 1)), mv 5 16])))))) (.seq (.reg [o 4 (.mv (.c (.bool true)))]) .ret)))
theorem in_keep_Same : Ent 11 26 c_keep_Same [.t 4] := ent Try.func11 rfl rfl rfl (show compile _ 26 _ = _ by kernel_rfl) (show compRes _ 26 _ = _ by kernel_rfl)
def c_keep_CopyInts : AC := .seq (.reg [o 2 (.mv (.c (.sl none 0 0 none)))]) (.seq (.reg [o 3 (.mv (.c (.sl none 0 0 none)))]) (.seq (.seq (.reg [o 4 (.mv (i64 0))]) (.block 0 (.loop (.seq (.seq (.reg [mv 5 4, mv 6 0, o 7 (.len false (.t 6)), bn 8 .lss 5 7]) (.cond (.t 8) .skip (.exit 0))) (.seq (.block 1 (.reg [mv 11 3, mv 12 0, mv 13 4, o 14 (.idx 2 (.t 12) (.t 13)), o 15 (.ld (some 2) (.t 14)), o 16 (.call 52 [.t 15]), o 17 (.bsl 45 2 1 [.sl none 0 0 none, .bool false] [(0, .t 16)]), o 18 (.app 45 2 32 (.t 11) (.t 17)), mv 3 18])) (.reg [mv 9 4, o 10 (.bin .add (.t 9) (i64 1)), mv 4 10])))))) (.seq (.reg [mv 19 3, mv 2 19]) .ret)))
theorem in_keep_CopyInts : Ent 13 20 c_keep_CopyInts [.t 2] := ent Try.func13 rfl rfl rfl (show compile _ 20 _ = _ by kernel_rfl) (show compRes _ 20 _ = _ by kernel_rfl)
def c_keep_Spoil : AC := .seq (.reg [mv 4 0, mv 5 0, o 6 (.capo (.t 5)), o 7 (.slc 1 (.t 4) none (some (.t 6))), mv 2 7]) (.seq (.reg [o 3 (.mv (i64 0))]) (.block 0 (.loop (.seq (.seq (.reg [mv 8 3, mv 9 2, o 10 (.len false (.t 9)), bn 11 .lss 8 10]) (.cond (.t 11) .skip (.exit 0))) (.seq (.block 1 (.reg [mv 14 2, mv 15 3, o 16 (.idx 1 (.t 14) (.t 15)), od (.st 1 (.t 16) (u64 8608480567731124087))])) (.reg [mv 12 3, o 13 (.bin .add (.t 12) (i64 1)), mv 3 13]))))))
theorem in_keep_Spoil : Ent 22 17 c_keep_Spoil [] := ent Try.func22 rfl rfl rfl (show compile _ 17 _ = _ by kernel_rfl) (show compRes _ 17 _ = _ by kernel_rfl)
def c_keep_Ints : AC := .seq (.reg [o 4 (.mv (.c (.bool false)))]) (.seq (.seq (.reg [mv 6 0, o 7 (.len false (.t 6)), mv 8 1, o 9 (.len false (.t 8)), bn 10 .neq 7 9]) (.cond (.t 10) (.seq (.reg [o 4 (.mv (.c (.bool false)))]) .ret) .skip)) (.seq (.seq (.reg [o 5 (.mv (i64 0))]) (.block 0 (.loop (.seq (.seq (.reg [mv 11 5, mv 12 0, o 13 (.len false (.t 12)), bn 14 .lss 11 13]) (.cond (.t 14) .skip (.exit 0))) (.seq (.block 1 (.seq (.reg [mv 17 0, mv 18 5, o 19 (.idx 2 (.t 17) (.t 18)), o 20 (.ld (some 2) (.t 19)), mv 21 1, mv 22 5, o 23 (.idx 2 (.t 21) (.t 22)), o 24 (.ld (some 2) (.t 23)), o 25 (.call 69 [.t 20, .t 24]), o 26 (.un .not (.t 25))]) (.cond (.t 26) (.seq (.reg [o 4 (.mv (.c (.bool false)))]) .ret) .skip))) (.reg [mv 15 5, o 16 (.bin .add (.t 15) (i64 1)), mv 5 16])))))) (.seq (.reg [o 4 (.mv (.c (.bool true)))]) .ret)))
theorem in_keep_Ints : Ent 27 27 c_keep_Ints [.t 4] := ent Try.func27 rfl rfl rfl (show compile _ 27 _ = _ by kernel_rfl) (show compRes _ 27 _ = _ by kernel_rfl)
def c_keep_Cut : AC := .seq (.reg [o 4 (.mv (.c (.sl none 0 0 none)))]) (.seq (.reg [mv 5 0, mv 6 0, o 7 (.len false (.t 6)), mv 8 1, o 9 (.mnx false (.t 7) [.t 8]), o 10 (.slc 1 (.t 5) none (some (.t 9))), mv 4 10]) .ret)
theorem in_keep_Cut : Ent 28 11 c_keep_Cut [.t 4] := ent Try.func28 rfl rfl rfl (show compile _ 11 _ = _ by kernel_rfl) (show compRes _ 11 _ = _ by kernel_rfl)
def c_keep_Lend : AC := .seq (.reg [o 2 (.mv (.c (.sl none 0 0 none)))]) (.seq (.reg [mv 6 0, o 7 (.len false (.t 6)), mv 8 0, o 9 (.len false (.t 8)), o 10 (.bin .add (.t 9) (i64 4)), o 11 (.mk 23 1 8 [.int .u64 0] (.t 7) (.t 10)), mv 3 11]) (.seq (.reg [mv 12 3, mv 13 0, o 14 (.cpy 1 (.t 12) (.t 13))]) (.seq (.reg [mv 15 3, mv 16 0, o 17 (.len false (.t 16)), o 18 (.bin .add (.t 17) (i64 4)), o 19 (.slc 1 (.t 15) none (some (.t 18))), mv 4 19]) (.seq (.seq (.reg [mv 20 0, o 21 (.len false (.t 20)), mv 5 21]) (.block 0 (.loop (.seq (.seq (.reg [mv 22 5, mv 23 4, o 24 (.len false (.t 23)), bn 25 .lss 22 24]) (.cond (.t 25) .skip (.exit 0))) (.seq (.block 1 (.reg [mv 28 4, mv 29 5, o 30 (.idx 1 (.t 28) (.t 29)), od (.st 1 (.t 30) (u64 6148914691236517205))])) (.reg [mv 26 5, o 27 (.bin .add (.t 26) (i64 1)), mv 5 27])))))) (.seq (.reg [mv 31 3, mv 2 31]) .ret)))))
theorem in_keep_Lend : Ent 30 32 c_keep_Lend [.t 2] := ent Try.func30 rfl rfl rfl (show compile _ 32 _ = _ by kernel_rfl) (show compRes _ 32 _ = _ by kernel_rfl)
def c_keep_Intact : AC := .seq (.reg [o 4 (.mv (.c (.bool false)))]) (.seq (.seq (.reg [mv 7 0, o 8 (.len false (.t 7)), mv 9 1, o 10 (.len false (.t 9)), bn 11 .neq 8 10, mv 12 11, og 13 12 false (.mv (.t 0)), og 14 12 false (.capo (.t 13)), og 15 12 false (.mv (.t 1)), og 16 12 false (.len false (.t 15)), og 17 12 false (.bin .add (.t 16) (i64 4)), og 18 12 false (.bin .neq (.t 14) (.t 17)), o 19 (.pick (.t 12) (.c (.bool true)) (.t 18))]) (.cond (.t 19) (.seq (.reg [o 4 (.mv (.c (.bool false)))]) .ret) .skip)) (.seq (.reg [mv 20 0, mv 21 1, o 22 (.len false (.t 21)), o 23 (.bin .add (.t 22) (i64 4)), o 24 (.slc 1 (.t 20) none (some (.t 23))), mv 5 24]) (.seq (.seq (.reg [o 6 (.mv (i64 0))]) (.block 0 (.loop (.seq (.seq (.reg [mv 25 6, mv 26 5, o 27 (.len false (.t 26)), bn 28 .lss 25 27]) (.cond (.t 28) .skip (.exit 0))) (.seq (.block 1 (.seq (.reg [mv 31 6, mv 32 1, o 33 (.len false (.t 32)), bn 34 .lss 31 33, mv 35 34, og 36 35 true (.mv (.t 5)), og 37 35 true (.mv (.t 6)), og 38 35 true (.idx 1 (.t 36) (.t 37)), og 39 35 true (.ld none (.t 38)), og 40 35 true (.mv (.t 1)), og 41 35 true (.mv (.t 6)), og 42 35 true (.idx 1 (.t 40) (.t 41)), og 43 35 true (.ld none (.t 42)), og 44 35 true (.bin .neq (.t 39) (.t 43)), o 45 (.pick (.t 35) (.t 44) (.c (.bool false))), mv 46 45, og 47 46 false (.mv (.t 6)), og 48 46 false (.mv (.t 1)), og 49 46 false (.len false (.t 48)), og 50 46 false (.bin .geq (.t 47) (.t 49)), og 51 46 false (.mv (.t 50)), og 52 51 true (.mv (.t 5)), og 53 51 true (.mv (.t 6)), og 54 51 true (.idx 1 (.t 52) (.t 53)), og 55 51 true (.ld none (.t 54)), og 56 51 true (.bin .neq (.t 55) (u64 6148914691236517205)), og 57 46 false (.pick (.t 51) (.t 56) (.c (.bool false))), o 58 (.pick (.t 46) (.c (.bool true)) (.t 57))]) (.cond (.t 58) (.seq (.reg [o 4 (.mv (.c (.bool false)))]) .ret) .skip))) (.reg [mv 29 6, o 30 (.bin .add (.t 29) (i64 1)), mv 6 30])))))) (.seq (.reg [o 4 (.mv (.c (.bool true)))]) .ret))))
theorem in_keep_Intact : Ent 38 59 c_keep_Intact [.t 4] := ent Try.func38 rfl rfl rfl (show compile _ 59 _ = _ by kernel_rfl) (show compRes _ 59 _ = _ by kernel_rfl)
def c_keep_Within : AC := .seq (.reg [o 4 (.mv (i64 0))]) (.seq (.seq (.reg [mv 6 1, o 7 (.bin .lss (.t 6) (i64 1))]) (.cond (.t 7) (.seq (.reg [o 4 (.mv (i64 0))]) .ret) .skip)) (.seq (.reg [mv 8 0, mv 9 1, bn 10 .rem 8 9, mv 5 10]) (.seq (.seq (.reg [mv 11 5, o 12 (.bin .lss (.t 11) (i64 0))]) (.cond (.t 12) (.reg [mv 13 5, mv 14 1, bn 15 .add 13 14, mv 5 15]) .skip)) (.seq (.reg [mv 16 5, mv 4 16]) .ret))))
theorem in_keep_Within : Ent 39 17 c_keep_Within [.t 4] := ent Try.func39 rfl rfl rfl (show compile _ 17 _ = _ by kernel_rfl) (show compRes _ 17 _ = _ by kernel_rfl)
def c_keep_Cuts : AC := .seq (.reg [o 6 (.mv (.c (.sl none 0 0 none)))]) (.seq (.reg [o 7 (.mv (.c (.sl none 0 0 none)))]) (.seq (.seq (.reg [o 8 (.mv (i64 0))]) (.block 0 (.loop (.seq (.seq (.reg [mv 9 8, mv 10 0, o 11 (.len false (.t 10)), bn 12 .lss 9 11, mv 13 12, og 14 13 true (.mv (.t 8)), og 15 13 true (.mv (.t 1)), og 16 13 true (.bin .lss (.t 14) (.t 15)), o 17 (.pick (.t 13) (.t 16) (.c (.bool false)))]) (.cond (.t 17) .skip (.exit 0))) (.seq (.block 1 (.reg [mv 20 7, mv 21 0, mv 22 8, o 23 (.idx 1 (.t 21) (.t 22)), o 24 (.ld none (.t 23)), mv 25 2, o 26 (.call 28 [.t 24, .t 25]), o 27 (.bsl 28 1 1 [.sl none 0 0 none] [(0, .t 26)]), o 28 (.app 28 1 24 (.t 20) (.t 27)), mv 7 28])) (.reg [mv 18 8, o 19 (.bin .add (.t 18) (i64 1)), mv 8 19])))))) (.seq (.reg [mv 29 7, mv 6 29]) .ret)))
theorem in_keep_Cuts : Ent 40 30 c_keep_Cuts [.t 6] := ent Try.func40 rfl rfl rfl (show compile _ 30 _ = _ by kernel_rfl) (show compRes _ 30 _ = _ by kernel_rfl)
def c_keep_Nats : AC := .seq (.reg [o 2 (.mv (.c (.sl none 0 0 none)))]) (.seq (.reg [o 3 (.mv (.c (.sl none 0 0 none)))]) (.seq (.seq (.reg [o 4 (.mv (i64 0))]) (.block 0 (.loop (.seq (.seq (.reg [mv 5 4, mv 6 0, o 7 (.len false (.t 6)), bn 8 .lss 5 7]) (.cond (.t 8) .skip (.exit 0))) (.seq (.block 1 (.reg [mv 11 3, mv 12 0, mv 13 4, o 14 (.idx 1 (.t 12) (.t 13)), o 15 (.ld none (.t 14)), o 16 (.bsl 43 1 1 [.sl none 0 0 none] [(0, .t 15)]), o 17 (.app 43 1 24 (.t 11) (.t 16)), mv 3 17])) (.reg [mv 9 4, o 10 (.bin .add (.t 9) (i64 1)), mv 4 10])))))) (.seq (.reg [mv 18 3, mv 2 18]) .ret)))
theorem in_keep_Nats : Ent 42 19 c_keep_Nats [.t 2] := ent Try.func42 rfl rfl rfl (show compile _ 19 _ = _ by kernel_rfl) (show compRes _ 19 _ = _ by kernel_rfl)
def c_keep_CutInts : AC := .seq (.reg [o 6 (.mv (.c (.sl none 0 0 none)))]) (.seq (.reg [o 7 (.mv (.c (.sl none 0 0 none)))]) (.seq (.seq (.reg [o 8 (.mv (i64 0))]) (.block 0 (.loop (.seq (.seq (.reg [mv 9 8, mv 10 0, o 11 (.len false (.t 10)), bn 12 .lss 9 11, mv 13 12, og 14 13 true (.mv (.t 8)), og 15 13 true (.mv (.t 1)), og 16 13 true (.bin .lss (.t 14) (.t 15)), o 17 (.pick (.t 13) (.t 16) (.c (.bool false)))]) (.cond (.t 17) .skip (.exit 0))) (.seq (.block 1 (.reg [mv 20 7, mv 21 0, mv 22 8, o 23 (.idx 2 (.t 21) (.t 22)), o 24 (.ld (some 2) (.t 23)), mv 25 2, o 26 (.call 87 [.t 24, .t 25]), o 27 (.bsl 45 2 1 [.sl none 0 0 none, .bool false] [(0, .t 26)]), o 28 (.app 45 2 32 (.t 20) (.t 27)), mv 7 28])) (.reg [mv 18 8, o 19 (.bin .add (.t 18) (i64 1)), mv 8 19])))))) (.seq (.reg [mv 29 7, mv 6 29]) .ret)))
theorem in_keep_CutInts : Ent 44 30 c_keep_CutInts [.t 6] := ent Try.func44 rfl rfl rfl (show compile _ 30 _ = _ by kernel_rfl) (show compRes _ 30 _ = _ by kernel_rfl)
def c_keep_CopyInt : AC := .seq (.reg [o 1 (.box 45 (.t 0)), o 2 (.alloc 45 [.sl none 0 0 none, .bool false])]) (.seq (.reg [o 3 (.fld 0 (.t 1)), o 4 (.ld none (.t 3)), o 6 (.fld 1 (.t 1)), o 7 (.ld none (.t 6)), ⟨some 5, none, .call 93 [.t 4], [(some 7, none, .ld none (.t 6))]⟩, o 8 (.bld [.sl none 0 0 none, .bool false] [(0, 1, .t 5), (1, 1, .t 7)]), od (.st 2 (.t 2) (.t 8))]) .ret)
theorem in_keep_CopyInt : Ent 52 9 c_keep_CopyInt [.c 2 (some 2)] := ent Try.func52 rfl rfl rfl (show compile _ 9 _ = _ by kernel_rfl) (show compRes _ 9 _ = _ by kernel_rfl)
def c_keep_Int : AC := .seq (.reg [o 2 (.box 45 (.t 0)), o 3 (.box 45 (.t 1)), o 4 (.mv (.c (.bool false)))]) (.seq (.reg [o 5 (.fld 1 (.t 2)), o 6 (.ld none (.t 5)), o 7 (.fld 1 (.t 3)), o 8 (.ld none (.t 7)), o 9 (.beq false (.t 6) (.t 8)), mv 10 9, og 11 10 true (.fld 0 (.t 2)), og 12 10 true (.ld none (.t 11)), og 13 10 true (.fld 0 (.t 3)), og 14 10 true (.ld none (.t 13)), og 15 10 true (.call 11 [.t 12, .t 14]), o 16 (.pick (.t 10) (.t 15) (.c (.bool false))), mv 4 16]) .ret)
theorem in_keep_Int : Ent 69 17 c_keep_Int [.t 4] := ent Try.func69 rfl rfl rfl (show compile _ 17 _ = _ by kernel_rfl) (show compRes _ 17 _ = _ by kernel_rfl)
def c_keep_CutInt : AC := .seq (.reg [o 2 (.box 45 (.t 0)), o 4 (.alloc 45 [.sl none 0 0 none, .bool false])]) (.seq (.reg [o 5 (.fld 0 (.t 2)), o 6 (.ld none (.t 5)), mv 7 1, o 9 (.fld 1 (.t 2)), o 10 (.ld none (.t 9)), ⟨some 8, none, .call 28 [.t 6, .t 7], [(some 10, none, .ld none (.t 9))]⟩, o 11 (.bld [.sl none 0 0 none, .bool false] [(0, 1, .t 8), (1, 1, .t 10)]), od (.st 2 (.t 4) (.t 11))]) .ret)
theorem in_keep_CutInt : Ent 87 12 c_keep_CutInt [.c 4 (some 2)] := ent Try.func87 rfl rfl rfl (show compile _ 12 _ = _ by kernel_rfl) (show compRes _ 12 _ = _ by kernel_rfl)
def c_keep_Copy : AC := .seq (.reg [o 2 (.mv (.c (.sl none 0 0 none)))]) (.seq (.reg [mv 3 0, o 4 (.app 23 1 8 (.c (.sl none 0 0 none)) (.t 3)), mv 2 4]) .ret)
theorem in_keep_Copy : Ent 93 5 c_keep_Copy [.t 2] := ent Try.func93 rfl rfl rfl (show compile _ 5 _ = _ by kernel_rfl) (show compRes _ 5 _ = _ by kernel_rfl)
end Ab
end Go.Proofs.Ytnmnkocibjdhjaa
namespace Go.Proofs.Ytnmnkocibjdhjaa
namespace Ab
open Go

def c_table_New : AC := .seq (.reg [o 1 (.box 50 (.t 0)), o 2 (.mv (.c (.ptr none)))]) (.seq (.reg [o 3 (.ld (some 11) (.t 1)), o 4 (.call 127 [.t 3]), o 5 (.bld [.int .i64 0, .int .i64 0, .int .i64 0, .int .i64 0, .int .i64 0, .int .i64 0, .int .i64 0, .int .i64 0, .int .i64 0, .int .i64 0, .int .i64 0, .int .i64 0, .int .i64 0, .int .i64 0] [(3, 11, .t 4)]), o 6 (.box 82 (.t 5)), mv 2 6]) .ret)
theorem in_table_New : Ent 125 7 c_table_New [.t 2] := ent Try.func125 rfl rfl rfl (show compile _ 7 _ = _ by kernel_rfl) (show compRes _ 7 _ = _ by kernel_rfl)
def c_table_Clamp : AC := .seq (.reg [o 1 (.box 50 (.t 0)), o 2 (.alloc 50 [.int .i64 0, .int .i64 0, .int .i64 0, .int .i64 0, .int .i64 0, .int .i64 0, .int .i64 0, .int .i64 0, .int .i64 0, .int .i64 0, .int .i64 0])]) (.seq (.reg [o 3 (.fld 0 (.t 1)), o 4 (.ld none (.t 3)), o 6 (.fld 1 (.t 1)), o 7 (.ld none (.t 6)), o 9 (.fld 2 (.t 1)), o 10 (.ld none (.t 9)), o 12 (.fld 3 (.t 1)), o 13 (.ld none (.t 12)), o 15 (.fld 4 (.t 1)), o 16 (.ld none (.t 15)), o 18 (.fld 5 (.t 1)), o 19 (.ld none (.t 18)), o 21 (.fld 6 (.t 1)), o 22 (.ld none (.t 21)), o 24 (.fld 7 (.t 1)), o 25 (.ld none (.t 24)), o 27 (.fld 8 (.t 1)), o 28 (.ld none (.t 27)), o 30 (.fld 9 (.t 1)), o 31 (.ld none (.t 30)), o 33 (.fld 10 (.t 1)), o 34 (.ld none (.t 33)), ⟨some 5, none, .call 129 [.t 4, i64 4, i64 64], [(some 7, none, .ld none (.t 6)), (some 10, none, .ld none (.t 9)), (some 13, none, .ld none (.t 12)), (some 16, none, .ld none (.t 15)), (some 19, none, .ld none (.t 18)), (some 22, none, .ld none (.t 21)), (some 25, none, .ld none (.t 24)), (some 28, none, .ld none (.t 27)), (some 31, none, .ld none (.t 30)), (some 34, none, .ld none (.t 33))]⟩, ⟨some 8, none, .call 129 [.t 7, i64 12, i64 8192], [(some 10, none, .ld none (.t 9)), (some 13, none, .ld none (.t 12)), (some 16, none, .ld none (.t 15)), (some 19, none, .ld none (.t 18)), (some 22, none, .ld none (.t 21)), (some 25, none, .ld none (.t 24)), (some 28, none, .ld none (.t 27)), (some 31, none, .ld none (.t 30)), (some 34, none, .ld none (.t 33))]⟩, ⟨some 11, none, .call 129 [.t 10, i64 64, i64 16384], [(some 13, none, .ld none (.t 12)), (some 16, none, .ld none (.t 15)), (some 19, none, .ld none (.t 18)), (some 22, none, .ld none (.t 21)), (some 25, none, .ld none (.t 24)), (some 28, none, .ld none (.t 27)), (some 31, none, .ld none (.t 30)), (some 34, none, .ld none (.t 33))]⟩, ⟨some 14, none, .call 129 [.t 13, i64 4, i64 1024], [(some 16, none, .ld none (.t 15)), (some 19, none, .ld none (.t 18)), (some 22, none, .ld none (.t 21)), (some 25, none, .ld none (.t 24)), (some 28, none, .ld none (.t 27)), (some 31, none, .ld none (.t 30)), (some 34, none, .ld none (.t 33))]⟩, ⟨some 17, none, .call 129 [.t 16, i64 4, i64 4096], [(some 19, none, .ld none (.t 18)), (some 22, none, .ld none (.t 21)), (some 25, none, .ld none (.t 24)), (some 28, none, .ld none (.t 27)), (some 31, none, .ld none (.t 30)), (some 34, none, .ld none (.t 33))]⟩, ⟨some 20, none, .call 129 [.t 19, i64 2, i64 1024], [(some 22, none, .ld none (.t 21)), (some 25, none, .ld none (.t 24)), (some 28, none, .ld none (.t 27)), (some 31, none, .ld none (.t 30)), (some 34, none, .ld none (.t 33))]⟩, ⟨some 23, none, .call 129 [.t 22, i64 2, i64 1024], [(some 25, none, .ld none (.t 24)), (some 28, none, .ld none (.t 27)), (some 31, none, .ld none (.t 30)), (some 34, none, .ld none (.t 33))]⟩, ⟨some 26, none, .call 129 [.t 25, i64 4, i64 256], [(some 28, none, .ld none (.t 27)), (some 31, none, .ld none (.t 30)), (some 34, none, .ld none (.t 33))]⟩, ⟨some 29, none, .call 129 [.t 28, i64 4, i64 1024], [(some 31, none, .ld none (.t 30)), (some 34, none, .ld none (.t 33))]⟩, ⟨some 32, none, .call 129 [.t 31, i64 2, i64 1024], [(some 34, none, .ld none (.t 33))]⟩, o 35 (.call 129 [.t 34, i64 2, i64 256]), o 36 (.bld [.int .i64 0, .int .i64 0, .int .i64 0, .int .i64 0, .int .i64 0, .int .i64 0, .int .i64 0, .int .i64 0, .int .i64 0, .int .i64 0, .int .i64 0] [(0, 1, .t 5), (1, 1, .t 8), (2, 1, .t 11), (3, 1, .t 14), (4, 1, .t 17), (5, 1, .t 20), (6, 1, .t 23), (7, 1, .t 26), (8, 1, .t 29), (9, 1, .t 32), (10, 1, .t 35)]), od (.st 11 (.t 2) (.t 36))]) .ret)
theorem in_table_Clamp : Ent 127 37 c_table_Clamp [.c 2 (some 11)] := ent Try.func127 rfl rfl rfl (show compile _ 37 _ = _ by kernel_rfl) (show compRes _ 37 _ = _ by kernel_rfl)
def c_table_within : AC := .seq (.reg [o 6 (.mv (i64 0))]) (.seq (.reg [mv 7 1, mv 8 0, mv 9 2, o 10 (.mnx false (.t 8) [.t 9]), o 11 (.mnx true (.t 7) [.t 10]), mv 6 11]) .ret)
theorem in_table_within : Ent 129 12 c_table_within [.t 6] := ent Try.func129 rfl rfl rfl (show compile _ 12 _ = _ by kernel_rfl) (show compRes _ 12 _ = _ by kernel_rfl)
def c_meter_Meter_Muls : AC := .seq (.reg [o 2 (.mv (i64 0))]) (.seq (.reg [mv 3 0, o 4 (.nn (.t 3)), o 5 (.fld 0 (.t 4)), o 6 (.ld none (.t 5)), mv 2 6]) .ret)
theorem in_meter_Meter_Muls : Ent 37 7 c_meter_Meter_Muls [.t 2] := ent Try.func37 rfl rfl rfl (show compile _ 7 _ = _ by kernel_rfl) (show compRes _ 7 _ = _ by kernel_rfl)
def c_meter_Meter_Spend : AC := .seq (.reg [o 4 (.mv (i64 0))]) (.seq (.seq (.reg [mv 5 1, o 6 (.bin .gtr (.t 5) (i64 0))]) (.cond (.t 6) (.reg [mv 7 0, mv 8 0, o 9 (.nn (.t 8)), o 10 (.fld 0 (.t 9)), o 11 (.ld none (.t 10)), mv 12 1, bn 13 .add 11 12, o 14 (.nn (.t 7)), o 15 (.fld 0 (.t 14)), od (.st 1 (.t 15) (.t 13))]) .skip)) (.seq (.reg [mv 16 0, o 17 (.nn (.t 16)), o 18 (.fld 0 (.t 17)), o 19 (.ld none (.t 18)), mv 4 19]) .ret))
theorem in_meter_Meter_Spend : Ent 73 20 c_meter_Meter_Spend [.t 4] := ent Try.func73 rfl rfl rfl (show compile _ 20 _ = _ by kernel_rfl) (show compRes _ 20 _ = _ by kernel_rfl)
end Ab
end Go.Proofs.Ytnmnkocibjdhjaa
namespace Go.Proofs.Ytnmnkocibjdhjaa
namespace Ab
open Go

def c_limb_Norm : AC := .seq (.reg [o 2 (.mv (.c (.sl none 0 0 none)))]) (.seq (.reg [mv 3 0, o 4 (.call 108 [.t 3]), o 5 (.app 23 1 8 (.c (.sl none 0 0 none)) (.t 4)), mv 2 5]) .ret)
theorem in_limb_Norm : Ent 72 6 c_limb_Norm [.t 2] := ent Try.func72 rfl rfl rfl (show compile _ 6 _ = _ by kernel_rfl) (show compRes _ 6 _ = _ by kernel_rfl)
def c_limb_DivWord : AC := .seq (.reg [o 4 (.mv (.c (.sl none 0 0 none))), o 5 (.mv (u64 0)), o 6 (.mv (i64 0))]) (.seq (.seq (.reg [mv 10 1, o 11 (.bin .eql (.t 10) (u64 0))]) (.cond (.t 11) (.seq (.reg [o 4 (.mv (.c (.sl none 0 0 none))), o 5 (.mv (u64 0)), o 6 (.mv (i64 2))]) .ret) .skip)) (.seq (.reg [mv 12 0, o 13 (.call 108 [.t 12]), mv 0 13]) (.seq (.reg [mv 14 0, o 15 (.len false (.t 14)), o 16 (.mk 23 1 8 [.int .u64 0] (.t 15) (.t 15)), mv 7 16]) (.seq (.reg [o 8 (.mv (u64 0))]) (.seq (.seq (.reg [mv 17 0, o 18 (.len false (.t 17)), o 19 (.bin .sub (.t 18) (i64 1)), mv 9 19]) (.block 0 (.loop (.seq (.seq (.reg [mv 20 9, o 21 (.bin .geq (.t 20) (i64 0))]) (.cond (.t 21) .skip (.exit 0))) (.seq (.block 1 (.reg [mv 25 7, mv 26 9, mv 27 8, mv 28 0, mv 29 9, o 30 (.idx 1 (.t 28) (.t 29)), o 31 (.ld none (.t 30)), mv 32 1, o 33 (.call 109 [.t 27, .t 31, .t 32]), mv 24 33, o 34 (.ext (.t 24) 0), o 35 (.ext (.t 24) 1), o 36 (.idx 1 (.t 25) (.t 26)), od (.st 1 (.t 36) (.t 34)), mv 8 35])) (.reg [mv 22 9, o 23 (.bin .sub (.t 22) (i64 1)), mv 9 23])))))) (.seq (.reg [mv 37 7, o 38 (.call 108 [.t 37]), mv 39 8, mv 4 38, mv 5 39, o 6 (.mv (i64 0))]) .ret))))))
theorem in_limb_DivWord : Ent 74 40 c_limb_DivWord [.t 4, .t 5, .t 6] := ent Try.func74 rfl rfl rfl (show compile _ 40 _ = _ by kernel_rfl) (show compRes _ 40 _ = _ by kernel_rfl)
def c_limb_One : AC := .seq (.reg [o 2 (.mv (.c (.sl none 0 0 none)))]) (.seq (.seq (.reg [mv 3 0, o 4 (.bin .eql (.t 3) (u64 0))]) (.cond (.t 4) (.seq (.reg [o 2 (.mv (.c (.sl none 0 0 none)))]) .ret) .skip)) (.seq (.reg [mv 5 0, o 6 (.bsl 23 1 1 [.int .u64 0] [(0, .t 5)]), mv 2 6]) .ret))
theorem in_limb_One : Ent 75 7 c_limb_One [.t 2] := ent Try.func75 rfl rfl rfl (show compile _ 7 _ = _ by kernel_rfl) (show compRes _ 7 _ = _ by kernel_rfl)
def c_limb_Shl : AC := .seq (.reg [o 4 (.mv (.c (.sl none 0 0 none)))]) (.seq (.reg [mv 10 1, o 11 (.call 110 [.t 10, i64 1048576]), mv 1 11]) (.seq (.reg [mv 12 0, o 13 (.call 108 [.t 12]), mv 0 13]) (.seq (.seq (.reg [mv 14 0, o 15 (.len false (.t 14)), o 16 (.bin .eql (.t 15) (i64 0))]) (.cond (.t 16) (.seq (.reg [o 4 (.mv (.c (.sl none 0 0 none)))]) .ret) .skip)) (.seq (.reg [mv 17 1, o 18 (.bin .quo (.t 17) (i64 64)), mv 19 1, o 20 (.bin .rem (.t 19) (i64 64)), o 21 (.cvI .u64 (.t 20)), mv 5 18, mv 6 21]) (.seq (.reg [mv 22 0, o 23 (.len false (.t 22)), mv 24 5, bn 25 .add 23 24, o 26 (.bin .add (.t 25) (i64 1)), o 27 (.mk 23 1 8 [.int .u64 0] (.t 26) (.t 26)), mv 7 27]) (.seq (.seq (.reg [mv 28 0, o 29 (.len false (.t 28)), o 30 (.mv (i64 0))]) (.block 0 (.loop (.seq (.reg [bn 31 .lss 30 29]) (.seq (.cond (.t 31) .skip (.exit 0)) (.seq (.block 1 (.seq (.reg [mv 32 30, o 33 (.idx 1 (.t 28) (.t 30)), o 34 (.ld none (.t 33)), mv 8 32, mv 9 34]) (.seq (.reg [mv 35 7, mv 36 8, mv 37 5, bn 38 .add 36 37, mv 39 7, mv 40 8, mv 41 5, bn 42 .add 40 41, o 43 (.idx 1 (.t 39) (.t 42)), o 44 (.ld none (.t 43)), mv 45 9, mv 46 6, bn 47 .shl 45 46, bn 48 .or 44 47, o 49 (.idx 1 (.t 35) (.t 38)), od (.st 1 (.t 49) (.t 48))]) (.seq (.reg [mv 50 6, o 51 (.bin .gtr (.t 50) (u64 0))]) (.cond (.t 51) (.reg [mv 52 7, mv 53 8, mv 54 5, bn 55 .add 53 54, o 56 (.bin .add (.t 55) (i64 1)), mv 57 9, mv 58 6, o 59 (.bin .sub (u64 64) (.t 58)), bn 60 .shr 57 59, o 61 (.idx 1 (.t 52) (.t 56)), od (.st 1 (.t 61) (.t 60))]) .skip))))) (.reg [o 62 (.bin .add (.t 30) (i64 1)), mv 30 62]))))))) (.seq (.reg [mv 63 7, o 64 (.call 108 [.t 63]), mv 4 64]) .ret)))))))
theorem in_limb_Shl : Ent 77 65 c_limb_Shl [.t 4] := ent Try.func77 rfl rfl rfl (show compile _ 65 _ = _ by kernel_rfl) (show compRes _ 65 _ = _ by kernel_rfl)
def c_limb_Shr : AC := .seq (.reg [o 4 (.mv (.c (.sl none 0 0 none)))]) (.seq (.reg [mv 9 1, o 10 (.call 110 [.t 9, i64 1048576]), mv 1 10]) (.seq (.reg [mv 11 0, o 12 (.call 108 [.t 11]), mv 0 12]) (.seq (.reg [mv 13 1, o 14 (.bin .quo (.t 13) (i64 64)), mv 15 1, o 16 (.bin .rem (.t 15) (i64 64)), o 17 (.cvI .u64 (.t 16)), mv 5 14, mv 6 17]) (.seq (.seq (.reg [mv 18 5, mv 19 0, o 20 (.len false (.t 19)), bn 21 .geq 18 20]) (.cond (.t 21) (.seq (.reg [o 4 (.mv (.c (.sl none 0 0 none)))]) .ret) .skip)) (.seq (.reg [mv 22 0, o 23 (.len false (.t 22)), mv 24 5, bn 25 .sub 23 24, o 26 (.mk 23 1 8 [.int .u64 0] (.t 25) (.t 25)), mv 7 26]) (.seq (.seq (.reg [mv 27 7, o 28 (.len false (.t 27)), o 29 (.mv (i64 0))]) (.block 0 (.loop (.seq (.reg [bn 30 .lss 29 28]) (.seq (.cond (.t 30) .skip (.exit 0)) (.seq (.block 1 (.seq (.reg [mv 31 29, mv 8 31]) (.seq (.reg [mv 32 7, mv 33 8, mv 34 0, mv 35 8, mv 36 5, bn 37 .add 35 36, o 38 (.idx 1 (.t 34) (.t 37)), o 39 (.ld none (.t 38)), mv 40 6, bn 41 .shr 39 40, o 42 (.idx 1 (.t 32) (.t 33)), od (.st 1 (.t 42) (.t 41))]) (.seq (.reg [mv 43 6, o 44 (.bin .gtr (.t 43) (u64 0)), mv 45 44, og 46 45 true (.mv (.t 8)), og 47 45 true (.mv (.t 5)), og 48 45 true (.bin .add (.t 46) (.t 47)), og 49 45 true (.bin .add (.t 48) (i64 1)), og 50 45 true (.mv (.t 0)), og 51 45 true (.len false (.t 50)), og 52 45 true (.bin .lss (.t 49) (.t 51)), o 53 (.pick (.t 45) (.t 52) (.c (.bool false)))]) (.cond (.t 53) (.reg [mv 54 7, mv 55 8, mv 56 7, mv 57 8, o 58 (.idx 1 (.t 56) (.t 57)), o 59 (.ld none (.t 58)), mv 60 0, mv 61 8, mv 62 5, bn 63 .add 61 62, o 64 (.bin .add (.t 63) (i64 1)), o 65 (.idx 1 (.t 60) (.t 64)), o 66 (.ld none (.t 65)), mv 67 6, o 68 (.bin .sub (u64 64) (.t 67)), bn 69 .shl 66 68, bn 70 .or 59 69, o 71 (.idx 1 (.t 54) (.t 55)), od (.st 1 (.t 71) (.t 70))]) .skip))))) (.reg [o 72 (.bin .add (.t 29) (i64 1)), mv 29 72]))))))) (.seq (.reg [mv 73 7, o 74 (.call 108 [.t 73]), mv 4 74]) .ret)))))))
theorem in_limb_Shr : Ent 80 75 c_limb_Shr [.t 4] := ent Try.func80 rfl rfl rfl (show compile _ 75 _ = _ by kernel_rfl) (show compRes _ 75 _ = _ by kernel_rfl)
def c_limb_Add : AC := .seq (.reg [o 4 (.mv (.c (.sl none 0 0 none)))]) (.seq (.reg [mv 9 0, o 10 (.call 108 [.t 9]), mv 11 1, o 12 (.call 108 [.t 11]), mv 0 10, mv 1 12]) (.seq (.seq (.reg [mv 13 0, o 14 (.len false (.t 13)), mv 15 1, o 16 (.len false (.t 15)), bn 17 .lss 14 16]) (.cond (.t 17) (.reg [mv 18 1, mv 19 0, mv 0 18, mv 1 19]) .skip)) (.seq (.reg [mv 20 0, o 21 (.len false (.t 20)), o 22 (.bin .add (.t 21) (i64 1)), o 23 (.mk 23 1 8 [.int .u64 0] (.t 22) (.t 22)), mv 5 23]) (.seq (.reg [o 6 (.mv (u64 0))]) (.seq (.seq (.reg [mv 24 0, o 25 (.len false (.t 24)), o 26 (.mv (i64 0))]) (.block 0 (.loop (.seq (.reg [bn 27 .lss 26 25]) (.seq (.cond (.t 27) .skip (.exit 0)) (.seq (.block 1 (.seq (.reg [mv 28 26, mv 7 28]) (.seq (.reg [o 8 (.mv (u64 0))]) (.seq (.seq (.reg [mv 29 7, mv 30 1, o 31 (.len false (.t 30)), bn 32 .lss 29 31]) (.cond (.t 32) (.reg [mv 33 1, mv 34 7, o 35 (.idx 1 (.t 33) (.t 34)), o 36 (.ld none (.t 35)), mv 8 36]) .skip)) (.reg [mv 38 5, mv 39 7, mv 40 0, mv 41 7, o 42 (.idx 1 (.t 40) (.t 41)), o 43 (.ld none (.t 42)), mv 44 8, mv 45 6, o 46 (.call 114 [.t 43, .t 44, .t 45]), mv 37 46, o 47 (.ext (.t 37) 0), o 48 (.ext (.t 37) 1), o 49 (.idx 1 (.t 38) (.t 39)), od (.st 1 (.t 49) (.t 47)), mv 6 48]))))) (.reg [o 50 (.bin .add (.t 26) (i64 1)), mv 26 50]))))))) (.seq (.reg [mv 51 5, mv 52 0, o 53 (.len false (.t 52)), mv 54 6, o 55 (.idx 1 (.t 51) (.t 53)), od (.st 1 (.t 55) (.t 54))]) (.seq (.reg [mv 56 5, o 57 (.call 108 [.t 56]), mv 4 57]) .ret)))))))
theorem in_limb_Add : Ent 94 58 c_limb_Add [.t 4] := ent Try.func94 rfl rfl rfl (show compile _ 58 _ = _ by kernel_rfl) (show compRes _ 58 _ = _ by kernel_rfl)
def c_limb_Sub : AC := .seq (.reg [o 4 (.mv (.c (.sl none 0 0 none))), o 5 (.mv (.c (.bool false)))]) (.seq (.reg [mv 10 0, o 11 (.call 108 [.t 10]), mv 12 1, o 13 (.call 108 [.t 12]), mv 0 11, mv 1 13]) (.seq (.seq (.reg [mv 14 0, mv 15 1, o 16 (.call 105 [.t 14, .t 15]), o 17 (.bin .lss (.t 16) (i64 0))]) (.cond (.t 17) (.seq (.reg [o 4 (.mv (.c (.sl none 0 0 none))), o 5 (.mv (.c (.bool false)))]) .ret) .skip)) (.seq (.reg [mv 18 0, o 19 (.len false (.t 18)), o 20 (.mk 23 1 8 [.int .u64 0] (.t 19) (.t 19)), mv 6 20]) (.seq (.reg [o 7 (.mv (u64 0))]) (.seq (.seq (.reg [mv 21 0, o 22 (.len false (.t 21)), o 23 (.mv (i64 0))]) (.block 0 (.loop (.seq (.reg [bn 24 .lss 23 22]) (.seq (.cond (.t 24) .skip (.exit 0)) (.seq (.block 1 (.seq (.reg [mv 25 23, mv 8 25]) (.seq (.reg [o 9 (.mv (u64 0))]) (.seq (.seq (.reg [mv 26 8, mv 27 1, o 28 (.len false (.t 27)), bn 29 .lss 26 28]) (.cond (.t 29) (.reg [mv 30 1, mv 31 8, o 32 (.idx 1 (.t 30) (.t 31)), o 33 (.ld none (.t 32)), mv 9 33]) .skip)) (.reg [mv 35 6, mv 36 8, mv 37 0, mv 38 8, o 39 (.idx 1 (.t 37) (.t 38)), o 40 (.ld none (.t 39)), mv 41 9, mv 42 7, o 43 (.call 115 [.t 40, .t 41, .t 42]), mv 34 43, o 44 (.ext (.t 34) 0), o 45 (.ext (.t 34) 1), o 46 (.idx 1 (.t 35) (.t 36)), od (.st 1 (.t 46) (.t 44)), mv 7 45]))))) (.reg [o 47 (.bin .add (.t 23) (i64 1)), mv 23 47]))))))) (.seq (.reg [mv 48 6, o 49 (.call 108 [.t 48]), mv 4 49, o 5 (.mv (.c (.bool true)))]) .ret))))))
theorem in_limb_Sub : Ent 95 50 c_limb_Sub [.t 4, .t 5] := ent Try.func95 rfl rfl rfl (show compile _ 50 _ = _ by kernel_rfl) (show compRes _ 50 _ = _ by kernel_rfl)
def c_limb_MulWord : AC := .seq (.reg [o 4 (.mv (.c (.sl none 0 0 none)))]) (.seq (.reg [mv 5 0, mv 6 1, o 7 (.call 119 [.c (.sl none 0 0 none), .t 5, .t 6]), mv 4 7]) .ret)
theorem in_limb_MulWord : Ent 103 8 c_limb_MulWord [.t 4] := ent Try.func103 rfl rfl rfl (show compile _ 8 _ = _ by kernel_rfl) (show compRes _ 8 _ = _ by kernel_rfl)
def c_limb_Cmp : AC := .seq (.reg [o 4 (.mv (i64 0))]) (.seq (.reg [mv 8 0, o 9 (.call 71 [.t 8]), mv 10 1, o 11 (.call 71 [.t 10]), mv 5 9, mv 6 11]) (.seq (.seq (.reg [mv 12 5, mv 13 6, bn 14 .neq 12 13]) (.cond (.t 14) (.seq (.seq (.reg [mv 15 5, mv 16 6, bn 17 .lss 15 16]) (.cond (.t 17) (.seq (.reg [o 4 (.mv (i64 (-1)))]) .ret) .skip)) (.seq (.reg [o 4 (.mv (i64 1))]) .ret)) .skip)) (.seq (.seq (.reg [mv 18 5, o 19 (.bin .sub (.t 18) (i64 1)), mv 7 19]) (.block 0 (.loop (.seq (.seq (.reg [mv 20 7, o 21 (.bin .geq (.t 20) (i64 0))]) (.cond (.t 21) .skip (.exit 0))) (.seq (.block 1 (.seq (.reg [mv 24 0, mv 25 7, o 26 (.idx 1 (.t 24) (.t 25)), o 27 (.ld none (.t 26)), mv 28 1, mv 29 7, o 30 (.idx 1 (.t 28) (.t 29)), o 31 (.ld none (.t 30)), bn 32 .neq 27 31]) (.cond (.t 32) (.seq (.seq (.reg [mv 33 0, mv 34 7, o 35 (.idx 1 (.t 33) (.t 34)), o 36 (.ld none (.t 35)), mv 37 1, mv 38 7, o 39 (.idx 1 (.t 37) (.t 38)), o 40 (.ld none (.t 39)), bn 41 .lss 36 40]) (.cond (.t 41) (.seq (.reg [o 4 (.mv (i64 (-1)))]) .ret) .skip)) (.seq (.reg [o 4 (.mv (i64 1))]) .ret)) .skip))) (.reg [mv 22 7, o 23 (.bin .sub (.t 22) (i64 1)), mv 7 23])))))) (.seq (.reg [o 4 (.mv (i64 0))]) .ret))))
theorem in_limb_Cmp : Ent 105 42 c_limb_Cmp [.t 4] := ent Try.func105 rfl rfl rfl (show compile _ 42 _ = _ by kernel_rfl) (show compRes _ 42 _ = _ by kernel_rfl)
def c_limb_trim : AC := .seq (.reg [o 2 (.mv (.c (.sl none 0 0 none)))]) (.seq (.reg [mv 3 0, mv 4 0, o 5 (.call 71 [.t 4]), o 6 (.slc 1 (.t 3) none (some (.t 5))), mv 2 6]) .ret)
theorem in_limb_trim : Ent 108 7 c_limb_trim [.t 2] := ent Try.func108 rfl rfl rfl (show compile _ 7 _ = _ by kernel_rfl) (show compRes _ 7 _ = _ by kernel_rfl)
def c_limb_within : AC := .seq (.reg [o 4 (.mv (i64 0))]) (.seq (.reg [mv 5 0, mv 6 1, o 7 (.mnx false (.t 5) [.t 6]), o 8 (.mnx true (i64 0) [.t 7]), mv 4 8]) .ret)
theorem in_limb_within : Ent 110 9 c_limb_within [.t 4] := ent Try.func110 rfl rfl rfl (show compile _ 9 _ = _ by kernel_rfl) (show compRes _ 9 _ = _ by kernel_rfl)
def c_limb_AddMul : AC := .seq (.reg [o 6 (.mv (.c (.sl none 0 0 none)))]) (.seq (.reg [mv 14 0, o 15 (.call 108 [.t 14]), mv 16 1, o 17 (.call 108 [.t 16]), mv 0 15, mv 1 17]) (.seq (.reg [mv 18 0, o 19 (.len false (.t 18)), mv 20 1, o 21 (.len false (.t 20)), o 22 (.bin .add (.t 21) (i64 1)), o 23 (.mnx true (.t 19) [.t 22]), o 24 (.bin .add (.t 23) (i64 1)), o 25 (.mk 23 1 8 [.int .u64 0] (.t 24) (.t 24)), mv 7 25]) (.seq (.reg [mv 26 7, mv 27 0, o 28 (.cpy 1 (.t 26) (.t 27))]) (.seq (.reg [o 8 (.mv (u64 0))]) (.seq (.seq (.reg [mv 29 7, o 30 (.len false (.t 29)), o 31 (.mv (i64 0))]) (.block 0 (.loop (.seq (.reg [bn 32 .lss 31 30]) (.seq (.cond (.t 32) .skip (.exit 0)) (.seq (.block 1 (.seq (.reg [mv 33 31, mv 9 33]) (.seq (.seq (.reg [mv 34 9, mv 35 1, o 36 (.len false (.t 35)), bn 37 .geq 34 36, mv 38 37, og 39 38 true (.mv (.t 8)), og 40 38 true (.bin .eql (.t 39) (u64 0)), o 41 (.pick (.t 38) (.t 40) (.c (.bool false)))]) (.cond (.t 41) (.exit 0) .skip)) (.seq (.reg [o 10 (.mv (u64 0)), o 11 (.mv (u64 0))]) (.seq (.seq (.reg [mv 42 9, mv 43 1, o 44 (.len false (.t 43)), bn 45 .lss 42 44]) (.cond (.t 45) (.reg [mv 47 1, mv 48 9, o 49 (.idx 1 (.t 47) (.t 48)), o 50 (.ld none (.t 49)), mv 51 2, o 52 (.call 112 [.t 50, .t 51]), mv 46 52, o 53 (.ext (.t 46) 0), o 54 (.ext (.t 46) 1), mv 10 53, mv 11 54]) .skip)) (.seq (.reg [mv 56 11, mv 57 8, o 58 (.call 114 [.t 56, .t 57, u64 0]), mv 55 58, o 59 (.ext (.t 55) 0), o 60 (.ext (.t 55) 1), mv 12 59, mv 13 60]) (.seq (.reg [mv 61 10, mv 62 13, bn 63 .add 61 62, mv 10 63]) (.seq (.reg [mv 65 7, mv 66 9, mv 67 7, mv 68 9, o 69 (.idx 1 (.t 67) (.t 68)), o 70 (.ld none (.t 69)), mv 71 12, o 72 (.call 114 [.t 70, .t 71, u64 0]), mv 64 72, o 73 (.ext (.t 64) 0), o 74 (.ext (.t 64) 1), o 75 (.idx 1 (.t 65) (.t 66)), od (.st 1 (.t 75) (.t 73)), mv 13 74]) (.reg [mv 76 10, mv 77 13, bn 78 .add 76 77, mv 8 78]))))))))) (.reg [o 79 (.bin .add (.t 31) (i64 1)), mv 31 79]))))))) (.seq (.reg [mv 80 7, o 81 (.call 108 [.t 80]), mv 6 81]) .ret))))))
theorem in_limb_AddMul : Ent 119 82 c_limb_AddMul [.t 6] := ent Try.func119 rfl rfl rfl (show compile _ 82 _ = _ by kernel_rfl) (show compRes _ 82 _ = _ by kernel_rfl)
def c_api_Nat_Bits : AC := .seq (.reg [o 2 (.mv (i64 0))]) (.seq (.reg [mv 4 0, o 5 (.call 71 [.t 4]), mv 3 5]) (.seq (.seq (.reg [mv 6 3, o 7 (.bin .eql (.t 6) (i64 0))]) (.cond (.t 7) (.seq (.reg [o 2 (.mv (i64 0))]) .ret) .skip)) (.seq (.reg [mv 8 3, o 9 (.bin .sub (.t 8) (i64 1)), o 10 (.bin .mul (i64 64) (.t 9)), mv 11 0, mv 12 3, o 13 (.bin .sub (.t 12) (i64 1)), o 14 (.idx 1 (.t 11) (.t 13)), o 15 (.ld none (.t 14)), o 16 (.call 106 [.t 15]), bn 17 .add 10 16, mv 2 17]) .ret)))
theorem in_api_Nat_Bits : Ent 67 18 c_api_Nat_Bits [.t 2] := ent Try.func67 rfl rfl rfl (show compile _ 18 _ = _ by kernel_rfl) (show compRes _ 18 _ = _ by kernel_rfl)
def c_api_Nat_Len : AC := .seq (.reg [o 2 (.mv (i64 0))]) (.seq (.reg [mv 4 0, o 5 (.len false (.t 4)), mv 3 5]) (.seq (.block 0 (.loop (.seq (.seq (.reg [mv 6 3, o 7 (.bin .gtr (.t 6) (i64 0)), mv 8 7, og 9 8 true (.mv (.t 0)), og 10 8 true (.mv (.t 3)), og 11 8 true (.bin .sub (.t 10) (i64 1)), og 12 8 true (.idx 1 (.t 9) (.t 11)), og 13 8 true (.ld none (.t 12)), og 14 8 true (.bin .eql (.t 13) (u64 0)), o 15 (.pick (.t 8) (.t 14) (.c (.bool false)))]) (.cond (.t 15) .skip (.exit 0))) (.block 1 (.reg [mv 16 3, o 17 (.bin .sub (.t 16) (i64 1)), mv 3 17]))))) (.seq (.reg [mv 18 3, mv 2 18]) .ret)))
theorem in_api_Nat_Len : Ent 71 19 c_api_Nat_Len [.t 2] := ent Try.func71 rfl rfl rfl (show compile _ 19 _ = _ by kernel_rfl) (show compRes _ 19 _ = _ by kernel_rfl)
def c_api_Nat_Zero : AC := .seq (.reg [o 2 (.mv (.c (.bool false)))]) (.seq (.reg [mv 3 0, o 4 (.call 71 [.t 3]), o 5 (.bin .eql (.t 4) (i64 0)), mv 2 5]) .ret)
theorem in_api_Nat_Zero : Ent 86 6 c_api_Nat_Zero [.t 2] := ent Try.func86 rfl rfl rfl (show compile _ 6 _ = _ by kernel_rfl) (show compRes _ 6 _ = _ by kernel_rfl)
def c_api_Int_Sign : AC := .seq (.reg [o 1 (.box 45 (.t 0)), o 2 (.mv (i64 0))]) (.seq (.block 0 (.seq (.reg [o 4 (.fld 0 (.t 1)), o 5 (.ld none (.t 4)), o 6 (.call 86 [.t 5]), mv 3 6]) (.cond (.t 3) (.seq (.reg [o 2 (.mv (i64 0))]) .ret) (.seq (.reg [o 8 (.fld 1 (.t 1)), o 9 (.ld none (.t 8)), mv 7 9]) (.cond (.t 7) (.seq (.reg [o 2 (.mv (i64 (-1)))]) .ret) .skip))))) (.seq (.reg [o 2 (.mv (i64 1))]) .ret))
theorem in_api_Int_Sign : Ent 104 10 c_api_Int_Sign [.t 2] := ent Try.func104 rfl rfl rfl (show compile _ 10 _ = _ by kernel_rfl) (show compRes _ 10 _ = _ by kernel_rfl)
def c_num_Of : AC := .seq (.reg [o 2 (.alloc 45 [.sl none 0 0 none, .bool false])]) (.seq (.seq (.reg [mv 3 0, o 4 (.bin .lss (.t 3) (i64 0))]) (.cond (.t 4) (.seq (.reg [mv 5 0, o 6 (.cvI .u64 (.t 5)), o 7 (.un .neg (.t 6)), o 8 (.call 75 [.t 7]), o 9 (.call 90 [.t 8, .c (.bool true)]), od (.st 2 (.t 2) (.t 9))]) .ret) .skip)) (.seq (.reg [mv 10 0, o 11 (.cvI .u64 (.t 10)), o 12 (.call 75 [.t 11]), o 13 (.call 90 [.t 12, .c (.bool false)]), od (.st 2 (.t 2) (.t 13))]) .ret))
theorem in_num_Of : Ent 48 14 c_num_Of [.c 2 (some 2)] := ent Try.func48 rfl rfl rfl (show compile _ 14 _ = _ by kernel_rfl) (show compRes _ 14 _ = _ by kernel_rfl)
def c_num_Add : AC := .seq (.reg [o 2 (.box 45 (.t 0)), o 3 (.box 45 (.t 1)), o 4 (.alloc 45 [.sl none 0 0 none, .bool false])]) (.seq (.seq (.reg [o 9 (.fld 1 (.t 2)), o 10 (.ld none (.t 9)), o 11 (.fld 1 (.t 3)), o 12 (.ld none (.t 11)), o 13 (.beq false (.t 10) (.t 12))]) (.cond (.t 13) (.seq (.reg [o 14 (.fld 0 (.t 2)), o 15 (.ld none (.t 14)), o 16 (.fld 0 (.t 3)), o 17 (.ld none (.t 16)), o 19 (.fld 1 (.t 2)), o 20 (.ld none (.t 19)), ⟨some 18, none, .call 94 [.t 15, .t 17], [(some 20, none, .ld none (.t 19))]⟩, o 21 (.call 90 [.t 18, .t 20]), od (.st 2 (.t 4) (.t 21))]) .ret) .skip)) (.seq (.seq (.reg [o 23 (.fld 0 (.t 2)), o 24 (.ld none (.t 23)), o 25 (.fld 0 (.t 3)), o 26 (.ld none (.t 25)), o 27 (.call 95 [.t 24, .t 26]), mv 22 27, o 28 (.ext (.t 22) 0), o 29 (.ext (.t 22) 1), mv 5 28, mv 6 29]) (.seq (.reg [mv 30 6]) (.cond (.t 30) (.seq (.reg [mv 31 5, o 32 (.fld 1 (.t 2)), o 33 (.ld none (.t 32)), o 34 (.call 90 [.t 31, .t 33]), od (.st 2 (.t 4) (.t 34))]) .ret) .skip))) (.seq (.reg [o 36 (.fld 0 (.t 3)), o 37 (.ld none (.t 36)), o 38 (.fld 0 (.t 2)), o 39 (.ld none (.t 38)), o 40 (.call 95 [.t 37, .t 39]), mv 35 40, o 41 (.ext (.t 35) 0), o 42 (.ext (.t 35) 1), mv 7 41, mv 8 42]) (.seq (.reg [mv 43 7, o 44 (.fld 1 (.t 3)), o 45 (.ld none (.t 44)), o 46 (.call 90 [.t 43, .t 45]), od (.st 2 (.t 4) (.t 46))]) .ret))))
theorem in_num_Add : Ent 53 47 c_num_Add [.c 4 (some 2)] := ent Try.func53 rfl rfl rfl (show compile _ 47 _ = _ by kernel_rfl) (show compRes _ 47 _ = _ by kernel_rfl)
def c_num_Sub : AC := .seq (.reg [o 2 (.box 45 (.t 0)), o 3 (.box 45 (.t 1)), o 4 (.alloc 45 [.sl none 0 0 none, .bool false])]) (.seq (.reg [o 5 (.ld (some 2) (.t 2)), o 6 (.fld 0 (.t 3)), o 7 (.ld none (.t 6)), o 8 (.fld 1 (.t 3)), o 9 (.ld none (.t 8)), o 10 (.un .not (.t 9)), o 11 (.bld [.sl none 0 0 none, .bool false] [(0, 1, .t 7), (1, 1, .t 10)]), o 12 (.call 53 [.t 5, .t 11]), od (.st 2 (.t 4) (.t 12))]) .ret)
theorem in_num_Sub : Ent 60 13 c_num_Sub [.c 4 (some 2)] := ent Try.func60 rfl rfl rfl (show compile _ 13 _ = _ by kernel_rfl) (show compRes _ 13 _ = _ by kernel_rfl)
def c_num_Norm : AC := .seq (.reg [o 1 (.box 45 (.t 0)), o 2 (.alloc 45 [.sl none 0 0 none, .bool false])]) (.seq (.reg [o 3 (.fld 0 (.t 1)), o 4 (.ld none (.t 3)), o 6 (.fld 1 (.t 1)), o 7 (.ld none (.t 6)), ⟨some 5, none, .call 72 [.t 4], [(some 7, none, .ld none (.t 6))]⟩, o 8 (.call 90 [.t 5, .t 7]), od (.st 2 (.t 2) (.t 8))]) .ret)
theorem in_num_Norm : Ent 62 9 c_num_Norm [.c 2 (some 2)] := ent Try.func62 rfl rfl rfl (show compile _ 9 _ = _ by kernel_rfl) (show compRes _ 9 _ = _ by kernel_rfl)
def c_num_Cmp : AC := .seq (.reg [o 2 (.box 45 (.t 0)), o 3 (.box 45 (.t 1)), o 4 (.mv (i64 0))]) (.seq (.reg [o 8 (.ld (some 2) (.t 2)), o 10 (.ld (some 2) (.t 3)), ⟨some 9, none, .call 104 [.t 8], [(some 10, none, .ld (some 2) (.t 3))]⟩, o 11 (.call 104 [.t 10]), mv 5 9, mv 6 11]) (.seq (.seq (.reg [mv 12 5, mv 13 6, bn 14 .neq 12 13]) (.cond (.t 14) (.seq (.seq (.reg [mv 15 5, mv 16 6, bn 17 .lss 15 16]) (.cond (.t 17) (.seq (.reg [o 4 (.mv (i64 (-1)))]) .ret) .skip)) (.seq (.reg [o 4 (.mv (i64 1))]) .ret)) .skip)) (.seq (.reg [o 18 (.fld 0 (.t 2)), o 19 (.ld none (.t 18)), o 20 (.fld 0 (.t 3)), o 21 (.ld none (.t 20)), o 22 (.call 105 [.t 19, .t 21]), mv 7 22]) (.seq (.seq (.reg [mv 23 5, o 24 (.bin .lss (.t 23) (i64 0))]) (.cond (.t 24) (.seq (.reg [mv 25 7, o 26 (.un .neg (.t 25)), mv 4 26]) .ret) .skip)) (.seq (.reg [mv 27 7, mv 4 27]) .ret)))))
theorem in_num_Cmp : Ent 66 28 c_num_Cmp [.t 4] := ent Try.func66 rfl rfl rfl (show compile _ 28 _ = _ by kernel_rfl) (show compRes _ 28 _ = _ by kernel_rfl)
def c_num_made : AC := .seq (.reg [o 4 (.alloc 45 [.sl none 0 0 none, .bool false])]) (.seq (.reg [mv 5 0, mv 6 1, mv 7 6, og 8 7 true (.mv (.t 0)), og 9 7 true (.call 86 [.t 8]), og 10 7 true (.un .not (.t 9)), o 11 (.pick (.t 7) (.t 10) (.c (.bool false))), o 12 (.bld [.sl none 0 0 none, .bool false] [(0, 1, .t 5), (1, 1, .t 11)]), od (.st 2 (.t 4) (.t 12))]) .ret)
theorem in_num_made : Ent 90 13 c_num_made [.c 4 (some 2)] := ent Try.func90 rfl rfl rfl (show compile _ 13 _ = _ by kernel_rfl) (show compRes _ 13 _ = _ by kernel_rfl)
def c_num_New : AC := .seq (.reg [o 1 (.box 50 (.t 0)), o 2 (.mv (.c (.ptr none)))]) (.seq (.reg [o 3 (.ld (some 11) (.t 1)), o 4 (.call 128 [.t 3]), o 5 (.bld [.ptr none] [(0, 1, .t 4)]), o 6 (.box 189 (.t 5)), mv 2 6]) .ret)
theorem in_num_New : Ent 126 7 c_num_New [.t 2] := ent Try.func126 rfl rfl rfl (show compile _ 7 _ = _ by kernel_rfl) (show compRes _ 7 _ = _ by kernel_rfl)
def c_ref17_Add : AC := .seq (.reg [o 2 (.box 103 (.t 0)), o 3 (.box 103 (.t 1)), o 4 (.alloc 103 [.sl none 0 0 none, .bool false])]) (.seq (.seq (.reg [o 5 (.fld 1 (.t 2)), o 6 (.ld none (.t 5)), o 7 (.fld 1 (.t 3)), o 8 (.ld none (.t 7)), o 9 (.beq false (.t 6) (.t 8))]) (.cond (.t 9) (.seq (.reg [o 10 (.fld 0 (.t 2)), o 11 (.ld none (.t 10)), o 12 (.fld 0 (.t 3)), o 13 (.ld none (.t 12)), o 15 (.fld 1 (.t 2)), o 16 (.ld none (.t 15)), ⟨some 14, none, .call 98 [.t 11, .t 13], [(some 16, none, .ld none (.t 15))]⟩, o 17 (.call 97 [.t 14, .t 16]), od (.st 2 (.t 4) (.t 17))]) .ret) .skip)) (.seq (.seq (.reg [o 18 (.fld 0 (.t 2)), o 19 (.ld none (.t 18)), o 20 (.fld 0 (.t 3)), o 21 (.ld none (.t 20)), o 22 (.call 81 [.t 19, .t 21]), o 23 (.bin .geq (.t 22) (i64 0))]) (.cond (.t 23) (.seq (.reg [o 24 (.fld 0 (.t 2)), o 25 (.ld none (.t 24)), o 26 (.fld 0 (.t 3)), o 27 (.ld none (.t 26)), o 29 (.fld 1 (.t 2)), o 30 (.ld none (.t 29)), ⟨some 28, none, .call 99 [.t 25, .t 27], [(some 30, none, .ld none (.t 29))]⟩, o 31 (.call 97 [.t 28, .t 30]), od (.st 2 (.t 4) (.t 31))]) .ret) .skip)) (.seq (.reg [o 32 (.fld 0 (.t 3)), o 33 (.ld none (.t 32)), o 34 (.fld 0 (.t 2)), o 35 (.ld none (.t 34)), o 37 (.fld 1 (.t 3)), o 38 (.ld none (.t 37)), ⟨some 36, none, .call 99 [.t 33, .t 35], [(some 38, none, .ld none (.t 37))]⟩, o 39 (.call 97 [.t 36, .t 38]), od (.st 2 (.t 4) (.t 39))]) .ret)))
theorem in_ref17_Add : Ent 56 40 c_ref17_Add [.c 4 (some 2)] := ent Try.func56 rfl rfl rfl (show compile _ 40 _ = _ by kernel_rfl) (show compRes _ 40 _ = _ by kernel_rfl)
def c_ref17_Sub : AC := .seq (.reg [o 2 (.box 103 (.t 0)), o 3 (.box 103 (.t 1)), o 4 (.alloc 103 [.sl none 0 0 none, .bool false])]) (.seq (.reg [o 5 (.ld (some 2) (.t 2)), o 6 (.ld (some 2) (.t 3)), ⟨some 7, none, .call 101 [.t 6], [(some 5, none, .ld (some 2) (.t 2))]⟩, o 8 (.call 56 [.t 5, .t 7]), od (.st 2 (.t 4) (.t 8))]) .ret)
theorem in_ref17_Sub : Ent 59 9 c_ref17_Sub [.c 4 (some 2)] := ent Try.func59 rfl rfl rfl (show compile _ 9 _ = _ by kernel_rfl) (show compRes _ 9 _ = _ by kernel_rfl)
def c_ref17_Mul : AC := .seq (.reg [o 2 (.box 103 (.t 0)), o 3 (.box 103 (.t 1)), o 4 (.alloc 103 [.sl none 0 0 none, .bool false])]) (.seq (.reg [o 5 (.fld 0 (.t 2)), o 6 (.ld none (.t 5)), o 7 (.fld 0 (.t 3)), o 8 (.ld none (.t 7)), o 10 (.fld 1 (.t 2)), o 11 (.ld none (.t 10)), o 12 (.fld 1 (.t 3)), o 13 (.ld none (.t 12)), o 14 (.beq true (.t 11) (.t 13)), ⟨some 9, none, .call 102 [.t 6, .t 8], [(some 11, none, .ld none (.t 10)), (some 13, none, .ld none (.t 12))]⟩, o 15 (.call 97 [.t 9, .t 14]), od (.st 2 (.t 4) (.t 15))]) .ret)
theorem in_ref17_Mul : Ent 63 16 c_ref17_Mul [.c 4 (some 2)] := ent Try.func63 rfl rfl rfl (show compile _ 16 _ = _ by kernel_rfl) (show compRes _ 16 _ = _ by kernel_rfl)
def c_ref17_Small : AC := .seq (.reg [o 2 (.alloc 103 [.sl none 0 0 none, .bool false])]) (.seq (.seq (.reg [mv 3 0, o 4 (.bin .lss (.t 3) (i64 0))]) (.cond (.t 4) (.seq (.reg [mv 5 0, o 6 (.un .neg (.t 5)), o 7 (.cvI .u64 (.t 6)), o 8 (.call 51 [.t 7]), o 9 (.call 97 [.t 8, .c (.bool true)]), od (.st 2 (.t 2) (.t 9))]) .ret) .skip)) (.seq (.reg [mv 10 0, o 11 (.cvI .u64 (.t 10)), o 12 (.call 51 [.t 11]), o 13 (.call 97 [.t 12, .c (.bool false)]), od (.st 2 (.t 2) (.t 13))]) .ret))
theorem in_ref17_Small : Ent 64 14 c_ref17_Small [.c 2 (some 2)] := ent Try.func64 rfl rfl rfl (show compile _ 14 _ = _ by kernel_rfl) (show compRes _ 14 _ = _ by kernel_rfl)
def c_ref17_From : AC := .seq (.reg [o 1 (.box 45 (.t 0)), o 2 (.alloc 103 [.sl none 0 0 none, .bool false])]) (.seq (.reg [o 3 (.fld 0 (.t 1)), o 4 (.ld none (.t 3)), o 6 (.fld 1 (.t 1)), o 7 (.ld none (.t 6)), ⟨some 5, none, .call 85 [.t 4], [(some 7, none, .ld none (.t 6))]⟩, o 8 (.call 97 [.t 5, .t 7]), od (.st 2 (.t 2) (.t 8))]) .ret)
theorem in_ref17_From : Ent 88 9 c_ref17_From [.c 2 (some 2)] := ent Try.func88 rfl rfl rfl (show compile _ 9 _ = _ by kernel_rfl) (show compRes _ 9 _ = _ by kernel_rfl)
def c_ref17_Euclid : AC := .seq (.reg [o 2 (.box 103 (.t 0)), o 3 (.box 103 (.t 1)), o 4 (.alloc 103 [.sl none 0 0 none, .bool false]), o 5 (.alloc 103 [.sl none 0 0 none, .bool false])]) (.seq (.reg [o 9 (.ld (some 2) (.t 2)), o 10 (.ld (some 2) (.t 3)), o 11 (.call 117 [.t 9, .t 10]), mv 8 11, o 12 (.ext (.t 8) 0), o 13 (.ext (.t 8) 1), o 6 (.alloc 103 [.sl none 0 0 none, .bool false]), o 7 (.alloc 103 [.sl none 0 0 none, .bool false]), od (.st 2 (.t 6) (.t 12)), od (.st 2 (.t 7) (.t 13))]) (.seq (.seq (.reg [o 14 (.fld 1 (.t 7)), o 15 (.ld none (.t 14)), o 16 (.un .not (.t 15))]) (.cond (.t 16) (.seq (.reg [o 17 (.ld (some 2) (.t 6)), o 18 (.ld (some 2) (.t 7)), ⟨none, none, .st 2 (.t 4) (.t 17), [(some 18, none, .ld (some 2) (.t 7))]⟩, od (.st 2 (.t 5) (.t 18))]) .ret) .skip)) (.seq (.seq (.reg [o 19 (.fld 1 (.t 3)), o 20 (.ld none (.t 19))]) (.cond (.t 20) (.seq (.reg [o 21 (.ld (some 2) (.t 6)), o 24 (.ld (some 2) (.t 7)), o 25 (.ld (some 2) (.t 3)), ⟨some 22, none, .call 64 [i64 1], [(some 21, none, .ld (some 2) (.t 6)), (some 24, none, .ld (some 2) (.t 7)), (some 25, none, .ld (some 2) (.t 3))]⟩, ⟨some 23, none, .call 56 [.t 21, .t 22], [(some 24, none, .ld (some 2) (.t 7)), (some 25, none, .ld (some 2) (.t 3))]⟩, o 26 (.call 59 [.t 24, .t 25]), od (.st 2 (.t 4) (.t 23)), od (.st 2 (.t 5) (.t 26))]) .ret) .skip)) (.seq (.reg [o 27 (.ld (some 2) (.t 6)), o 30 (.ld (some 2) (.t 7)), o 31 (.ld (some 2) (.t 3)), ⟨some 28, none, .call 64 [i64 1], [(some 27, none, .ld (some 2) (.t 6)), (some 30, none, .ld (some 2) (.t 7)), (some 31, none, .ld (some 2) (.t 3))]⟩, ⟨some 29, none, .call 59 [.t 27, .t 28], [(some 30, none, .ld (some 2) (.t 7)), (some 31, none, .ld (some 2) (.t 3))]⟩, o 32 (.call 56 [.t 30, .t 31]), od (.st 2 (.t 4) (.t 29)), od (.st 2 (.t 5) (.t 32))]) .ret))))
theorem in_ref17_Euclid : Ent 91 33 c_ref17_Euclid [.c 4 (some 2), .c 5 (some 2)] := ent Try.func91 rfl rfl rfl (show compile _ 33 _ = _ by kernel_rfl) (show compRes _ 33 _ = _ by kernel_rfl)
def c_ref17_Nat : AC := .seq (.reg [o 2 (.alloc 103 [.sl none 0 0 none, .bool false])]) (.seq (.reg [mv 3 0, o 4 (.bld [.sl none 0 0 none, .bool false] [(0, 1, .t 3), (1, 1, .c (.bool false))]), od (.st 2 (.t 2) (.t 4))]) .ret)
theorem in_ref17_Nat : Ent 92 5 c_ref17_Nat [.c 2 (some 2)] := ent Try.func92 rfl rfl rfl (show compile _ 5 _ = _ by kernel_rfl) (show compRes _ 5 _ = _ by kernel_rfl)
def c_ref17_To : AC := .seq (.reg [o 1 (.box 103 (.t 0)), o 2 (.alloc 45 [.sl none 0 0 none, .bool false])]) (.seq (.reg [o 3 (.fld 0 (.t 1)), o 4 (.ld none (.t 3)), o 6 (.fld 1 (.t 1)), o 7 (.ld none (.t 6)), ⟨some 5, none, .call 49 [.t 4], [(some 7, none, .ld none (.t 6))]⟩, o 8 (.bld [.sl none 0 0 none, .bool false] [(0, 1, .t 5), (1, 1, .t 7)]), od (.st 2 (.t 2) (.t 8))]) .ret)
theorem in_ref17_To : Ent 96 9 c_ref17_To [.c 2 (some 2)] := ent Try.func96 rfl rfl rfl (show compile _ 9 _ = _ by kernel_rfl) (show compRes _ 9 _ = _ by kernel_rfl)
def c_ref17_made : AC := .seq (.reg [o 4 (.alloc 103 [.sl none 0 0 none, .bool false])]) (.seq (.reg [mv 5 0, mv 6 1, mv 7 6, og 8 7 true (.mv (.t 0)), og 9 7 true (.call 118 [.t 8]), og 10 7 true (.un .not (.t 9)), o 11 (.pick (.t 7) (.t 10) (.c (.bool false))), o 12 (.bld [.sl none 0 0 none, .bool false] [(0, 1, .t 5), (1, 1, .t 11)]), od (.st 2 (.t 4) (.t 12))]) .ret)
theorem in_ref17_made : Ent 97 13 c_ref17_made [.c 4 (some 2)] := ent Try.func97 rfl rfl rfl (show compile _ 13 _ = _ by kernel_rfl) (show compRes _ 13 _ = _ by kernel_rfl)
def c_ref17_Zero : AC := .seq (.reg [o 1 (.box 103 (.t 0)), o 2 (.mv (.c (.bool false)))]) (.seq (.reg [o 3 (.fld 0 (.t 1)), o 4 (.ld none (.t 3)), o 5 (.call 118 [.t 4]), mv 2 5]) .ret)
theorem in_ref17_Zero : Ent 100 6 c_ref17_Zero [.t 2] := ent Try.func100 rfl rfl rfl (show compile _ 6 _ = _ by kernel_rfl) (show compRes _ 6 _ = _ by kernel_rfl)
def c_ref17_Neg : AC := .seq (.reg [o 1 (.box 103 (.t 0)), o 2 (.alloc 103 [.sl none 0 0 none, .bool false])]) (.seq (.reg [o 3 (.fld 0 (.t 1)), o 4 (.ld none (.t 3)), o 5 (.fld 1 (.t 1)), o 6 (.ld none (.t 5)), o 7 (.un .not (.t 6)), o 8 (.call 97 [.t 4, .t 7]), od (.st 2 (.t 2) (.t 8))]) .ret)
theorem in_ref17_Neg : Ent 101 9 c_ref17_Neg [.c 2 (some 2)] := ent Try.func101 rfl rfl rfl (show compile _ 9 _ = _ by kernel_rfl) (show compRes _ 9 _ = _ by kernel_rfl)
def c_ref17_Trunc : AC := .seq (.reg [o 2 (.box 103 (.t 0)), o 3 (.box 103 (.t 1)), o 4 (.alloc 103 [.sl none 0 0 none, .bool false]), o 5 (.alloc 103 [.sl none 0 0 none, .bool false])]) (.seq (.reg [o 9 (.fld 0 (.t 2)), o 10 (.ld none (.t 9)), o 11 (.fld 0 (.t 3)), o 12 (.ld none (.t 11)), o 13 (.call 34 [.t 10, .t 12]), mv 8 13, o 14 (.ext (.t 8) 0), o 15 (.ext (.t 8) 1), mv 6 14, mv 7 15]) (.seq (.reg [mv 16 6, o 17 (.fld 1 (.t 2)), o 18 (.ld none (.t 17)), o 19 (.fld 1 (.t 3)), o 20 (.ld none (.t 19)), o 21 (.beq true (.t 18) (.t 20)), mv 23 7, o 24 (.fld 1 (.t 2)), o 25 (.ld none (.t 24)), ⟨some 22, none, .call 97 [.t 16, .t 21], [(some 25, none, .ld none (.t 24))]⟩, o 26 (.call 97 [.t 23, .t 25]), od (.st 2 (.t 4) (.t 22)), od (.st 2 (.t 5) (.t 26))]) .ret))
theorem in_ref17_Trunc : Ent 117 27 c_ref17_Trunc [.c 4 (some 2), .c 5 (some 2)] := ent Try.func117 rfl rfl rfl (show compile _ 27 _ = _ by kernel_rfl) (show compRes _ 27 _ = _ by kernel_rfl)
end Ab
end Go.Proofs.Ytnmnkocibjdhjaa
namespace Go.Proofs.Ytnmnkocibjdhjaa
namespace Ab
open Go Go.RowKit

theorem wI {n : Int} (h1 : -9223372036854775808 ≤ n) (h2 : n < 9223372036854775808) : IntKind.i64.wrap n = n := by rw [IntKind.wrap_i64]; omega
theorem wU {n : Int} (h1 : 0 ≤ n) (h2 : n < 18446744073709551616) : IntKind.u64.wrap n = n := by rw [IntKind.wrap_u64]; omega
theorem wUm {n : Int} : IntKind.u64.wrap n = n % 18446744073709551616 := IntKind.wrap_u64 n
theorem tmodN {a : Nat} {b : Nat} : ((a : Int)).tmod (b : Int) = ((a % b : Nat) : Int) := by rw [Int.tmod_eq_emod_of_nonneg (by omega)]; rfl
theorem tdivN {a : Nat} {b : Nat} : ((a : Int)).tdiv (b : Int) = ((a / b : Nat) : Int) := by rw [Int.tdiv_eq_ediv_of_nonneg (by omega)]; rfl
theorem tmodL {a : Nat} {b : Nat} [NeZero b] : ((a : Int)).tmod (OfNat.ofNat b : Int) = ((a % b : Nat) : Int) := tmodN
theorem tdivL {a : Nat} {b : Nat} [NeZero b] : ((a : Int)).tdiv (OfNat.ofNat b : Int) = ((a / b : Nat) : Int) := tdivN
theorem bandN {a b : Nat} (ha : a < 18446744073709551616) (hb : b < 18446744073709551616) : IntKind.u64.wrap ((BitVec.ofInt IntKind.u64.bits (a : Int) &&& BitVec.ofInt IntKind.u64.bits (b : Int)).toNat : Int) = ((a &&& b : Nat) : Int) := by
  have e1 : (BitVec.ofInt IntKind.u64.bits (a : Int) &&& BitVec.ofInt IntKind.u64.bits (b : Int)).toNat = a &&& b := by
    rw [BitVec.toNat_and, BitVec.toNat_ofInt, BitVec.toNat_ofInt]
    show ((a : Int) % 18446744073709551616).toNat &&& ((b : Int) % 18446744073709551616).toNat = _
    rw [show ((a : Int) % 18446744073709551616).toNat = a from by omega, show ((b : Int) % 18446744073709551616).toNat = b from by omega]
  rw [e1]
  exact wU (by omega) (by have := Nat.and_lt_two_pow (n := 64) a (y := b) (by omega); omega)
theorem borN {a b : Nat} (ha : a < 18446744073709551616) (hb : b < 18446744073709551616) : IntKind.u64.wrap ((BitVec.ofInt IntKind.u64.bits (a : Int) ||| BitVec.ofInt IntKind.u64.bits (b : Int)).toNat : Int) = ((a ||| b : Nat) : Int) := by
  have e1 : (BitVec.ofInt IntKind.u64.bits (a : Int) ||| BitVec.ofInt IntKind.u64.bits (b : Int)).toNat = a ||| b := by
    rw [BitVec.toNat_or, BitVec.toNat_ofInt, BitVec.toNat_ofInt]
    show ((a : Int) % 18446744073709551616).toNat ||| ((b : Int) % 18446744073709551616).toNat = _
    rw [show ((a : Int) % 18446744073709551616).toNat = a from by omega, show ((b : Int) % 18446744073709551616).toNat = b from by omega]
  rw [e1]
  exact wU (by omega) (by have := Nat.or_lt_two_pow (n := 64) (x := a) (y := b) (by omega) (by omega); omega)

/-- The number that digits say, the lowest first. -/
def val (B : Nat) : List Nat → Nat
  | [] => 0
  | x :: xs => x + B * val B xs
theorem val_append (B : Nat) (xs ys : List Nat) : val B (xs ++ ys) = val B xs + B ^ xs.length * val B ys := by
  induction xs with
  | nil => simp [val]
  | cons x xs ih =>
    simp only [List.cons_append, val, ih, List.length_cons, Nat.pow_succ, Nat.mul_add]
    rw [Nat.mul_comm (B ^ xs.length) B, Nat.mul_assoc, Nat.add_assoc]
theorem val_snoc (B : Nat) (xs : List Nat) (y : Nat) : val B (xs ++ [y]) = val B xs + B ^ xs.length * y := by simp [val_append, val]
theorem val_zero (B : Nat) (xs : List Nat) (h : ∀ x ∈ xs, x = 0) : val B xs = 0 := by
  induction xs with
  | nil => rfl
  | cons x xs ih => simp [val, h x (by simp), ih (fun y hy => h y (by simp [hy]))]
theorem val_cut (B : Nat) (xs : List Nat) (k : Nat) (h : k ≤ xs.length) : val B xs = val B (xs.take k) + B ^ k * val B (xs.drop k) := by
  rw [← List.take_append_drop k xs, val_append]
  simp [Nat.min_eq_left h]
theorem val_take (B : Nat) (xs : List Nat) (k : Nat) (h : ∀ x ∈ xs.drop k, x = 0) : val B (xs.take k) = val B xs := by
  conv => rhs; rw [← List.take_append_drop k xs, val_append, val_zero B _ h]
  simp
theorem val_take_succ (B : Nat) (xs : List Nat) (k : Nat) (h : k < xs.length) : val B (xs.take (k + 1)) = val B (xs.take k) + B ^ k * xs[k] := by
  rw [List.take_succ_eq_append_getElem h, val_snoc]
  simp [Nat.min_eq_left (Nat.le_of_lt h)]
theorem val_lt (B : Nat) (_ : 0 < B) (xs : List Nat) (h : ∀ x ∈ xs, x < B) : val B xs < B ^ xs.length := by
  induction xs with
  | nil => simp [val]
  | cons x xs ih =>
    have h1 := h x (by simp)
    have h2 := ih (fun y hy => h y (by simp [hy]))
    simp only [val, List.length_cons, Nat.pow_succ]
    rw [Nat.mul_comm _ B]
    calc x + B * val B xs < B + B * val B xs := by omega
      _ = B * (val B xs + 1) := by rw [Nat.mul_add]; omega
      _ ≤ B * B ^ xs.length := Nat.mul_le_mul_left _ h2
theorem val_lt_take (B : Nat) (hB : 0 < B) (xs : List Nat) (h : ∀ x ∈ xs, x < B) (k : Nat) : val B (xs.take k) < B ^ k := by
  have h1 := val_lt B hB (xs.take k) (fun x hx => h x (List.mem_of_mem_take hx))
  refine Nat.lt_of_lt_of_le h1 (Nat.pow_le_pow_right hB ?_)
  simp; omega
/-- The same number has the same digits. -/
theorem val_inj (B : Nat) (hB : 0 < B) : ∀ (xs ys : List Nat), xs.length = ys.length → (∀ x ∈ xs, x < B) → (∀ x ∈ ys, x < B) → val B xs = val B ys → xs = ys
  | [], [], _, _, _, _ => rfl
  | [], _ :: _, h, _, _, _ => by simp at h
  | _ :: _, [], h, _, _, _ => by simp at h
  | x :: xs, y :: ys, h, h1, h2, h3 => by
    simp only [val] at h3
    have hx := h1 x (by simp)
    have hy := h2 y (by simp)
    have e1 : x = y := by
      have := congrArg (· % B) h3
      simpa [Nat.add_mul_mod_self_left, Nat.mod_eq_of_lt hx, Nat.mod_eq_of_lt hy] using this
    subst e1
    have e2 : val B xs = val B ys := Nat.eq_of_mul_eq_mul_left hB (by omega)
    rw [val_inj B hB xs ys (by simpa using h) (fun z hz => h1 z (by simp [hz])) (fun z hz => h2 z (by simp [hz])) e2]

/-- A slice that reads as these naturals. -/
def IsN (h : H) (v : AV) (xs : List Nat) : Prop := IsW .u64 h v (xs.map fun n : Nat => (n : Int))
theorem IsN.mono {h h' : H} {v : AV} {xs : List Nat} (hv : IsN h v xs) (hl : h.le h') : IsN h' v xs := IsW.mono hv hl
theorem IsN.form {h : H} {v : AV} {xs : List Nat} (hv : IsN h v xs) : ∃ id off c, v = .sl id off xs.length c := by
  obtain ⟨id, off, c, e⟩ := IsW.form hv
  exact ⟨id, off, c, by simpa using e⟩
theorem IsN.at {h : H} {id : Option Nat} {off n : Nat} {c : Option Nat} {xs : List Nat} (hv : IsN h (.sl id off n c) xs) {j : Nat} (hj : j < xs.length) : ∃ i, id = some i ∧ n = xs.length ∧ h.get i (off + j) = some (.int .u64 (xs[j] : Nat)) := by
  obtain ⟨i, e1, e2, e3⟩ := IsW.at hv (j := j) (by simpa using hj)
  exact ⟨i, e1, by simpa using e2, by simpa using e3⟩
theorem IsN.row {h : H} {id : Option Nat} {off n : Nat} {c : Option Nat} {xs : List Nat} (hv : IsN h (.sl id off n c) xs) : ∀ i, id = some i → ∃ r, h.rows i = some r ∧ (r.own = none ∨ r.esz = 1) := IsW.row hv
theorem IsN.cut {h : H} {id : Option Nat} {off n : Nat} {c c' : Option Nat} {xs : List Nat} (hv : IsN h (.sl id off n c) xs) {a b : Nat} (hab : a ≤ b) (hb : b ≤ xs.length) : IsN h (.sl id (off + a) (b - a) c') ((xs.take b).drop a) := by
  have := IsW.cut (c' := c') hv hab (by simpa using hb)
  unfold IsN
  rw [List.map_drop, List.map_take]
  exact this
theorem IsN.take {h : H} {id : Option Nat} {off n : Nat} {c c' : Option Nat} {xs : List Nat} (hv : IsN h (.sl id off n c) xs) {b : Nat} (hb : b ≤ xs.length) : IsN h (.sl id off b c') (xs.take b) := by
  have := IsN.cut (c' := c') hv (Nat.zero_le b) hb
  simpa using this
theorem IsN.nil (h : H) (c : Option Nat) : IsN h (.sl none 0 0 c) [] := IsW.nil _ _ _
def IsG (b : Nat) (h : H) (v : AV) (xs : List Nat) : Prop := IsF 23 .u64 b h v (xs.map fun n : Nat => (n : Int))

/-- A slice that reads as this number: digits to the base B, none on top that is nought. -/
def Num (B : Nat) (h : H) (v : AV) (n : Nat) : Prop := ∃ xs, IsN h v xs ∧ (∀ x ∈ xs, x < B) ∧ (∀ x, xs.getLast? = some x → x ≠ 0) ∧ val B xs = n
theorem Num.mono {B : Nat} {h h' : H} {v : AV} {n : Nat} (hv : Num B h v n) (hl : h.le h') : Num B h' v n := by
  obtain ⟨xs, h1, h2⟩ := hv
  exact ⟨xs, h1.mono hl, h2⟩
/-- How many digits a number has. -/
theorem val_ge (B : Nat) (xs : List Nat) (h : ∀ x, xs.getLast? = some x → x ≠ 0) (h0 : xs ≠ []) : B ^ (xs.length - 1) ≤ val B xs := by
  rcases List.eq_nil_or_concat xs with rfl | ⟨ys, y, rfl⟩
  · exact absurd rfl h0
  · have hy := h y (by simp)
    rw [List.concat_eq_append, val_snoc]
    simp only [List.length_append, List.length_cons, List.length_nil]
    have : B ^ ys.length * 1 ≤ B ^ ys.length * y := Nat.mul_le_mul_left _ (by omega)
    simp only [Nat.mul_one] at this
    show B ^ (ys.length + 1 - 1) ≤ _
    rw [Nat.add_sub_cancel]
    omega
theorem digits_le (B : Nat) (hB : 1 < B) {xs : List Nat} (h : ∀ x, xs.getLast? = some x → x ≠ 0) {k : Nat} (hk : val B xs < B ^ k) : xs.length ≤ k := by
  by_cases h0 : xs = []
  · subst h0; simp
  · have h1 := val_ge B xs h h0
    have h2 : B ^ (xs.length - 1) < B ^ k := by omega
    have h3 := (Nat.pow_lt_pow_iff_right hB).1 h2
    omega
theorem digits_lt_iff (B : Nat) (hB : 1 < B) {xs ys : List Nat} (hx : ∀ x ∈ xs, x < B) (h : ∀ x, ys.getLast? = some x → x ≠ 0) (hl : xs.length < ys.length) : val B xs < val B ys := by
  have h1 := val_lt B (by omega) xs hx
  have h2 := val_ge B ys h (by intro e; subst e; simp at hl)
  have h3 : B ^ xs.length ≤ B ^ (ys.length - 1) := Nat.pow_le_pow_right (by omega) (by omega)
  omega
/-- A literal. -/
theorem IsN.lit {h : H} {l : List AV} (ys : List Nat) (t : TypeId) {n : Nat} (hn : n = ys.length) (hl : l = W .u64 (ys.map fun n : Nat => (n : Int))) : IsN (h.new ⟨some t, 1, l⟩) (.sl (some h.next) 0 n (some n)) ys := by
  subst hl
  have := IsW.lit (t := t) (k := .u64) (h := h) (ys.map fun n : Nat => (n : Int))
  subst hn
  simpa [IsN] using this
theorem IsG.isN {b : Nat} {h : H} {v : AV} {xs : List Nat} (hv : IsG b h v xs) : IsN h v xs := IsF.isW hv
theorem IsG.mono {b : Nat} {h h' : H} {v : AV} {xs : List Nat} (hv : IsG b h v xs) (hl : h.le h') : IsG b h' v xs := IsF.mono hv hl
theorem H.le_old {a h h' : H} (ha : a.wf) (k : a.le h) (hn : h.next ≤ h'.next) (ho : ∀ i r, i < a.next → h.rows i = some r → h'.rows i = some r) : a.le h' :=
  ⟨Nat.le_trans k.1 hn, fun i r e => ho i r (H.row_lt ha e) (k.2 i r e)⟩
/-- append, onto a row made since a. -/
theorem app_num {a h : H} {K : AV → H → Prop} {s x : AV} {xs ys : List Nat} (ha : a.wf) (hw : h.wf) (hah : a.le h) (hs : IsG a.next h s xs) (hx : IsN h x ys) (hl : xs.length + ys.length ≤ 17592186044416)
    (hk : ∀ v h', h'.wf → a.le h' → IsG a.next h' v (xs ++ ys) → K v h') : appK 23 1 8 s x h K := by
  refine app_own hw hs hx hah.1 ?_ ?_ (fun v h' w' hv hn ho => hk v h' w' (H.le_old ha hah hn ho) ?_)
  · simp; omega
  · simp; omega
  · simpa [IsG] using hv
theorem app_lit {a h : H} {K : AV → H → Prop} {s : AV} {xs : List Nat} {l : List AV} {n : Nat} (ys : List Nat) (ha : a.wf) (hw : h.wf) (hah : a.le h) (hs : IsG a.next h s xs) (hn : n = ys.length) (hy : l = W .u64 (ys.map fun n : Nat => (n : Int))) (hl : xs.length + ys.length ≤ 17592186044416)
    (hk : ∀ v h', h'.wf → a.le h' → IsG a.next h' v (xs ++ ys) → K v h') : appK 23 1 8 s (.sl (some h.next) 0 n (some n)) (h.new ⟨some 23, 1, l⟩) K :=
  app_num ha (H.wf_new hw _) (H.le_new hw hah _) (hs.mono (H.le_new hw (H.le_refl h) _)) (IsN.lit ys _ hn hy) hl hk
theorem IsG.made {b : Nat} {h : H} (hb : b ≤ h.next) (n : Nat) : IsG b (h.new ⟨some 23, 1, zs [AV.int .u64 0] n⟩) (.sl (some h.next) 0 n (some n)) (List.replicate n 0) := by
  have := IsF.made (t := 23) (k := .u64) hb n
  simpa [IsG] using this
theorem IsG.made0 {b : Nat} {h : H} (hb : b ≤ h.next) (n : Nat) : IsG b (h.new ⟨some 23, 1, zs [AV.int .u64 0] n⟩) (.sl (some h.next) 0 0 (some n)) [] := IsF.made0 hb n
theorem IsG.put {b : Nat} {h : H} {id : Option Nat} {n : Nat} {c : Option Nat} {xs : List Nat} (hw : h.wf) (hv : IsG b h (.sl id 0 n c) xs) {j : Nat} (hj : j < xs.length) : ∃ i r, id = some i ∧ b ≤ i ∧ i < h.next ∧ h.rows i = some r ∧ r.own ≠ none ∧ j + 1 ≤ r.cells.length ∧
    ∀ x : Nat, IsG b (h.set i { r with cells := putAt r.cells j [AV.int .u64 x] }) (.sl id 0 n c) (xs.set j x) := by
  obtain ⟨i, r, h1, h2, h3, h4, h5, h6, h7⟩ := IsF.put hw hv (j := j) (by simpa using hj)
  refine ⟨i, r, h1, h2, h3, h4, h5, h6, fun x => ?_⟩
  have := h7 x
  unfold IsG
  rw [List.map_set]
  exact this
theorem IsG.form {b : Nat} {h : H} {v : AV} {xs : List Nat} (hv : IsG b h v xs) : ∃ id c, v = .sl id 0 xs.length c := by
  obtain ⟨id, c, e, _⟩ := hv
  exact ⟨id, c, by simpa using e⟩
end Ab
end Go.Proofs.Ytnmnkocibjdhjaa
namespace Go.Proofs.Ytnmnkocibjdhjaa
namespace Ab
open Go Go.RowKit
set_option linter.unusedSimpArgs false
set_option linter.unusedVariables false
attribute [local go_sem ↓] x_mv x_pick x_bin x_beq x_peq x_seq x_cat x_aeq x_idxS x_un x_cvI x_idx x_idxA x_fld x_ld x_st x_nn x_prt x_slc x_mk x_bsl x_bld x_box x_alloc x_len x_capo x_mnx x_app x_cpy x_mkf x_ext x_call x_callV x_bad s_none s_some s_nil s_cons s_chks w_skip w_reg w_seq w_cond w_block w_exit w_ret t_normal t_exit t_ret b_normal b_ret b_exit n_normal n_exit n_ret p_normal p_ret f_nil f_t f_c k_ops k_chk k_fin
attribute [local go_sem] e_t e_c e_f u_some u_none u_at env_at k_v k_pick k_add k_sub k_mul k_quo k_rem k_and k_or k_xor k_shl k_shr k_eql k_neq k_lss k_leq k_gtr k_geq k_beq k_peqn k_peqs k_neg k_not k_com k_cvI k_idxS k_idx k_idxA k_idxG k_ldG k_gld k_seq k_cat k_aeq k_eqs k_fld k_ld1 k_ldn k_get k_gets k_sti k_stb k_stp k_sts k_stf k_sta k_put k_nn k_prt1 k_prtn k_slc_a k_slc_b k_slc_c k_mk k_agg k_bsl k_box k_len k_lenS k_cap k_max k_min k_ext k_callV k_true k_false k_gtt k_gtf k_gft k_gsk k_gff k_lit1i k_lit2i k_lit3i k_c0 k_c1 k_ck List.getElem?_cons_zero List.getElem?_cons_succ List.getElem?_nil Option.getD_some Option.getD_none tupOf List.map_cons List.map_nil Option.map_some Option.map_none List.nil_append List.cons_append List.append_nil Nat.mul_one Int.toNat_natCast Nat.zero_add
theorem norm_calls {v : AV} {xs : List Nat} {h : H} {K : AV → H → Prop} (hv : IsN h v xs) (hlen : xs.length < 4611686018427387904)
    (hk : ∀ r k, k ≤ xs.length → IsN h r (xs.take k) → (∀ x ∈ xs.drop k, x = 0) → (∀ x, (xs.take k).getLast? = some x → x ≠ 0) → K r h) : ACalls Try.prog 84 [v] h K := by
  obtain ⟨id, off, c, rfl⟩ := hv.form
  refine in_ref02_norm (by simp) fun hw => ?_
  unfold c_ref02_norm
  simp only [go_sem, ↓reduceIte, Nat.reduceEqDiff, Nat.reduceAdd, Bool.false_eq_true, Int.reduceToNat]
  refine ⟨fun n ρ h' => h' = h ∧ ρ 0 = .sl id off xs.length c ∧ ρ 3 = .int .i64 (n : Int) ∧ n ≤ xs.length ∧ (∀ x ∈ xs.drop n, x = 0), xs.length, ⟨rfl, rfl, rfl, Nat.le_refl _, by simp⟩, ?_⟩
  rintro k ρ h' ⟨rfl, h0, h3, hk1, hz⟩
  have fin : (∀ x, (xs.take k).getLast? = some x → x ≠ 0) → K (.sl id off k c) h' := fun hl => hk _ k hk1 (hv.take hk1) hz hl
  rcases Nat.eq_zero_or_pos k with rfl | hp
  · have hd : decide ((0 : Int) < ((0 : Nat) : Int)) = false := by decide
    simp only [go_sem, ↓reduceIte, Nat.reduceEqDiff, Nat.reduceAdd, Bool.false_eq_true, Int.reduceToNat, h0, h3, hd]
    refine ⟨by omega, by omega, hv.row, ?_⟩
    intro _
    exact fin (by simp)
  · have hd : decide ((0 : Int) < (k : Int)) = true := by simp; omega
    obtain ⟨i, rfl, _, hg⟩ := hv.at (j := k - 1) (by omega)
    have hw1 : IntKind.i64.wrap ((k : Int) - 1) = ((k - 1 : Nat) : Int) := by rw [wI] <;> omega
    simp only [go_sem, ↓reduceIte, Nat.reduceEqDiff, Nat.reduceAdd, Bool.false_eq_true, Int.reduceToNat, h0, h3, hd, hw1]
    refine ⟨by omega, by omega, ?_⟩
    simp only [go_sem, ↓reduceIte, Nat.reduceEqDiff, Nat.reduceAdd, Bool.false_eq_true, Int.reduceToNat, Int.toNat_natCast, Nat.mul_one, hg]
    by_cases hx : xs[k - 1] = 0
    · have he : (((xs[k - 1] : Nat) : Int) == 0) = true := by simp [hx]
      simp only [go_sem, ↓reduceIte, Nat.reduceEqDiff, Nat.reduceAdd, Bool.false_eq_true, Int.reduceToNat, h0, h3, he, hw1]
      refine ⟨k - 1, by omega, by simp, by simp, by simp, by omega, fun x hm => ?_⟩
      rw [List.drop_eq_getElem_cons (by omega)] at hm
      rcases List.mem_cons.1 hm with rfl | hm
      · exact hx
      · exact hz x (by rwa [show k - 1 + 1 = k from by omega] at hm)
    · have he : (((xs[k - 1] : Nat) : Int) == 0) = false := by simp; omega
      simp only [go_sem, ↓reduceIte, Nat.reduceEqDiff, Nat.reduceAdd, Bool.false_eq_true, Int.reduceToNat, h0, h3, he]
      refine ⟨by omega, by omega, hv.row, ?_⟩
      intro _
      refine fin fun x hl => ?_
      rw [List.getLast?_eq_getElem?, List.length_take, Nat.min_eq_left hk1, List.getElem?_take, if_pos (by omega), List.getElem?_eq_getElem (by omega)] at hl
      injection hl with hl
      omega
end Ab
end Go.Proofs.Ytnmnkocibjdhjaa
namespace Go.Proofs.Ytnmnkocibjdhjaa
namespace Ab
open Go Go.RowKit
set_option linter.unusedSimpArgs false
set_option linter.unusedVariables false
attribute [local go_sem ↓] x_mv x_pick x_bin x_beq x_peq x_seq x_cat x_aeq x_idxS x_un x_cvI x_idx x_idxA x_fld x_ld x_st x_nn x_prt x_slc x_mk x_bsl x_bld x_box x_alloc x_len x_capo x_mnx x_app x_cpy x_mkf x_ext x_call x_callV x_bad s_none s_some s_nil s_cons s_chks w_skip w_reg w_seq w_cond w_block w_exit w_ret t_normal t_exit t_ret b_normal b_ret b_exit n_normal n_exit n_ret p_normal p_ret f_nil f_t f_c k_ops k_chk k_fin
attribute [local go_sem] e_t e_c e_f u_some u_none u_at env_at k_v k_pick k_add k_sub k_mul k_quo k_rem k_and k_or k_xor k_shl k_shr k_eql k_neq k_lss k_leq k_gtr k_geq k_beq k_peqn k_peqs k_neg k_not k_com k_cvI k_idxS k_idx k_idxA k_idxG k_ldG k_gld k_seq k_cat k_aeq k_eqs k_fld k_ld1 k_ldn k_get k_gets k_sti k_stb k_stp k_sts k_stf k_sta k_put k_nn k_prt1 k_prtn k_slc_a k_slc_b k_slc_c k_mk k_agg k_bsl k_box k_len k_lenS k_cap k_max k_min k_ext k_callV k_true k_false k_gtt k_gtf k_gft k_gsk k_gff k_lit1i k_lit2i k_lit3i k_c0 k_c1 k_ck List.getElem?_cons_zero List.getElem?_cons_succ List.getElem?_nil Option.getD_some Option.getD_none tupOf List.map_cons List.map_nil Option.map_some Option.map_none List.nil_append List.cons_append List.append_nil Nat.mul_one Int.toNat_natCast Nat.zero_add
theorem rem32 {x : Nat} : ((x : Int)).tmod 4294967296 = ((x % 4294967296 : Nat) : Int) := tmodN (b := 4294967296)
theorem quo32 {x : Nat} (hx : x < 18446744073709551616) : IntKind.u64.wrap (((x : Int)).tdiv 4294967296) = ((x / 4294967296 : Nat) : Int) := by
  rw [show ((x : Int)).tdiv 4294967296 = ((x / 4294967296 : Nat) : Int) from tdivN (b := 4294967296)]
  rw [wU] <;> omega
theorem incI {i : Nat} (hi : i < 9223372036854775807) : IntKind.i64.wrap ((i : Int) + 1) = ((i + 1 : Nat) : Int) := by rw [wI] <;> omega
theorem decI {i : Nat} (hi : 0 < i) (hi2 : i < 9223372036854775807) : IntKind.i64.wrap ((i : Int) - 1) = ((i - 1 : Nat) : Int) := by rw [wI] <;> omega
theorem addU {a b : Nat} (h : a + b < 18446744073709551616) : IntKind.u64.wrap ((a : Int) + (b : Int)) = ((a + b : Nat) : Int) := by rw [wU] <;> omega
theorem mulU {a b : Nat} (h : a * b < 18446744073709551616) : IntKind.u64.wrap ((a : Int) * (b : Int)) = ((a * b : Nat) : Int) := by
  rw [← Int.natCast_mul, wU] <;> omega
theorem ltT {a b : Nat} (h : a < b) : decide ((a : Int) < (b : Int)) = true := by simp; omega
theorem ltF {a b : Nat} (h : b ≤ a) : decide ((a : Int) < (b : Int)) = false := by simp; omega
theorem norm_num {v : AV} {xs : List Nat} {h : H} {K : AV → H → Prop} (hv : IsN h v xs) (hd : ∀ x ∈ xs, x < 4294967296) (hlen : xs.length < 4611686018427387904)
    (hk : ∀ r, Num 4294967296 h r (val 4294967296 xs) → K r h) : ACalls Try.prog 84 [v] h K :=
  norm_calls hv hlen fun r k _ hr hz ht => hk r ⟨xs.take k, hr, fun x hx => hd x (List.mem_of_mem_take hx), ht, val_take 4294967296 xs k hz⟩
theorem From_calls {v : AV} {ws : List Nat} {h : H} {K : AV → H → Prop} (hv : IsN h v ws) (hd : ∀ x ∈ ws, x < 18446744073709551616) (hlen : ws.length ≤ 1099511627776)
    (hk : ∀ r h', h'.wf → h.le h' → Num 4294967296 h' r (val 18446744073709551616 ws) → K r h') : ACalls Try.prog 85 [v] h K := by
  obtain ⟨id, off, c, rfl⟩ := hv.form
  refine in_ref02_From (by simp) fun hw => ?_
  unfold c_ref02_From
  have hw0 : IntKind.i64.wrap (2 * (ws.length : Int)) = ((2 * ws.length : Nat) : Int) := by rw [wI] <;> omega
  simp only [go_sem, ↓reduceIte, Nat.reduceEqDiff, Nat.reduceAdd, Bool.false_eq_true, Int.reduceToNat, hw0]
  refine ⟨by omega, by omega, by omega, ?_⟩
  refine ⟨fun n ρ h' => h'.wf ∧ h.le h' ∧ ρ 0 = .sl id off ws.length c ∧ ∃ i out s, n = ws.length - i ∧ i ≤ ws.length ∧ ρ 4 = .int .i64 (i : Nat) ∧ ρ 3 = s ∧ IsG h.next h' s out ∧ (∀ x ∈ out, x < 4294967296) ∧ out.length = 2 * i ∧ val 4294967296 out = val 18446744073709551616 (ws.take i), ws.length,
    ⟨H.wf_new hw _, H.le_new hw (H.le_refl h) _, rfl, 0, [], _, by omega, by omega, rfl, rfl, IsG.made0 (Nat.le_refl _) _, by simp, rfl, rfl⟩, ?_⟩
  rintro n ρ h' ⟨hw', hle, h0, i, out, s, rfl, hi, h4, h3, hs, hod, hol, hov⟩
  rcases Nat.lt_or_ge i ws.length with hlt | hge
  · have hc : decide ((i : Int) < (ws.length : Int)) = true := by simp; omega
    obtain ⟨j, rfl, _, hg⟩ := (hv.mono hle).at hlt
    have hwd := hd _ (List.getElem_mem hlt)
    generalize hx : ws[i] = x at hg hwd
    have e2 := quo32 hwd
    simp only [go_sem, ↓reduceIte, Nat.reduceEqDiff, Nat.reduceAdd, Bool.false_eq_true, Int.reduceToNat, h0, h3, h4, hc]
    refine ⟨by omega, by omega, ?_⟩
    simp only [go_sem, ↓reduceIte, Nat.reduceEqDiff, Nat.reduceAdd, Bool.false_eq_true, Int.reduceToNat, h0, h4, hg]
    refine ⟨by omega, by omega, by omega, ?_⟩
    simp only [go_sem, ↓reduceIte, Nat.reduceEqDiff, Nat.reduceAdd, Bool.false_eq_true, Int.reduceToNat, hg, rem32, e2]
    refine ⟨by omega, ?_⟩
    refine app_lit [x % 4294967296, x / 4294967296] hw hw' hle hs rfl rfl (by simp; omega) fun v' h2 hw2 hle2 hv2 => ?_
    have e3 : IntKind.i64.wrap ((i : Int) + 1) = ((i + 1 : Nat) : Int) := by rw [wI] <;> omega
    simp only [go_sem, ↓reduceIte, Nat.reduceEqDiff, Nat.reduceAdd, Bool.false_eq_true, Int.reduceToNat, h0, h4, e3]
    refine ⟨_, ?_, hw2, hle2, by trivial, i + 1, _, v', rfl, by omega, rfl, rfl, hv2, ?_, by simp; omega, ?_⟩
    · omega
    · intro y hy
      rcases List.mem_append.1 hy with hy | hy
      · exact hod y hy
      · simp only [List.mem_cons, List.not_mem_nil, or_false] at hy
        omega
    · rw [val_append, hov, hol, val_take_succ 18446744073709551616 ws i hlt, hx, show 4294967296 ^ (2 * i) = 18446744073709551616 ^ i from by rw [Nat.pow_mul]]
      simp only [val]
      congr 2
      omega
  · have hc : decide ((i : Int) < (ws.length : Int)) = false := by simp; omega
    simp only [go_sem, ↓reduceIte, Nat.reduceEqDiff, Nat.reduceAdd, Bool.false_eq_true, Int.reduceToNat, h0, h3, h4, hc]
    refine norm_num hs.isN hod (by omega) fun r hr => ?_
    simp only [go_sem, ↓reduceIte, Nat.reduceEqDiff, Nat.reduceAdd, Bool.false_eq_true, Int.reduceToNat]
    intro _
    refine hk r h' hw' hle ?_
    rw [hov, List.take_of_length_le hge] at hr
    exact hr
theorem Small_calls {x : Nat} {h : H} {K : AV → H → Prop} (hx : x < 18446744073709551616)
    (hk : ∀ r h', h'.wf → h.le h' → Num 4294967296 h' r x → K r h') : ACalls Try.prog 51 [.int .u64 (x : Int)] h K := by
  refine in_ref02_Small (by simp) fun hw => ?_
  unfold c_ref02_Small
  simp only [go_sem, ↓reduceIte, Nat.reduceEqDiff, Nat.reduceAdd, Bool.false_eq_true, Int.reduceToNat]
  refine From_calls (IsN.lit [x] _ rfl rfl) (by simpa using hx) (by simp) fun r h' hw' hle hr => ?_
  simp only [go_sem, ↓reduceIte, Nat.reduceEqDiff, Nat.reduceAdd, Bool.false_eq_true, Int.reduceToNat]
  intro _
  refine hk r h' hw' (H.le_trans (H.le_new hw (H.le_refl h) _) hle) ?_
  simpa [val] using hr
end Ab
end Go.Proofs.Ytnmnkocibjdhjaa
namespace Go.Proofs.Ytnmnkocibjdhjaa
namespace Ab
open Go Go.RowKit
set_option linter.unusedSimpArgs false
set_option linter.unusedVariables false
attribute [local go_sem ↓] x_mv x_pick x_bin x_beq x_peq x_seq x_cat x_aeq x_idxS x_un x_cvI x_idx x_idxA x_fld x_ld x_st x_nn x_prt x_slc x_mk x_bsl x_bld x_box x_alloc x_len x_capo x_mnx x_app x_cpy x_mkf x_ext x_call x_callV x_bad s_none s_some s_nil s_cons s_chks w_skip w_reg w_seq w_cond w_block w_exit w_ret t_normal t_exit t_ret b_normal b_ret b_exit n_normal n_exit n_ret p_normal p_ret f_nil f_t f_c k_ops k_chk k_fin
attribute [local go_sem] e_t e_c e_f u_some u_none u_at env_at k_v k_pick k_add k_sub k_mul k_quo k_rem k_and k_or k_xor k_shl k_shr k_eql k_neq k_lss k_leq k_gtr k_geq k_beq k_peqn k_peqs k_neg k_not k_com k_cvI k_idxS k_idx k_idxA k_idxG k_ldG k_gld k_seq k_cat k_aeq k_eqs k_fld k_ld1 k_ldn k_get k_gets k_sti k_stb k_stp k_sts k_stf k_sta k_put k_nn k_prt1 k_prtn k_slc_a k_slc_b k_slc_c k_mk k_agg k_bsl k_box k_len k_lenS k_cap k_max k_min k_ext k_callV k_true k_false k_gtt k_gtf k_gft k_gsk k_gff k_lit1i k_lit2i k_lit3i k_c0 k_c1 k_ck List.getElem?_cons_zero List.getElem?_cons_succ List.getElem?_nil Option.getD_some Option.getD_none tupOf List.map_cons List.map_nil Option.map_some Option.map_none List.nil_append List.cons_append List.append_nil Nat.mul_one Int.toNat_natCast Nat.zero_add
/-- Below every number that the claims do not reach. -/
def bigL : Nat := 1000000
structure Big (x : Nat) : Prop where
  lt : x < 4294967296 ^ bigL
theorem Big.le {x y : Nat} (h : Big y) (hx : x ≤ y) : Big x := ⟨Nat.lt_of_le_of_lt hx h.lt⟩
theorem lt_big {x k : Nat} (h : x < 4294967296 ^ k) (hk : k ≤ 1000000) : Big x := ⟨Nat.lt_of_lt_of_le h (Nat.pow_le_pow_right (by omega) (show k ≤ bigL from hk))⟩
theorem lt_big64 {x k : Nat} (h : x < 18446744073709551616 ^ k) (hk : k ≤ 500000) : Big x := by
  refine lt_big (k := 2 * k) ?_ (by omega)
  rw [Nat.pow_mul]
  exact h
theorem word_big {x : Nat} (h : x < 18446744073709551616) : Big x := lt_big64 (k := 1) (by omega) (by omega)
theorem Num.open {h : H} {v : AV} {x : Nat} (hv : Num 4294967296 h v x) (hx : Big x) : ∃ xs : List Nat, IsN h v xs ∧ (∀ a ∈ xs, a < 4294967296) ∧ (∀ a, xs.getLast? = some a → a ≠ 0) ∧ val 4294967296 xs = x ∧ xs.length ≤ 1000000 := by
  obtain ⟨xs, h1, h2, h3, h4⟩ := hv
  exact ⟨xs, h1, h2, h3, h4, show xs.length ≤ bigL from digits_le 4294967296 (by omega) h3 (by rw [h4]; exact hx.lt)⟩
def cmpI (x y : Nat) : Int := if x < y then -1 else if x = y then 0 else 1
theorem val_split (B : Nat) (xs : List Nat) (k : Nat) (h : k < xs.length) : val B xs = val B (xs.take k) + B ^ k * (xs[k] + B * val B (xs.drop (k + 1))) := by
  rw [val_cut B xs k (Nat.le_of_lt h)]
  rw [List.drop_eq_getElem_cons h]
  rfl
theorem val_lt_at (B : Nat) (hB : 0 < B) {xs ys : List Nat} (hx : ∀ a ∈ xs, a < B) (k : Nat) (h1 : k < xs.length) (h2 : k < ys.length) (hd : xs.drop (k + 1) = ys.drop (k + 1)) (hl : xs[k] < ys[k]) : val B xs < val B ys := by
  rw [val_split B xs k h1, val_split B ys k h2, hd]
  have := val_lt_take B hB xs hx k
  generalize B * val B (ys.drop (k + 1)) = d
  have h3 : B ^ k * (xs[k] + 1 + d) ≤ B ^ k * (ys[k] + d) := Nat.mul_le_mul_left _ (by omega)
  have h4 : B ^ k * (xs[k] + 1 + d) = B ^ k * (xs[k] + d) + B ^ k := by rw [← Nat.mul_succ]; congr 1; omega
  omega
theorem Cmp_calls {v u : AV} {x y : Nat} {h : H} {K : AV → H → Prop} (nv : Num 4294967296 h v x) (nu : Num 4294967296 h u y) (hx : Big x) (hy : Big y)
    (hk : K (.int .i64 (cmpI x y)) h) : ACalls Try.prog 81 [v, u] h K := by
  obtain ⟨xs, hv, hxd, hxt, rfl, hxl⟩ := nv.open hx
  obtain ⟨ys, hu, hyd, hyt, rfl, hyl⟩ := nu.open hy
  obtain ⟨id, off, c, rfl⟩ := hv.form
  obtain ⟨id', off', c', rfl⟩ := hu.form
  refine in_ref02_Cmp (by simp) fun hw => ?_
  unfold c_ref02_Cmp
  simp only [go_sem, ↓reduceIte, Nat.reduceEqDiff, Nat.reduceAdd, Bool.false_eq_true, Int.reduceToNat]
  refine cond_split (fun hc => ?_) (fun hc => ?_)
  · have hne : xs.length ≠ ys.length := by intro e; simp [e] at hc
    simp only [go_sem, ↓reduceIte, Nat.reduceEqDiff, Nat.reduceAdd, Bool.false_eq_true, Int.reduceToNat]
    refine cond_split (fun hc => ?_) (fun hc => ?_)
    · have hlt : xs.length < ys.length := by simp at hc; omega
      simp only [go_sem, ↓reduceIte, Nat.reduceEqDiff, Nat.reduceAdd, Bool.false_eq_true, Int.reduceToNat]
      intro _
      have := digits_lt_iff 4294967296 (by omega) hxd hyt hlt
      simpa [cmpI, this] using hk
    · have hlt : ys.length < xs.length := by simp at hc; omega
      simp only [go_sem, ↓reduceIte, Nat.reduceEqDiff, Nat.reduceAdd, Bool.false_eq_true, Int.reduceToNat]
      intro _
      have := digits_lt_iff 4294967296 (by omega) hyd hxt hlt
      have e : cmpI (val 4294967296 xs) (val 4294967296 ys) = 1 := by unfold cmpI; rw [if_neg (by omega), if_neg (by omega)]
      simpa [e] using hk
  · have heq : xs.length = ys.length := by simp at hc; omega
    simp only [go_sem, ↓reduceIte, Nat.reduceEqDiff, Nat.reduceAdd, Bool.false_eq_true, Int.reduceToNat]
    refine ⟨fun n ρ h' => h' = h ∧ ρ 0 = .sl id off xs.length c ∧ ρ 1 = .sl id' off' ys.length c' ∧ ρ 5 = .int .i64 ((n : Int) - 1) ∧ n ≤ xs.length ∧ xs.drop n = ys.drop n, xs.length,
      ⟨rfl, rfl, rfl, ?_, Nat.le_refl _, by rw [List.drop_length, heq, List.drop_length]⟩, ?_⟩
    · simp only [go_sem, ↓reduceIte, Nat.reduceEqDiff, Nat.reduceAdd, Bool.false_eq_true, Int.reduceToNat]
      rw [wI] <;> omega
    rintro n ρ h' ⟨rfl, h0, h1, h5, hn, hd⟩
    rcases Nat.eq_zero_or_pos n with rfl | hp
    · have hc : decide ((0 : Int) ≤ ((0 : Nat) : Int) - 1) = false := by decide
      simp only [go_sem, ↓reduceIte, Nat.reduceEqDiff, Nat.reduceAdd, Bool.false_eq_true, Int.reduceToNat, h0, h1, h5, hc]
      intro _
      have : xs = ys := by simpa using hd
      subst this
      simpa [cmpI] using hk
    · have hc : decide ((0 : Int) ≤ (n : Int) - 1) = true := by simp; omega
      have e5 : (n : Int) - 1 = ((n - 1 : Nat) : Int) := by omega
      obtain ⟨i, rfl, _, hg⟩ := hv.at (j := n - 1) (by omega)
      obtain ⟨i', rfl, _, hg'⟩ := hu.at (j := n - 1) (by omega)
      rw [e5] at h5 hc
      have hd' : xs.drop (n - 1 + 1) = ys.drop (n - 1 + 1) := by rw [show n - 1 + 1 = n from by omega]; exact hd
      simp only [go_sem, ↓reduceIte, Nat.reduceEqDiff, Nat.reduceAdd, Bool.false_eq_true, Int.reduceToNat, h0, h1, h5, hc]
      refine ⟨by omega, by omega, ?_⟩
      simp only [go_sem, ↓reduceIte, Nat.reduceEqDiff, Nat.reduceAdd, Bool.false_eq_true, Int.reduceToNat, h0, h1, h5, hg]
      refine ⟨by omega, by omega, ?_⟩
      simp only [go_sem, ↓reduceIte, Nat.reduceEqDiff, Nat.reduceAdd, Bool.false_eq_true, Int.reduceToNat, h0, h1, h5, hg, hg']
      refine cond_split (fun hc => ?_) (fun hc => ?_)
      · simp only [go_sem, ↓reduceIte, Nat.reduceEqDiff, Nat.reduceAdd, Bool.false_eq_true, Int.reduceToNat]
        intro _
        have := val_lt_at 4294967296 (by omega) hxd (n - 1) (by omega) (by omega) hd' (by simp at hc; omega)
        simpa [cmpI, this] using hk
      · have hc1 : ys[n - 1] ≤ xs[n - 1] := by simp at hc; omega
        simp only [go_sem, ↓reduceIte, Nat.reduceEqDiff, Nat.reduceAdd, Bool.false_eq_true, Int.reduceToNat, h0, h1, h5, hg, hg']
        refine ⟨by omega, by omega, by omega, by omega, ?_⟩
        refine cond_split (fun hc => ?_) (fun hc => ?_)
        · simp only [go_sem, ↓reduceIte, Nat.reduceEqDiff, Nat.reduceAdd, Bool.false_eq_true, Int.reduceToNat]
          intro _
          have := val_lt_at 4294967296 (by omega) hyd (n - 1) (by omega) (by omega) hd'.symm (by simp at hc; omega)
          have e : cmpI (val 4294967296 xs) (val 4294967296 ys) = 1 := by unfold cmpI; rw [if_neg (by omega), if_neg (by omega)]
          simpa [e] using hk
        · have e : xs[n - 1] = ys[n - 1] := by simp at hc; omega
          have e6 : IntKind.i64.wrap (((n - 1 : Nat) : Int) - 1) = ((n - 1 : Nat) : Int) - 1 := by rw [wI] <;> omega
          simp only [go_sem, ↓reduceIte, Nat.reduceEqDiff, Nat.reduceAdd, Bool.false_eq_true, Int.reduceToNat, h0, h1, h5, e6]
          refine ⟨n - 1, by omega, by trivial, by trivial, by trivial, by first | rfl | trivial | assumption, by omega, ?_⟩
          rw [List.drop_eq_getElem_cons (by omega), List.drop_eq_getElem_cons (l := ys) (by omega), e, hd']
end Ab
end Go.Proofs.Ytnmnkocibjdhjaa
namespace Go.Proofs.Ytnmnkocibjdhjaa
namespace Ab
open Go Go.RowKit
set_option linter.unusedSimpArgs false
set_option linter.unusedVariables false
attribute [local go_sem ↓] x_mv x_pick x_bin x_beq x_peq x_seq x_cat x_aeq x_idxS x_un x_cvI x_idx x_idxA x_fld x_ld x_st x_nn x_prt x_slc x_mk x_bsl x_bld x_box x_alloc x_len x_capo x_mnx x_app x_cpy x_mkf x_ext x_call x_callV x_bad s_none s_some s_nil s_cons s_chks w_skip w_reg w_seq w_cond w_block w_exit w_ret t_normal t_exit t_ret b_normal b_ret b_exit n_normal n_exit n_ret p_normal p_ret f_nil f_t f_c k_ops k_chk k_fin
attribute [local go_sem] e_t e_c e_f u_some u_none u_at env_at k_v k_pick k_add k_sub k_mul k_quo k_rem k_and k_or k_xor k_shl k_shr k_eql k_neq k_lss k_leq k_gtr k_geq k_beq k_peqn k_peqs k_neg k_not k_com k_cvI k_idxS k_idx k_idxA k_idxG k_ldG k_gld k_seq k_cat k_aeq k_eqs k_fld k_ld1 k_ldn k_get k_gets k_sti k_stb k_stp k_sts k_stf k_sta k_put k_nn k_prt1 k_prtn k_slc_a k_slc_b k_slc_c k_mk k_agg k_bsl k_box k_len k_lenS k_cap k_max k_min k_ext k_callV k_true k_false k_gtt k_gtf k_gft k_gsk k_gff k_lit1i k_lit2i k_lit3i k_c0 k_c1 k_ck List.getElem?_cons_zero List.getElem?_cons_succ List.getElem?_nil Option.getD_some Option.getD_none tupOf List.map_cons List.map_nil Option.map_some Option.map_none List.nil_append List.cons_append List.append_nil Nat.mul_one Int.toNat_natCast Nat.zero_add
theorem val_take_get (B : Nat) (xs : List Nat) (k : Nat) : val B (xs.take (k + 1)) = val B (xs.take k) + B ^ k * xs.getD k 0 := by
  rcases Nat.lt_or_ge k xs.length with h | h
  · rw [val_take_succ B xs k h, List.getD_eq_getElem?_getD, List.getElem?_eq_getElem h]
    rfl
  · rw [List.take_of_length_le (by omega), List.take_of_length_le h, List.getD_eq_getElem?_getD, List.getElem?_eq_none h]
    simp
theorem digit_snoc {B q s : Nat} (hB : 0 < B) : q * (s % B) + q * B * (s / B) = q * s := by
  rw [Nat.mul_assoc, ← Nat.mul_add, Nat.mod_add_div]
theorem Add_calls {v u : AV} {x y : Nat} {h : H} {K : AV → H → Prop} (nv : Num 4294967296 h v x) (nu : Num 4294967296 h u y) (hx : Big x) (hy : Big y)
    (hk : ∀ r h', h'.wf → h.le h' → Num 4294967296 h' r (x + y) → K r h') : ACalls Try.prog 98 [v, u] h K := by
  obtain ⟨xs, hv, hxd, hxt, rfl, hxl⟩ := nv.open hx
  obtain ⟨ys, hu, hyd, hyt, rfl, hyl⟩ := nu.open hy
  obtain ⟨id, off, c, rfl⟩ := hv.form
  obtain ⟨id', off', c', rfl⟩ := hu.form
  refine in_ref02_Add (by simp) fun hw => ?_
  unfold c_ref02_Add
  have e0 : IntKind.i64.wrap (max (xs.length : Int) (ys.length : Int) + 1) = ((max xs.length ys.length + 1 : Nat) : Int) := by rw [wI] <;> omega
  simp only [go_sem, ↓reduceIte, Nat.reduceEqDiff, Nat.reduceAdd, Bool.false_eq_true, Int.reduceToNat, e0]
  refine ⟨by omega, by omega, by omega, ?_⟩
  generalize hm : max xs.length ys.length = m
  refine ⟨fun n ρ h' => h'.wf ∧ h.le h' ∧ ρ 0 = .sl id off xs.length c ∧ ρ 1 = .sl id' off' ys.length c' ∧ ∃ i out s a, n = m + 1 - i ∧ i ≤ m + 1 ∧ ρ 7 = .int .i64 (i : Nat) ∧ ρ 6 = .int .u64 (a : Nat) ∧ a ≤ 1 ∧ (i = m + 1 → a = 0) ∧ ρ 5 = s ∧ IsG h.next h' s out ∧ (∀ x ∈ out, x < 4294967296) ∧ out.length = i ∧
      val 4294967296 out + 4294967296 ^ i * a = val 4294967296 (xs.take i) + val 4294967296 (ys.take i), m + 1,
    ⟨H.wf_new hw _, H.le_new hw (H.le_refl h) _, rfl, rfl, 0, [], _, 0, by omega, by omega, rfl, rfl, by omega, by omega, rfl, IsG.made0 (Nat.le_refl _) _, by simp, rfl, rfl⟩, ?_⟩
  rintro n ρ h' ⟨hw', hle, h0, h1, i, out, s, a, rfl, hi, h7, h6, ha, hae, h5, hs, hod, hol, hov⟩
  have e7 := incI (i := i) (by omega)
  -- what a round leaves
  have round : ∀ (t : Nat), t = a + xs.getD i 0 + ys.getD i 0 → i ≤ m → (∀ v' h2, h2.wf → h.le h2 → IsG h.next h2 v' (out ++ [t % 4294967296]) → ∃ k, k < m + 1 - i ∧ h2.wf ∧ h.le h2 ∧ True ∧ True ∧ ∃ i' out' s' a', k = m + 1 - i' ∧ i' ≤ m + 1 ∧ AV.int .i64 ((i + 1 : Nat) : Int) = .int .i64 (i' : Nat) ∧ AV.int .u64 ((t / 4294967296 : Nat) : Int) = .int .u64 (a' : Nat) ∧ a' ≤ 1 ∧ (i' = m + 1 → a' = 0) ∧ v' = s' ∧ IsG h.next h2 s' out' ∧ (∀ x ∈ out', x < 4294967296) ∧ out'.length = i' ∧
      val 4294967296 out' + 4294967296 ^ i' * a' = val 4294967296 (xs.take i') + val 4294967296 (ys.take i')) := by
    intro t ht him v' h2 hw2 hle2 hv2
    have hxi : xs.getD i 0 < 4294967296 := by
      rcases Nat.lt_or_ge i xs.length with hh | hh
      · rw [List.getD_eq_getElem?_getD, List.getElem?_eq_getElem hh]; exact hxd _ (List.getElem_mem hh)
      · rw [List.getD_eq_getElem?_getD, List.getElem?_eq_none hh]; decide
    have hyi : ys.getD i 0 < 4294967296 := by
      rcases Nat.lt_or_ge i ys.length with hh | hh
      · rw [List.getD_eq_getElem?_getD, List.getElem?_eq_getElem hh]; exact hyd _ (List.getElem_mem hh)
      · rw [List.getD_eq_getElem?_getD, List.getElem?_eq_none hh]; decide
    refine ⟨m + 1 - (i + 1), by omega, hw2, hle2, True.intro, True.intro, i + 1, _, v', t / 4294967296, rfl, by omega, rfl, rfl, by omega, ?_, rfl, hv2, ?_, by simp; omega, ?_⟩
    · intro e
      have e1 : xs.getD i 0 = 0 := by rw [List.getD_eq_getElem?_getD, List.getElem?_eq_none (by omega)]; rfl
      have e2 : ys.getD i 0 = 0 := by rw [List.getD_eq_getElem?_getD, List.getElem?_eq_none (by omega)]; rfl
      omega
    · intro z hz
      rcases List.mem_append.1 hz with hz | hz
      · exact hod z hz
      · simp only [List.mem_cons, List.not_mem_nil, or_false] at hz
        omega
    · rw [val_snoc, hol, val_take_get, val_take_get, Nat.pow_succ, Nat.add_assoc, digit_snoc (by omega), ht, Nat.mul_add, Nat.mul_add]
      omega
  rcases Nat.lt_or_ge i xs.length with hxi | hxi <;> rcases Nat.lt_or_ge i ys.length with hyi | hyi
  · obtain ⟨j, rfl, _, hg⟩ := (hv.mono hle).at hxi
    have hxb := hxd _ (List.getElem_mem hxi)
    have ex : xs.getD i 0 = xs[i] := by rw [List.getD_eq_getElem?_getD, List.getElem?_eq_getElem hxi]; rfl
    obtain ⟨j', rfl, _, hg'⟩ := (hu.mono hle).at hyi
    have hyb := hyd _ (List.getElem_mem hyi)
    have ey : ys.getD i 0 = ys[i] := by rw [List.getD_eq_getElem?_getD, List.getElem?_eq_getElem hyi]; rfl
    rw [ex, ey] at round
    generalize xs[i] = p at *
    generalize ys[i] = q at *
    have r := round (a + p + q) (by omega) (by omega)
    simp only [go_sem, ↓reduceIte, Nat.reduceEqDiff, Nat.reduceAdd, Bool.false_eq_true, Int.reduceToNat, h0, h1, h5, h6, h7, ltT hxi, ltT hyi, hg, addU (a := a) (b := p) (by omega), hg', addU (a := a + p) (b := q) (by omega), rem32]
    refine ⟨by omega, by omega, by omega, by omega, ?_⟩
    try simp only [go_sem, ↓reduceIte, Nat.reduceEqDiff, Nat.reduceAdd, Bool.false_eq_true, Int.reduceToNat, h0, h1, h5, h6, h7, ltT hxi, ltT hyi, hg, addU (a := a) (b := p) (by omega), hg', addU (a := a + p) (b := q) (by omega), rem32]
    refine ⟨by omega, ?_⟩
    refine app_lit [(a + p + q) % 4294967296] hw hw' hle hs rfl rfl (by simp; omega) fun v' h2 hw2 hle2 hv2 => ?_
    simp only [go_sem, ↓reduceIte, Nat.reduceEqDiff, Nat.reduceAdd, Bool.false_eq_true, Int.reduceToNat, h0, h1, h6, h7, e7, quo32 (x := a + p + q) (by omega)]
    refine ⟨by omega, ?_⟩
    exact r v' h2 hw2 hle2 hv2
  · obtain ⟨j, rfl, _, hg⟩ := (hv.mono hle).at hxi
    have hxb := hxd _ (List.getElem_mem hxi)
    have ex : xs.getD i 0 = xs[i] := by rw [List.getD_eq_getElem?_getD, List.getElem?_eq_getElem hxi]; rfl
    have ey : ys.getD i 0 = 0 := by rw [List.getD_eq_getElem?_getD, List.getElem?_eq_none hyi]; rfl
    rw [ex, ey] at round
    generalize xs[i] = p at *
    have r := round (a + p) (by omega) (by omega)
    simp only [go_sem, ↓reduceIte, Nat.reduceEqDiff, Nat.reduceAdd, Bool.false_eq_true, Int.reduceToNat, h0, h1, h5, h6, h7, ltT hxi, ltF hyi, hg, addU (a := a) (b := p) (by omega), rem32]
    refine ⟨by omega, by omega, ?_⟩
    try simp only [go_sem, ↓reduceIte, Nat.reduceEqDiff, Nat.reduceAdd, Bool.false_eq_true, Int.reduceToNat, h0, h1, h5, h6, h7, ltT hxi, ltF hyi, hg, addU (a := a) (b := p) (by omega), rem32]
    refine ⟨by omega, ?_⟩
    refine app_lit [(a + p) % 4294967296] hw hw' hle hs rfl rfl (by simp; omega) fun v' h2 hw2 hle2 hv2 => ?_
    simp only [go_sem, ↓reduceIte, Nat.reduceEqDiff, Nat.reduceAdd, Bool.false_eq_true, Int.reduceToNat, h0, h1, h6, h7, e7, quo32 (x := a + p) (by omega)]
    refine ⟨by omega, ?_⟩
    exact r v' h2 hw2 hle2 hv2
  · have ex : xs.getD i 0 = 0 := by rw [List.getD_eq_getElem?_getD, List.getElem?_eq_none hxi]; rfl
    obtain ⟨j', rfl, _, hg'⟩ := (hu.mono hle).at hyi
    have hyb := hyd _ (List.getElem_mem hyi)
    have ey : ys.getD i 0 = ys[i] := by rw [List.getD_eq_getElem?_getD, List.getElem?_eq_getElem hyi]; rfl
    rw [ex, ey] at round
    generalize ys[i] = q at *
    have r := round (a + q) (by omega) (by omega)
    simp only [go_sem, ↓reduceIte, Nat.reduceEqDiff, Nat.reduceAdd, Bool.false_eq_true, Int.reduceToNat, h0, h1, h5, h6, h7, ltF hxi, ltT hyi, hg', addU (a := a) (b := q) (by omega), rem32]
    refine ⟨by omega, by omega, ?_⟩
    try simp only [go_sem, ↓reduceIte, Nat.reduceEqDiff, Nat.reduceAdd, Bool.false_eq_true, Int.reduceToNat, h0, h1, h5, h6, h7, ltF hxi, ltT hyi, hg', addU (a := a) (b := q) (by omega), rem32]
    refine ⟨by omega, ?_⟩
    refine app_lit [(a + q) % 4294967296] hw hw' hle hs rfl rfl (by simp; omega) fun v' h2 hw2 hle2 hv2 => ?_
    simp only [go_sem, ↓reduceIte, Nat.reduceEqDiff, Nat.reduceAdd, Bool.false_eq_true, Int.reduceToNat, h0, h1, h6, h7, e7, quo32 (x := a + q) (by omega)]
    refine ⟨by omega, ?_⟩
    exact r v' h2 hw2 hle2 hv2
  · have ex := ltF hxi
    have ey := ltF hyi
    rcases Nat.eq_zero_or_pos a with ha | ha
    · have ha0 : decide ((0 : Int) < (a : Int)) = false := by simp; omega
      simp only [go_sem, ↓reduceIte, Nat.reduceEqDiff, Nat.reduceAdd, Bool.false_eq_true, Int.reduceToNat, h0, h1, h5, h6, h7, ex, ey, ha0]
      refine norm_num hs.isN hod (by omega) fun r hr => ?_
      simp only [go_sem, ↓reduceIte, Nat.reduceEqDiff, Nat.reduceAdd, Bool.false_eq_true, Int.reduceToNat]
      intro _
      refine hk r h' hw' hle ?_
      rw [List.take_of_length_le hxi, List.take_of_length_le hyi, ha] at hov
      simp only [Nat.mul_zero, Nat.add_zero] at hov
      rw [hov] at hr
      exact hr
    · have ex1 := ltF hxi
      have ey1 := ltF hyi
      have ex : xs.getD i 0 = 0 := by rw [List.getD_eq_getElem?_getD, List.getElem?_eq_none hxi]; rfl
      have ey : ys.getD i 0 = 0 := by rw [List.getD_eq_getElem?_getD, List.getElem?_eq_none hyi]; rfl
      rw [ex, ey] at round
      have r := round (a) (by omega) (by omega)
      have ha0 : decide ((0 : Int) < (a : Int)) = true := by simp; omega
      simp only [go_sem, ↓reduceIte, Nat.reduceEqDiff, Nat.reduceAdd, Bool.false_eq_true, Int.reduceToNat, h0, h1, h5, h6, h7, ex1, ey1, rem32, ha0]
      refine ⟨by omega, ?_⟩
      refine app_lit [(a) % 4294967296] hw hw' hle hs rfl rfl (by simp; omega) fun v' h2 hw2 hle2 hv2 => ?_
      simp only [go_sem, ↓reduceIte, Nat.reduceEqDiff, Nat.reduceAdd, Bool.false_eq_true, Int.reduceToNat, h0, h1, h6, h7, e7, quo32 (x := a) (by omega)]
      refine ⟨by omega, ?_⟩
      exact r v' h2 hw2 hle2 hv2
end Ab
end Go.Proofs.Ytnmnkocibjdhjaa
namespace Go.Proofs.Ytnmnkocibjdhjaa
namespace Ab
open Go Go.RowKit
set_option linter.unusedSimpArgs false
set_option linter.unusedVariables false
attribute [local go_sem ↓] x_mv x_pick x_bin x_beq x_peq x_seq x_cat x_aeq x_idxS x_un x_cvI x_idx x_idxA x_fld x_ld x_st x_nn x_prt x_slc x_mk x_bsl x_bld x_box x_alloc x_len x_capo x_mnx x_app x_cpy x_mkf x_ext x_call x_callV x_bad s_none s_some s_nil s_cons s_chks w_skip w_reg w_seq w_cond w_block w_exit w_ret t_normal t_exit t_ret b_normal b_ret b_exit n_normal n_exit n_ret p_normal p_ret f_nil f_t f_c k_ops k_chk k_fin
attribute [local go_sem] e_t e_c e_f u_some u_none u_at env_at k_v k_pick k_add k_sub k_mul k_quo k_rem k_and k_or k_xor k_shl k_shr k_eql k_neq k_lss k_leq k_gtr k_geq k_beq k_peqn k_peqs k_neg k_not k_com k_cvI k_idxS k_idx k_idxA k_idxG k_ldG k_gld k_seq k_cat k_aeq k_eqs k_fld k_ld1 k_ldn k_get k_gets k_sti k_stb k_stp k_sts k_stf k_sta k_put k_nn k_prt1 k_prtn k_slc_a k_slc_b k_slc_c k_mk k_agg k_bsl k_box k_len k_lenS k_cap k_max k_min k_ext k_callV k_true k_false k_gtt k_gtf k_gft k_gsk k_gff k_lit1i k_lit2i k_lit3i k_c0 k_c1 k_ck List.getElem?_cons_zero List.getElem?_cons_succ List.getElem?_nil Option.getD_some Option.getD_none tupOf List.map_cons List.map_nil Option.map_some Option.map_none List.nil_append List.cons_append List.append_nil Nat.mul_one Int.toNat_natCast Nat.zero_add
theorem val_set (B : Nat) (xs : List Nat) (k v : Nat) (h : k < xs.length) : val B (xs.set k v) + B ^ k * xs[k] = val B xs + B ^ k * v := by
  have h2 : k < (xs.set k v).length := by simpa using h
  rw [val_split B xs k h, val_split B (xs.set k v) k h2]
  simp only [List.getElem_set_self, List.take_set, List.drop_set, Nat.mul_add]
  rw [if_pos (by omega), List.set_eq_of_length_le (by simp; omega)]
  omega
theorem getD_set {xs : List Nat} {k j v : Nat} : (xs.set k v).getD j 0 = if j = k ∧ k < xs.length then v else xs.getD j 0 := by
  rw [List.getD_eq_getElem?_getD, List.getD_eq_getElem?_getD, List.getElem?_set]
  by_cases h : k = j
  · subst h
    by_cases h2 : k < xs.length
    · simp [h2]
    · simp [h2]
  · rw [if_neg h, if_neg (fun e => h e.1.symm)]
theorem getD_at {xs : List Nat} {k : Nat} (h : k < xs.length) : xs.getD k 0 = xs[k] := by rw [List.getD_eq_getElem?_getD, List.getElem?_eq_getElem h]; rfl
theorem mem_set_lt {B : Nat} {xs : List Nat} {k v : Nat} (h : ∀ x ∈ xs, x < B) (hv : v < B) : ∀ x ∈ xs.set k v, x < B := by
  intro x hx
  rcases List.mem_or_eq_of_mem_set hx with h1 | h1
  · exact h x h1
  · exact h1 ▸ hv
theorem fit32 {o x y c : Nat} (ho : o < 4294967296) (hx : x < 4294967296) (hy : y < 4294967296) (hc : c < 4294967296) : o + x * y + c < 18446744073709551616 ∧ (o + x * y + c) / 4294967296 < 4294967296 := by
  have h1 : x * y ≤ 4294967295 * 4294967295 := Nat.mul_le_mul (by omega) (by omega)
  constructor <;> omega
theorem Mul_calls {v u : AV} {x y : Nat} {h : H} {K : AV → H → Prop} (nv : Num 4294967296 h v x) (nu : Num 4294967296 h u y) (hx : Big x) (hy : Big y)
    (hk : ∀ r h', h'.wf → h.le h' → Num 4294967296 h' r (x * y) → K r h') : ACalls Try.prog 102 [v, u] h K := by
  obtain ⟨xs, hv, hxd, hxt, rfl, hxl⟩ := nv.open hx
  obtain ⟨ys, hu, hyd, hyt, rfl, hyl⟩ := nu.open hy
  obtain ⟨id, off, c, rfl⟩ := hv.form
  obtain ⟨id', off', c', rfl⟩ := hu.form
  refine in_ref02_Mul (by simp) fun hw => ?_
  unfold c_ref02_Mul
  have e0 : IntKind.i64.wrap ((xs.length : Int) + (ys.length : Int)) = ((xs.length + ys.length : Nat) : Int) := by rw [wI] <;> omega
  simp only [go_sem, ↓reduceIte, Nat.reduceEqDiff, Nat.reduceAdd, Bool.false_eq_true, Int.reduceToNat, e0]
  refine ⟨by omega, by omega, by omega, ?_⟩
  refine ⟨fun n ρ h' => h'.wf ∧ h.le h' ∧ ρ 0 = .sl id off xs.length c ∧ ρ 1 = .sl id' off' ys.length c' ∧ ∃ i out o c2, n = xs.length - i ∧ i ≤ xs.length ∧ ρ 6 = .int .i64 (i : Nat) ∧ ρ 5 = .sl o 0 (xs.length + ys.length) c2 ∧ IsG h.next h' (.sl o 0 (xs.length + ys.length) c2) out ∧ (∀ x ∈ out, x < 4294967296) ∧ out.length = xs.length + ys.length ∧
      (∀ k, i + ys.length ≤ k → out.getD k 0 = 0) ∧ val 4294967296 out = val 4294967296 (xs.take i) * val 4294967296 ys, xs.length,
    ⟨H.wf_new hw _, H.le_new hw (H.le_refl h) _, rfl, rfl, 0, List.replicate (xs.length + ys.length) 0, _, _, by omega, by omega, rfl, rfl, IsG.made (Nat.le_refl _) _, ?_, by simp, ?_, ?_⟩, ?_⟩
  · intro z hz
    rw [List.mem_replicate] at hz
    omega
  · intro k _
    simp [List.getD_eq_getElem?_getD, List.getElem?_replicate]
    split <;> rfl
  · rw [val_zero 4294967296 _ (fun z hz => (List.mem_replicate.1 hz).2)]
    simp [val]
  rintro n ρ h' ⟨hw', hle, h0, h1, i, out, o, c2, rfl, hi, h6, h5, hs, hod, hol, hoz, hov⟩
  rcases Nat.lt_or_ge i xs.length with hxi | hxi
  · simp only [go_sem, ↓reduceIte, Nat.reduceEqDiff, Nat.reduceAdd, Bool.false_eq_true, Int.reduceToNat, h0, h1, h5, h6, ltT hxi]
    have hxb := hxd _ (List.getElem_mem hxi)
    refine ⟨fun n ρ h' => h'.wf ∧ h.le h' ∧ ρ 0 = .sl id off xs.length c ∧ ρ 1 = .sl id' off' ys.length c' ∧ ρ 6 = .int .i64 (i : Nat) ∧ ρ 5 = .sl o 0 (xs.length + ys.length) c2 ∧ ∃ j out a, n = ys.length - j ∧ j ≤ ys.length ∧ ρ 8 = .int .i64 (j : Nat) ∧ ρ 7 = .int .u64 (a : Nat) ∧ a < 4294967296 ∧ IsG h.next h' (.sl o 0 (xs.length + ys.length) c2) out ∧ (∀ x ∈ out, x < 4294967296) ∧ out.length = xs.length + ys.length ∧
      (∀ k, i + ys.length ≤ k → out.getD k 0 = 0) ∧ val 4294967296 out + 4294967296 ^ (i + j) * a = val 4294967296 (xs.take i) * val 4294967296 ys + 4294967296 ^ i * (xs[i] * val 4294967296 (ys.take j)), ys.length,
      ⟨hw', hle, by first | rfl | trivial | assumption, by first | rfl | trivial | assumption, by first | rfl | trivial | assumption, by first | rfl | trivial | assumption, 0, out, 0, by omega, by omega, rfl, rfl, by omega, hs, hod, hol, hoz, ?_⟩, ?_⟩
    · rw [hov]; simp [val]
    rintro n ρ h' ⟨hw', hle, h0, h1, h6, h5, j, out, a, rfl, hj, h8, h7, ha, hs, hod, hol, hoz, hov⟩
    have eij : IntKind.i64.wrap ((i : Int) + (j : Int)) = ((i + j : Nat) : Int) := by rw [wI] <;> omega
    rcases Nat.lt_or_ge j ys.length with hyj | hyj
    · have hyb := hyd _ (List.getElem_mem hyj)
      obtain ⟨i1, rfl, _, hg⟩ := (hv.mono hle).at hxi
      obtain ⟨i2, rfl, _, hg'⟩ := (hu.mono hle).at hyj
      have hjo : i + j < out.length := by omega
      obtain ⟨i3, rfl, _, hgo⟩ := hs.isN.at hjo
      obtain ⟨i3', r, e3, hb3, hn3, hr3, ho3, hc3, hput⟩ := hs.put hw' hjo
      injection e3 with e3
      subst e3
      have hob := hod _ (List.getElem_mem hjo)
      have hset := val_set 4294967296 out (i + j)
      rw [Nat.zero_add] at hgo
      obtain ⟨f1, f2⟩ := fit32 hob hxb hyb ha
      have htk := val_take_succ 4294967296 ys j hyj
      have hsz := getD_at hjo
      generalize hx1 : xs[i] = p at *
      generalize hy1 : ys[j] = q at *
      generalize ho1 : out[i + j] = w at *
      simp only [go_sem, ↓reduceIte, Nat.reduceEqDiff, Nat.reduceAdd, Bool.false_eq_true, Int.reduceToNat, h0, h1, h5, h6, h7, h8, ltT hyj, eij, hg, hg', hgo, mulU (a := p) (b := q) (by omega), addU (a := w) (b := p * q) (by omega), addU (a := w + p * q) (b := a) (by omega), rem32, quo32 f1]
      refine ⟨by omega, by omega, by omega, by omega, by omega, by omega, by omega, by omega, by omega, ?_⟩
      have ej := incI (i := j) (by omega)
      simp only [go_sem, ↓reduceIte, Nat.reduceEqDiff, Nat.reduceAdd, Bool.false_eq_true, Int.reduceToNat, hr3, h0, h1, h5, h6, h8, ej, quo32 f1]
      refine ⟨ho3, hc3, by omega, ?_⟩
      refine ⟨ys.length - (j + 1), by omega, H.wf_set hw' hn3 _, H.le_set hw hle hb3 _, by first | rfl | trivial | assumption, by first | rfl | trivial | assumption, by first | rfl | trivial | assumption, by first | rfl | trivial | assumption, j + 1, _, _, rfl, by omega, rfl, rfl, f2, hput _, mem_set_lt hod (by omega), by simp; omega, fun k hk => ?_, ?_⟩
      · rw [getD_set, if_neg (by omega)]
        exact hoz k hk
      · have e1 := hset ((w + p * q + a) % 4294967296) hjo
        rw [ho1] at e1
        have e2 := digit_snoc (B := 4294967296) (q := 4294967296 ^ (i + j)) (s := w + p * q + a) (by omega)
        rw [show i + (j + 1) = i + j + 1 from rfl, Nat.pow_succ, htk]
        rw [Nat.mul_add, Nat.mul_add] at e2
        have e3 : 4294967296 ^ i * (p * (val 4294967296 (ys.take j) + 4294967296 ^ j * q)) = 4294967296 ^ i * (p * val 4294967296 (ys.take j)) + 4294967296 ^ (i + j) * (p * q) := by
          rw [Nat.mul_add, Nat.mul_add, Nat.pow_add, Nat.mul_left_comm p, Nat.mul_assoc]
        rw [e3]
        omega
    · have hjo : i + ys.length < out.length := by omega
      obtain ⟨i3', r, e3, hb3, hn3, hr3, ho3, hc3, hput⟩ := hs.put hw' hjo
      subst e3
      have eil : IntKind.i64.wrap ((i : Int) + (ys.length : Int)) = ((i + ys.length : Nat) : Int) := by rw [wI] <;> omega
      have ei := incI (i := i) (by omega)
      have hj' : j = ys.length := by omega
      subst hj'
      simp only [go_sem, ↓reduceIte, Nat.reduceEqDiff, Nat.reduceAdd, Bool.false_eq_true, Int.reduceToNat, h0, h1, h5, h6, h7, h8, ltF hyj, eil, hr3, ei]
      refine ⟨by omega, by omega, ho3, hc3, ?_⟩
      refine ⟨xs.length - (i + 1), by omega, H.wf_set hw' hn3 _, H.le_set hw hle hb3 _, by first | rfl | trivial | assumption, by first | rfl | trivial | assumption, i + 1, _, _, _, rfl, by omega, rfl, rfl, hput a, mem_set_lt hod ha, by simp; omega, fun k hk => ?_, ?_⟩
      · rw [getD_set, if_neg (by omega)]
        exact hoz k (by omega)
      · have e1 := val_set 4294967296 out (i + ys.length) a hjo
        rw [← getD_at hjo, hoz _ (Nat.le_refl _), Nat.mul_zero, Nat.add_zero, hov, List.take_length] at e1
        rw [e1, val_take_succ 4294967296 xs i hxi, Nat.add_mul, Nat.mul_assoc]
  · simp only [go_sem, ↓reduceIte, Nat.reduceEqDiff, Nat.reduceAdd, Bool.false_eq_true, Int.reduceToNat, h0, h1, h5, h6, ltF hxi]
    refine norm_num hs.isN hod (by omega) fun r hr => ?_
    simp only [go_sem, ↓reduceIte, Nat.reduceEqDiff, Nat.reduceAdd, Bool.false_eq_true, Int.reduceToNat]
    intro _
    refine hk r h' hw' hle ?_
    rw [List.take_of_length_le hxi] at hov
    rw [hov] at hr
    exact hr
end Ab
end Go.Proofs.Ytnmnkocibjdhjaa
