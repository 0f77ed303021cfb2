/- Joined texts: C6 M7 G1 G2 G3 G4 G5 G6 G7 G8. No condition. -/
import Derived.Test.YtnmnkocibjdhjaaZ8
import Derived.Test.YtnmnkocibjdhjaaProg
import Derived.KernelRfl
namespace Go.Proofs.Ytnmnkocibjdhjaa
namespace Ab
open Go

def c_polyz_Reduce : AC := .seq (.reg [o 4 (.mv (.c (.sl none 0 0 none))), o 5 (.mv (i64 0))]) (.seq (.seq (.reg [mv 9 1, o 10 (.bin .lss (.t 9) (u64 2)), mv 11 10, og 12 11 false (.mv (.t 1)), og 13 11 false (.bin .geq (.t 12) (u64 4611686018427387904)), o 14 (.pick (.t 11) (.c (.bool true)) (.t 13))]) (.cond (.t 14) (.seq (.reg [o 4 (.mv (.c (.sl none 0 0 none))), o 5 (.mv (i64 3))]) .ret) .skip)) (.seq (.reg [mv 15 0, o 16 (.len false (.t 15)), o 17 (.mk 23 1 8 [.int .u64 0] (.t 16) (.t 16)), mv 6 17]) (.seq (.seq (.reg [mv 18 0, o 19 (.len false (.t 18)), o 20 (.mv (i64 0))]) (.block 0 (.loop (.seq (.reg [bn 21 .lss 20 19]) (.seq (.cond (.t 21) .skip (.exit 0)) (.seq (.block 1 (.seq (.reg [mv 22 20, o 23 (.idx 2 (.t 18) (.t 20)), o 24 (.ld (some 2) (.t 23)), o 8 (.alloc 45 [.sl none 0 0 none, .bool false]), mv 7 22, od (.st 2 (.t 8) (.t 24))]) (.reg [mv 25 6, mv 26 7, o 27 (.ld (some 2) (.t 8)), mv 28 1, o 29 (.call 46 [.t 27, .t 28]), o 30 (.idx 1 (.t 25) (.t 26)), od (.st 1 (.t 30) (.t 29))]))) (.reg [o 31 (.bin .add (.t 20) (i64 1)), mv 20 31]))))))) (.seq (.block 2 (.loop (.seq (.seq (.reg [mv 32 6, o 33 (.len false (.t 32)), o 34 (.bin .gtr (.t 33) (i64 0)), mv 35 34, og 36 35 true (.mv (.t 6)), og 37 35 true (.mv (.t 6)), og 38 35 true (.len false (.t 37)), og 39 35 true (.bin .sub (.t 38) (i64 1)), og 40 35 true (.idx 1 (.t 36) (.t 39)), og 41 35 true (.ld none (.t 40)), og 42 35 true (.bin .eql (.t 41) (u64 0)), o 43 (.pick (.t 35) (.t 42) (.c (.bool false)))]) (.cond (.t 43) .skip (.exit 2))) (.block 3 (.reg [mv 44 6, mv 45 6, o 46 (.len false (.t 45)), o 47 (.bin .sub (.t 46) (i64 1)), o 48 (.slc 1 (.t 44) none (some (.t 47))), mv 6 48]))))) (.seq (.reg [mv 49 6, mv 4 49, o 5 (.mv (i64 0))]) .ret)))))
theorem in_polyz_Reduce : Ent 9 50 c_polyz_Reduce [.t 4, .t 5] := ent Try.func9 rfl rfl rfl (show compile _ 50 _ = _ by kernel_rfl) (show compRes _ 50 _ = _ by kernel_rfl)
def c_polyz_Plus : AC := .seq (.reg [o 2 (.mv (.c (.sl none 0 0 none)))]) (.seq (.reg [o 3 (.mv (.c (.sl none 0 0 none)))]) (.seq (.seq (.reg [mv 8 0, o 9 (.len false (.t 8)), o 10 (.mv (i64 0))]) (.block 0 (.loop (.seq (.reg [bn 11 .lss 10 9]) (.seq (.cond (.t 11) .skip (.exit 0)) (.seq (.block 1 (.seq (.reg [o 12 (.idx 1 (.t 8) (.t 10)), o 13 (.ld none (.t 12)), mv 5 13]) (.seq (.reg [mv 14 5, o 15 (.len false (.t 14)), o 16 (.mv (i64 0))]) (.block 2 (.loop (.seq (.reg [bn 17 .lss 16 15]) (.seq (.cond (.t 17) .skip (.exit 2)) (.seq (.block 3 (.seq (.reg [mv 18 16, o 19 (.idx 2 (.t 14) (.t 16)), o 20 (.ld (some 2) (.t 19)), o 7 (.alloc 45 [.sl none 0 0 none, .bool false]), mv 6 18, od (.st 2 (.t 7) (.t 20))]) (.seq (.seq (.reg [mv 21 6, mv 22 3, o 23 (.len false (.t 22)), bn 24 .eql 21 23]) (.cond (.t 24) (.reg [mv 25 3, o 26 (.bld [.sl none 0 0 none, .bool false] []), o 27 (.bsl 45 2 1 [.sl none 0 0 none, .bool false] [(0, .t 26)]), o 28 (.app 45 2 32 (.t 25) (.t 27)), mv 3 28]) .skip)) (.reg [mv 29 3, mv 30 6, mv 31 3, mv 32 6, o 33 (.idx 2 (.t 31) (.t 32)), o 34 (.ld (some 2) (.t 33)), o 35 (.ld (some 2) (.t 7)), o 36 (.call 53 [.t 34, .t 35]), o 37 (.idx 2 (.t 29) (.t 30)), od (.st 2 (.t 37) (.t 36))])))) (.reg [o 38 (.bin .add (.t 16) (i64 1)), mv 16 38]))))))))) (.reg [o 39 (.bin .add (.t 10) (i64 1)), mv 10 39]))))))) (.seq (.reg [mv 40 3, o 41 (.call 54 [.t 40]), mv 2 41]) .ret)))
theorem in_polyz_Plus : Ent 14 42 c_polyz_Plus [.t 2] := ent Try.func14 rfl rfl rfl (show compile _ 42 _ = _ by kernel_rfl) (show compRes _ 42 _ = _ by kernel_rfl)
def c_polyz_Minus : AC := .seq (.reg [o 4 (.mv (.c (.sl none 0 0 none)))]) (.seq (.reg [mv 7 0, o 8 (.len false (.t 7)), mv 9 1, o 10 (.len false (.t 9)), o 11 (.mnx true (.t 8) [.t 10]), o 12 (.mk 45 2 32 [.sl none 0 0 none, .bool false] (.t 11) (.t 11)), mv 5 12]) (.seq (.seq (.reg [mv 13 5, o 14 (.len false (.t 13)), o 15 (.mv (i64 0))]) (.block 0 (.loop (.seq (.reg [bn 16 .lss 15 14]) (.seq (.cond (.t 16) .skip (.exit 0)) (.seq (.block 1 (.seq (.reg [mv 17 15, mv 6 17]) (.reg [mv 18 5, mv 19 6, mv 20 0, mv 21 6, o 22 (.call 61 [.t 20, .t 21]), mv 23 1, mv 24 6, o 25 (.call 61 [.t 23, .t 24]), o 26 (.call 60 [.t 22, .t 25]), o 27 (.idx 2 (.t 18) (.t 19)), od (.st 2 (.t 27) (.t 26))]))) (.reg [o 28 (.bin .add (.t 15) (i64 1)), mv 15 28]))))))) (.seq (.reg [mv 29 5, o 30 (.call 54 [.t 29]), mv 4 30]) .ret)))
theorem in_polyz_Minus : Ent 18 31 c_polyz_Minus [.t 4] := ent Try.func18 rfl rfl rfl (show compile _ 31 _ = _ by kernel_rfl) (show compRes _ 31 _ = _ by kernel_rfl)
def c_polyz_Norm : AC := .seq (.reg [o 2 (.mv (.c (.sl none 0 0 none)))]) (.seq (.reg [mv 6 0, o 7 (.len false (.t 6)), o 8 (.mk 45 2 32 [.sl none 0 0 none, .bool false] (.t 7) (.t 7)), mv 3 8]) (.seq (.seq (.reg [mv 9 0, o 10 (.len false (.t 9)), o 11 (.mv (i64 0))]) (.block 0 (.loop (.seq (.reg [bn 12 .lss 11 10]) (.seq (.cond (.t 12) .skip (.exit 0)) (.seq (.block 1 (.seq (.reg [mv 13 11, o 14 (.idx 2 (.t 9) (.t 11)), o 15 (.ld (some 2) (.t 14)), o 5 (.alloc 45 [.sl none 0 0 none, .bool false]), mv 4 13, od (.st 2 (.t 5) (.t 15))]) (.reg [mv 16 3, mv 17 4, o 18 (.ld (some 2) (.t 5)), o 19 (.call 62 [.t 18]), o 20 (.idx 2 (.t 16) (.t 17)), od (.st 2 (.t 20) (.t 19))]))) (.reg [o 21 (.bin .add (.t 11) (i64 1)), mv 11 21]))))))) (.seq (.reg [mv 22 3, o 23 (.call 54 [.t 22]), mv 2 23]) .ret)))
theorem in_polyz_Norm : Ent 19 24 c_polyz_Norm [.t 2] := ent Try.func19 rfl rfl rfl (show compile _ 24 _ = _ by kernel_rfl) (show compRes _ 24 _ = _ by kernel_rfl)
def c_polyz_Derive : AC := .seq (.reg [o 2 (.mv (.c (.sl none 0 0 none)))]) (.seq (.reg [mv 5 0, o 6 (.call 54 [.t 5]), mv 0 6]) (.seq (.seq (.reg [mv 7 0, o 8 (.len false (.t 7)), o 9 (.bin .eql (.t 8) (i64 0))]) (.cond (.t 9) (.seq (.reg [o 2 (.mv (.c (.sl none 0 0 none)))]) .ret) .skip)) (.seq (.reg [mv 10 0, o 11 (.len false (.t 10)), o 12 (.bin .sub (.t 11) (i64 1)), o 13 (.mk 45 2 32 [.sl none 0 0 none, .bool false] (.t 12) (.t 12)), mv 3 13]) (.seq (.seq (.reg [mv 14 3, o 15 (.len false (.t 14)), o 16 (.mv (i64 0))]) (.block 0 (.loop (.seq (.reg [bn 17 .lss 16 15]) (.seq (.cond (.t 17) .skip (.exit 0)) (.seq (.block 1 (.seq (.reg [mv 18 16, mv 4 18]) (.reg [mv 19 3, mv 20 4, mv 21 0, mv 22 4, o 23 (.bin .add (.t 22) (i64 1)), o 24 (.idx 2 (.t 21) (.t 23)), o 25 (.ld (some 2) (.t 24)), mv 26 4, o 27 (.bin .add (.t 26) (i64 1)), o 28 (.cvI .u64 (.t 27)), o 29 (.call 65 [.t 25, .t 28]), o 30 (.idx 2 (.t 19) (.t 20)), od (.st 2 (.t 30) (.t 29))]))) (.reg [o 31 (.bin .add (.t 16) (i64 1)), mv 16 31]))))))) (.seq (.reg [mv 32 3, o 33 (.call 54 [.t 32]), mv 2 33]) .ret)))))
theorem in_polyz_Derive : Ent 21 34 c_polyz_Derive [.t 2] := ent Try.func21 rfl rfl rfl (show compile _ 34 _ = _ by kernel_rfl) (show compRes _ 34 _ = _ by kernel_rfl)
def c_polyz_Deg : AC := .seq (.reg [o 2 (.mv (i64 0))]) (.seq (.reg [mv 3 0, o 4 (.call 54 [.t 3]), o 5 (.len false (.t 4)), o 6 (.bin .sub (.t 5) (i64 1)), mv 2 6]) .ret)
theorem in_polyz_Deg : Ent 23 7 c_polyz_Deg [.t 2] := ent Try.func23 rfl rfl rfl (show compile _ 7 _ = _ by kernel_rfl) (show compRes _ 7 _ = _ by kernel_rfl)
def c_polyz_Same : AC := .seq (.reg [o 4 (.mv (.c (.bool false)))]) (.seq (.seq (.reg [o 5 (.mv (i64 0))]) (.block 0 (.loop (.seq (.seq (.reg [mv 6 5, mv 7 0, o 8 (.len false (.t 7)), bn 9 .lss 6 8, mv 10 9, og 11 10 false (.mv (.t 5)), og 12 10 false (.mv (.t 1)), og 13 10 false (.len false (.t 12)), og 14 10 false (.bin .lss (.t 11) (.t 13)), o 15 (.pick (.t 10) (.c (.bool true)) (.t 14))]) (.cond (.t 15) .skip (.exit 0))) (.seq (.block 1 (.seq (.reg [mv 18 0, mv 19 5, o 20 (.call 61 [.t 18, .t 19]), mv 21 1, mv 22 5, o 23 (.call 61 [.t 21, .t 22]), o 24 (.call 66 [.t 20, .t 23]), o 25 (.bin .neq (.t 24) (i64 0))]) (.cond (.t 25) (.seq (.reg [o 4 (.mv (.c (.bool false)))]) .ret) .skip))) (.reg [mv 16 5, o 17 (.bin .add (.t 16) (i64 1)), mv 5 17])))))) (.seq (.reg [o 4 (.mv (.c (.bool true)))]) .ret))
theorem in_polyz_Same : Ent 24 26 c_polyz_Same [.t 4] := ent Try.func24 rfl rfl rfl (show compile _ 26 _ = _ by kernel_rfl) (show compRes _ 26 _ = _ by kernel_rfl)
def c_polyz_Height : AC := .seq (.reg [o 2 (.mv (i64 0))]) (.seq (.reg [o 3 (.mv (i64 0))]) (.seq (.seq (.reg [mv 6 0, o 7 (.len false (.t 6)), o 8 (.mv (i64 0))]) (.block 0 (.loop (.seq (.reg [bn 9 .lss 8 7]) (.seq (.cond (.t 9) .skip (.exit 0)) (.seq (.block 1 (.seq (.reg [o 10 (.idx 2 (.t 6) (.t 8)), o 11 (.ld (some 2) (.t 10)), o 5 (.alloc 45 [.sl none 0 0 none, .bool false]), od (.st 2 (.t 5) (.t 11))]) (.reg [mv 12 3, o 13 (.fld 0 (.t 5)), o 14 (.ld none (.t 13)), o 15 (.call 67 [.t 14]), o 16 (.mnx true (.t 12) [.t 15]), mv 3 16]))) (.reg [o 17 (.bin .add (.t 8) (i64 1)), mv 8 17]))))))) (.seq (.reg [mv 18 3, mv 2 18]) .ret)))
theorem in_polyz_Height : Ent 25 19 c_polyz_Height [.t 2] := ent Try.func25 rfl rfl rfl (show compile _ 19 _ = _ by kernel_rfl) (show compRes _ 19 _ = _ by kernel_rfl)
def c_polyz_residue : AC := .seq (.reg [o 2 (.box 45 (.t 0)), o 4 (.mv (u64 0))]) (.seq (.reg [o 9 (.fld 0 (.t 2)), o 10 (.ld none (.t 9)), mv 11 1, o 12 (.call 74 [.t 10, .t 11]), mv 8 12, o 13 (.ext (.t 8) 0), o 14 (.ext (.t 8) 1), o 15 (.ext (.t 8) 2), mv 5 13, mv 6 14, mv 7 15]) (.seq (.seq (.reg [o 16 (.fld 1 (.t 2)), o 17 (.ld none (.t 16)), mv 18 17, og 19 18 true (.mv (.t 6)), og 20 18 true (.bin .gtr (.t 19) (u64 0)), o 21 (.pick (.t 18) (.t 20) (.c (.bool false)))]) (.cond (.t 21) (.reg [mv 22 1, mv 23 6, bn 24 .sub 22 23, mv 6 24]) .skip)) (.seq (.reg [mv 25 6, mv 4 25]) .ret)))
theorem in_polyz_residue : Ent 46 26 c_polyz_residue [.t 4] := ent Try.func46 rfl rfl rfl (show compile _ 26 _ = _ by kernel_rfl) (show compRes _ 26 _ = _ by kernel_rfl)
def c_polyz_New : AC := .seq (.reg [o 1 (.box 50 (.t 0)), o 2 (.mv (.c (.ptr none)))]) (.seq (.reg [o 3 (.ld (some 11) (.t 1)), o 4 (.call 89 [.t 3]), o 5 (.bld [.ptr none] [(0, 1, .t 4)]), o 6 (.box 140 (.t 5)), mv 2 6]) .ret)
theorem in_polyz_New : Ent 47 7 c_polyz_New [.t 2] := ent Try.func47 rfl rfl rfl (show compile _ 7 _ = _ by kernel_rfl) (show compRes _ 7 _ = _ by kernel_rfl)
def c_polyz_trim : AC := .seq (.reg [o 2 (.mv (.c (.sl none 0 0 none)))]) (.seq (.block 0 (.loop (.seq (.seq (.reg [mv 3 0, o 4 (.len false (.t 3)), o 5 (.bin .gtr (.t 4) (i64 0)), mv 6 5, og 7 6 true (.mv (.t 0)), og 8 6 true (.mv (.t 0)), og 9 6 true (.len false (.t 8)), og 10 6 true (.bin .sub (.t 9) (i64 1)), og 11 6 true (.idx 2 (.t 7) (.t 10)), og 12 6 true (.fld 0 (.t 11)), og 13 6 true (.ld none (.t 12)), og 14 6 true (.call 86 [.t 13]), o 15 (.pick (.t 6) (.t 14) (.c (.bool false)))]) (.cond (.t 15) .skip (.exit 0))) (.block 1 (.reg [mv 16 0, mv 17 0, o 18 (.len false (.t 17)), o 19 (.bin .sub (.t 18) (i64 1)), o 20 (.slc 2 (.t 16) none (some (.t 19))), mv 0 20]))))) (.seq (.reg [mv 21 0, mv 2 21]) .ret))
theorem in_polyz_trim : Ent 54 22 c_polyz_trim [.t 2] := ent Try.func54 rfl rfl rfl (show compile _ 22 _ = _ by kernel_rfl) (show compRes _ 22 _ = _ by kernel_rfl)
def c_polyz_at : AC := .seq (.reg [o 4 (.alloc 45 [.sl none 0 0 none, .bool false])]) (.seq (.seq (.reg [mv 5 1, mv 6 0, o 7 (.len false (.t 6)), bn 8 .lss 5 7]) (.cond (.t 8) (.seq (.reg [mv 9 0, mv 10 1, o 11 (.idx 2 (.t 9) (.t 10)), o 12 (.ld (some 2) (.t 11)), od (.st 2 (.t 4) (.t 12))]) .ret) .skip)) (.seq (.reg [o 13 (.bld [.sl none 0 0 none, .bool false] []), od (.st 2 (.t 4) (.t 13))]) .ret))
theorem in_polyz_at : Ent 61 14 c_polyz_at [.c 4 (some 2)] := ent Try.func61 rfl rfl rfl (show compile _ 14 _ = _ by kernel_rfl) (show compRes _ 14 _ = _ by kernel_rfl)
def c_polyz_small : AC := .seq (.reg [o 2 (.box 45 (.t 0)), o 4 (.alloc 45 [.sl none 0 0 none, .bool false])]) (.seq (.reg [o 6 (.fld 0 (.t 2)), o 7 (.ld none (.t 6)), mv 8 1, o 9 (.call 103 [.t 7, .t 8]), mv 5 9]) (.seq (.reg [mv 10 5, o 11 (.fld 1 (.t 2)), o 12 (.ld none (.t 11)), mv 13 12, og 14 13 true (.mv (.t 5)), og 15 13 true (.call 86 [.t 14]), og 16 13 true (.un .not (.t 15)), o 17 (.pick (.t 13) (.t 16) (.c (.bool false))), o 18 (.bld [.sl none 0 0 none, .bool false] [(0, 1, .t 10), (1, 1, .t 17)]), od (.st 2 (.t 4) (.t 18))]) .ret))
theorem in_polyz_small : Ent 65 19 c_polyz_small [.c 4 (some 2)] := ent Try.func65 rfl rfl rfl (show compile _ 19 _ = _ by kernel_rfl) (show compRes _ 19 _ = _ by kernel_rfl)
def c_ref28_Reduce : AC := .seq (.reg [o 4 (.mv (.c (.sl none 0 0 none)))]) (.seq (.reg [o 5 (.mv (.c (.sl none 0 0 none)))]) (.seq (.seq (.reg [o 6 (.mv (i64 0))]) (.block 0 (.loop (.seq (.seq (.reg [mv 9 6, mv 10 0, o 11 (.len false (.t 10)), bn 12 .lss 9 11]) (.cond (.t 12) .skip (.exit 0))) (.seq (.block 1 (.seq (.reg [mv 15 0, mv 16 6, o 17 (.idx 2 (.t 15) (.t 16)), o 18 (.ld (some 2) (.t 17)), mv 19 1, ⟨some 20, none, .call 51 [.t 19], [(some 18, none, .ld (some 2) (.t 17))]⟩, o 21 (.call 50 [.t 18, .t 20]), o 22 (.call 49 [.t 21]), mv 7 22]) (.seq (.reg [o 8 (.mv (u64 0))]) (.seq (.seq (.reg [mv 23 7, o 24 (.len false (.t 23)), o 25 (.bin .gtr (.t 24) (i64 0))]) (.cond (.t 25) (.reg [mv 26 7, o 27 (.idx 1 (.t 26) (i64 0)), o 28 (.ld none (.t 27)), mv 8 28]) .skip)) (.reg [mv 29 5, mv 30 8, o 31 (.bsl 23 1 1 [.int .u64 0] [(0, .t 30)]), o 32 (.app 23 1 8 (.t 29) (.t 31)), mv 5 32]))))) (.reg [mv 13 6, o 14 (.bin .add (.t 13) (i64 1)), mv 6 14])))))) (.seq (.block 2 (.loop (.seq (.seq (.reg [mv 33 5, o 34 (.len false (.t 33)), o 35 (.bin .gtr (.t 34) (i64 0)), mv 36 35, og 37 36 true (.mv (.t 5)), og 38 36 true (.mv (.t 5)), og 39 36 true (.len false (.t 38)), og 40 36 true (.bin .sub (.t 39) (i64 1)), og 41 36 true (.idx 1 (.t 37) (.t 40)), og 42 36 true (.ld none (.t 41)), og 43 36 true (.bin .eql (.t 42) (u64 0)), o 44 (.pick (.t 36) (.t 43) (.c (.bool false)))]) (.cond (.t 44) .skip (.exit 2))) (.block 3 (.reg [mv 45 5, mv 46 5, o 47 (.len false (.t 46)), o 48 (.bin .sub (.t 47) (i64 1)), o 49 (.slc 1 (.t 45) none (some (.t 48))), mv 5 49]))))) (.seq (.reg [mv 50 5, mv 4 50]) .ret))))
theorem in_ref28_Reduce : Ent 12 51 c_ref28_Reduce [.t 4] := ent Try.func12 rfl rfl rfl (show compile _ 51 _ = _ by kernel_rfl) (show compRes _ 51 _ = _ by kernel_rfl)
def c_ref28_Same : AC := .seq (.reg [o 4 (.mv (.c (.bool false)))]) (.seq (.reg [mv 7 0, o 8 (.call 55 [.t 7]), mv 5 8]) (.seq (.seq (.reg [mv 9 5, o 10 (.len false (.t 9)), mv 11 1, o 12 (.len false (.t 11)), bn 13 .neq 10 12]) (.cond (.t 13) (.seq (.reg [o 4 (.mv (.c (.bool false)))]) .ret) .skip)) (.seq (.seq (.reg [o 6 (.mv (i64 0))]) (.block 0 (.loop (.seq (.seq (.reg [mv 14 6, mv 15 5, o 16 (.len false (.t 15)), bn 17 .lss 14 16]) (.cond (.t 17) .skip (.exit 0))) (.seq (.block 1 (.seq (.reg [mv 20 5, mv 21 6, o 22 (.idx 2 (.t 20) (.t 21)), o 23 (.fld 1 (.t 22)), o 24 (.ld none (.t 23)), mv 25 1, mv 26 6, o 27 (.idx 2 (.t 25) (.t 26)), o 28 (.fld 1 (.t 27)), o 29 (.ld none (.t 28)), o 30 (.beq true (.t 24) (.t 29)), mv 31 30, og 32 31 false (.mv (.t 0)), og 33 31 false (.mv (.t 6)), og 34 31 false (.idx 2 (.t 32) (.t 33)), og 35 31 false (.fld 0 (.t 34)), og 36 31 false (.ld none (.t 35)), og 37 31 false (.mv (.t 1)), og 38 31 false (.mv (.t 6)), og 39 31 false (.idx 2 (.t 37) (.t 38)), og 40 31 false (.fld 0 (.t 39)), og 41 31 false (.ld none (.t 40)), og 42 31 false (.call 36 [.t 36, .t 41]), og 43 31 false (.un .not (.t 42)), o 44 (.pick (.t 31) (.c (.bool true)) (.t 43))]) (.cond (.t 44) (.seq (.reg [o 4 (.mv (.c (.bool false)))]) .ret) .skip))) (.reg [mv 18 6, o 19 (.bin .add (.t 18) (i64 1)), mv 6 19])))))) (.seq (.reg [o 4 (.mv (.c (.bool true)))]) .ret))))
theorem in_ref28_Same : Ent 15 45 c_ref28_Same [.t 4] := ent Try.func15 rfl rfl rfl (show compile _ 45 _ = _ by kernel_rfl) (show compRes _ 45 _ = _ by kernel_rfl)
def c_ref28_Add : AC := .seq (.reg [o 4 (.mv (.c (.sl none 0 0 none)))]) (.seq (.reg [o 5 (.mv (.c (.sl none 0 0 none)))]) (.seq (.seq (.reg [o 6 (.mv (i64 0))]) (.block 0 (.loop (.seq (.seq (.reg [mv 7 6, mv 8 0, o 9 (.len false (.t 8)), mv 10 1, o 11 (.len false (.t 10)), o 12 (.mnx true (.t 9) [.t 11]), bn 13 .lss 7 12]) (.cond (.t 13) .skip (.exit 0))) (.seq (.block 1 (.reg [mv 16 5, mv 17 0, mv 18 6, o 19 (.call 57 [.t 17, .t 18]), mv 20 1, mv 21 6, o 22 (.call 57 [.t 20, .t 21]), o 23 (.call 56 [.t 19, .t 22]), o 24 (.bsl 103 2 1 [.sl none 0 0 none, .bool false] [(0, .t 23)]), o 25 (.app 103 2 32 (.t 16) (.t 24)), mv 5 25])) (.reg [mv 14 6, o 15 (.bin .add (.t 14) (i64 1)), mv 6 15])))))) (.seq (.reg [mv 26 5, o 27 (.call 58 [.t 26]), mv 4 27]) .ret)))
theorem in_ref28_Add : Ent 16 28 c_ref28_Add [.t 4] := ent Try.func16 rfl rfl rfl (show compile _ 28 _ = _ by kernel_rfl) (show compRes _ 28 _ = _ by kernel_rfl)
def c_ref28_Sub : AC := .seq (.reg [o 4 (.mv (.c (.sl none 0 0 none)))]) (.seq (.reg [o 5 (.mv (.c (.sl none 0 0 none)))]) (.seq (.seq (.reg [o 6 (.mv (i64 0))]) (.block 0 (.loop (.seq (.seq (.reg [mv 7 6, mv 8 0, o 9 (.len false (.t 8)), mv 10 1, o 11 (.len false (.t 10)), o 12 (.mnx true (.t 9) [.t 11]), bn 13 .lss 7 12]) (.cond (.t 13) .skip (.exit 0))) (.seq (.block 1 (.reg [mv 16 5, mv 17 0, mv 18 6, o 19 (.call 57 [.t 17, .t 18]), mv 20 1, mv 21 6, o 22 (.call 57 [.t 20, .t 21]), o 23 (.call 59 [.t 19, .t 22]), o 24 (.bsl 103 2 1 [.sl none 0 0 none, .bool false] [(0, .t 23)]), o 25 (.app 103 2 32 (.t 16) (.t 24)), mv 5 25])) (.reg [mv 14 6, o 15 (.bin .add (.t 14) (i64 1)), mv 6 15])))))) (.seq (.reg [mv 26 5, o 27 (.call 58 [.t 26]), mv 4 27]) .ret)))
theorem in_ref28_Sub : Ent 17 28 c_ref28_Sub [.t 4] := ent Try.func17 rfl rfl rfl (show compile _ 28 _ = _ by kernel_rfl) (show compRes _ 28 _ = _ by kernel_rfl)
def c_ref28_Derive : AC := .seq (.reg [o 2 (.mv (.c (.sl none 0 0 none)))]) (.seq (.reg [o 3 (.mv (.c (.sl none 0 0 none)))]) (.seq (.seq (.reg [o 4 (.mv (i64 1))]) (.block 0 (.loop (.seq (.seq (.reg [mv 5 4, mv 6 0, o 7 (.len false (.t 6)), bn 8 .lss 5 7]) (.cond (.t 8) .skip (.exit 0))) (.seq (.block 1 (.reg [mv 11 3, mv 12 0, mv 13 4, o 14 (.idx 2 (.t 12) (.t 13)), o 15 (.ld (some 2) (.t 14)), mv 16 4, ⟨some 17, none, .call 64 [.t 16], [(some 15, none, .ld (some 2) (.t 14))]⟩, o 18 (.call 63 [.t 15, .t 17]), o 19 (.bsl 103 2 1 [.sl none 0 0 none, .bool false] [(0, .t 18)]), o 20 (.app 103 2 32 (.t 11) (.t 19)), mv 3 20])) (.reg [mv 9 4, o 10 (.bin .add (.t 9) (i64 1)), mv 4 10])))))) (.seq (.reg [mv 21 3, o 22 (.call 58 [.t 21]), mv 2 22]) .ret)))
theorem in_ref28_Derive : Ent 20 23 c_ref28_Derive [.t 2] := ent Try.func20 rfl rfl rfl (show compile _ 23 _ = _ by kernel_rfl) (show compRes _ 23 _ = _ by kernel_rfl)
def c_ref28_Height : AC := .seq (.reg [o 2 (.mv (i64 0))]) (.seq (.reg [o 3 (.mv (i64 0))]) (.seq (.seq (.reg [o 4 (.mv (i64 0))]) (.block 0 (.loop (.seq (.seq (.reg [mv 5 4, mv 6 0, o 7 (.len false (.t 6)), bn 8 .lss 5 7]) (.cond (.t 8) .skip (.exit 0))) (.seq (.block 1 (.reg [mv 11 3, mv 12 0, mv 13 4, o 14 (.idx 2 (.t 12) (.t 13)), o 15 (.fld 0 (.t 14)), o 16 (.ld none (.t 15)), o 17 (.call 68 [.t 16]), o 18 (.mnx true (.t 11) [.t 17]), mv 3 18])) (.reg [mv 9 4, o 10 (.bin .add (.t 9) (i64 1)), mv 4 10])))))) (.seq (.reg [mv 19 3, mv 2 19]) .ret)))
theorem in_ref28_Height : Ent 26 20 c_ref28_Height [.t 2] := ent Try.func26 rfl rfl rfl (show compile _ 20 _ = _ by kernel_rfl) (show compRes _ 20 _ = _ by kernel_rfl)
def c_ref28_From : AC := .seq (.reg [o 2 (.mv (.c (.sl none 0 0 none)))]) (.seq (.reg [o 3 (.mv (.c (.sl none 0 0 none)))]) (.seq (.seq (.reg [o 4 (.mv (i64 0))]) (.block 0 (.loop (.seq (.seq (.reg [mv 5 4, mv 6 0, o 7 (.len false (.t 6)), bn 8 .lss 5 7]) (.cond (.t 8) .skip (.exit 0))) (.seq (.block 1 (.reg [mv 11 3, mv 12 0, mv 13 4, o 14 (.idx 2 (.t 12) (.t 13)), o 15 (.ld (some 2) (.t 14)), o 16 (.call 88 [.t 15]), o 17 (.bsl 103 2 1 [.sl none 0 0 none, .bool false] [(0, .t 16)]), o 18 (.app 103 2 32 (.t 11) (.t 17)), mv 3 18])) (.reg [mv 9 4, o 10 (.bin .add (.t 9) (i64 1)), mv 4 10])))))) (.seq (.reg [mv 19 3, o 20 (.call 58 [.t 19]), mv 2 20]) .ret)))
theorem in_ref28_From : Ent 45 21 c_ref28_From [.t 2] := ent Try.func45 rfl rfl rfl (show compile _ 21 _ = _ by kernel_rfl) (show compRes _ 21 _ = _ by kernel_rfl)
def c_ref28_To : AC := .seq (.reg [o 2 (.mv (.c (.sl none 0 0 none)))]) (.seq (.reg [o 3 (.mv (.c (.sl none 0 0 none)))]) (.seq (.seq (.reg [o 4 (.mv (i64 0))]) (.block 0 (.loop (.seq (.seq (.reg [mv 5 4, mv 6 0, o 7 (.len false (.t 6)), bn 8 .lss 5 7]) (.cond (.t 8) .skip (.exit 0))) (.seq (.block 1 (.reg [mv 11 3, mv 12 0, mv 13 4, o 14 (.idx 2 (.t 12) (.t 13)), o 15 (.ld (some 2) (.t 14)), o 16 (.call 96 [.t 15]), o 17 (.bsl 45 2 1 [.sl none 0 0 none, .bool false] [(0, .t 16)]), o 18 (.app 45 2 32 (.t 11) (.t 17)), mv 3 18])) (.reg [mv 9 4, o 10 (.bin .add (.t 9) (i64 1)), mv 4 10])))))) (.seq (.reg [mv 19 3, mv 2 19]) .ret)))
theorem in_ref28_To : Ent 55 20 c_ref28_To [.t 2] := ent Try.func55 rfl rfl rfl (show compile _ 20 _ = _ by kernel_rfl) (show compRes _ 20 _ = _ by kernel_rfl)
def c_ref28_at : AC := .seq (.reg [o 4 (.alloc 103 [.sl none 0 0 none, .bool false])]) (.seq (.seq (.reg [mv 5 1, o 6 (.bin .lss (.t 5) (i64 0)), mv 7 6, og 8 7 false (.mv (.t 1)), og 9 7 false (.mv (.t 0)), og 10 7 false (.len false (.t 9)), og 11 7 false (.bin .geq (.t 8) (.t 10)), o 12 (.pick (.t 7) (.c (.bool true)) (.t 11))]) (.cond (.t 12) (.seq (.reg [o 13 (.bld [.sl none 0 0 none, .bool false] []), od (.st 2 (.t 4) (.t 13))]) .ret) .skip)) (.seq (.reg [mv 14 0, mv 15 1, o 16 (.idx 2 (.t 14) (.t 15)), o 17 (.ld (some 2) (.t 16)), od (.st 2 (.t 4) (.t 17))]) .ret))
theorem in_ref28_at : Ent 57 18 c_ref28_at [.c 4 (some 2)] := ent Try.func57 rfl rfl rfl (show compile _ 18 _ = _ by kernel_rfl) (show compRes _ 18 _ = _ by kernel_rfl)
def c_ref28_norm : AC := .seq (.reg [o 2 (.mv (.c (.sl none 0 0 none)))]) (.seq (.reg [mv 4 0, o 5 (.len false (.t 4)), mv 3 5]) (.seq (.block 0 (.loop (.seq (.seq (.reg [mv 6 3, o 7 (.bin .gtr (.t 6) (i64 0)), mv 8 7, og 9 8 true (.mv (.t 0)), og 10 8 true (.mv (.t 3)), og 11 8 true (.bin .sub (.t 10) (i64 1)), og 12 8 true (.idx 2 (.t 9) (.t 11)), og 13 8 true (.ld (some 2) (.t 12)), og 14 8 true (.call 100 [.t 13]), o 15 (.pick (.t 8) (.t 14) (.c (.bool false)))]) (.cond (.t 15) .skip (.exit 0))) (.block 1 (.reg [mv 16 3, o 17 (.bin .sub (.t 16) (i64 1)), mv 3 17]))))) (.seq (.reg [mv 18 0, mv 19 3, o 20 (.slc 2 (.t 18) none (some (.t 19))), mv 2 20]) .ret)))
theorem in_ref28_norm : Ent 58 21 c_ref28_norm [.t 2] := ent Try.func58 rfl rfl rfl (show compile _ 21 _ = _ by kernel_rfl) (show compRes _ 21 _ = _ by kernel_rfl)
def c_law28_PolyzReduces : AC := .seq (.reg [o 6 (.mv (.c (.bool false)))]) (.seq (.reg [mv 11 0, o 12 (.call 8 [.t 11, i64 20, i64 5]), mv 10 12, o 13 (.ext (.t 10) 0), o 14 (.ext (.t 10) 1), mv 0 13, mv 7 14]) (.seq (.seq (.reg [mv 15 2]) (.cond (.t 15) (.reg [mv 16 1, o 17 (.bin .rem (.t 16) (u64 1000)), mv 1 17]) .skip)) (.seq (.reg [mv 19 0, mv 20 1, o 21 (.call 9 [.t 19, .t 20]), mv 18 21, o 22 (.ext (.t 18) 0), o 23 (.ext (.t 18) 1), mv 8 22, mv 9 23]) (.seq (.seq (.reg [mv 24 1, o 25 (.bin .lss (.t 24) (u64 2)), mv 26 25, og 27 26 false (.mv (.t 1)), og 28 26 false (.bin .geq (.t 27) (u64 4611686018427387904)), o 29 (.pick (.t 26) (.c (.bool true)) (.t 28))]) (.cond (.t 29) (.seq (.reg [mv 30 9, o 31 (.bin .eql (.t 30) (i64 3)), mv 32 31, og 33 32 true (.mv (.t 8)), og 34 32 true (.len false (.t 33)), og 35 32 true (.bin .eql (.t 34) (i64 0)), o 36 (.pick (.t 32) (.t 35) (.c (.bool false))), mv 37 36, og 38 37 true (.call 10 []), o 39 (.pick (.t 37) (.t 38) (.c (.bool false))), mv 6 39]) .ret) .skip)) (.seq (.reg [mv 40 9, o 41 (.bin .eql (.t 40) (i64 0)), mv 42 41, og 43 42 true (.mv (.t 8)), og 44 42 true (.mv (.t 7)), og 45 42 true (.mv (.t 1)), og 46 42 true (.call 12 [.t 44, .t 45]), og 47 42 true (.call 11 [.t 43, .t 46]), o 48 (.pick (.t 42) (.t 47) (.c (.bool false))), mv 49 48, og 50 49 true (.call 10 []), o 51 (.pick (.t 49) (.t 50) (.c (.bool false))), mv 6 51]) .ret)))))
theorem in_law28_PolyzReduces : Ent 3 52 c_law28_PolyzReduces [.t 6] := ent Try.func3 rfl rfl rfl (show compile _ 52 _ = _ by kernel_rfl) (show compRes _ 52 _ = _ by kernel_rfl)
def c_law28_PolyzSums : AC := .seq (.reg [o 4 (.mv (.c (.bool false)))]) (.seq (.reg [mv 14 0, o 15 (.call 8 [.t 14, i64 20, i64 5]), mv 13 15, o 16 (.ext (.t 13) 0), o 17 (.ext (.t 13) 1), mv 0 16, mv 5 17]) (.seq (.reg [mv 19 1, o 20 (.call 8 [.t 19, i64 20, i64 5]), mv 18 20, o 21 (.ext (.t 18) 0), o 22 (.ext (.t 18) 1), mv 1 21, mv 6 22]) (.seq (.reg [mv 23 0, o 24 (.call 13 [.t 23]), mv 25 1, o 26 (.call 13 [.t 25]), mv 7 24, mv 8 26]) (.seq (.reg [mv 27 7, mv 28 8, o 29 (.bsl 22 1 2 [.sl none 0 0 none] [(0, .t 27), (1, .t 28)]), o 30 (.call 14 [.t 29]), mv 9 30]) (.seq (.seq (.reg [mv 31 5, mv 32 6, o 33 (.call 16 [.t 31, .t 32]), mv 34 9, o 35 (.call 15 [.t 33, .t 34]), o 36 (.un .not (.t 35)), mv 37 36, og 38 37 false (.mv (.t 5)), og 39 37 false (.mv (.t 6)), og 40 37 false (.call 17 [.t 38, .t 39]), og 41 37 false (.mv (.t 7)), og 42 37 false (.mv (.t 8)), og 43 37 false (.call 18 [.t 41, .t 42]), og 44 37 false (.call 15 [.t 40, .t 43]), og 45 37 false (.un .not (.t 44)), o 46 (.pick (.t 37) (.c (.bool true)) (.t 45)), mv 47 46, og 48 47 false (.mv (.t 5)), og 49 47 false (.mv (.t 7)), og 50 47 false (.call 19 [.t 49]), og 51 47 false (.call 15 [.t 48, .t 50]), og 52 47 false (.un .not (.t 51)), o 53 (.pick (.t 47) (.c (.bool true)) (.t 52)), mv 54 53, og 55 54 false (.mv (.t 5)), og 56 54 false (.call 20 [.t 55]), og 57 54 false (.mv (.t 7)), og 58 54 false (.call 21 [.t 57]), og 59 54 false (.call 15 [.t 56, .t 58]), og 60 54 false (.un .not (.t 59)), o 61 (.pick (.t 54) (.c (.bool true)) (.t 60))]) (.cond (.t 61) (.seq (.reg [o 4 (.mv (.c (.bool false)))]) .ret) .skip)) (.seq (.seq (.reg [o 10 (.mv (i64 0))]) (.block 0 (.loop (.seq (.seq (.reg [mv 62 10, mv 63 9, o 64 (.len false (.t 63)), bn 65 .lss 62 64]) (.cond (.t 65) .skip (.exit 0))) (.seq (.block 1 (.reg [mv 68 9, mv 69 10, o 70 (.idx 2 (.t 68) (.t 69)), o 71 (.fld 0 (.t 70)), o 72 (.ld none (.t 71)), o 73 (.call 22 [.t 72])])) (.reg [mv 66 10, o 67 (.bin .add (.t 66) (i64 1)), mv 10 67])))))) (.seq (.reg [mv 74 7, o 75 (.call 19 [.t 74]), mv 11 75]) (.seq (.seq (.reg [o 12 (.mv (i64 0))]) (.block 2 (.loop (.seq (.seq (.reg [mv 76 12, mv 77 11, o 78 (.len false (.t 77)), bn 79 .lss 76 78]) (.cond (.t 79) .skip (.exit 2))) (.seq (.block 3 (.reg [mv 82 11, mv 83 12, o 84 (.idx 2 (.t 82) (.t 83)), o 85 (.fld 0 (.t 84)), o 86 (.ld none (.t 85)), o 87 (.call 22 [.t 86])])) (.reg [mv 80 12, o 81 (.bin .add (.t 80) (i64 1)), mv 12 81])))))) (.seq (.reg [mv 88 7, o 89 (.call 23 [.t 88]), mv 90 5, o 91 (.len false (.t 90)), o 92 (.bin .sub (.t 91) (i64 1)), bn 93 .eql 89 92, mv 94 93, og 95 94 true (.mv (.t 7)), og 96 94 true (.mv (.t 8)), og 97 94 true (.call 24 [.t 95, .t 96]), og 98 94 true (.mv (.t 5)), og 99 94 true (.mv (.t 6)), og 100 94 true (.call 17 [.t 98, .t 99]), og 101 94 true (.len false (.t 100)), og 102 94 true (.bin .eql (.t 101) (i64 0)), og 103 94 true (.beq false (.t 97) (.t 102)), o 104 (.pick (.t 94) (.t 103) (.c (.bool false))), mv 105 104, og 106 105 true (.mv (.t 7)), og 107 105 true (.call 25 [.t 106]), og 108 105 true (.mv (.t 5)), og 109 105 true (.call 26 [.t 108]), og 110 105 true (.bin .eql (.t 107) (.t 109)), o 111 (.pick (.t 105) (.t 110) (.c (.bool false))), mv 112 111, og 113 112 true (.mv (.t 7)), og 114 112 true (.mv (.t 0)), og 115 112 true (.call 27 [.t 113, .t 114]), o 116 (.pick (.t 112) (.t 115) (.c (.bool false))), mv 117 116, og 118 117 true (.mv (.t 8)), og 119 117 true (.mv (.t 1)), og 120 117 true (.call 27 [.t 118, .t 119]), o 121 (.pick (.t 117) (.t 120) (.c (.bool false))), mv 122 121, og 123 122 true (.call 10 []), o 124 (.pick (.t 122) (.t 123) (.c (.bool false))), mv 4 124]) .ret)))))))))
theorem in_law28_PolyzSums : Ent 4 125 c_law28_PolyzSums [.t 4] := ent Try.func4 rfl rfl rfl (show compile _ 125 _ = _ by kernel_rfl) (show compRes _ 125 _ = _ by kernel_rfl)
def c_law28_cut : AC := .seq (.reg [o 6 (.mv (.c (.sl none 0 0 none))), o 7 (.mv (.c (.sl none 0 0 none)))]) (.seq (.reg [mv 8 0, mv 9 1, mv 10 2, o 11 (.call 44 [.t 8, .t 9, .t 10]), mv 0 11]) (.seq (.reg [mv 12 0, mv 13 0, o 14 (.call 45 [.t 13]), mv 6 12, mv 7 14]) .ret))
theorem in_law28_cut : Ent 8 15 c_law28_cut [.t 6, .t 7] := ent Try.func8 rfl rfl rfl (show compile _ 15 _ = _ by kernel_rfl) (show compRes _ 15 _ = _ by kernel_rfl)
def c_law28_wakes : AC := .seq (.reg [o 0 (.mv (.c (.bool false)))]) (.seq (.reg [o 2 (.bld [.int .i64 0, .int .i64 0, .int .i64 0, .int .i64 0, .int .i64 0, .int .i64 0, .int .i64 0, .int .i64 0, .int .i64 0, .int .i64 0, .int .i64 0] []), o 3 (.call 47 [.t 2]), mv 1 3]) (.seq (.reg [mv 4 1, o 5 (.peq true (.t 4) (.c (.ptr none))), mv 6 5, og 7 6 true (.call 48 [i64 3]), og 8 6 true (.call 48 [i64 (-4)]), og 9 6 true (.bsl 45 2 2 [.sl none 0 0 none, .bool false] [(0, .t 7), (1, .t 8)]), og 10 6 true (.call 25 [.t 9]), og 11 6 true (.bin .eql (.t 10) (i64 3)), o 12 (.pick (.t 6) (.t 11) (.c (.bool false))), mv 13 12, og 14 13 true (.call 23 [.c (.sl none 0 0 none)]), og 15 13 true (.bin .eql (.t 14) (i64 (-1))), o 16 (.pick (.t 13) (.t 15) (.c (.bool false))), mv 0 16]) .ret))
theorem in_law28_wakes : Ent 10 17 c_law28_wakes [.t 0] := ent Try.func10 rfl rfl rfl (show compile _ 17 _ = _ by kernel_rfl) (show compRes _ 17 _ = _ by kernel_rfl)
def c_divs_New : AC := .seq (.reg [o 1 (.box 50 (.t 0)), o 2 (.mv (.c (.ptr none)))]) (.seq (.reg [o 3 (.ld (some 11) (.t 1)), o 4 (.call 70 [.t 3]), o 5 (.bld [.ptr none] [(0, 1, .t 4)]), o 6 (.box 66 (.t 5)), mv 2 6]) .ret)
theorem in_divs_New : Ent 29 7 c_divs_New [.t 2] := ent Try.func29 rfl rfl rfl (show compile _ 7 _ = _ by kernel_rfl) (show compRes _ 7 _ = _ by kernel_rfl)
def c_divs_Engine_Long : AC := .seq (.reg [o 6 (.mv (.c (.sl none 0 0 none))), o 7 (.mv (.c (.sl none 0 0 none))), o 8 (.mv (i64 0))]) (.seq (.reg [mv 21 1, o 22 (.call 71 [.t 21]), mv 23 2, o 24 (.call 71 [.t 23]), mv 9 22, mv 10 24]) (.seq (.seq (.reg [mv 25 10, o 26 (.bin .eql (.t 25) (i64 0))]) (.cond (.t 26) (.seq (.reg [o 6 (.mv (.c (.sl none 0 0 none))), o 7 (.mv (.c (.sl none 0 0 none))), o 8 (.mv (i64 2))]) .ret) .skip)) (.seq (.seq (.reg [mv 27 9, mv 28 10, bn 29 .lss 27 28]) (.cond (.t 29) (.seq (.reg [mv 30 1, o 31 (.call 72 [.t 30]), o 6 (.mv (.c (.sl none 0 0 none))), mv 7 31, o 8 (.mv (i64 0))]) .ret) .skip)) (.seq (.reg [mv 32 0, o 33 (.nn (.t 32)), o 34 (.fld 0 (.t 33)), o 35 (.ld none (.t 34)), o 36 (.nn (.t 35)), o 37 (.fld 0 (.t 36)), o 38 (.ld none (.t 37)), o 39 (.nn (.t 38)), o 40 (.fld 0 (.t 39)), o 41 (.ld none (.t 40)), o 42 (.nn (.t 41)), o 43 (.fld 0 (.t 42)), o 44 (.ld none (.t 43)), o 45 (.nn (.t 44)), o 46 (.fld 0 (.t 45)), o 47 (.ld none (.t 46)), o 48 (.nn (.t 47)), o 49 (.fld 0 (.t 48)), mv 50 9, mv 51 10, bn 52 .sub 50 51, o 53 (.bin .add (.t 52) (i64 1)), mv 54 10, o 55 (.bin .add (.t 54) (i64 1)), bn 56 .mul 53 55, o 57 (.call 73 [.t 49, .t 56])]) (.seq (.seq (.reg [mv 58 10, o 59 (.bin .eql (.t 58) (i64 1))]) (.cond (.t 59) (.seq (.reg [mv 61 1, mv 62 2, o 63 (.idx 1 (.t 62) (i64 0)), o 64 (.ld none (.t 63)), o 65 (.call 74 [.t 61, .t 64]), mv 60 65, o 66 (.ext (.t 60) 0), o 67 (.ext (.t 60) 1), o 68 (.ext (.t 60) 2), mv 11 66, mv 12 67, mv 13 68]) (.seq (.reg [mv 69 11, mv 70 12, o 71 (.call 75 [.t 70]), mv 6 69, mv 7 71, o 8 (.mv (i64 0))]) .ret)) .skip)) (.seq (.reg [mv 72 2, mv 73 10, o 74 (.bin .sub (.t 73) (i64 1)), o 75 (.idx 1 (.t 72) (.t 74)), o 76 (.ld none (.t 75)), o 77 (.call 76 [.t 76]), mv 14 77]) (.seq (.reg [mv 78 2, mv 79 14, o 80 (.call 77 [.t 78, .t 79]), mv 15 80]) (.seq (.reg [mv 81 9, o 82 (.bin .add (.t 81) (i64 1)), o 83 (.mk 23 1 8 [.int .u64 0] (.t 82) (.t 82)), mv 16 83]) (.seq (.reg [mv 84 16, mv 85 1, mv 86 14, o 87 (.call 77 [.t 85, .t 86]), o 88 (.cpy 1 (.t 84) (.t 87))]) (.seq (.reg [mv 90 15, mv 91 10, o 92 (.bin .sub (.t 91) (i64 1)), o 93 (.idx 1 (.t 90) (.t 92)), o 94 (.ld none (.t 93)), mv 95 15, mv 96 10, o 97 (.bin .sub (.t 96) (i64 2)), o 98 (.idx 1 (.t 95) (.t 97)), o 99 (.ld none (.t 98)), o 100 (.call 78 [.t 94, .t 99]), mv 89 100, o 101 (.ext (.t 89) 0), o 102 (.ext (.t 89) 1), mv 17 101, mv 18 102]) (.seq (.reg [mv 103 9, mv 104 10, bn 105 .sub 103 104, o 106 (.bin .add (.t 105) (i64 1)), o 107 (.mk 23 1 8 [.int .u64 0] (.t 106) (.t 106)), mv 19 107]) (.seq (.seq (.reg [mv 108 9, mv 109 10, bn 110 .sub 108 109, mv 20 110]) (.block 0 (.loop (.seq (.seq (.reg [mv 111 20, o 112 (.bin .geq (.t 111) (i64 0))]) (.cond (.t 112) .skip (.exit 0))) (.seq (.block 1 (.reg [mv 115 19, mv 116 20, mv 117 16, mv 118 20, mv 119 20, mv 120 10, bn 121 .add 119 120, o 122 (.bin .add (.t 121) (i64 1)), o 123 (.slc 1 (.t 117) (some (.t 118)) (some (.t 122))), mv 124 15, mv 125 17, o 126 (.call 79 [.t 123, .t 124, .t 125]), o 127 (.idx 1 (.t 115) (.t 116)), od (.st 1 (.t 127) (.t 126))])) (.reg [mv 113 20, o 114 (.bin .sub (.t 113) (i64 1)), mv 20 114])))))) (.seq (.reg [mv 128 19, o 129 (.call 72 [.t 128]), mv 130 16, mv 131 14, o 132 (.call 80 [.t 130, .t 131]), mv 6 129, mv 7 132, o 8 (.mv (i64 0))]) .ret)))))))))))))
theorem in_divs_Engine_Long : Ent 31 133 c_divs_Engine_Long [.t 6, .t 7, .t 8] := ent Try.func31 rfl rfl rfl (show compile _ 133 _ = _ by kernel_rfl) (show compRes _ 133 _ = _ by kernel_rfl)
def c_divs_Engine_LongMod : AC := .seq (.reg [o 6 (.mv (.c (.sl none 0 0 none))), o 7 (.mv (i64 0))]) (.seq (.seq (.reg [mv 16 2, o 17 (.len false (.t 16)), o 18 (.mv (i64 0))]) (.block 0 (.loop (.seq (.reg [bn 19 .lss 18 17]) (.seq (.cond (.t 19) .skip (.exit 0)) (.seq (.block 1 (.seq (.reg [o 20 (.idx 1 (.t 16) (.t 18)), o 21 (.ld none (.t 20)), mv 9 21]) (.seq (.reg [mv 22 9, o 23 (.call 86 [.t 22])]) (.cond (.t 23) (.seq (.reg [o 6 (.mv (.c (.sl none 0 0 none))), o 7 (.mv (i64 2))]) .ret) .skip)))) (.reg [o 24 (.bin .add (.t 18) (i64 1)), mv 18 24]))))))) (.seq (.reg [o 10 (.mv (.c (.sl none 0 0 none)))]) (.seq (.seq (.reg [mv 25 2, o 26 (.len false (.t 25)), o 27 (.mv (i64 0))]) (.block 2 (.loop (.seq (.reg [bn 28 .lss 27 26]) (.seq (.cond (.t 28) .skip (.exit 2)) (.seq (.block 3 (.seq (.reg [o 29 (.idx 1 (.t 25) (.t 27)), o 30 (.ld none (.t 29)), mv 12 30]) (.seq (.reg [mv 32 0, mv 33 1, mv 34 12, o 35 (.call 31 [.t 32, .t 33, .t 34]), mv 31 35, o 36 (.ext (.t 31) 0), o 37 (.ext (.t 31) 1), o 38 (.ext (.t 31) 2), mv 13 36, mv 14 37, mv 15 38]) (.reg [mv 39 10, mv 40 14, o 41 (.bsl 43 1 1 [.sl none 0 0 none] [(0, .t 40)]), o 42 (.app 43 1 24 (.t 39) (.t 41)), mv 10 42])))) (.reg [o 43 (.bin .add (.t 27) (i64 1)), mv 27 43]))))))) (.seq (.reg [mv 44 10, mv 6 44, o 7 (.mv (i64 0))]) .ret))))
theorem in_divs_Engine_LongMod : Ent 41 45 c_divs_Engine_LongMod [.t 6, .t 7] := ent Try.func41 rfl rfl rfl (show compile _ 45 _ = _ by kernel_rfl) (show compRes _ 45 _ = _ by kernel_rfl)
def c_divs_digit : AC := .seq (.reg [o 6 (.mv (u64 0))]) (.seq (.reg [mv 20 1, o 21 (.len false (.t 20)), mv 7 21]) (.seq (.reg [mv 23 0, mv 24 7, o 25 (.idx 1 (.t 23) (.t 24)), o 26 (.ld none (.t 25)), mv 27 0, mv 28 7, o 29 (.bin .sub (.t 28) (i64 1)), o 30 (.idx 1 (.t 27) (.t 29)), o 31 (.ld none (.t 30)), mv 32 0, mv 33 7, o 34 (.bin .sub (.t 33) (i64 2)), o 35 (.idx 1 (.t 32) (.t 34)), o 36 (.ld none (.t 35)), mv 37 1, mv 38 7, o 39 (.bin .sub (.t 38) (i64 1)), o 40 (.idx 1 (.t 37) (.t 39)), o 41 (.ld none (.t 40)), mv 42 1, mv 43 7, o 44 (.bin .sub (.t 43) (i64 2)), o 45 (.idx 1 (.t 42) (.t 44)), o 46 (.ld none (.t 45)), mv 47 2, o 48 (.call 113 [.t 26, .t 31, .t 36, .t 41, .t 46, .t 47]), mv 22 48, o 49 (.ext (.t 22) 0), o 50 (.ext (.t 22) 1), o 51 (.ext (.t 22) 2), o 52 (.ext (.t 22) 3), mv 8 49, mv 9 50, mv 10 51, mv 11 52]) (.seq (.seq (.reg [mv 53 11, o 54 (.un .not (.t 53))]) (.cond (.t 54) (.reg [o 8 (.mv (u64 18446744073709551615))]) .skip)) (.seq (.reg [o 12 (.mv (u64 0))]) (.seq (.seq (.reg [o 13 (.mv (i64 0))]) (.block 0 (.loop (.seq (.seq (.reg [mv 55 13, mv 56 7, bn 57 .lss 55 56]) (.cond (.t 57) .skip (.exit 0))) (.seq (.block 1 (.seq (.reg [mv 61 8, mv 62 1, mv 63 13, o 64 (.idx 1 (.t 62) (.t 63)), o 65 (.ld none (.t 64)), o 66 (.call 112 [.t 61, .t 65]), mv 60 66, o 67 (.ext (.t 60) 0), o 68 (.ext (.t 60) 1), mv 14 67, mv 15 68]) (.seq (.reg [mv 70 15, mv 71 12, o 72 (.call 114 [.t 70, .t 71, u64 0]), mv 69 72, o 73 (.ext (.t 69) 0), o 74 (.ext (.t 69) 1), mv 15 73, mv 16 74]) (.seq (.reg [mv 75 14, mv 76 16, bn 77 .add 75 76, mv 14 77]) (.seq (.reg [mv 79 0, mv 80 13, mv 81 0, mv 82 13, o 83 (.idx 1 (.t 81) (.t 82)), o 84 (.ld none (.t 83)), mv 85 15, o 86 (.call 115 [.t 84, .t 85, u64 0]), mv 78 86, o 87 (.ext (.t 78) 0), o 88 (.ext (.t 78) 1), o 89 (.idx 1 (.t 79) (.t 80)), od (.st 1 (.t 89) (.t 87)), mv 16 88]) (.reg [mv 90 14, mv 91 16, bn 92 .add 90 91, mv 12 92])))))) (.reg [mv 58 13, o 59 (.bin .add (.t 58) (i64 1)), mv 13 59])))))) (.seq (.reg [mv 94 0, mv 95 7, o 96 (.idx 1 (.t 94) (.t 95)), o 97 (.ld none (.t 96)), mv 98 12, o 99 (.call 115 [.t 97, .t 98, u64 0]), mv 93 99, o 100 (.ext (.t 93) 0), o 101 (.ext (.t 93) 1), mv 17 100, mv 18 101]) (.seq (.reg [mv 102 0, mv 103 7, mv 104 17, o 105 (.idx 1 (.t 102) (.t 103)), od (.st 1 (.t 105) (.t 104))]) (.seq (.block 2 (.loop (.seq (.seq (.reg [mv 106 18, o 107 (.bin .neq (.t 106) (u64 0))]) (.cond (.t 107) .skip (.exit 2))) (.block 3 (.seq (.reg [mv 108 8, o 109 (.bin .sub (.t 108) (u64 1)), mv 8 109]) (.seq (.reg [o 12 (.mv (u64 0))]) (.seq (.seq (.reg [o 19 (.mv (i64 0))]) (.block 4 (.loop (.seq (.seq (.reg [mv 110 19, mv 111 7, bn 112 .lss 110 111]) (.cond (.t 112) .skip (.exit 4))) (.seq (.block 5 (.reg [mv 116 0, mv 117 19, mv 118 0, mv 119 19, o 120 (.idx 1 (.t 118) (.t 119)), o 121 (.ld none (.t 120)), mv 122 1, mv 123 19, o 124 (.idx 1 (.t 122) (.t 123)), o 125 (.ld none (.t 124)), mv 126 12, o 127 (.call 114 [.t 121, .t 125, .t 126]), mv 115 127, o 128 (.ext (.t 115) 0), o 129 (.ext (.t 115) 1), o 130 (.idx 1 (.t 116) (.t 117)), od (.st 1 (.t 130) (.t 128)), mv 12 129])) (.reg [mv 113 19, o 114 (.bin .add (.t 113) (i64 1)), mv 19 114])))))) (.seq (.reg [mv 132 0, mv 133 7, mv 134 0, mv 135 7, o 136 (.idx 1 (.t 134) (.t 135)), o 137 (.ld none (.t 136)), mv 138 12, o 139 (.call 114 [.t 137, u64 0, .t 138]), mv 131 139, o 140 (.ext (.t 131) 0), o 141 (.ext (.t 131) 1), o 142 (.idx 1 (.t 132) (.t 133)), od (.st 1 (.t 142) (.t 140)), mv 12 141]) (.reg [mv 143 18, mv 144 12, bn 145 .sub 143 144, mv 18 145]))))))))) (.seq (.reg [mv 146 8, mv 6 146]) .ret)))))))))
theorem in_divs_digit : Ent 79 147 c_divs_digit [.t 6] := ent Try.func79 rfl rfl rfl (show compile _ 147 _ = _ by kernel_rfl) (show compRes _ 147 _ = _ by kernel_rfl)
def c_law13_DivsLongs : AC := .seq (.reg [o 3 (.box 50 (.t 0)), o 6 (.mv (.c (.bool false)))]) (.seq (.reg [mv 18 1, o 19 (.call 28 [.t 18, i64 40]), mv 20 2, o 21 (.call 28 [.t 20, i64 30]), mv 1 19, mv 2 21]) (.seq (.reg [o 22 (.ld (some 11) (.t 3)), o 23 (.call 29 [.t 22]), mv 7 23]) (.seq (.seq (.reg [mv 24 7, o 25 (.peq false (.t 24) (.c (.ptr none)))]) (.cond (.t 25) (.seq (.reg [o 6 (.mv (.c (.bool false)))]) .ret) .skip)) (.seq (.reg [mv 26 1, o 27 (.call 30 [.t 26]), mv 28 2, o 29 (.call 30 [.t 28]), mv 8 27, mv 9 29]) (.seq (.reg [mv 31 7, mv 32 8, mv 33 9, o 34 (.call 31 [.t 31, .t 32, .t 33]), mv 30 34, o 35 (.ext (.t 30) 0), o 36 (.ext (.t 30) 1), o 37 (.ext (.t 30) 2), mv 10 35, mv 11 36, mv 12 37]) (.seq (.reg [mv 38 1, o 39 (.call 32 [.t 38]), mv 40 2, o 41 (.call 32 [.t 40]), mv 13 39, mv 14 41]) (.seq (.seq (.reg [mv 42 14, o 43 (.bin .eql (.t 42) (i64 0))]) (.cond (.t 43) (.seq (.reg [mv 44 12, o 45 (.bin .eql (.t 44) (i64 2)), mv 46 45, og 47 46 true (.mv (.t 10)), og 48 46 true (.len false (.t 47)), og 49 46 true (.bin .eql (.t 48) (i64 0)), o 50 (.pick (.t 46) (.t 49) (.c (.bool false))), mv 51 50, og 52 51 true (.mv (.t 11)), og 53 51 true (.len false (.t 52)), og 54 51 true (.bin .eql (.t 53) (i64 0)), o 55 (.pick (.t 51) (.t 54) (.c (.bool false))), mv 56 55, og 57 56 true (.call 33 []), o 58 (.pick (.t 56) (.t 57) (.c (.bool false))), mv 6 58]) .ret) .skip)) (.seq (.reg [mv 60 1, o 61 (.call 35 [.t 60]), mv 62 2, o 63 (.call 35 [.t 62]), o 64 (.call 34 [.t 61, .t 63]), mv 59 64, o 65 (.ext (.t 59) 0), o 66 (.ext (.t 59) 1), mv 15 65, mv 16 66]) (.seq (.reg [o 17 (.mv (i64 0))]) (.seq (.seq (.reg [mv 67 13, mv 68 14, bn 69 .geq 67 68]) (.cond (.t 69) (.reg [mv 70 13, mv 71 14, bn 72 .sub 70 71, o 73 (.bin .add (.t 72) (i64 1)), mv 74 14, o 75 (.bin .add (.t 74) (i64 1)), bn 76 .mul 73 75, mv 17 76]) .skip)) (.seq (.seq (.reg [mv 77 12, o 78 (.bin .neq (.t 77) (i64 0)), mv 79 78, og 80 79 false (.mv (.t 15)), og 81 79 false (.mv (.t 10)), og 82 79 false (.call 36 [.t 80, .t 81]), og 83 79 false (.un .not (.t 82)), o 84 (.pick (.t 79) (.c (.bool true)) (.t 83)), mv 85 84, og 86 85 false (.mv (.t 16)), og 87 85 false (.mv (.t 11)), og 88 85 false (.call 36 [.t 86, .t 87]), og 89 85 false (.un .not (.t 88)), o 90 (.pick (.t 85) (.c (.bool true)) (.t 89)), mv 91 90, og 92 91 false (.mv (.t 7)), og 93 91 false (.nn (.t 92)), og 94 91 false (.fld 0 (.t 93)), og 95 91 false (.ld none (.t 94)), og 96 91 false (.nn (.t 95)), og 97 91 false (.fld 0 (.t 96)), og 98 91 false (.ld none (.t 97)), og 99 91 false (.nn (.t 98)), og 100 91 false (.fld 0 (.t 99)), og 101 91 false (.ld none (.t 100)), og 102 91 false (.nn (.t 101)), og 103 91 false (.fld 0 (.t 102)), og 104 91 false (.ld none (.t 103)), og 105 91 false (.nn (.t 104)), og 106 91 false (.fld 0 (.t 105)), og 107 91 false (.ld none (.t 106)), og 108 91 false (.nn (.t 107)), og 109 91 false (.fld 0 (.t 108)), og 110 91 false (.call 37 [.t 109]), og 111 91 false (.mv (.t 17)), og 112 91 false (.bin .neq (.t 110) (.t 111)), o 113 (.pick (.t 91) (.c (.bool true)) (.t 112))]) (.cond (.t 113) (.seq (.reg [o 6 (.mv (.c (.bool false)))]) .ret) .skip)) (.seq (.reg [mv 114 10, o 115 (.call 22 [.t 114])]) (.seq (.reg [mv 116 11, o 117 (.call 22 [.t 116])]) (.seq (.reg [mv 118 8, mv 119 1, o 120 (.call 38 [.t 118, .t 119]), mv 121 120, og 122 121 true (.mv (.t 9)), og 123 121 true (.mv (.t 2)), og 124 121 true (.call 38 [.t 122, .t 123]), o 125 (.pick (.t 121) (.t 124) (.c (.bool false))), mv 126 125, og 127 126 true (.call 33 []), o 128 (.pick (.t 126) (.t 127) (.c (.bool false))), mv 6 128]) .ret))))))))))))))
theorem in_law13_DivsLongs : Ent 5 129 c_law13_DivsLongs [.t 6] := ent Try.func5 rfl rfl rfl (show compile _ 129 _ = _ by kernel_rfl) (show compRes _ 129 _ = _ by kernel_rfl)
def c_law13_DivsHard : AC := .seq (.reg [o 6 (.box 50 (.t 0)), o 12 (.mv (.c (.bool false)))]) (.seq (.reg [mv 17 1, o 18 (.call 39 [.t 17, i64 20]), o 19 (.bin .add (i64 1) (.t 18)), mv 20 2, o 21 (.call 39 [.t 20, i64 10]), o 22 (.bin .add (i64 1) (.t 21)), mv 1 19, mv 2 22]) (.seq (.regt [mv 23 1, mv 25 2] (.alt (o 24 (.mk 23 1 8 [.int .u64 0] (.t 23) (.t 23))) [mv 13 24] (.alt (o 26 (.mk 23 1 8 [.int .u64 0] (.t 25) (.t 25))) [mv 14 26] .fin .no) (.alt (o 26 (.mk 23 1 8 [.int .u64 0] (.t 25) (.t 25))) [] (.alt (o 24 (.mk 23 1 8 [.int .u64 0] (.t 23) (.t 23))) [mv 13 24, mv 14 26] .fin .no) .no))) (.seq (.seq (.reg [o 15 (.mv (i64 0))]) (.block 0 (.loop (.seq (.seq (.reg [mv 27 15, mv 28 1, bn 29 .lss 27 28]) (.cond (.t 29) .skip (.exit 0))) (.seq (.block 1 (.reg [mv 32 13, mv 33 15, o 34 (.bsl 23 1 5 [.int .u64 0] [(0, u64 0), (1, u64 18446744073709551615), (2, u64 9223372036854775808), (3, u64 9223372036854775807), (4, u64 1)]), mv 35 3, mv 36 15, mv 37 15, bn 38 .mul 36 37, bn 39 .add 35 38, o 40 (.call 39 [.t 39, i64 5]), o 41 (.idx 1 (.t 34) (.t 40)), o 42 (.ld none (.t 41)), o 43 (.idx 1 (.t 32) (.t 33)), od (.st 1 (.t 43) (.t 42))])) (.reg [mv 30 15, o 31 (.bin .add (.t 30) (i64 1)), mv 15 31])))))) (.seq (.seq (.reg [o 16 (.mv (i64 0))]) (.block 2 (.loop (.seq (.seq (.reg [mv 44 16, mv 45 2, bn 46 .lss 44 45]) (.cond (.t 46) .skip (.exit 2))) (.seq (.block 3 (.reg [mv 49 14, mv 50 16, o 51 (.bsl 23 1 5 [.int .u64 0] [(0, u64 0), (1, u64 18446744073709551615), (2, u64 1), (3, u64 9223372036854775808), (4, u64 9223372036854775807)]), mv 52 4, mv 53 16, o 54 (.bin .mul (.t 53) (i64 3)), bn 55 .add 52 54, o 56 (.call 39 [.t 55, i64 5]), o 57 (.idx 1 (.t 51) (.t 56)), o 58 (.ld none (.t 57)), o 59 (.idx 1 (.t 49) (.t 50)), od (.st 1 (.t 59) (.t 58))])) (.reg [mv 47 16, o 48 (.bin .add (.t 47) (i64 1)), mv 16 48])))))) (.seq (.reg [mv 60 14, mv 61 2, o 62 (.bin .sub (.t 61) (i64 1)), o 63 (.idx 1 (.t 60) (.t 62)), od (.st 1 (.t 63) (u64 9223372036854775808))]) (.seq (.seq (.reg [mv 64 5]) (.cond (.t 64) (.reg [mv 65 14, mv 66 2, o 67 (.bin .sub (.t 66) (i64 1)), o 68 (.idx 1 (.t 65) (.t 67)), od (.st 1 (.t 68) (u64 18446744073709551615))]) .skip)) (.seq (.reg [o 69 (.ld (some 11) (.t 6)), mv 70 13, mv 71 14, o 72 (.call 5 [.t 69, .t 70, .t 71]), mv 73 72, og 74 73 true (.call 33 []), o 75 (.pick (.t 73) (.t 74) (.c (.bool false))), mv 12 75]) .ret)))))))
theorem in_law13_DivsHard : Ent 6 76 c_law13_DivsHard [.t 12] := ent Try.func6 rfl rfl rfl (show compile _ 76 _ = _ by kernel_rfl) (show compRes _ 76 _ = _ by kernel_rfl)
def c_law13_DivsMods : AC := .seq (.reg [o 3 (.box 50 (.t 0)), o 6 (.mv (.c (.bool false)))]) (.seq (.reg [mv 12 1, o 13 (.call 28 [.t 12, i64 24]), mv 14 2, o 15 (.call 40 [.t 14, i64 8, i64 8]), mv 1 13, mv 2 15]) (.seq (.reg [o 16 (.ld (some 11) (.t 3)), o 17 (.call 29 [.t 16]), mv 7 17]) (.seq (.seq (.reg [mv 18 7, o 19 (.peq false (.t 18) (.c (.ptr none)))]) (.cond (.t 19) (.seq (.reg [o 6 (.mv (.c (.bool false)))]) .ret) .skip)) (.seq (.reg [mv 21 7, mv 22 1, mv 23 2, o 24 (.call 42 [.t 23]), o 25 (.call 41 [.t 21, .t 22, .t 24]), mv 20 25, o 26 (.ext (.t 20) 0), o 27 (.ext (.t 20) 1), mv 8 26, mv 9 27]) (.seq (.seq (.reg [o 10 (.mv (i64 0))]) (.block 0 (.loop (.seq (.seq (.reg [mv 28 10, mv 29 2, o 30 (.len false (.t 29)), bn 31 .lss 28 30]) (.cond (.t 31) .skip (.exit 0))) (.seq (.block 1 (.seq (.reg [mv 34 2, mv 35 10, o 36 (.idx 1 (.t 34) (.t 35)), o 37 (.ld none (.t 36)), o 38 (.call 32 [.t 37]), o 39 (.bin .eql (.t 38) (i64 0))]) (.cond (.t 39) (.seq (.reg [mv 40 9, o 41 (.bin .eql (.t 40) (i64 2)), mv 42 41, og 43 42 true (.mv (.t 8)), og 44 42 true (.len false (.t 43)), og 45 42 true (.bin .eql (.t 44) (i64 0)), o 46 (.pick (.t 42) (.t 45) (.c (.bool false))), mv 47 46, og 48 47 true (.call 33 []), o 49 (.pick (.t 47) (.t 48) (.c (.bool false))), mv 6 49]) .ret) .skip))) (.reg [mv 32 10, o 33 (.bin .add (.t 32) (i64 1)), mv 10 33])))))) (.seq (.seq (.reg [mv 50 9, o 51 (.bin .neq (.t 50) (i64 0)), mv 52 51, og 53 52 false (.mv (.t 8)), og 54 52 false (.len false (.t 53)), og 55 52 false (.mv (.t 2)), og 56 52 false (.len false (.t 55)), og 57 52 false (.bin .neq (.t 54) (.t 56)), o 58 (.pick (.t 52) (.c (.bool true)) (.t 57))]) (.cond (.t 58) (.seq (.reg [o 6 (.mv (.c (.bool false)))]) .ret) .skip)) (.seq (.seq (.reg [o 11 (.mv (i64 0))]) (.block 2 (.loop (.seq (.seq (.reg [mv 59 11, mv 60 2, o 61 (.len false (.t 60)), bn 62 .lss 59 61]) (.cond (.t 62) .skip (.exit 2))) (.seq (.block 3 (.seq (.reg [mv 65 1, mv 67 2, mv 68 11, o 69 (.idx 1 (.t 67) (.t 68)), o 70 (.ld none (.t 69)), mv 73 8, mv 74 11, o 75 (.idx 1 (.t 73) (.t 74)), o 76 (.ld none (.t 75)), ⟨some 66, none, .call 35 [.t 65], [(some 70, none, .ld none (.t 69)), (some 76, none, .ld none (.t 75))]⟩, ⟨some 71, none, .call 35 [.t 70], [(some 76, none, .ld none (.t 75))]⟩, ⟨some 72, none, .call 43 [.t 66, .t 71], [(some 76, none, .ld none (.t 75))]⟩, o 77 (.call 36 [.t 72, .t 76]), o 78 (.un .not (.t 77))]) (.cond (.t 78) (.seq (.reg [o 6 (.mv (.c (.bool false)))]) .ret) .skip))) (.reg [mv 63 11, o 64 (.bin .add (.t 63) (i64 1)), mv 11 64])))))) (.seq (.reg [o 79 (.call 33 []), mv 6 79]) .ret))))))))
theorem in_law13_DivsMods : Ent 7 80 c_law13_DivsMods [.t 6] := ent Try.func7 rfl rfl rfl (show compile _ 80 _ = _ by kernel_rfl) (show compRes _ 80 _ = _ by kernel_rfl)
def c_law13_words : AC := .seq (.reg [o 2 (.mv (i64 0))]) (.seq (.reg [mv 3 0, o 4 (.call 71 [.t 3]), mv 2 4]) .ret)
theorem in_law13_words : Ent 32 5 c_law13_words [.t 2] := ent Try.func32 rfl rfl rfl (show compile _ 5 _ = _ by kernel_rfl) (show compRes _ 5 _ = _ by kernel_rfl)
def c_law13_wakes : AC := .seq (.reg [o 0 (.mv (.c (.bool false)))]) (.seq (.reg [o 5 (.bld [.int .i64 0, .int .i64 0, .int .i64 0, .int .i64 0, .int .i64 0, .int .i64 0, .int .i64 0, .int .i64 0, .int .i64 0, .int .i64 0, .int .i64 0] []), o 6 (.call 29 [.t 5]), mv 1 6]) (.seq (.seq (.reg [mv 7 1, o 8 (.peq false (.t 7) (.c (.ptr none)))]) (.cond (.t 8) (.seq (.reg [o 0 (.mv (.c (.bool false)))]) .ret) .skip)) (.seq (.reg [mv 10 1, o 11 (.bsl 23 1 2 [.int .u64 0] [(0, u64 0), (1, u64 1)]), o 12 (.bsl 23 1 1 [.int .u64 0] [(0, u64 3)]), o 13 (.call 31 [.t 10, .t 11, .t 12]), mv 9 13, o 14 (.ext (.t 9) 0), o 15 (.ext (.t 9) 1), o 16 (.ext (.t 9) 2), mv 2 14, mv 3 15, mv 4 16]) (.seq (.reg [mv 17 4, o 18 (.bin .eql (.t 17) (i64 0)), mv 19 18, og 20 19 true (.mv (.t 2)), og 21 19 true (.len false (.t 20)), og 22 19 true (.bin .eql (.t 21) (i64 1)), o 23 (.pick (.t 19) (.t 22) (.c (.bool false))), mv 24 23, og 25 24 true (.mv (.t 3)), og 26 24 true (.bsl 23 1 1 [.int .u64 0] [(0, u64 1)]), og 27 24 true (.call 11 [.t 25, .t 26]), o 28 (.pick (.t 24) (.t 27) (.c (.bool false))), mv 0 28]) .ret))))
theorem in_law13_wakes : Ent 33 29 c_law13_wakes [.t 0] := ent Try.func33 rfl rfl rfl (show compile _ 29 _ = _ by kernel_rfl) (show compRes _ 29 _ = _ by kernel_rfl)
def c_law13_from : AC := .seq (.reg [o 2 (.mv (.c (.sl none 0 0 none)))]) (.seq (.reg [mv 3 0, o 4 (.call 85 [.t 3]), mv 2 4]) .ret)
theorem in_law13_from : Ent 35 5 c_law13_from [.t 2] := ent Try.func35 rfl rfl rfl (show compile _ 5 _ = _ by kernel_rfl) (show compRes _ 5 _ = _ by kernel_rfl)
def c_mul_New : AC := .seq (.reg [o 1 (.box 50 (.t 0)), o 2 (.mv (.c (.ptr none)))]) (.seq (.reg [o 3 (.ld (some 11) (.t 1)), o 4 (.call 107 [.t 3]), o 5 (.bld [.ptr none] [(0, 1, .t 4)]), o 6 (.box 69 (.t 5)), mv 2 6]) .ret)
theorem in_mul_New : Ent 70 7 c_mul_New [.t 2] := ent Try.func70 rfl rfl rfl (show compile _ 7 _ = _ by kernel_rfl) (show compRes _ 7 _ = _ by kernel_rfl)
def c_modn_New : AC := .seq (.reg [o 1 (.box 50 (.t 0)), o 2 (.mv (.c (.ptr none)))]) (.seq (.reg [o 3 (.ld (some 11) (.t 1)), o 4 (.call 116 [.t 3]), o 5 (.bld [.ptr none] [(0, 1, .t 4)]), o 6 (.box 164 (.t 5)), mv 2 6]) .ret)
theorem in_modn_New : Ent 89 7 c_modn_New [.t 2] := ent Try.func89 rfl rfl rfl (show compile _ 7 _ = _ by kernel_rfl) (show compRes _ 7 _ = _ by kernel_rfl)
def c_toom_New : AC := .seq (.reg [o 1 (.box 50 (.t 0)), o 2 (.mv (.c (.ptr none)))]) (.seq (.reg [o 3 (.ld (some 11) (.t 1)), o 4 (.call 120 [.t 3]), o 5 (.bld [.ptr none] [(0, 1, .t 4)]), o 6 (.box 72 (.t 5)), mv 2 6]) .ret)
theorem in_toom_New : Ent 107 7 c_toom_New [.t 2] := ent Try.func107 rfl rfl rfl (show compile _ 7 _ = _ by kernel_rfl) (show compRes _ 7 _ = _ by kernel_rfl)
def c_hgcd_New : AC := .seq (.reg [o 1 (.box 50 (.t 0)), o 2 (.mv (.c (.ptr none)))]) (.seq (.reg [o 3 (.ld (some 11) (.t 1)), o 4 (.call 122 [.t 3]), o 5 (.bld [.ptr none] [(0, 1, .t 4)]), o 6 (.box 174 (.t 5)), mv 2 6]) .ret)
theorem in_hgcd_New : Ent 116 7 c_hgcd_New [.t 2] := ent Try.func116 rfl rfl rfl (show compile _ 7 _ = _ by kernel_rfl) (show compRes _ 7 _ = _ by kernel_rfl)
def c_kara_New : AC := .seq (.reg [o 1 (.box 50 (.t 0)), o 2 (.mv (.c (.ptr none)))]) (.seq (.reg [o 3 (.ld (some 11) (.t 1)), o 4 (.call 123 [.t 3]), o 5 (.bld [.ptr none] [(0, 1, .t 4)]), o 6 (.box 75 (.t 5)), mv 2 6]) .ret)
theorem in_kara_New : Ent 120 7 c_kara_New [.t 2] := ent Try.func120 rfl rfl rfl (show compile _ 7 _ = _ by kernel_rfl) (show compRes _ 7 _ = _ by kernel_rfl)
def c_gcd_New : AC := .seq (.reg [o 1 (.box 50 (.t 0)), o 2 (.mv (.c (.ptr none)))]) (.seq (.reg [o 3 (.ld (some 11) (.t 1)), o 4 (.call 124 [.t 3]), o 5 (.bld [.ptr none] [(0, 1, .t 4)]), o 6 (.box 179 (.t 5)), mv 2 6]) .ret)
theorem in_gcd_New : Ent 122 7 c_gcd_New [.t 2] := ent Try.func122 rfl rfl rfl (show compile _ 7 _ = _ by kernel_rfl) (show compRes _ 7 _ = _ by kernel_rfl)
def c_school_New : AC := .seq (.reg [o 1 (.box 50 (.t 0)), o 2 (.mv (.c (.ptr none)))]) (.seq (.reg [o 3 (.ld (some 11) (.t 1)), o 4 (.call 125 [.t 3]), o 5 (.bld [.ptr none] [(0, 1, .t 4)]), o 6 (.box 78 (.t 5)), mv 2 6]) .ret)
theorem in_school_New : Ent 123 7 c_school_New [.t 2] := ent Try.func123 rfl rfl rfl (show compile _ 7 _ = _ by kernel_rfl) (show compRes _ 7 _ = _ by kernel_rfl)
def c_power_New : AC := .seq (.reg [o 1 (.box 50 (.t 0)), o 2 (.mv (.c (.ptr none)))]) (.seq (.reg [o 3 (.ld (some 11) (.t 1)), o 4 (.call 126 [.t 3]), o 5 (.bld [.ptr none] [(0, 1, .t 4)]), o 6 (.box 184 (.t 5)), mv 2 6]) .ret)
theorem in_power_New : Ent 124 7 c_power_New [.t 2] := ent Try.func124 rfl rfl rfl (show compile _ 7 _ = _ by kernel_rfl) (show compRes _ 7 _ = _ by kernel_rfl)
def c_radix_New : AC := .seq (.reg [o 1 (.box 50 (.t 0)), o 2 (.mv (.c (.ptr none)))]) (.seq (.reg [o 3 (.ld (some 11) (.t 1)), o 4 (.call 130 [.t 3]), o 5 (.bld [.ptr none] [(0, 1, .t 4)]), o 6 (.box 194 (.t 5)), mv 2 6]) .ret)
theorem in_radix_New : Ent 128 7 c_radix_New [.t 2] := ent Try.func128 rfl rfl rfl (show compile _ 7 _ = _ by kernel_rfl) (show compRes _ 7 _ = _ by kernel_rfl)
def c_root_New : AC := .seq (.reg [o 1 (.box 50 (.t 0)), o 2 (.mv (.c (.ptr none)))]) (.seq (.reg [o 3 (.ld (some 11) (.t 1)), o 4 (.call 131 [.t 3]), o 5 (.bld [.ptr none] [(0, 1, .t 4)]), o 6 (.box 198 (.t 5)), mv 2 6]) .ret)
theorem in_root_New : Ent 130 7 c_root_New [.t 2] := ent Try.func130 rfl rfl rfl (show compile _ 7 _ = _ by kernel_rfl) (show compRes _ 7 _ = _ by kernel_rfl)
def c_div_New : AC := .seq (.reg [o 1 (.box 50 (.t 0)), o 2 (.mv (.c (.ptr none)))]) (.seq (.reg [o 3 (.ld (some 11) (.t 1)), o 4 (.call 132 [.t 3]), o 5 (.bld [.ptr none] [(0, 1, .t 4)]), o 6 (.box 202 (.t 5)), mv 2 6]) .ret)
theorem in_div_New : Ent 131 7 c_div_New [.t 2] := ent Try.func131 rfl rfl rfl (show compile _ 7 _ = _ by kernel_rfl) (show compRes _ 7 _ = _ by kernel_rfl)
def c_recip_New : AC := .seq (.reg [o 1 (.box 50 (.t 0)), o 2 (.mv (.c (.ptr none)))]) (.seq (.reg [o 3 (.ld (some 11) (.t 1)), o 4 (.call 29 [.t 3]), o 5 (.bld [.ptr none] [(0, 1, .t 4)]), o 6 (.box 204 (.t 5)), mv 2 6]) .ret)
theorem in_recip_New : Ent 132 7 c_recip_New [.t 2] := ent Try.func132 rfl rfl rfl (show compile _ 7 _ = _ by kernel_rfl) (show compRes _ 7 _ = _ by kernel_rfl)
end Ab
end Go.Proofs.Ytnmnkocibjdhjaa
namespace Go.Proofs.Ytnmnkocibjdhjaa
namespace Ab
open Go Go.RowKit
set_option linter.unusedSimpArgs false
set_option linter.unusedVariables false
attribute [local go_sem ↓] x_mv x_pick x_bin x_beq x_peq x_seq x_cat x_aeq x_idxS x_un x_cvI x_idx x_idxA x_fld x_ld x_st x_nn x_prt x_slc x_mk x_bsl x_bld x_box x_alloc x_len x_capo x_mnx x_app x_cpy x_mkf x_ext x_call x_callV x_bad s_none s_some s_nil s_cons s_chks w_skip w_reg tP_fin tP_no tP_alt w_seq w_cond w_block w_exit w_ret t_normal t_exit t_ret b_normal b_ret b_exit n_normal n_exit n_ret p_normal p_ret f_nil f_t f_c k_ops k_chk k_fin
attribute [local go_sem] e_t e_c e_f u_some u_none u_at env_at k_v k_pick k_add k_sub k_mul k_quo k_rem k_and k_or k_xor k_shl k_shr k_eql k_neq k_lss k_leq k_gtr k_geq k_beq k_peqn k_peqs k_neg k_not k_com k_cvI k_idxS k_idx k_idxA k_idxG k_ldG k_gld k_seq k_cat k_aeq k_eqs k_fld k_ld1 k_ldn k_get k_gets k_sti k_stb k_stp k_sts k_stf k_sta k_put k_nn k_prt1 k_prtn k_slc_a k_slc_b k_slc_c k_mk k_agg k_bsl k_box k_len k_lenS k_cap k_max k_min k_ext k_callV k_true k_false k_gtt k_gtf k_gft k_gsk k_gff k_lit1i k_lit2i k_lit3i k_c0 k_c1 k_ck List.getElem?_cons_zero List.getElem?_cons_succ List.getElem?_nil Option.getD_some Option.getD_none tupOf List.map_cons List.map_nil Option.map_some Option.map_none List.nil_append List.cons_append List.append_nil Nat.mul_one Int.toNat_natCast Nat.zero_add
/-- All rows but one are asx they were. -/
def H.lee (u : Nat) (h h' : H) : Prop := h.next ≤ h'.next ∧ ∀ i r, i ≠ u → h.rows i = some r → h'.rows i = some r
theorem H.le.lee {u : Nat} {h h' : H} (hl : h.le h') : H.lee u h h' := ⟨hl.1, fun i r _ hr => hl.2 i r hr⟩
theorem H.lee.trans {u : Nat} {a b c : H} (h : H.lee u a b) (k : H.lee u b c) : H.lee u a c := ⟨Nat.le_trans h.1 k.1, fun i r hi hr => k.2 i r hi (h.2 i r hi hr)⟩
theorem H.lee_refl (u : Nat) (h : H) : H.lee u h h := (H.le_refl h).lee
theorem H.lee_set {u : Nat} {h : H} (r : Row) : H.lee u h (h.set u r) := ⟨Nat.le_refl _, fun i q hi hr => by rw [H.rows_set_ne hi]; exact hr⟩
theorem IsW.monoE {u : Nat} {k : IntKind} {h h' : H} {v : AV} {xs : List Int} {ru : Row} (hu : h.rows u = some ru) (ho : ru.own ≠ none) (hz : ru.esz ≠ 1) (hv : IsW k h v xs) (hl : H.lee u h h') : IsW k h' v xs := by
  obtain ⟨id, off, c, rfl, h1⟩ := hv
  refine ⟨id, off, c, rfl, ?_⟩
  rcases h1 with h1 | ⟨i, r, rfl, hr, hor, h3, h4⟩
  · exact .inl h1
  · refine .inr ⟨i, r, rfl, hl.2 i r ?_ hr, hor, h3, h4⟩
    rintro rfl
    rw [hu] at hr
    injection hr with hr
    subst hr
    rcases hor with h | h
    · exact ho h
    · exact hz h
/-- A count, asx a whole number of the machine has it. -/
def wr (m : Nat) : Int := IntKind.i64.wrap (m : Int)
theorem wr_small {m : Nat} (h : m < 9223372036854775808) : wr m = (m : Int) := wI (by omega) (by omega)
theorem wr_add {m n : Nat} : IntKind.i64.wrap (wr m + (n : Int)) = wr (m + n) := by
  unfold wr
  rw [IntKind.wrap_i64, IntKind.wrap_i64, IntKind.wrap_i64]
  omega
/-- The tune's row. -/
def tuneRow (m nw dp : Nat) (t : Tb) : Row := ⟨some 82, 14, [.int .i64 (wr m), .int .i64 (nw : Int), .int .i64 (dp : Int)] ++ t.cells⟩
def Tune (h : H) (u m nw dp : Nat) (t : Tb) : Prop := h.rows u = some (tuneRow m nw dp t)
/-- An engine: so many pointers above the tune. -/
def Eng : Nat → H → Nat → Nat → Prop
  | 0, _, e, u => e = u
  | d + 1, h, e, u => ∃ r e', h.rows e = some r ∧ r.cells = [.ptr (some (e', 0))] ∧ Eng d h e' u
theorem Eng.mono {h h' : H} {u : Nat} : ∀ {d e : Nat}, Eng d h e u → h.le h' → Eng d h' e u
  | 0, _, he, _ => he
  | _ + 1, _, ⟨r, e', h1, h2, h3⟩, hl => ⟨r, e', hl.2 _ _ h1, h2, h3.mono hl⟩
theorem Eng.monoE {h h' : H} {u m nw dp : Nat} {t : Tb} (ht : Tune h u m nw dp t) (hl : H.lee u h h') : ∀ {d e : Nat}, Eng d h e u → Eng d h' e u
  | 0, _, he => he
  | _ + 1, e, ⟨r, e', h1, h2, h3⟩ => ⟨r, e', hl.2 _ _ (by
      rintro rfl
      rw [ht] at h1
      injection h1 with h1
      rw [← h1] at h2
      have := congrArg List.length h2
      simp [tuneRow, Tb.cells] at this) h1, h2, Eng.monoE ht hl h3⟩
theorem Tune.mono {h h' : H} {u m nw dp : Nat} {t : Tb} (ht : Tune h u m nw dp t) (hl : h.le h') : Tune h' u m nw dp t := hl.2 _ _ ht
theorem IsN.monoE {h h' : H} {u m nw dp : Nat} {t : Tb} {v : AV} {xs : List Nat} (ht : Tune h u m nw dp t) (hv : IsN h v xs) (hl : H.lee u h h') : IsN h' v xs := IsW.monoE ht (by simp [tuneRow]) (by simp [tuneRow]) hv hl
theorem Nn.monoE {h h' : H} {u m nw dp : Nat} {t : Tb} {v : AV} {x : Nat} (ht : Tune h u m nw dp t) (hv : Nn h v x) (hl : H.lee u h h') : Nn h' v x := by
  obtain ⟨xs, h1, h2⟩ := hv
  exact ⟨xs, h1.monoE ht hl, h2⟩
/-- Fresh numbers stay where the tune is older. -/
theorem IsG.monoE {b : Nat} {h h' : H} {u : Nat} {v : AV} {xs : List Nat} (hub : u < b) (hv : IsG b h v xs) (hl : H.lee u h h') : IsG b h' v xs := by
  obtain ⟨id, c, rfl, h1⟩ := hv
  refine ⟨id, c, rfl, ?_⟩
  rcases h1 with h1 | ⟨i, r, rfl, hb, hr, h2⟩
  · exact .inl h1
  · exact .inr ⟨i, r, rfl, hb, hl.2 i r (by omega) hr, h2⟩
theorem Nf.monoE {b : Nat} {h h' : H} {u : Nat} {v : AV} {x : Nat} (hub : u < b) (hv : Nf b h v x) (hl : H.lee u h h') : Nf b h' v x := by
  obtain ⟨xs, h1, h2⟩ := hv
  exact ⟨xs, h1.monoE hub hl, h2⟩
theorem Spend_calls {u m nw dp n : Nat} {t : Tb} {h : H} {K : AV → H → Prop} (ht : Tune h u m nw dp t)
    (hk : ∀ h', h'.wf → H.lee u h h' → h'.next = h.next → Tune h' u (m + n) nw dp t → K (.int .i64 (wr (m + n))) h') : ACalls Try.prog 73 [.ptr (some (u, 0)), .int .i64 (n : Int)] h K := by
  refine in_meter_Meter_Spend (by simp) fun hw => ?_
  unfold c_meter_Meter_Spend
  have hul := H.row_lt hw ht
  have hg : h.get u 0 = some (.int .i64 (wr m)) := by rw [H.get_of ht]; rfl
  rcases Nat.eq_zero_or_pos n with h0 | h0
  · subst h0
    simp only [go_sem, ↓reduceIte, Nat.reduceEqDiff, Nat.reduceAdd, Bool.false_eq_true, Int.reduceToNat, show decide ((0 : Int) < ((0 : Nat) : Int)) = false from rfl, hg]
    exact fun _ => hk h hw (H.lee_refl u h) rfl ht
  · have hr : h.rows u = some (tuneRow m nw dp t) := ht
    simp only [go_sem, ↓reduceIte, Nat.reduceEqDiff, Nat.reduceAdd, Bool.false_eq_true, Int.reduceToNat, show decide ((0 : Int) < (n : Int)) = true from decide_eq_true (by omega), hg, wr_add (m := m) (n := n), hr]
    refine ⟨by simp [tuneRow], by simp [tuneRow], ?_⟩
    have hp : ({ tuneRow m nw dp t with cells := putAt (tuneRow m nw dp t).cells 0 [AV.int .i64 (wr (m + n))] } : Row) = tuneRow (m + n) nw dp t := by
      simp [tuneRow, putAt]
    rw [hp]
    have hg2 : (h.set u (tuneRow (m + n) nw dp t)).get u 0 = some (.int .i64 (wr (m + n))) := by rw [H.get_of (H.rows_set _ _ _)]; rfl
    simp only [go_sem, ↓reduceIte, Nat.reduceEqDiff, Nat.reduceAdd, Bool.false_eq_true, Int.reduceToNat, hg2]
    exact fun hw' => hk _ hw' (H.lee_set _) rfl (H.rows_set _ _ _)
theorem Muls2_calls {u m nw dp : Nat} {t : Tb} {h : H} {K : AV → H → Prop} (ht : Tune h u m nw dp t) (hk : K (.int .i64 (wr m)) h) : ACalls Try.prog 37 [.ptr (some (u, 0))] h K := by
  refine in_meter_Meter_Muls (by simp) fun hw => ?_
  unfold c_meter_Meter_Muls
  have hg : h.get u 0 = some (.int .i64 (wr m)) := by rw [H.get_of ht]; rfl
  simp only [go_sem, ↓reduceIte, Nat.reduceEqDiff, Nat.reduceAdd, Bool.false_eq_true, Int.reduceToNat, hg]
  exact fun _ => hk
theorem tune_zero {t : Tb} : tuneRow 0 0 0 t = ⟨some 82, 14, tuneCells t⟩ := by
  have e : wr 0 = 0 := wr_small (by omega)
  simp [tuneRow, tuneCells, e]
theorem tNew_calls {t : Tb} {h : H} {K : AV → H → Prop} (hk : ∀ id h', h'.wf → h.le h' → h.next ≤ id → Tune h' id 0 0 0 (clampT t) → K (.ptr (some (id, 0))) h') : ACalls Try.prog 125 [t.av] h K :=
  New_calls fun id h' hw' hl' hn hr => hk id h' hw' hl' hn (by unfold Tune; rw [tune_zero]; exact hr)
theorem bldp {p : Option (Nat × Nat)} : abuild [AV.ptr none] [(0, 1, AV.ptr p)] = some [AV.ptr p] := by simp [abuild, putAt, AV.held, AV.cells]
theorem sNew_calls {t : Tb} {h : H} {K : AV → H → Prop} (hk : ∀ e u h', h'.wf → h.le h' → h.next ≤ u → u < e → Eng 1 h' e u → Tune h' u 0 0 0 (clampT t) → K (.ptr (some (e, 0))) h') : ACalls Try.prog 123 [t.av] h K := by
  refine in_school_New (by simp) fun hw => ?_
  unfold c_school_New
  have hl1 := H.le_new hw (H.le_refl h) ⟨some 50, 11, t.cells⟩
  have hn1 : h.next < (h.new ⟨some 50, 11, t.cells⟩).next := Nat.lt_succ_self _
  simp only [go_sem, ↓reduceIte, Nat.reduceEqDiff, Nat.reduceAdd, Bool.false_eq_true, Int.reduceToNat, av_held, av_cells, cells_len, true_and, gsT (H.rows_new h _)]
  refine tNew_calls fun u h1 hw1 hl2 hn2  ht => ?_
  simp only [go_sem, ↓reduceIte, Nat.reduceEqDiff, Nat.reduceAdd, Bool.false_eq_true, Int.reduceToNat, bldp]
  simp only [AV.held, AV.cells, true_and, go_sem, ↓reduceIte, Nat.reduceEqDiff, Nat.reduceAdd, Bool.false_eq_true, Int.reduceToNat]
  have hl3 := H.le_new hw1 (H.le_refl h1) ⟨some 78, 1, [AV.ptr (some (u, 0))]⟩
  exact fun hw' => hk _ u _ hw' (H.le_trans hl1 (H.le_trans hl2 hl3)) (by omega) (H.row_lt hw1 ht) ⟨_, u, H.rows_new _ _, rfl, rfl⟩ (ht.mono hl3)
theorem kNew_calls {t : Tb} {h : H} {K : AV → H → Prop} (hk : ∀ e u h', h'.wf → h.le h' → h.next ≤ u → u < e → Eng 2 h' e u → Tune h' u 0 0 0 (clampT t) → K (.ptr (some (e, 0))) h') : ACalls Try.prog 120 [t.av] h K := by
  refine in_kara_New (by simp) fun hw => ?_
  unfold c_kara_New
  have hl1 := H.le_new hw (H.le_refl h) ⟨some 50, 11, t.cells⟩
  have hn1 : h.next < (h.new ⟨some 50, 11, t.cells⟩).next := Nat.lt_succ_self _
  simp only [go_sem, ↓reduceIte, Nat.reduceEqDiff, Nat.reduceAdd, Bool.false_eq_true, Int.reduceToNat, av_held, av_cells, cells_len, true_and, gsT (H.rows_new h _)]
  refine sNew_calls fun e u h1 hw1 hl2 hn2 _ he ht => ?_
  simp only [go_sem, ↓reduceIte, Nat.reduceEqDiff, Nat.reduceAdd, Bool.false_eq_true, Int.reduceToNat, bldp]
  simp only [AV.held, AV.cells, true_and, go_sem, ↓reduceIte, Nat.reduceEqDiff, Nat.reduceAdd, Bool.false_eq_true, Int.reduceToNat]
  have hl3 := H.le_new hw1 (H.le_refl h1) ⟨some 75, 1, [AV.ptr (some (e, 0))]⟩
  exact fun hw' => hk _ u _ hw' (H.le_trans hl1 (H.le_trans hl2 hl3)) (by omega) (H.row_lt hw1 ht) ⟨_, e, H.rows_new _ _, rfl, he.mono hl3⟩ (ht.mono hl3)
theorem toNew_calls {t : Tb} {h : H} {K : AV → H → Prop} (hk : ∀ e u h', h'.wf → h.le h' → h.next ≤ u → u < e → Eng 3 h' e u → Tune h' u 0 0 0 (clampT t) → K (.ptr (some (e, 0))) h') : ACalls Try.prog 107 [t.av] h K := by
  refine in_toom_New (by simp) fun hw => ?_
  unfold c_toom_New
  have hl1 := H.le_new hw (H.le_refl h) ⟨some 50, 11, t.cells⟩
  have hn1 : h.next < (h.new ⟨some 50, 11, t.cells⟩).next := Nat.lt_succ_self _
  simp only [go_sem, ↓reduceIte, Nat.reduceEqDiff, Nat.reduceAdd, Bool.false_eq_true, Int.reduceToNat, av_held, av_cells, cells_len, true_and, gsT (H.rows_new h _)]
  refine kNew_calls fun e u h1 hw1 hl2 hn2 _ he ht => ?_
  simp only [go_sem, ↓reduceIte, Nat.reduceEqDiff, Nat.reduceAdd, Bool.false_eq_true, Int.reduceToNat, bldp]
  simp only [AV.held, AV.cells, true_and, go_sem, ↓reduceIte, Nat.reduceEqDiff, Nat.reduceAdd, Bool.false_eq_true, Int.reduceToNat]
  have hl3 := H.le_new hw1 (H.le_refl h1) ⟨some 72, 1, [AV.ptr (some (e, 0))]⟩
  exact fun hw' => hk _ u _ hw' (H.le_trans hl1 (H.le_trans hl2 hl3)) (by omega) (H.row_lt hw1 ht) ⟨_, e, H.rows_new _ _, rfl, he.mono hl3⟩ (ht.mono hl3)
theorem mNew_calls {t : Tb} {h : H} {K : AV → H → Prop} (hk : ∀ e u h', h'.wf → h.le h' → h.next ≤ u → u < e → Eng 4 h' e u → Tune h' u 0 0 0 (clampT t) → K (.ptr (some (e, 0))) h') : ACalls Try.prog 70 [t.av] h K := by
  refine in_mul_New (by simp) fun hw => ?_
  unfold c_mul_New
  have hl1 := H.le_new hw (H.le_refl h) ⟨some 50, 11, t.cells⟩
  have hn1 : h.next < (h.new ⟨some 50, 11, t.cells⟩).next := Nat.lt_succ_self _
  simp only [go_sem, ↓reduceIte, Nat.reduceEqDiff, Nat.reduceAdd, Bool.false_eq_true, Int.reduceToNat, av_held, av_cells, cells_len, true_and, gsT (H.rows_new h _)]
  refine toNew_calls fun e u h1 hw1 hl2 hn2 _ he ht => ?_
  simp only [go_sem, ↓reduceIte, Nat.reduceEqDiff, Nat.reduceAdd, Bool.false_eq_true, Int.reduceToNat, bldp]
  simp only [AV.held, AV.cells, true_and, go_sem, ↓reduceIte, Nat.reduceEqDiff, Nat.reduceAdd, Bool.false_eq_true, Int.reduceToNat]
  have hl3 := H.le_new hw1 (H.le_refl h1) ⟨some 69, 1, [AV.ptr (some (e, 0))]⟩
  exact fun hw' => hk _ u _ hw' (H.le_trans hl1 (H.le_trans hl2 hl3)) (by omega) (H.row_lt hw1 ht) ⟨_, e, H.rows_new _ _, rfl, he.mono hl3⟩ (ht.mono hl3)
theorem dNew_calls {t : Tb} {h : H} {K : AV → H → Prop} (hk : ∀ e u h', h'.wf → h.le h' → h.next ≤ u → u < e → Eng 5 h' e u → Tune h' u 0 0 0 (clampT t) → K (.ptr (some (e, 0))) h') : ACalls Try.prog 29 [t.av] h K := by
  refine in_divs_New (by simp) fun hw => ?_
  unfold c_divs_New
  have hl1 := H.le_new hw (H.le_refl h) ⟨some 50, 11, t.cells⟩
  have hn1 : h.next < (h.new ⟨some 50, 11, t.cells⟩).next := Nat.lt_succ_self _
  simp only [go_sem, ↓reduceIte, Nat.reduceEqDiff, Nat.reduceAdd, Bool.false_eq_true, Int.reduceToNat, av_held, av_cells, cells_len, true_and, gsT (H.rows_new h _)]
  refine mNew_calls fun e u h1 hw1 hl2 hn2 _ he ht => ?_
  simp only [go_sem, ↓reduceIte, Nat.reduceEqDiff, Nat.reduceAdd, Bool.false_eq_true, Int.reduceToNat, bldp]
  simp only [AV.held, AV.cells, true_and, go_sem, ↓reduceIte, Nat.reduceEqDiff, Nat.reduceAdd, Bool.false_eq_true, Int.reduceToNat]
  have hl3 := H.le_new hw1 (H.le_refl h1) ⟨some 66, 1, [AV.ptr (some (e, 0))]⟩
  exact fun hw' => hk _ u _ hw' (H.le_trans hl1 (H.le_trans hl2 hl3)) (by omega) (H.row_lt hw1 ht) ⟨_, e, H.rows_new _ _, rfl, he.mono hl3⟩ (ht.mono hl3)
end Ab
end Go.Proofs.Ytnmnkocibjdhjaa
namespace Go.Proofs.Ytnmnkocibjdhjaa
namespace Ab
open Go Go.RowKit
set_option linter.unusedSimpArgs false
set_option linter.unusedVariables false
attribute [local go_sem ↓] x_mv x_pick x_bin x_beq x_peq x_seq x_cat x_aeq x_idxS x_un x_cvI x_idx x_idxA x_fld x_ld x_st x_nn x_prt x_slc x_mk x_bsl x_bld x_box x_alloc x_len x_capo x_mnx x_app x_cpy x_mkf x_ext x_call x_callV x_bad s_none s_some s_nil s_cons s_chks w_skip w_reg tP_fin tP_no tP_alt w_seq w_cond w_block w_exit w_ret t_normal t_exit t_ret b_normal b_ret b_exit n_normal n_exit n_ret p_normal p_ret f_nil f_t f_c k_ops k_chk k_fin
attribute [local go_sem] e_t e_c e_f u_some u_none u_at env_at k_v k_pick k_add k_sub k_mul k_quo k_rem k_and k_or k_xor k_shl k_shr k_eql k_neq k_lss k_leq k_gtr k_geq k_beq k_peqn k_peqs k_neg k_not k_com k_cvI k_idxS k_idx k_idxA k_idxG k_ldG k_gld k_seq k_cat k_aeq k_eqs k_fld k_ld1 k_ldn k_get k_gets k_sti k_stb k_stp k_sts k_stf k_sta k_put k_nn k_prt1 k_prtn k_slc_a k_slc_b k_slc_c k_mk k_agg k_bsl k_box k_len k_lenS k_cap k_max k_min k_ext k_callV k_true k_false k_gtt k_gtf k_gft k_gsk k_gff k_lit1i k_lit2i k_lit3i k_c0 k_c1 k_ck List.getElem?_cons_zero List.getElem?_cons_succ List.getElem?_nil Option.getD_some Option.getD_none tupOf List.map_cons List.map_nil Option.map_some Option.map_none List.nil_append List.cons_append List.append_nil Nat.mul_one Int.toNat_natCast Nat.zero_add
theorem comU {x : Nat} (hx : x < 18446744073709551616) : bCom .u64 (x : Int) = ((18446744073709551615 - x : Nat) : Int) := by
  have e1 : (BitVec.ofInt 64 18446744073709551615 ^^^ BitVec.ofInt 64 (x : Int)).toNat = 18446744073709551615 - x := by
    rw [show BitVec.ofInt 64 18446744073709551615 = BitVec.allOnes 64 from by decide, BitVec.allOnes_xor, BitVec.toNat_not, BitVec.toNat_ofInt]
    show 18446744073709551615 - ((x : Int) % 18446744073709551616).toNat = _
    omega
  show IntKind.u64.wrap (((BitVec.ofInt 64 18446744073709551615 ^^^ BitVec.ofInt 64 (x : Int)).toNat : Nat) : Int) = _
  rw [e1]
  exact wUn (by omega)
theorem Inverse_calls {d : Nat} {h : H} {K : AV → H → Prop} (hd : d < 18446744073709551616)
    (hk1 : d < 9223372036854775808 → K (.tup [.int .u64 0, .bool false]) h)
    (hk2 : 9223372036854775808 ≤ d → K (.tup [.int .u64 (((18446744073709551615 - d) * 18446744073709551616 + 18446744073709551615) / d : Nat), .bool true]) h) : ACalls Try.prog 111 [.int .u64 (d : Int)] h K := by
  refine in_word_Inverse (by simp) fun hw => ?_
  unfold c_word_Inverse
  simp only [go_sem, ↓reduceIte, Nat.reduceEqDiff, Nat.reduceAdd, Bool.false_eq_true, Int.reduceToNat]
  refine cond_split (fun hc => ?_) (fun hc => ?_)
  · simp only [go_sem, ↓reduceIte, Nat.reduceEqDiff, Nat.reduceAdd, Bool.false_eq_true, Int.reduceToNat]
    exact fun _ => hk1 (by simp at hc; omega)
  · have hge : 9223372036854775808 ≤ d := by simp at hc; omega
    simp only [go_sem, ↓reduceIte, Nat.reduceEqDiff, Nat.reduceAdd, Bool.false_eq_true, Int.reduceToNat, comU hd]
    refine Div64_calls (lo := 18446744073709551615) (by omega) (by omega) hd ?_
    simp only [go_sem, ↓reduceIte, Nat.reduceEqDiff, Nat.reduceAdd, Bool.false_eq_true, Int.reduceToNat]
    exact fun _ => hk2 hge
end Ab
end Go.Proofs.Ytnmnkocibjdhjaa
namespace Go.Proofs.Ytnmnkocibjdhjaa
namespace Ab
open Go Go.RowKit
set_option linter.unusedSimpArgs false
set_option linter.unusedVariables false
attribute [local go_sem ↓] x_mv x_pick x_bin x_beq x_peq x_seq x_cat x_aeq x_idxS x_un x_cvI x_idx x_idxA x_fld x_ld x_st x_nn x_prt x_slc x_mk x_bsl x_bld x_box x_alloc x_len x_capo x_mnx x_app x_cpy x_mkf x_ext x_call x_callV x_bad s_none s_some s_nil s_cons s_chks w_skip w_reg tP_fin tP_no tP_alt w_seq w_cond w_block w_exit w_ret t_normal t_exit t_ret b_normal b_ret b_exit n_normal n_exit n_ret p_normal p_ret f_nil f_t f_c k_ops k_chk k_fin
attribute [local go_sem] e_t e_c e_f u_some u_none u_at env_at k_v k_pick k_add k_sub k_mul k_quo k_rem k_and k_or k_xor k_shl k_shr k_eql k_neq k_lss k_leq k_gtr k_geq k_beq k_peqn k_peqs k_neg k_not k_com k_cvI k_idxS k_idx k_idxA k_idxG k_ldG k_gld k_seq k_cat k_aeq k_eqs k_fld k_ld1 k_ldn k_get k_gets k_sti k_stb k_stp k_sts k_stf k_sta k_put k_nn k_prt1 k_prtn k_slc_a k_slc_b k_slc_c k_mk k_agg k_bsl k_box k_len k_lenS k_cap k_max k_min k_ext k_callV k_true k_false k_gtt k_gtf k_gft k_gsk k_gff k_lit1i k_lit2i k_lit3i k_c0 k_c1 k_ck List.getElem?_cons_zero List.getElem?_cons_succ List.getElem?_nil Option.getD_some Option.getD_none tupOf List.map_cons List.map_nil Option.map_some Option.map_none List.nil_append List.cons_append List.append_nil Nat.mul_one Int.toNat_natCast Nat.zero_add
theorem cmpI_eq {x : Nat} : (cmpI x x == 0) = true := by simp [cmpI]
theorem cmpI_ne {x : Nat} : (cmpI x x != 0) = false := by simp [cmpI]
theorem Big.words {x k : Nat} (h : x < 18446744073709551616 ^ k) (hk : k ≤ 500000) : Big x := lt_big64 h hk
theorem Big.w1 {x : Nat} (h : x < 18446744073709551616) : Big x := lt_big64 (k := 1) (by omega) (by omega)
theorem Big.w2 {x : Nat} (h : x < 340282366920938463463374607431768211456) : Big x := lt_big64 (k := 2) (by omega) (by omega)
theorem Big.w3 {x : Nat} (h : x < 6277101735386680763835789423207666416102355444464034512896) : Big x := lt_big64 (k := 3) (by omega) (by omega)
end Ab
end Go.Proofs.Ytnmnkocibjdhjaa
namespace Go.Proofs.Ytnmnkocibjdhjaa
namespace Ab
open Go Go.RowKit
set_option linter.unusedSimpArgs false
set_option linter.unusedVariables false
attribute [local go_sem ↓] x_mv x_pick x_bin x_beq x_peq x_seq x_cat x_aeq x_idxS x_un x_cvI x_idx x_idxA x_fld x_ld x_st x_nn x_prt x_slc x_mk x_bsl x_bld x_box x_alloc x_len x_capo x_mnx x_app x_cpy x_mkf x_ext x_call x_callV x_bad s_none s_some s_nil s_cons s_chks w_skip w_reg tP_fin tP_no tP_alt w_seq w_cond w_block w_exit w_ret t_normal t_exit t_ret b_normal b_ret b_exit n_normal n_exit n_ret p_normal p_ret f_nil f_t f_c k_ops k_chk k_fin
attribute [local go_sem] e_t e_c e_f u_some u_none u_at env_at k_v k_pick k_add k_sub k_mul k_quo k_rem k_and k_or k_xor k_shl k_shr k_eql k_neq k_lss k_leq k_gtr k_geq k_beq k_peqn k_peqs k_neg k_not k_com k_cvI k_idxS k_idx k_idxA k_idxG k_ldG k_gld k_seq k_cat k_aeq k_eqs k_fld k_ld1 k_ldn k_get k_gets k_sti k_stb k_stp k_sts k_stf k_sta k_put k_nn k_prt1 k_prtn k_slc_a k_slc_b k_slc_c k_mk k_agg k_bsl k_box k_len k_lenS k_cap k_max k_min k_ext k_callV k_true k_false k_gtt k_gtf k_gft k_gsk k_gff k_lit1i k_lit2i k_lit3i k_c0 k_c1 k_ck List.getElem?_cons_zero List.getElem?_cons_succ List.getElem?_nil Option.getD_some Option.getD_none tupOf List.map_cons List.map_nil Option.map_some Option.map_none List.nil_append List.cons_append List.append_nil Nat.mul_one Int.toNat_natCast Nat.zero_add
end Ab
end Go.Proofs.Ytnmnkocibjdhjaa
namespace Go.Proofs.Ytnmnkocibjdhjaa
namespace Ab
open Go Go.RowKit
set_option linter.unusedSimpArgs false
set_option linter.unusedVariables false
attribute [local go_sem ↓] x_mv x_pick x_bin x_beq x_peq x_seq x_cat x_aeq x_idxS x_un x_cvI x_idx x_idxA x_fld x_ld x_st x_nn x_prt x_slc x_mk x_bsl x_bld x_box x_alloc x_len x_capo x_mnx x_app x_cpy x_mkf x_ext x_call x_callV x_bad s_none s_some s_nil s_cons s_chks w_skip w_reg tP_fin tP_no tP_alt w_seq w_cond w_block w_exit w_ret t_normal t_exit t_ret b_normal b_ret b_exit n_normal n_exit n_ret p_normal p_ret f_nil f_t f_c k_ops k_chk k_fin
attribute [local go_sem] e_t e_c e_f u_some u_none u_at env_at k_v k_pick k_add k_sub k_mul k_quo k_rem k_and k_or k_xor k_shl k_shr k_eql k_neq k_lss k_leq k_gtr k_geq k_beq k_peqn k_peqs k_neg k_not k_com k_cvI k_idxS k_idx k_idxA k_idxG k_ldG k_gld k_seq k_cat k_aeq k_eqs k_fld k_ld1 k_ldn k_get k_gets k_sti k_stb k_stp k_sts k_stf k_sta k_put k_nn k_prt1 k_prtn k_slc_a k_slc_b k_slc_c k_mk k_agg k_bsl k_box k_len k_lenS k_cap k_max k_min k_ext k_callV k_true k_false k_gtt k_gtf k_gft k_gsk k_gff k_lit1i k_lit2i k_lit3i k_c0 k_c1 k_ck List.getElem?_cons_zero List.getElem?_cons_succ List.getElem?_nil Option.getD_some Option.getD_none tupOf List.map_cons List.map_nil Option.map_some Option.map_none List.nil_append List.cons_append List.append_nil Nat.mul_one Int.toNat_natCast Nat.zero_add
theorem div_lt_word {hi lo d : Nat} (h : hi < d) (hl : lo < 18446744073709551616) (hd : d < 18446744073709551616) : (hi * 18446744073709551616 + lo) / d < 18446744073709551616 ∧ (hi * 18446744073709551616 + lo) % d < 18446744073709551616 ∧ hi * 18446744073709551616 + lo < 340282366920938463463374607431768211456 := by
  refine ⟨?_, ?_, by omega⟩
  · rw [Nat.div_lt_iff_lt_mul (by omega)]
    have := Nat.mul_le_mul_right 18446744073709551616 (show hi + 1 ≤ d from h)
    rw [Nat.mul_comm 18446744073709551616 d]
    omega
  · have := Nat.mod_lt (hi * 18446744073709551616 + lo) (show 0 < d by omega)
    omega
end Ab
end Go.Proofs.Ytnmnkocibjdhjaa
namespace Go.Proofs.Ytnmnkocibjdhjaa
namespace Ab
open Go Go.RowKit
set_option linter.unusedSimpArgs false
set_option linter.unusedVariables false
attribute [local go_sem ↓] x_mv x_pick x_bin x_beq x_peq x_seq x_cat x_aeq x_idxS x_un x_cvI x_idx x_idxA x_fld x_ld x_st x_nn x_prt x_slc x_mk x_bsl x_bld x_box x_alloc x_len x_capo x_mnx x_app x_cpy x_mkf x_ext x_call x_callV x_bad s_none s_some s_nil s_cons s_chks w_skip w_reg tP_fin tP_no tP_alt w_seq w_cond w_block w_exit w_ret t_normal t_exit t_ret b_normal b_ret b_exit n_normal n_exit n_ret p_normal p_ret f_nil f_t f_c k_ops k_chk k_fin
attribute [local go_sem] e_t e_c e_f u_some u_none u_at env_at k_v k_pick k_add k_sub k_mul k_quo k_rem k_and k_or k_xor k_shl k_shr k_eql k_neq k_lss k_leq k_gtr k_geq k_beq k_peqn k_peqs k_neg k_not k_com k_cvI k_idxS k_idx k_idxA k_idxG k_ldG k_gld k_seq k_cat k_aeq k_eqs k_fld k_ld1 k_ldn k_get k_gets k_sti k_stb k_stp k_sts k_stf k_sta k_put k_nn k_prt1 k_prtn k_slc_a k_slc_b k_slc_c k_mk k_agg k_bsl k_box k_len k_lenS k_cap k_max k_min k_ext k_callV k_true k_false k_gtt k_gtf k_gft k_gsk k_gff k_lit1i k_lit2i k_lit3i k_c0 k_c1 k_ck List.getElem?_cons_zero List.getElem?_cons_succ List.getElem?_nil Option.getD_some Option.getD_none tupOf List.map_cons List.map_nil Option.map_some Option.map_none List.nil_append List.cons_append List.append_nil Nat.mul_one Int.toNat_natCast Nat.zero_add
/-- Between what bounds the first remainder lies. -/
theorem mg_bounds {B v d k u1 u0 q1 q0 r : Int} (h1 : (B + v) * d + k = B * B) (h2 : (B + v) * u1 + u0 = q1 * B + q0) (h3 : r = u1 * B + u0 - (q1 + 1) * d) (hk0 : 0 ≤ k) (hk : k ≤ d) (hd : d < B) (hd0 : 0 < d)
    (hu1 : 0 ≤ u1) (hu1d : u1 < d) (hu0 : 0 ≤ u0) (hu0B : u0 < B) (hq0 : 0 ≤ q0) (hq0B : q0 < B) : -d ≤ r ∧ q0 + 1 ≤ B + r ∧ (r < B - d ∨ r < q0) := by
  have key : B * r = u1 * k + u0 * (B - d) + q0 * d - B * d := by grind
  have p1 : 0 ≤ u1 * k := Int.mul_nonneg hu1 hk0
  have p2 : 0 ≤ u0 * (B - d) := Int.mul_nonneg hu0 (by omega)
  have p3 : 0 ≤ q0 * d := Int.mul_nonneg hq0 (by omega)
  have hB : 0 < B := by omega
  refine ⟨?_, ?_, ?_⟩
  · have e : B * (-d) ≤ B * r := by rw [key]; grind
    exact Int.le_of_mul_le_mul_left e hB
  · have e0 : (B - q0) * d < (B - q0) * B := Int.mul_lt_mul_of_pos_left hd (by omega)
    have e : B * (q0 - B) < B * r := by rw [key]; grind
    have := Int.lt_of_mul_lt_mul_left e (by omega)
    omega
  · rcases Int.lt_or_le r (B - d) with c1 | c1
    · exact .inl c1
    · refine .inr ?_
      rcases Int.lt_or_le r q0 with c2 | c2
      · exact c2
      · exfalso
        have a1 : u1 * k ≤ (d - 1) * d := Int.mul_le_mul (by omega) hk hk0 (by omega)
        have a2 : u0 * (B - d) ≤ (B - 1) * (B - d) := Int.mul_le_mul_of_nonneg_right (by omega) (by omega)
        have a3 : (B - d) * (B - d) ≤ (B - d) * r := Int.mul_le_mul_of_nonneg_left c1 (by omega)
        have a4 : d * q0 ≤ d * r := Int.mul_le_mul_of_nonneg_left c2 (by omega)
        grind
theorem wrap_mul {a b : Int} : IntKind.u64.wrap (IntKind.u64.wrap a * b) = IntKind.u64.wrap (a * b) := by
  rw [wUm, wUm, wUm, Int.mul_emod, Int.emod_emod, ← Int.mul_emod]
theorem wrap_sub {a b : Int} : IntKind.u64.wrap (a - IntKind.u64.wrap b) = IntKind.u64.wrap (a - b) := by
  rw [wUm, wUm, wUm, Int.sub_emod_emod]
theorem addUm {a b : Nat} : IntKind.u64.wrap ((a : Int) + (b : Int)) = (((a + b) % 18446744073709551616 : Nat) : Int) := by rw [wUm]; omega
theorem incUm {a : Nat} : IntKind.u64.wrap ((a : Int) + 1) = (((a + 1) % 18446744073709551616 : Nat) : Int) := by rw [wUm]; omega
theorem subUm {a b : Nat} (hb : b ≤ 18446744073709551616) : IntKind.u64.wrap ((a : Int) - (b : Int)) = (((a + 18446744073709551616 - b) % 18446744073709551616 : Nat) : Int) := by rw [wUm]; omega
theorem decUm {a : Nat} : IntKind.u64.wrap ((a : Int) - 1) = (((a + 18446744073709551616 - 1) % 18446744073709551616 : Nat) : Int) := by rw [wUm]; omega
/-- What the inverse of a word is. -/
def IsInv (d v : Nat) : Prop := v < 18446744073709551616 ∧ ∃ k : Nat, k ≤ d ∧ 1 ≤ k ∧ (18446744073709551616 + v) * d + k = 340282366920938463463374607431768211456
theorem inv_of {d : Nat} (hd : d < 18446744073709551616) (h2 : 9223372036854775808 ≤ d) : IsInv d (((18446744073709551615 - d) * 18446744073709551616 + 18446744073709551615) / d) := by
  have h1 := Nat.div_add_mod ((18446744073709551615 - d) * 18446744073709551616 + 18446744073709551615) d
  have h3 := Nat.mod_lt ((18446744073709551615 - d) * 18446744073709551616 + 18446744073709551615) (show 0 < d by omega)
  have hv : ((18446744073709551615 - d) * 18446744073709551616 + 18446744073709551615) / d < 18446744073709551616 := by
    rw [Nat.div_lt_iff_lt_mul (by omega)]
    omega
  generalize ((18446744073709551615 - d) * 18446744073709551616 + 18446744073709551615) / d = v at *
  generalize ((18446744073709551615 - d) * 18446744073709551616 + 18446744073709551615) % d = m at *
  refine ⟨hv, m + 1, by omega, by omega, ?_⟩
  rw [Nat.add_mul, Nat.mul_comm v d]
  generalize d * v = t at *
  omega
end Ab
end Go.Proofs.Ytnmnkocibjdhjaa
namespace Go.Proofs.Ytnmnkocibjdhjaa
namespace Ab
open Go Go.RowKit
set_option linter.unusedSimpArgs false
set_option linter.unusedVariables false
attribute [local go_sem ↓] x_mv x_pick x_bin x_beq x_peq x_seq x_cat x_aeq x_idxS x_un x_cvI x_idx x_idxA x_fld x_ld x_st x_nn x_prt x_slc x_mk x_bsl x_bld x_box x_alloc x_len x_capo x_mnx x_app x_cpy x_mkf x_ext x_call x_callV x_bad s_none s_some s_nil s_cons s_chks w_skip w_reg tP_fin tP_no tP_alt w_seq w_cond w_block w_exit w_ret t_normal t_exit t_ret b_normal b_ret b_exit n_normal n_exit n_ret p_normal p_ret f_nil f_t f_c k_ops k_chk k_fin
attribute [local go_sem] e_t e_c e_f u_some u_none u_at env_at k_v k_pick k_add k_sub k_mul k_quo k_rem k_and k_or k_xor k_shl k_shr k_eql k_neq k_lss k_leq k_gtr k_geq k_beq k_peqn k_peqs k_neg k_not k_com k_cvI k_idxS k_idx k_idxA k_idxG k_ldG k_gld k_seq k_cat k_aeq k_eqs k_fld k_ld1 k_ldn k_get k_gets k_sti k_stb k_stp k_sts k_stf k_sta k_put k_nn k_prt1 k_prtn k_slc_a k_slc_b k_slc_c k_mk k_agg k_bsl k_box k_len k_lenS k_cap k_max k_min k_ext k_callV k_true k_false k_gtt k_gtf k_gft k_gsk k_gff k_lit1i k_lit2i k_lit3i k_c0 k_c1 k_ck List.getElem?_cons_zero List.getElem?_cons_succ List.getElem?_nil Option.getD_some Option.getD_none tupOf List.map_cons List.map_nil Option.map_some Option.map_none List.nil_append List.cons_append List.append_nil Nat.mul_one Int.toNat_natCast Nat.zero_add
theorem inv_eq {d : Nat} (hd : d < 18446744073709551616) (h2 : 9223372036854775808 ≤ d) : (18446744073709551615 * 18446744073709551616 + 18446744073709551615) / d = 1 * 18446744073709551616 + ((18446744073709551615 - d) * 18446744073709551616 + 18446744073709551615) / d := by
  have e : 18446744073709551615 * 18446744073709551616 + 18446744073709551615 = d * (1 * 18446744073709551616) + ((18446744073709551615 - d) * 18446744073709551616 + 18446744073709551615) := by omega
  rw [e, Nat.mul_add_div (by omega)]
end Ab
end Go.Proofs.Ytnmnkocibjdhjaa
namespace Go.Proofs.Ytnmnkocibjdhjaa
namespace Ab
open Go Go.RowKit
set_option linter.unusedSimpArgs false
set_option linter.unusedVariables false
attribute [local go_sem ↓] x_mv x_pick x_bin x_beq x_peq x_seq x_cat x_aeq x_idxS x_un x_cvI x_idx x_idxA x_fld x_ld x_st x_nn x_prt x_slc x_mk x_bsl x_bld x_box x_alloc x_len x_capo x_mnx x_app x_cpy x_mkf x_ext x_call x_callV x_bad s_none s_some s_nil s_cons s_chks w_skip w_reg tP_fin tP_no tP_alt w_seq w_cond w_block w_exit w_ret t_normal t_exit t_ret b_normal b_ret b_exit n_normal n_exit n_ret p_normal p_ret f_nil f_t f_c k_ops k_chk k_fin
attribute [local go_sem] e_t e_c e_f u_some u_none u_at env_at k_v k_pick k_add k_sub k_mul k_quo k_rem k_and k_or k_xor k_shl k_shr k_eql k_neq k_lss k_leq k_gtr k_geq k_beq k_peqn k_peqs k_neg k_not k_com k_cvI k_idxS k_idx k_idxA k_idxG k_ldG k_gld k_seq k_cat k_aeq k_eqs k_fld k_ld1 k_ldn k_get k_gets k_sti k_stb k_stp k_sts k_stf k_sta k_put k_nn k_prt1 k_prtn k_slc_a k_slc_b k_slc_c k_mk k_agg k_bsl k_box k_len k_lenS k_cap k_max k_min k_ext k_callV k_true k_false k_gtt k_gtf k_gft k_gsk k_gff k_lit1i k_lit2i k_lit3i k_c0 k_c1 k_ck List.getElem?_cons_zero List.getElem?_cons_succ List.getElem?_nil Option.getD_some Option.getD_none tupOf List.map_cons List.map_nil Option.map_some Option.map_none List.nil_append List.cons_append List.append_nil Nat.mul_one Int.toNat_natCast Nat.zero_add
/-- What the inverse of two words is. -/
def IsInv2 (d1 d0 v : Nat) : Prop := v < 18446744073709551616 ∧ ∃ k : Nat, 1 ≤ k ∧ k ≤ d1 * 18446744073709551616 + d0 ∧ (18446744073709551616 + v) * (d1 * 18446744073709551616 + d0) + k = 6277101735386680763835789423207666416102355444464034512896
theorem dec_mul {v d : Nat} (hv : 1 ≤ v) : (18446744073709551616 + (v - 1)) * d + d = (18446744073709551616 + v) * d := by
  rw [← Nat.succ_mul]
  congr 1
  omega
/-- After the first part. -/
structure Inv1 (d1 d0 v p k : Nat) : Prop where
  hv : v < 18446744073709551616
  eq : (18446744073709551616 + v) * d1 + k = 340282366920938463463374607431768211456
  lo : d0 < k
  hi : k ≤ d1 + d0
  hp : p + k = 18446744073709551616 + d0
theorem inv2_value {d1 d0 v p k : Nat} (i : Inv1 d1 d0 v p k) : (6277101735386680763835789423207666416102355444464034512896 : Int) - (18446744073709551616 + v) * (d1 * 18446744073709551616 + d0) = 18446744073709551616 * ((k : Int) - d0) - v * d0 := by
  have h := i.eq
  have h2 : ((18446744073709551616 : Int) + v) * d1 + k = 340282366920938463463374607431768211456 := by
    have := congrArg (fun n : Nat => (n : Int)) h
    simpa using this
  have h3 : ((18446744073709551616 : Int) + v) * (d1 * 18446744073709551616 + d0) = 18446744073709551616 * (((18446744073709551616 : Int) + v) * d1) + 18446744073709551616 * d0 + v * d0 := by grind
  rw [h3]
  generalize ((18446744073709551616 : Int) + v) * d1 = t at *
  generalize (v : Int) * d0 = s at *
  omega
theorem inv2_keep {d1 d0 v p k : Nat} (i : Inv1 d1 d0 v p k) (hc : v * d0 / 18446744073709551616 + d0 < k) : IsInv2 d1 d0 v := by
  have h := inv2_value i
  have e := Nat.div_add_mod (v * d0) 18446744073709551616
  have e2 : v * d0 % 18446744073709551616 < 18446744073709551616 := Nat.mod_lt _ (by decide)
  have a := i.lo
  have b := i.hi
  refine ⟨i.hv, 18446744073709551616 * (k - d0) - v * d0, ?_, ?_, ?_⟩
  · generalize v * d0 = t at *; omega
  · generalize v * d0 = t at *; omega
  · have h2 : (((18446744073709551616 + v) * (d1 * 18446744073709551616 + d0) : Nat) : Int) = ((18446744073709551616 : Int) + v) * (d1 * 18446744073709551616 + d0) := by simp
    have h3 : ((v : Int) * d0) = ((v * d0 : Nat) : Int) := by simp
    rw [← h2, h3] at h
    generalize (18446744073709551616 + v) * (d1 * 18446744073709551616 + d0) = s at *
    generalize v * d0 = t at *
    omega
theorem inv2_one {d1 d0 v p k : Nat} (i : Inv1 d1 d0 v p k) (hd1 : d1 < 18446744073709551616) (hd0 : d0 < 18446744073709551616) (hc : k ≤ v * d0 / 18446744073709551616 + d0) (h2 : v * d0 < 18446744073709551616 * (k - d0) + (d1 * 18446744073709551616 + d0)) : 1 ≤ v ∧ IsInv2 d1 d0 (v - 1) := by
  have h := inv2_value i
  have e := Nat.div_add_mod (v * d0) 18446744073709551616
  have a := i.lo
  have b := i.hi
  have hv : 1 ≤ v := by
    rcases Nat.eq_zero_or_pos v with h0 | h0
    · subst h0; simp at hc; omega
    · exact h0
  have hvb := i.hv
  refine ⟨hv, by omega, 18446744073709551616 * (k - d0) + (d1 * 18446744073709551616 + d0) - v * d0, ?_, ?_, ?_⟩
  · omega
  · generalize v * d0 = t at *; omega
  · have h4 := dec_mul (d := d1 * 18446744073709551616 + d0) hv
    have h2 : (((18446744073709551616 + v) * (d1 * 18446744073709551616 + d0) : Nat) : Int) = ((18446744073709551616 : Int) + v) * (d1 * 18446744073709551616 + d0) := by simp
    have h3 : ((v : Int) * d0) = ((v * d0 : Nat) : Int) := by simp
    rw [← h2, h3, ← h4] at h
    generalize (18446744073709551616 + (v - 1)) * (d1 * 18446744073709551616 + d0) = s at *
    generalize v * d0 = t at *
    omega
theorem inv2_two {d1 d0 v p k : Nat} (i : Inv1 d1 d0 v p k) (hd1 : d1 < 18446744073709551616) (h63 : 9223372036854775808 ≤ d1) (hd0 : d0 < 18446744073709551616) (h2 : 18446744073709551616 * (k - d0) + (d1 * 18446744073709551616 + d0) ≤ v * d0) : 2 ≤ v ∧ IsInv2 d1 d0 (v - 2) := by
  have h := inv2_value i
  have a := i.lo
  have b := i.hi
  have hvb := i.hv
  have hv : 2 ≤ v := by
    rcases Nat.lt_or_ge v 2 with h0 | h0
    · have : v * d0 ≤ 1 * d0 := Nat.mul_le_mul_right d0 (by omega)
      omega
    · exact h0
  have hmax : v * d0 ≤ 18446744073709551615 * 18446744073709551615 := Nat.mul_le_mul (by omega) (by omega)
  refine ⟨hv, by omega, 18446744073709551616 * (k - d0) + 2 * (d1 * 18446744073709551616 + d0) - v * d0, ?_, ?_, ?_⟩
  · generalize v * d0 = t at *; omega
  · generalize v * d0 = t at *; omega
  · have h4 := dec_mul (v := v) (d := d1 * 18446744073709551616 + d0) (by omega)
    have h5 := dec_mul (v := v - 1) (d := d1 * 18446744073709551616 + d0) (by omega)
    rw [show v - 1 - 1 = v - 2 from by omega] at h5
    have h2 : (((18446744073709551616 + v) * (d1 * 18446744073709551616 + d0) : Nat) : Int) = ((18446744073709551616 : Int) + v) * (d1 * 18446744073709551616 + d0) := by simp
    have h3 : ((v : Int) * d0) = ((v * d0 : Nat) : Int) := by simp
    rw [← h2, h3, ← h4, ← h5] at h
    generalize (18446744073709551616 + (v - 2)) * (d1 * 18446744073709551616 + d0) = s at *
    generalize v * d0 = t at *
    omega
theorem Inverse2_calls {d1 d0 : Nat} {h : H} {K : AV → H → Prop} (hd1 : d1 < 18446744073709551616) (hd0 : d0 < 18446744073709551616)
    (hk1 : d1 < 9223372036854775808 → K (.tup [.int .u64 0, .bool false]) h)
    (hk2 : 9223372036854775808 ≤ d1 → ∀ v : Nat, IsInv2 d1 d0 v → K (.tup [.int .u64 (v : Int), .bool true]) h) : ACalls Try.prog 78 [.int .u64 (d1 : Int), .int .u64 (d0 : Int)] h K := by
  refine in_word_Inverse2 (by simp) fun hw => ?_
  unfold c_word_Inverse2
  simp only [go_sem, ↓reduceIte, Nat.reduceEqDiff, Nat.reduceAdd, Bool.false_eq_true, Int.reduceToNat]
  refine Inverse_calls hd1 (fun hc => ?_) (fun hc => ?_)
  · simp only [go_sem, ↓reduceIte, Nat.reduceEqDiff, Nat.reduceAdd, Bool.false_eq_true, Int.reduceToNat, Bool.not_false]
    exact fun _ => hk1 hc
  obtain ⟨hv, k, hk0, hk1, hk4⟩ := inv_of hd1 hc
  obtain ⟨v, hv0⟩ : ∃ v, v = ((18446744073709551615 - d1) * 18446744073709551616 + 18446744073709551615) / d1 := ⟨_, rfl⟩
  rw [← hv0] at hv hk4
  rw [← hv0]
  clear hv0
  have ht : v * d1 + 18446744073709551616 * d1 + k = 340282366920938463463374607431768211456 := by rw [← hk4, Nat.add_mul]; omega
  have hv1 : 1 ≤ v := by
    rcases Nat.eq_zero_or_pos v with h0 | h0
    · subst h0; omega
    · exact h0
  have hp : IntKind.u64.wrap (IntKind.u64.wrap ((d1 : Int) * (v : Int)) + (d0 : Int)) = ((if k ≤ d0 then d0 - k else 18446744073709551616 + d0 - k : Nat) : Int) := by
    rw [← Int.natCast_mul, Nat.mul_comm d1 v, wUm, wUm]
    generalize v * d1 = t at *
    split <;> omega
  simp only [go_sem, ↓reduceIte, Nat.reduceEqDiff, Nat.reduceAdd, Bool.false_eq_true, Int.reduceToNat, Bool.not_true, hp]
  refine cond_cut (fun ρ' h' => h' = h ∧ ρ' 0 = .int .u64 (d1 : Int) ∧ ρ' 1 = .int .u64 (d0 : Int) ∧ ∃ v p k : Nat, ρ' 6 = .int .u64 (v : Int) ∧ ρ' 8 = .int .u64 (p : Int) ∧ Inv1 d1 d0 v p k) ?_ ?_
  · refine cond_split (fun hc1 => ?_) (fun hc1 => ?_)
    · have hkd : k ≤ d0 := by
        rcases Nat.lt_or_ge d0 k with h0 | h0
        · rw [if_neg (by omega)] at hc1; simp at hc1; omega
        · exact h0
      rw [if_pos hkd]
      have s1 := subN1 (a := v) hv1 (by omega)
      have m1 := dec_mul (v := v) (d := d1) hv1
      simp only [go_sem, ↓reduceIte, Nat.reduceEqDiff, Nat.reduceAdd, Bool.false_eq_true, Int.reduceToNat, s1]
      refine cond_cut (fun ρ' h' => h' = h ∧ ρ' 0 = .int .u64 (d1 : Int) ∧ ρ' 1 = .int .u64 (d0 : Int) ∧ ∃ v p k : Nat, ρ' 6 = .int .u64 (v : Int) ∧ ρ' 8 = .int .u64 (p : Int) ∧ v < 18446744073709551616 ∧ (18446744073709551616 + v) * d1 + k = 340282366920938463463374607431768211456 ∧ d0 < k ∧ k ≤ d1 + d0 ∧ p + k = d1 + d0 ∧ p < 18446744073709551616) ?_ ?_
      · refine cond_split (fun hc2 => ?_) (fun hc2 => ?_)
        · have hc2 : d1 ≤ d0 - k := by simp at hc2; omega
          have hv2 : 2 ≤ v := by
            rcases Nat.lt_or_ge v 2 with h0 | h0
            · have : v = 1 := by omega
              subst this
              omega
            · exact h0
          have s2 := subN1 (a := v - 1) (by omega) (by omega)
          have m2 := dec_mul (v := v - 1) (d := d1) (by omega)
          have s3 := subN (a := d0 - k) (b := d1) hc2 (by omega)
          simp only [go_sem, ↓reduceIte, Nat.reduceEqDiff, Nat.reduceAdd, Bool.false_eq_true, Int.reduceToNat, s2, s3]
          exact ⟨by first | rfl | trivial | assumption, by first | rfl | trivial | assumption, by first | rfl | trivial | assumption, v - 1 - 1, d0 - k - d1, k + d1 + d1, rfl, rfl, by omega, by omega, by omega, by omega, by omega, by omega⟩
        · have hc2 : d0 - k < d1 := by simp at hc2; omega
          simp only [go_sem, ↓reduceIte, Nat.reduceEqDiff, Nat.reduceAdd, Bool.false_eq_true, Int.reduceToNat]
          exact ⟨by first | rfl | trivial | assumption, by first | rfl | trivial | assumption, by first | rfl | trivial | assumption, v - 1, d0 - k, k + d1, rfl, rfl, by omega, by omega, by omega, by omega, by omega, by omega⟩
      · rintro ρ h' ⟨rfl, g0, g1, v', p', k', g6, g8, f1, f2, f3, f4, f5, f6⟩
        have s3 : IntKind.u64.wrap ((p' : Int) - (d1 : Int)) = ((18446744073709551616 + d0 - k' : Nat) : Int) := by rw [wUm]; omega
        simp only [go_sem, ↓reduceIte, Nat.reduceEqDiff, Nat.reduceAdd, Bool.false_eq_true, Int.reduceToNat, g0, g1, g6, g8, s3]
        exact ⟨by first | rfl | trivial | assumption, by first | rfl | trivial | assumption, by first | rfl | trivial | assumption, v', 18446744073709551616 + d0 - k', k', by first | rfl | trivial | assumption, rfl, ⟨f1, f2, f3, f4, by omega⟩⟩
    · have hkd : d0 < k := by
        rcases Nat.lt_or_ge d0 k with h0 | h0
        · exact h0
        · rw [if_pos (by omega)] at hc1; simp at hc1; omega
      rw [if_neg (by omega)]
      simp only [go_sem, ↓reduceIte, Nat.reduceEqDiff, Nat.reduceAdd, Bool.false_eq_true, Int.reduceToNat]
      exact ⟨by first | rfl | trivial | assumption, by first | rfl | trivial | assumption, by first | rfl | trivial | assumption, v, 18446744073709551616 + d0 - k, k, rfl, rfl, ⟨hv, hk4, hkd, by omega, by omega⟩⟩
  clear hk4 ht hp hv hk0 hk1 hv1
  rintro ρ h' ⟨rfl, g0, g1, v', p', k', g6, g8, i⟩
  simp only [go_sem, ↓reduceIte, Nat.reduceEqDiff, Nat.reduceAdd, Bool.false_eq_true, Int.reduceToNat, g0, g1, g6, g8]
  refine Mul64_calls i.hv hd0 ?_
  have iv := i.hv
  have ilo := i.lo
  have ihi := i.hi
  have ip := i.hp
  have e := Nat.div_add_mod (v' * d0) 18446744073709551616
  have e2 : v' * d0 % 18446744073709551616 < 18446744073709551616 := Nat.mod_lt _ (by decide)
  have hmax : v' * d0 ≤ 18446744073709551615 * 18446744073709551615 := Nat.mul_le_mul (by omega) (by omega)
  have w1 := addUm (a := p') (b := v' * d0 / 18446744073709551616)
  simp only [go_sem, ↓reduceIte, Nat.reduceEqDiff, Nat.reduceAdd, Bool.false_eq_true, Int.reduceToNat, g0, g1, g6, g8, w1]
  refine cond_split (fun hc1 => ?_) (fun hc1 => ?_)
  · have hc1 : k' ≤ v' * d0 / 18446744073709551616 + d0 := by simp at hc1; omega
    have hpp : (p' + v' * d0 / 18446744073709551616) % 18446744073709551616 = v' * d0 / 18446744073709551616 + d0 - k' := by omega
    have hone : v' * d0 < 18446744073709551616 * (k' - d0) + (d1 * 18446744073709551616 + d0) → 1 ≤ v' ∧ IsInv2 d1 d0 (v' - 1) := inv2_one i hd1 hd0 hc1
    have htwo : 18446744073709551616 * (k' - d0) + (d1 * 18446744073709551616 + d0) ≤ v' * d0 → 2 ≤ v' ∧ IsInv2 d1 d0 (v' - 2) := inv2_two i hd1 hc hd0
    have hv1 : 1 ≤ v' := by
      rcases Nat.lt_or_ge (v' * d0) (18446744073709551616 * (k' - d0) + (d1 * 18446744073709551616 + d0)) with h0 | h0
      · exact (hone h0).1
      · have := (htwo h0).1; omega
    have s1 := subN1 (a := v') hv1 (by omega)
    rw [hpp]
    obtain ⟨P, hP⟩ : ∃ P, P = v' * d0 / 18446744073709551616 + d0 - k' := ⟨_, rfl⟩
    rw [← hP]
    have less : (P < d1 ∨ (P = d1 ∧ v' * d0 % 18446744073709551616 < d0)) → ∀ Q : Prop, (IsInv2 d1 d0 (v' - 1) → Q) → Q := fun hh Q hQ => hQ (hone (by omega)).2
    have more : (d1 < P ∨ (P = d1 ∧ d0 ≤ v' * d0 % 18446744073709551616)) → ∀ Q : Prop, (2 ≤ v' → IsInv2 d1 d0 (v' - 2) → Q) → Q := fun hh Q hQ => hQ (htwo (by omega)).1 (htwo (by omega)).2
    rcases Nat.lt_trichotomy P d1 with c1 | c1 | c1
    · have t1 := ltF (a := d1) (b := P) (by omega)
      have t2 : ((P : Int) == (d1 : Int)) = false := by simp; omega
      simp only [go_sem, ↓reduceIte, Nat.reduceEqDiff, Nat.reduceAdd, Bool.false_eq_true, Int.reduceToNat, g0, g1, g6, g8, s1, t1, t2]
      exact fun _ => less (.inl c1) _ fun hh => hk2 hc _ hh
    · have t1 := ltF (a := d1) (b := P) (by omega)
      have t2 : ((P : Int) == (d1 : Int)) = true := by simp; omega
      simp only [go_sem, ↓reduceIte, Nat.reduceEqDiff, Nat.reduceAdd, Bool.false_eq_true, Int.reduceToNat, g0, g1, g6, g8, s1, t1, t2]
      refine cond_split (fun c2 => ?_) (fun c2 => ?_)
      · refine more (.inr ⟨c1, by simp at c2; omega⟩) _ fun h2 hh => ?_
        have s2 := subN1 (a := v' - 1) (by omega) (by omega)
        simp only [go_sem, ↓reduceIte, Nat.reduceEqDiff, Nat.reduceAdd, Bool.false_eq_true, Int.reduceToNat, s2]
        exact fun _ => hk2 hc _ hh
      · refine less (.inr ⟨c1, by simp at c2; omega⟩) _ fun hh => ?_
        simp only [go_sem, ↓reduceIte, Nat.reduceEqDiff, Nat.reduceAdd, Bool.false_eq_true, Int.reduceToNat]
        exact fun _ => hk2 hc _ hh
    · have t1 := ltT (a := d1) (b := P) c1
      refine more (.inl c1) _ fun h2 hh => ?_
      have s2 := subN1 (a := v' - 1) (by omega) (by omega)
      simp only [go_sem, ↓reduceIte, Nat.reduceEqDiff, Nat.reduceAdd, Bool.false_eq_true, Int.reduceToNat, g0, g1, g6, g8, s1, t1, s2]
      exact fun _ => hk2 hc _ hh
  · have hc1 : v' * d0 / 18446744073709551616 + d0 < k' := by simp at hc1; omega
    simp only [go_sem, ↓reduceIte, Nat.reduceEqDiff, Nat.reduceAdd, Bool.false_eq_true, Int.reduceToNat, g0, g1, g6, g8]
    exact fun _ => hk2 hc _ (inv2_keep i hc1)
end Ab
end Go.Proofs.Ytnmnkocibjdhjaa
namespace Go.Proofs.Ytnmnkocibjdhjaa
namespace Ab
open Go Go.RowKit
theorem mg3_bounds {B v D k a2 a1 a0 q1 q0 r : Int} (h1 : (B + v) * D + k = B * B * B) (h2 : (B + v) * a2 + a1 = q1 * B + q0) (h3 : r = a2 * B * B + a1 * B + a0 - (q1 + 1) * D) (hk0 : 0 ≤ k) (hk : k ≤ D) (hD : D < B * B) (hDB : B ≤ D) (hB : 0 < B) (hv : 0 ≤ v)
    (ha2 : 0 ≤ a2) (ha1 : 0 ≤ a1) (ha1B : a1 < B) (ha0 : 0 ≤ a0) (ha0B : a0 < B) (hx : a2 * B + a1 < D) (hq0 : 0 ≤ q0) (hq0B : q0 < B) : -D ≤ r ∧ q0 * B ≤ B * B + r ∧ (r < B * B - D ∨ r < q0 * B) := by
  have key : B * r = a2 * k + a1 * (B * B - D) + a0 * B + q0 * D - B * D := by grind
  have p1 : 0 ≤ a2 * k := Int.mul_nonneg ha2 hk0
  have p2 : 0 ≤ a1 * (B * B - D) := Int.mul_nonneg ha1 (by omega)
  have p3 : 0 ≤ a0 * B := Int.mul_nonneg ha0 (by omega)
  have p4 : 0 ≤ q0 * D := Int.mul_nonneg hq0 (by omega)
  refine ⟨?_, ?_, ?_⟩
  · have e : B * (-D) ≤ B * r := by rw [key]; grind
    exact Int.le_of_mul_le_mul_left e hB
  · have e0 : (B - q0) * D ≤ (B - q0) * (B * B) := Int.mul_le_mul_of_nonneg_left (by omega) (by omega)
    have e : B * (q0 * B - B * B) ≤ B * r := by rw [key]; grind
    have := Int.le_of_mul_le_mul_left e hB
    omega
  · rcases Int.lt_or_le r (B * B - D) with c1 | c1
    · exact .inl c1
    · refine .inr ?_
      rcases Int.lt_or_le r (q0 * B) with c2 | c2
      · exact c2
      · exfalso
        have hvD : v * D = B * B * B - B * D - k := by grind
        have key2 : B * B * r = (a2 * B + a1) * k + a1 * (v * D) + a0 * (B * B) + q0 * B * D - B * B * D := by
          have : B * B * r = B * (B * r) := by grind
          rw [this, key, hvD]
          grind
        have b1 : (a2 * B + a1) * k ≤ (D - 1) * k := Int.mul_le_mul_of_nonneg_right (by omega) hk0
        have b2 : a1 * (v * D) ≤ (B - 1) * (v * D) := Int.mul_le_mul_of_nonneg_right (by omega) (Int.mul_nonneg hv (by omega))
        have b3 : a0 * (B * B) ≤ (B - 1) * (B * B) := Int.mul_le_mul_of_nonneg_right (by omega) (by omega)
        have b4 : (D - B) * k ≤ (D - B) * D := Int.mul_le_mul_of_nonneg_left hk (by omega)
        have b5 : (B * B - D) * (B * B - D) ≤ (B * B - D) * r := Int.mul_le_mul_of_nonneg_left c1 (by omega)
        have b6 : D * (q0 * B) ≤ D * r := Int.mul_le_mul_of_nonneg_left c2 (by omega)
        have b7 : 0 < B * B := Int.mul_pos hB hB
        rw [hvD] at b2 key2
        have e1 : B * B * r = (B * B - D) * r + D * r := by grind
        have e2 : (D - 1) * k + (B - 1) * (B * B * B - B * D - k) + (B - 1) * (B * B) = (D - B) * k + (B - 1) * (B * B * B - B * D) + (B - 1) * (B * B) := by grind
        have e3 : (D - B) * D + (B - 1) * (B * B * B - B * D) + (B - 1) * (B * B) + q0 * B * D - B * B * D + B * B = (B * B - D) * (B * B - D) + D * (q0 * B) := by grind
        omega
end Ab
end Go.Proofs.Ytnmnkocibjdhjaa
