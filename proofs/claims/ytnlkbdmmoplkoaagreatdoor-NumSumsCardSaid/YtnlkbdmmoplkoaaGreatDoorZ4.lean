/- Joined texts: C5 D1. No condition. -/
import Derived.Test.YtnlkbdmmoplkoaaGreatDoorZ3
import Derived.Test.YtnlkbdmmoplkoaaGreatDoorProg
import Derived.KernelRfl
import Derived.Laws.BitsLemmas
import Derived.Laws.Bits64
namespace Go.Proofs.YtnlkbdmmoplkoaaGreatDoor
namespace Ab
open Go Go.RowKit
set_option linter.unusedSimpArgs false
set_option linter.unusedVariables false
section
open Go
def c_limb_One:AC:= .seq (.reg [o 2 (.mv (.c (.sl none 0 0 none)))]) (.seq (.seq (.reg [mv 3 0,o 4 (.bin .eql (.t 3) (u64 0))]) (.cond (.t 4) (.seq (.reg [o 2 (.mv (.c (.sl none 0 0 none)))]) .ret) .skip)) (.seq (.reg [mv 5 0,o 6 (.bsl 54 1 1 [.int .u64 0] [(0, .t 5)]),mv 2 6]) .ret))
theorem in_limb_One:Ent 97 7 c_limb_One [.t 2]:=ent Tryz.func97 rfl rfl rfl (show compile _ 7 _=_ by kernel_rfl) (show compRes _ 7 _=_ by kernel_rfl)
def c_limb_Norm:AC:= .seq (.reg [o 2 (.mv (.c (.sl none 0 0 none)))]) (.seq (.reg [mv 3 0,o 4 (.call 125 [.t 3]),o 5 (.app 54 1 8 (.c (.sl none 0 0 none)) (.t 4)),mv 2 5]) .ret)
theorem in_limb_Norm:Ent 107 6 c_limb_Norm [.t 2]:=ent Tryz.func107 rfl rfl rfl (show compile _ 6 _=_ by kernel_rfl) (show compRes _ 6 _=_ by kernel_rfl)
def c_limb_Add:AC:= .seq (.reg [o 4 (.mv (.c (.sl none 0 0 none)))]) (.seq (.reg [mv 9 0,o 10 (.call 125 [.t 9]),mv 11 1,o 12 (.call 125 [.t 11]),mv 0 10,mv 1 12]) (.seq (.seq (.reg [mv 13 0,o 14 (.len false (.t 13)),mv 15 1,o 16 (.len false (.t 15)),bn 17 .lss 14 16]) (.cond (.t 17) (.reg [mv 18 1,mv 19 0,mv 0 18,mv 1 19]) .skip)) (.seq (.reg [mv 20 0,o 21 (.len false (.t 20)),o 22 (.bin .add (.t 21) (i64 1)),o 23 (.mk 54 1 8 [.int .u64 0] (.t 22) (.t 22)),mv 5 23]) (.seq (.reg [o 6 (.mv (u64 0))]) (.seq (.seq (.reg [mv 24 0,o 25 (.len false (.t 24)),o 26 (.mv (i64 0))]) (.block 0 (.loop (.seq (.reg [bn 27 .lss 26 25]) (.seq (.cond (.t 27) .skip (.exit 0)) (.seq (.block 1 (.seq (.reg [mv 28 26,mv 7 28]) (.seq (.reg [o 8 (.mv (u64 0))]) (.seq (.seq (.reg [mv 29 7,mv 30 1,o 31 (.len false (.t 30)),bn 32 .lss 29 31]) (.cond (.t 32) (.reg [mv 33 1,mv 34 7,o 35 (.idx 1 (.t 33) (.t 34)),o 36 (.ld none (.t 35)),mv 8 36]) .skip)) (.reg [mv 38 5,mv 39 7,mv 40 0,mv 41 7,o 42 (.idx 1 (.t 40) (.t 41)),o 43 (.ld none (.t 42)),mv 44 8,mv 45 6,o 46 (.call 131 [.t 43, .t 44, .t 45]),mv 37 46,o 47 (.ext (.t 37) 0),o 48 (.ext (.t 37) 1),o 49 (.idx 1 (.t 38) (.t 39)),od (.st 1 (.t 49) (.t 47)),mv 6 48]))))) (.reg [o 50 (.bin .add (.t 26) (i64 1)),mv 26 50]))))))) (.seq (.reg [mv 51 5,mv 52 0,o 53 (.len false (.t 52)),mv 54 6,o 55 (.idx 1 (.t 51) (.t 53)),od (.st 1 (.t 55) (.t 54))]) (.seq (.reg [mv 56 5,o 57 (.call 125 [.t 56]),mv 4 57]) .ret)))))))
theorem in_limb_Add:Ent 111 58 c_limb_Add [.t 4]:=ent Tryz.func111 rfl rfl rfl (show compile _ 58 _=_ by kernel_rfl) (show compRes _ 58 _=_ by kernel_rfl)
def c_limb_Sub:AC:= .seq (.reg [o 4 (.mv (.c (.sl none 0 0 none))),o 5 (.mv (.c (.bool false)))]) (.seq (.reg [mv 10 0,o 11 (.call 125 [.t 10]),mv 12 1,o 13 (.call 125 [.t 12]),mv 0 11,mv 1 13]) (.seq (.seq (.reg [mv 14 0,mv 15 1,o 16 (.call 113 [.t 14, .t 15]),o 17 (.bin .lss (.t 16) (i64 0))]) (.cond (.t 17) (.seq (.reg [o 4 (.mv (.c (.sl none 0 0 none))),o 5 (.mv (.c (.bool false)))]) .ret) .skip)) (.seq (.reg [mv 18 0,o 19 (.len false (.t 18)),o 20 (.mk 54 1 8 [.int .u64 0] (.t 19) (.t 19)),mv 6 20]) (.seq (.reg [o 7 (.mv (u64 0))]) (.seq (.seq (.reg [mv 21 0,o 22 (.len false (.t 21)),o 23 (.mv (i64 0))]) (.block 0 (.loop (.seq (.reg [bn 24 .lss 23 22]) (.seq (.cond (.t 24) .skip (.exit 0)) (.seq (.block 1 (.seq (.reg [mv 25 23,mv 8 25]) (.seq (.reg [o 9 (.mv (u64 0))]) (.seq (.seq (.reg [mv 26 8,mv 27 1,o 28 (.len false (.t 27)),bn 29 .lss 26 28]) (.cond (.t 29) (.reg [mv 30 1,mv 31 8,o 32 (.idx 1 (.t 30) (.t 31)),o 33 (.ld none (.t 32)),mv 9 33]) .skip)) (.reg [mv 35 6,mv 36 8,mv 37 0,mv 38 8,o 39 (.idx 1 (.t 37) (.t 38)),o 40 (.ld none (.t 39)),mv 41 9,mv 42 7,o 43 (.call 132 [.t 40, .t 41, .t 42]),mv 34 43,o 44 (.ext (.t 34) 0),o 45 (.ext (.t 34) 1),o 46 (.idx 1 (.t 35) (.t 36)),od (.st 1 (.t 46) (.t 44)),mv 7 45]))))) (.reg [o 47 (.bin .add (.t 23) (i64 1)),mv 23 47]))))))) (.seq (.reg [mv 48 6,o 49 (.call 125 [.t 48]),mv 4 49,o 5 (.mv (.c (.bool true)))]) .ret))))))
theorem in_limb_Sub:Ent 112 50 c_limb_Sub [.t 4, .t 5]:=ent Tryz.func112 rfl rfl rfl (show compile _ 50 _=_ by kernel_rfl) (show compRes _ 50 _=_ by kernel_rfl)
def c_limb_Cmp:AC:= .seq (.reg [o 4 (.mv (i64 0))]) (.seq (.reg [mv 8 0,o 9 (.call 52 [.t 8]),mv 10 1,o 11 (.call 52 [.t 10]),mv 5 9,mv 6 11]) (.seq (.seq (.reg [mv 12 5,mv 13 6,bn 14 .neq 12 13]) (.cond (.t 14) (.seq (.seq (.reg [mv 15 5,mv 16 6,bn 17 .lss 15 16]) (.cond (.t 17) (.seq (.reg [o 4 (.mv (i64 (-1)))]) .ret) .skip)) (.seq (.reg [o 4 (.mv (i64 1))]) .ret)) .skip)) (.seq (.seq (.reg [mv 18 5,o 19 (.bin .sub (.t 18) (i64 1)),mv 7 19]) (.block 0 (.loop (.seq (.seq (.reg [mv 20 7,o 21 (.bin .geq (.t 20) (i64 0))]) (.cond (.t 21) .skip (.exit 0))) (.seq (.block 1 (.seq (.reg [mv 24 0,mv 25 7,o 26 (.idx 1 (.t 24) (.t 25)),o 27 (.ld none (.t 26)),mv 28 1,mv 29 7,o 30 (.idx 1 (.t 28) (.t 29)),o 31 (.ld none (.t 30)),bn 32 .neq 27 31]) (.cond (.t 32) (.seq (.seq (.reg [mv 33 0,mv 34 7,o 35 (.idx 1 (.t 33) (.t 34)),o 36 (.ld none (.t 35)),mv 37 1,mv 38 7,o 39 (.idx 1 (.t 37) (.t 38)),o 40 (.ld none (.t 39)),bn 41 .lss 36 40]) (.cond (.t 41) (.seq (.reg [o 4 (.mv (i64 (-1)))]) .ret) .skip)) (.seq (.reg [o 4 (.mv (i64 1))]) .ret)) .skip))) (.reg [mv 22 7,o 23 (.bin .sub (.t 22) (i64 1)),mv 7 23])))))) (.seq (.reg [o 4 (.mv (i64 0))]) .ret))))
theorem in_limb_Cmp:Ent 113 42 c_limb_Cmp [.t 4]:=ent Tryz.func113 rfl rfl rfl (show compile _ 42 _=_ by kernel_rfl) (show compRes _ 42 _=_ by kernel_rfl)
def c_limb_trim:AC:= .seq (.reg [o 2 (.mv (.c (.sl none 0 0 none)))]) (.seq (.reg [mv 3 0,mv 4 0,o 5 (.call 52 [.t 4]),o 6 (.slc 1 (.t 3) none (some (.t 5))),mv 2 6]) .ret)
theorem in_limb_trim:Ent 125 7 c_limb_trim [.t 2]:=ent Tryz.func125 rfl rfl rfl (show compile _ 7 _=_ by kernel_rfl) (show compRes _ 7 _=_ by kernel_rfl)
def c_limb_DivWord:AC:= .seq (.reg [o 4 (.mv (.c (.sl none 0 0 none))),o 5 (.mv (u64 0)),o 6 (.mv (i64 0))]) (.seq (.seq (.reg [mv 10 1,o 11 (.bin .eql (.t 10) (u64 0))]) (.cond (.t 11) (.seq (.reg [o 4 (.mv (.c (.sl none 0 0 none))),o 5 (.mv (u64 0)),o 6 (.mv (i64 2))]) .ret) .skip)) (.seq (.reg [mv 12 0,o 13 (.call 125 [.t 12]),mv 0 13]) (.seq (.reg [mv 14 0,o 15 (.len false (.t 14)),o 16 (.mk 54 1 8 [.int .u64 0] (.t 15) (.t 15)),mv 7 16]) (.seq (.reg [o 8 (.mv (u64 0))]) (.seq (.seq (.reg [mv 17 0,o 18 (.len false (.t 17)),o 19 (.bin .sub (.t 18) (i64 1)),mv 9 19]) (.block 0 (.loop (.seq (.seq (.reg [mv 20 9,o 21 (.bin .geq (.t 20) (i64 0))]) (.cond (.t 21) .skip (.exit 0))) (.seq (.block 1 (.reg [mv 25 7,mv 26 9,mv 27 8,mv 28 0,mv 29 9,o 30 (.idx 1 (.t 28) (.t 29)),o 31 (.ld none (.t 30)),mv 32 1,o 33 (.call 171 [.t 27, .t 31, .t 32]),mv 24 33,o 34 (.ext (.t 24) 0),o 35 (.ext (.t 24) 1),o 36 (.idx 1 (.t 25) (.t 26)),od (.st 1 (.t 36) (.t 34)),mv 8 35])) (.reg [mv 22 9,o 23 (.bin .sub (.t 22) (i64 1)),mv 9 23])))))) (.seq (.reg [mv 37 7,o 38 (.call 125 [.t 37]),mv 39 8,mv 4 38,mv 5 39,o 6 (.mv (i64 0))]) .ret))))))
theorem in_limb_DivWord:Ent 145 40 c_limb_DivWord [.t 4, .t 5, .t 6]:=ent Tryz.func145 rfl rfl rfl (show compile _ 40 _=_ by kernel_rfl) (show compRes _ 40 _=_ by kernel_rfl)
def c_limb_Shl:AC:= .seq (.reg [o 4 (.mv (.c (.sl none 0 0 none)))]) (.seq (.reg [mv 10 1,o 11 (.call 172 [.t 10,i64 1048576]),mv 1 11]) (.seq (.reg [mv 12 0,o 13 (.call 125 [.t 12]),mv 0 13]) (.seq (.seq (.reg [mv 14 0,o 15 (.len false (.t 14)),o 16 (.bin .eql (.t 15) (i64 0))]) (.cond (.t 16) (.seq (.reg [o 4 (.mv (.c (.sl none 0 0 none)))]) .ret) .skip)) (.seq (.reg [mv 17 1,o 18 (.bin .quo (.t 17) (i64 64)),mv 19 1,o 20 (.bin .rem (.t 19) (i64 64)),o 21 (.cvI .u64 (.t 20)),mv 5 18,mv 6 21]) (.seq (.reg [mv 22 0,o 23 (.len false (.t 22)),mv 24 5,bn 25 .add 23 24,o 26 (.bin .add (.t 25) (i64 1)),o 27 (.mk 54 1 8 [.int .u64 0] (.t 26) (.t 26)),mv 7 27]) (.seq (.seq (.reg [mv 28 0,o 29 (.len false (.t 28)),o 30 (.mv (i64 0))]) (.block 0 (.loop (.seq (.reg [bn 31 .lss 30 29]) (.seq (.cond (.t 31) .skip (.exit 0)) (.seq (.block 1 (.seq (.reg [mv 32 30,o 33 (.idx 1 (.t 28) (.t 30)),o 34 (.ld none (.t 33)),mv 8 32,mv 9 34]) (.seq (.reg [mv 35 7,mv 36 8,mv 37 5,bn 38 .add 36 37,mv 39 7,mv 40 8,mv 41 5,bn 42 .add 40 41,o 43 (.idx 1 (.t 39) (.t 42)),o 44 (.ld none (.t 43)),mv 45 9,mv 46 6,bn 47 .shl 45 46,bn 48 .or 44 47,o 49 (.idx 1 (.t 35) (.t 38)),od (.st 1 (.t 49) (.t 48))]) (.seq (.reg [mv 50 6,o 51 (.bin .gtr (.t 50) (u64 0))]) (.cond (.t 51) (.reg [mv 52 7,mv 53 8,mv 54 5,bn 55 .add 53 54,o 56 (.bin .add (.t 55) (i64 1)),mv 57 9,mv 58 6,o 59 (.bin .sub (u64 64) (.t 58)),bn 60 .shr 57 59,o 61 (.idx 1 (.t 52) (.t 56)),od (.st 1 (.t 61) (.t 60))]) .skip))))) (.reg [o 62 (.bin .add (.t 30) (i64 1)),mv 30 62]))))))) (.seq (.reg [mv 63 7,o 64 (.call 125 [.t 63]),mv 4 64]) .ret)))))))
theorem in_limb_Shl:Ent 147 65 c_limb_Shl [.t 4]:=ent Tryz.func147 rfl rfl rfl (show compile _ 65 _=_ by kernel_rfl) (show compRes _ 65 _=_ by kernel_rfl)
def c_limb_Shr:AC:= .seq (.reg [o 4 (.mv (.c (.sl none 0 0 none)))]) (.seq (.reg [mv 9 1,o 10 (.call 172 [.t 9,i64 1048576]),mv 1 10]) (.seq (.reg [mv 11 0,o 12 (.call 125 [.t 11]),mv 0 12]) (.seq (.reg [mv 13 1,o 14 (.bin .quo (.t 13) (i64 64)),mv 15 1,o 16 (.bin .rem (.t 15) (i64 64)),o 17 (.cvI .u64 (.t 16)),mv 5 14,mv 6 17]) (.seq (.seq (.reg [mv 18 5,mv 19 0,o 20 (.len false (.t 19)),bn 21 .geq 18 20]) (.cond (.t 21) (.seq (.reg [o 4 (.mv (.c (.sl none 0 0 none)))]) .ret) .skip)) (.seq (.reg [mv 22 0,o 23 (.len false (.t 22)),mv 24 5,bn 25 .sub 23 24,o 26 (.mk 54 1 8 [.int .u64 0] (.t 25) (.t 25)),mv 7 26]) (.seq (.seq (.reg [mv 27 7,o 28 (.len false (.t 27)),o 29 (.mv (i64 0))]) (.block 0 (.loop (.seq (.reg [bn 30 .lss 29 28]) (.seq (.cond (.t 30) .skip (.exit 0)) (.seq (.block 1 (.seq (.reg [mv 31 29,mv 8 31]) (.seq (.reg [mv 32 7,mv 33 8,mv 34 0,mv 35 8,mv 36 5,bn 37 .add 35 36,o 38 (.idx 1 (.t 34) (.t 37)),o 39 (.ld none (.t 38)),mv 40 6,bn 41 .shr 39 40,o 42 (.idx 1 (.t 32) (.t 33)),od (.st 1 (.t 42) (.t 41))]) (.seq (.reg [mv 43 6,o 44 (.bin .gtr (.t 43) (u64 0)),mv 45 44,og 46 45 true (.mv (.t 8)),og 47 45 true (.mv (.t 5)),og 48 45 true (.bin .add (.t 46) (.t 47)),og 49 45 true (.bin .add (.t 48) (i64 1)),og 50 45 true (.mv (.t 0)),og 51 45 true (.len false (.t 50)),og 52 45 true (.bin .lss (.t 49) (.t 51)),o 53 (.pick (.t 45) (.t 52) (.c (.bool false)))]) (.cond (.t 53) (.reg [mv 54 7,mv 55 8,mv 56 7,mv 57 8,o 58 (.idx 1 (.t 56) (.t 57)),o 59 (.ld none (.t 58)),mv 60 0,mv 61 8,mv 62 5,bn 63 .add 61 62,o 64 (.bin .add (.t 63) (i64 1)),o 65 (.idx 1 (.t 60) (.t 64)),o 66 (.ld none (.t 65)),mv 67 6,o 68 (.bin .sub (u64 64) (.t 67)),bn 69 .shl 66 68,bn 70 .or 59 69,o 71 (.idx 1 (.t 54) (.t 55)),od (.st 1 (.t 71) (.t 70))]) .skip))))) (.reg [o 72 (.bin .add (.t 29) (i64 1)),mv 29 72]))))))) (.seq (.reg [mv 73 7,o 74 (.call 125 [.t 73]),mv 4 74]) .ret)))))))
theorem in_limb_Shr:Ent 150 75 c_limb_Shr [.t 4]:=ent Tryz.func150 rfl rfl rfl (show compile _ 75 _=_ by kernel_rfl) (show compRes _ 75 _=_ by kernel_rfl)
def c_limb_Join:AC:= .seq (.reg [o 4 (.mv (.c (.sl none 0 0 none)))]) (.seq (.reg [mv 15 0,o 16 (.call 172 [.t 15,i64 16384]),mv 0 16]) (.seq (.reg [o 5 (.mv (i64 0))]) (.seq (.seq (.reg [mv 17 1,o 18 (.len false (.t 17)),o 19 (.mv (i64 0))]) (.block 0 (.loop (.seq (.reg [bn 20 .lss 19 18]) (.seq (.cond (.t 20) .skip (.exit 0)) (.seq (.block 1 (.seq (.reg [mv 21 19,o 22 (.idx 1 (.t 17) (.t 19)),o 23 (.ld none (.t 22)),mv 6 21,mv 7 23]) (.seq (.reg [mv 24 7,o 25 (.call 52 [.t 24]),mv 8 25]) (.seq (.reg [mv 26 8,o 27 (.bin .gtr (.t 26) (i64 0))]) (.cond (.t 27) (.reg [mv 28 5,mv 29 0,mv 30 6,bn 31 .mul 29 30,mv 32 8,bn 33 .add 31 32,o 34 (.mnx true (.t 28) [.t 33]),mv 5 34]) .skip))))) (.reg [o 35 (.bin .add (.t 19) (i64 1)),mv 19 35]))))))) (.seq (.reg [mv 36 5,o 37 (.bin .add (.t 36) (i64 2)),o 38 (.mk 54 1 8 [.int .u64 0] (.t 37) (.t 37)),mv 9 38]) (.seq (.seq (.reg [mv 39 1,o 40 (.len false (.t 39)),o 41 (.mv (i64 0))]) (.block 2 (.loop (.seq (.reg [bn 42 .lss 41 40]) (.seq (.cond (.t 42) .skip (.exit 2)) (.seq (.block 3 (.seq (.reg [mv 43 41,o 44 (.idx 1 (.t 39) (.t 41)),o 45 (.ld none (.t 44)),mv 10 43,mv 11 45]) (.seq (.reg [mv 46 11,o 47 (.call 125 [.t 46]),mv 11 47]) (.seq (.reg [o 12 (.mv (u64 0))]) (.seq (.reg [o 13 (.mv (i64 0))]) (.block 4 (.loop (.seq (.seq (.reg [mv 48 13,mv 49 11,o 50 (.len false (.t 49)),bn 51 .lss 48 50,mv 52 51,og 53 52 false (.mv (.t 12)),og 54 52 false (.bin .gtr (.t 53) (u64 0)),o 55 (.pick (.t 52) (.c (.bool true)) (.t 54))]) (.cond (.t 55) .skip (.exit 4))) (.seq (.block 5 (.seq (.reg [o 14 (.mv (u64 0))]) (.seq (.seq (.reg [mv 58 13,mv 59 11,o 60 (.len false (.t 59)),bn 61 .lss 58 60]) (.cond (.t 61) (.reg [mv 62 11,mv 63 13,o 64 (.idx 1 (.t 62) (.t 63)),o 65 (.ld none (.t 64)),mv 14 65]) .skip)) (.reg [mv 67 9,mv 68 0,mv 69 10,bn 70 .mul 68 69,mv 71 13,bn 72 .add 70 71,mv 73 9,mv 74 0,mv 75 10,bn 76 .mul 74 75,mv 77 13,bn 78 .add 76 77,o 79 (.idx 1 (.t 73) (.t 78)),o 80 (.ld none (.t 79)),mv 81 14,mv 82 12,o 83 (.call 131 [.t 80, .t 81, .t 82]),mv 66 83,o 84 (.ext (.t 66) 0),o 85 (.ext (.t 66) 1),o 86 (.idx 1 (.t 67) (.t 72)),od (.st 1 (.t 86) (.t 84)),mv 12 85])))) (.reg [mv 56 13,o 57 (.bin .add (.t 56) (i64 1)),mv 13 57])))))))))) (.reg [o 87 (.bin .add (.t 41) (i64 1)),mv 41 87]))))))) (.seq (.reg [mv 88 9,o 89 (.call 125 [.t 88]),mv 4 89]) .ret))))))
theorem in_limb_Join:Ent 153 90 c_limb_Join [.t 4]:=ent Tryz.func153 rfl rfl rfl (show compile _ 90 _=_ by kernel_rfl) (show compRes _ 90 _=_ by kernel_rfl)
def c_limb_within:AC:= .seq (.reg [o 4 (.mv (i64 0))]) (.seq (.reg [mv 5 0,mv 6 1,o 7 (.mnx false (.t 5) [.t 6]),o 8 (.mnx true (i64 0) [.t 7]),mv 4 8]) .ret)
theorem in_limb_within:Ent 172 9 c_limb_within [.t 4]:=ent Tryz.func172 rfl rfl rfl (show compile _ 9 _=_ by kernel_rfl) (show compRes _ 9 _=_ by kernel_rfl)
def c_limb_Split:AC:= .seq (.reg [o 4 (.mv (.c (.sl none 0 0 none))),o 5 (.mv (.c (.sl none 0 0 none)))]) (.seq (.reg [mv 6 1,o 7 (.call 172 [.t 6,i64 16384]),mv 1 7]) (.seq (.reg [mv 8 0,o 9 (.call 125 [.t 8]),mv 0 9]) (.seq (.seq (.reg [mv 10 1,mv 11 0,o 12 (.len false (.t 11)),bn 13 .geq 10 12]) (.cond (.t 13) (.seq (.reg [mv 14 0,o 15 (.app 54 1 8 (.c (.sl none 0 0 none)) (.t 14)),mv 4 15,o 5 (.mv (.c (.sl none 0 0 none)))]) .ret) .skip)) (.seq (.reg [mv 16 0,mv 17 1,o 18 (.slc 1 (.t 16) none (some (.t 17))),mv 20 0,mv 21 1,o 22 (.slc 1 (.t 20) (some (.t 21)) none),⟨some 19,none, .call 107 [.t 18],[(some 22,none, .slc 1 (.t 20) (some (.t 21)) none)]⟩,o 23 (.app 54 1 8 (.c (.sl none 0 0 none)) (.t 22)),mv 4 19,mv 5 23]) .ret))))
theorem in_limb_Split:Ent 176 24 c_limb_Split [.t 4, .t 5]:=ent Tryz.func176 rfl rfl rfl (show compile _ 24 _=_ by kernel_rfl) (show compRes _ 24 _=_ by kernel_rfl)
def c_limb_Sum:AC:= .seq (.reg [o 2 (.mv (.c (.sl none 0 0 none)))]) (.seq (.reg [mv 3 0,o 4 (.call 153 [i64 0, .t 3]),mv 2 4]) .ret)
theorem in_limb_Sum:Ent 200 5 c_limb_Sum [.t 2]:=ent Tryz.func200 rfl rfl rfl (show compile _ 5 _=_ by kernel_rfl) (show compRes _ 5 _=_ by kernel_rfl)
def c_api_Nat_Bits:AC:= .seq (.reg [o 2 (.mv (i64 0))]) (.seq (.reg [mv 4 0,o 5 (.call 52 [.t 4]),mv 3 5]) (.seq (.seq (.reg [mv 6 3,o 7 (.bin .eql (.t 6) (i64 0))]) (.cond (.t 7) (.seq (.reg [o 2 (.mv (i64 0))]) .ret) .skip)) (.seq (.reg [mv 8 3,o 9 (.bin .sub (.t 8) (i64 1)),o 10 (.bin .mul (i64 64) (.t 9)),mv 11 0,mv 12 3,o 13 (.bin .sub (.t 12) (i64 1)),o 14 (.idx 1 (.t 11) (.t 13)),o 15 (.ld none (.t 14)),o 16 (.call 100 [.t 15]),bn 17 .add 10 16,mv 2 17]) .ret)))
theorem in_api_Nat_Bits:Ent 32 18 c_api_Nat_Bits [.t 2]:=ent Tryz.func32 rfl rfl rfl (show compile _ 18 _=_ by kernel_rfl) (show compRes _ 18 _=_ by kernel_rfl)
def c_api_Nat_Len:AC:= .seq (.reg [o 2 (.mv (i64 0))]) (.seq (.reg [mv 4 0,o 5 (.len false (.t 4)),mv 3 5]) (.seq (.block 0 (.loop (.seq (.seq (.reg [mv 6 3,o 7 (.bin .gtr (.t 6) (i64 0)),mv 8 7,og 9 8 true (.mv (.t 0)),og 10 8 true (.mv (.t 3)),og 11 8 true (.bin .sub (.t 10) (i64 1)),og 12 8 true (.idx 1 (.t 9) (.t 11)),og 13 8 true (.ld none (.t 12)),og 14 8 true (.bin .eql (.t 13) (u64 0)),o 15 (.pick (.t 8) (.t 14) (.c (.bool false)))]) (.cond (.t 15) .skip (.exit 0))) (.block 1 (.reg [mv 16 3,o 17 (.bin .sub (.t 16) (i64 1)),mv 3 17]))))) (.seq (.reg [mv 18 3,mv 2 18]) .ret)))
theorem in_api_Nat_Len:Ent 52 19 c_api_Nat_Len [.t 2]:=ent Tryz.func52 rfl rfl rfl (show compile _ 19 _=_ by kernel_rfl) (show compRes _ 19 _=_ by kernel_rfl)
def c_api_Nat_Zero:AC:= .seq (.reg [o 2 (.mv (.c (.bool false)))]) (.seq (.reg [mv 3 0,o 4 (.call 52 [.t 3]),o 5 (.bin .eql (.t 4) (i64 0)),mv 2 5]) .ret)
theorem in_api_Nat_Zero:Ent 53 6 c_api_Nat_Zero [.t 2]:=ent Tryz.func53 rfl rfl rfl (show compile _ 6 _=_ by kernel_rfl) (show compRes _ 6 _=_ by kernel_rfl)
def c_api_Int_Sign:AC:= .seq (.reg [o 1 (.box 27 (.t 0)),o 2 (.mv (i64 0))]) (.seq (.block 0 (.seq (.reg [o 4 (.fld 0 (.t 1)),o 5 (.ld none (.t 4)),o 6 (.call 53 [.t 5]),mv 3 6]) (.cond (.t 3) (.seq (.reg [o 2 (.mv (i64 0))]) .ret) (.seq (.reg [o 8 (.fld 1 (.t 1)),o 9 (.ld none (.t 8)),mv 7 9]) (.cond (.t 7) (.seq (.reg [o 2 (.mv (i64 (-1)))]) .ret) .skip))))) (.seq (.reg [o 2 (.mv (i64 1))]) .ret))
theorem in_api_Int_Sign:Ent 54 10 c_api_Int_Sign [.t 2]:=ent Tryz.func54 rfl rfl rfl (show compile _ 10 _=_ by kernel_rfl) (show compRes _ 10 _=_ by kernel_rfl)
def c_api_Nat_Bit:AC:= .seq (.reg [o 4 (.mv (u64 0))]) (.seq (.seq (.reg [mv 5 1,o 6 (.bin .lss (.t 5) (i64 0)),mv 7 6,og 8 7 false (.mv (.t 1)),og 9 7 false (.bin .quo (.t 8) (i64 64)),og 10 7 false (.mv (.t 0)),og 11 7 false (.len false (.t 10)),og 12 7 false (.bin .geq (.t 9) (.t 11)),o 13 (.pick (.t 7) (.c (.bool true)) (.t 12))]) (.cond (.t 13) (.seq (.reg [o 4 (.mv (u64 0))]) .ret) .skip)) (.seq (.reg [mv 14 0,mv 15 1,o 16 (.bin .quo (.t 15) (i64 64)),o 17 (.idx 1 (.t 14) (.t 16)),o 18 (.ld none (.t 17)),mv 19 1,o 20 (.bin .rem (.t 19) (i64 64)),o 21 (.cvI .u64 (.t 20)),bn 22 .shr 18 21,o 23 (.bin .and (.t 22) (u64 1)),mv 4 23]) .ret))
theorem in_api_Nat_Bit:Ent 55 24 c_api_Nat_Bit [.t 4]:=ent Tryz.func55 rfl rfl rfl (show compile _ 24 _=_ by kernel_rfl) (show compRes _ 24 _=_ by kernel_rfl)
def c_num_New:AC:= .seq (.reg [o 1 (.box 23 (.t 0)),o 2 (.mv (.c (.ptr none)))]) (.seq (.reg [o 3 (.ld (some 11) (.t 1)),o 4 (.call 84 [.t 3]),o 5 (.bld [.ptr none] [(0,1, .t 4)]),o 6 (.box 125 (.t 5)),mv 2 6]) .ret)
theorem in_num_New:Ent 40 7 c_num_New [.t 2]:=ent Tryz.func40 rfl rfl rfl (show compile _ 7 _=_ by kernel_rfl) (show compRes _ 7 _=_ by kernel_rfl)
def c_num_Engine_Times:AC:= .seq (.reg [o 4 (.box 27 (.t 1)),o 5 (.box 27 (.t 2)),o 6 (.alloc 27 [.sl none 0 0 none, .bool false])]) (.seq (.reg [mv 7 0,o 8 (.nn (.t 7)),o 9 (.fld 0 (.t 8)),o 10 (.ld none (.t 9)),o 11 (.nn (.t 10)),o 12 (.fld 0 (.t 11)),o 13 (.ld none (.t 12)),o 14 (.nn (.t 13)),o 15 (.fld 0 (.t 14)),o 16 (.ld none (.t 15)),o 17 (.nn (.t 16)),o 18 (.fld 0 (.t 17)),o 19 (.ld none (.t 18)),o 20 (.nn (.t 19)),o 21 (.fld 0 (.t 20)),o 22 (.ld none (.t 21)),o 23 (.nn (.t 22)),o 24 (.fld 0 (.t 23)),o 25 (.ld none (.t 24)),o 26 (.fld 0 (.t 4)),o 27 (.ld none (.t 26)),o 28 (.fld 0 (.t 5)),o 29 (.ld none (.t 28)),o 31 (.fld 1 (.t 4)),o 32 (.ld none (.t 31)),o 33 (.fld 1 (.t 5)),o 34 (.ld none (.t 33)),o 35 (.beq true (.t 32) (.t 34)),⟨some 30,none, .call 104 [.t 25, .t 27, .t 29],[(some 32,none, .ld none (.t 31)),(some 34,none, .ld none (.t 33))]⟩,o 36 (.call 103 [.t 30, .t 35]),od (.st 2 (.t 6) (.t 36))]) .ret)
theorem in_num_Engine_Times:Ent 43 37 c_num_Engine_Times [.c 6 (some 2)]:=ent Tryz.func43 rfl rfl rfl (show compile _ 37 _=_ by kernel_rfl) (show compRes _ 37 _=_ by kernel_rfl)
def c_num_Of:AC:= .seq (.reg [o 2 (.alloc 27 [.sl none 0 0 none, .bool false])]) (.seq (.seq (.reg [mv 3 0,o 4 (.bin .lss (.t 3) (i64 0))]) (.cond (.t 4) (.seq (.reg [mv 5 0,o 6 (.cvI .u64 (.t 5)),o 7 (.un .neg (.t 6)),o 8 (.call 97 [.t 7]),o 9 (.call 103 [.t 8, .c (.bool true)]),od (.st 2 (.t 2) (.t 9))]) .ret) .skip)) (.seq (.reg [mv 10 0,o 11 (.cvI .u64 (.t 10)),o 12 (.call 97 [.t 11]),o 13 (.call 103 [.t 12, .c (.bool false)]),od (.st 2 (.t 2) (.t 13))]) .ret))
theorem in_num_Of:Ent 49 14 c_num_Of [.c 2 (some 2)]:=ent Tryz.func49 rfl rfl rfl (show compile _ 14 _=_ by kernel_rfl) (show compRes _ 14 _=_ by kernel_rfl)
def c_num_Norm:AC:= .seq (.reg [o 1 (.box 27 (.t 0)),o 2 (.alloc 27 [.sl none 0 0 none, .bool false])]) (.seq (.reg [o 3 (.fld 0 (.t 1)),o 4 (.ld none (.t 3)),o 6 (.fld 1 (.t 1)),o 7 (.ld none (.t 6)),⟨some 5,none, .call 107 [.t 4],[(some 7,none, .ld none (.t 6))]⟩,o 8 (.call 103 [.t 5, .t 7]),od (.st 2 (.t 2) (.t 8))]) .ret)
theorem in_num_Norm:Ent 50 9 c_num_Norm [.c 2 (some 2)]:=ent Tryz.func50 rfl rfl rfl (show compile _ 9 _=_ by kernel_rfl) (show compRes _ 9 _=_ by kernel_rfl)
def c_num_Engine_Trunc:AC:= .seq (.reg [o 4 (.box 27 (.t 1)),o 5 (.box 27 (.t 2)),o 6 (.alloc 27 [.sl none 0 0 none, .bool false]),o 7 (.alloc 27 [.sl none 0 0 none, .bool false]),o 8 (.mv (i64 0))]) (.seq (.reg [mv 12 0,o 13 (.nn (.t 12)),o 14 (.fld 0 (.t 13)),o 15 (.ld none (.t 14)),o 16 (.nn (.t 15)),o 17 (.fld 0 (.t 16)),o 18 (.ld none (.t 17)),o 19 (.nn (.t 18)),o 20 (.fld 0 (.t 19)),o 21 (.ld none (.t 20)),o 22 (.fld 0 (.t 4)),o 23 (.ld none (.t 22)),o 24 (.fld 0 (.t 5)),o 25 (.ld none (.t 24)),o 26 (.call 109 [.t 21, .t 23, .t 25]),mv 11 26,o 27 (.ext (.t 11) 0),o 28 (.ext (.t 11) 1),o 29 (.ext (.t 11) 2),mv 9 27,mv 10 28,mv 8 29]) (.seq (.seq (.reg [mv 30 8,o 31 (.bin .neq (.t 30) (i64 0))]) (.cond (.t 31) (.seq (.reg [o 32 (.bld [.sl none 0 0 none, .bool false] []),o 33 (.bld [.sl none 0 0 none, .bool false] []),mv 34 8,od (.st 2 (.t 6) (.t 32)),od (.st 2 (.t 7) (.t 33)),mv 8 34]) .ret) .skip)) (.seq (.reg [mv 35 9,o 36 (.fld 1 (.t 4)),o 37 (.ld none (.t 36)),o 38 (.fld 1 (.t 5)),o 39 (.ld none (.t 38)),o 40 (.beq true (.t 37) (.t 39)),mv 42 10,o 43 (.fld 1 (.t 4)),o 44 (.ld none (.t 43)),⟨some 41,none, .call 103 [.t 35, .t 40],[(some 44,none, .ld none (.t 43))]⟩,o 45 (.call 103 [.t 42, .t 44]),od (.st 2 (.t 6) (.t 41)),od (.st 2 (.t 7) (.t 45)),o 8 (.mv (i64 0))]) .ret)))
theorem in_num_Engine_Trunc:Ent 56 46 c_num_Engine_Trunc [.c 6 (some 2), .c 7 (some 2), .t 8]:=ent Tryz.func56 rfl rfl rfl (show compile _ 46 _=_ by kernel_rfl) (show compRes _ 46 _=_ by kernel_rfl)
def c_num_Engine_Floor:AC:= .seq (.reg [o 4 (.box 27 (.t 1)),o 5 (.box 27 (.t 2)),o 6 (.alloc 27 [.sl none 0 0 none, .bool false]),o 7 (.alloc 27 [.sl none 0 0 none, .bool false]),o 8 (.mv (i64 0))]) (.seq (.reg [mv 10 0,o 11 (.ld (some 2) (.t 4)),o 12 (.ld (some 2) (.t 5)),o 13 (.call 56 [.t 10, .t 11, .t 12]),mv 9 13,o 14 (.ext (.t 9) 0),o 15 (.ext (.t 9) 1),o 16 (.ext (.t 9) 2),od (.st 2 (.t 6) (.t 14)),od (.st 2 (.t 7) (.t 15)),mv 8 16]) (.seq (.seq (.reg [mv 17 8,o 18 (.bin .eql (.t 17) (i64 0)),mv 19 18,og 20 19 true (.ld (some 2) (.t 7)),og 21 19 true (.call 54 [.t 20]),og 22 19 true (.bin .neq (.t 21) (i64 0)),o 23 (.pick (.t 19) (.t 22) (.c (.bool false))),mv 24 23,og 25 24 true (.fld 1 (.t 7)),og 26 24 true (.ld none (.t 25)),og 27 24 true (.fld 1 (.t 5)),og 28 24 true (.ld none (.t 27)),og 29 24 true (.beq true (.t 26) (.t 28)),o 30 (.pick (.t 24) (.t 29) (.c (.bool false)))]) (.cond (.t 30) (.reg [o 31 (.ld (some 2) (.t 6)),o 34 (.ld (some 2) (.t 7)),o 35 (.ld (some 2) (.t 5)),⟨some 32,none, .call 49 [i64 1],[(some 31,none, .ld (some 2) (.t 6)),(some 34,none, .ld (some 2) (.t 7)),(some 35,none, .ld (some 2) (.t 5))]⟩,⟨some 33,none, .call 65 [.t 31, .t 32],[(some 34,none, .ld (some 2) (.t 7)),(some 35,none, .ld (some 2) (.t 5))]⟩,o 36 (.call 63 [.t 34, .t 35]),od (.st 2 (.t 6) (.t 33)),od (.st 2 (.t 7) (.t 36))]) .skip)) (.seq (.reg [o 37 (.ld (some 2) (.t 6)),o 38 (.ld (some 2) (.t 7)),mv 39 8,⟨none,none, .st 2 (.t 6) (.t 37),[(some 38,none, .ld (some 2) (.t 7))]⟩,od (.st 2 (.t 7) (.t 38)),mv 8 39]) .ret)))
theorem in_num_Engine_Floor:Ent 57 40 c_num_Engine_Floor [.c 6 (some 2), .c 7 (some 2), .t 8]:=ent Tryz.func57 rfl rfl rfl (show compile _ 40 _=_ by kernel_rfl) (show compRes _ 40 _=_ by kernel_rfl)
def c_num_Add:AC:= .seq (.reg [o 2 (.box 27 (.t 0)),o 3 (.box 27 (.t 1)),o 4 (.alloc 27 [.sl none 0 0 none, .bool false])]) (.seq (.seq (.reg [o 9 (.fld 1 (.t 2)),o 10 (.ld none (.t 9)),o 11 (.fld 1 (.t 3)),o 12 (.ld none (.t 11)),o 13 (.beq false (.t 10) (.t 12))]) (.cond (.t 13) (.seq (.reg [o 14 (.fld 0 (.t 2)),o 15 (.ld none (.t 14)),o 16 (.fld 0 (.t 3)),o 17 (.ld none (.t 16)),o 19 (.fld 1 (.t 2)),o 20 (.ld none (.t 19)),⟨some 18,none, .call 111 [.t 15, .t 17],[(some 20,none, .ld none (.t 19))]⟩,o 21 (.call 103 [.t 18, .t 20]),od (.st 2 (.t 4) (.t 21))]) .ret) .skip)) (.seq (.seq (.reg [o 23 (.fld 0 (.t 2)),o 24 (.ld none (.t 23)),o 25 (.fld 0 (.t 3)),o 26 (.ld none (.t 25)),o 27 (.call 112 [.t 24, .t 26]),mv 22 27,o 28 (.ext (.t 22) 0),o 29 (.ext (.t 22) 1),mv 5 28,mv 6 29]) (.seq (.reg [mv 30 6]) (.cond (.t 30) (.seq (.reg [mv 31 5,o 32 (.fld 1 (.t 2)),o 33 (.ld none (.t 32)),o 34 (.call 103 [.t 31, .t 33]),od (.st 2 (.t 4) (.t 34))]) .ret) .skip))) (.seq (.reg [o 36 (.fld 0 (.t 3)),o 37 (.ld none (.t 36)),o 38 (.fld 0 (.t 2)),o 39 (.ld none (.t 38)),o 40 (.call 112 [.t 37, .t 39]),mv 35 40,o 41 (.ext (.t 35) 0),o 42 (.ext (.t 35) 1),mv 7 41,mv 8 42]) (.seq (.reg [mv 43 7,o 44 (.fld 1 (.t 3)),o 45 (.ld none (.t 44)),o 46 (.call 103 [.t 43, .t 45]),od (.st 2 (.t 4) (.t 46))]) .ret))))
theorem in_num_Add:Ent 63 47 c_num_Add [.c 4 (some 2)]:=ent Tryz.func63 rfl rfl rfl (show compile _ 47 _=_ by kernel_rfl) (show compRes _ 47 _=_ by kernel_rfl)
def c_num_Sub:AC:= .seq (.reg [o 2 (.box 27 (.t 0)),o 3 (.box 27 (.t 1)),o 4 (.alloc 27 [.sl none 0 0 none, .bool false])]) (.seq (.reg [o 5 (.ld (some 2) (.t 2)),o 6 (.fld 0 (.t 3)),o 7 (.ld none (.t 6)),o 8 (.fld 1 (.t 3)),o 9 (.ld none (.t 8)),o 10 (.un .not (.t 9)),o 11 (.bld [.sl none 0 0 none, .bool false] [(0,1, .t 7),(1,1, .t 10)]),o 12 (.call 63 [.t 5, .t 11]),od (.st 2 (.t 4) (.t 12))]) .ret)
theorem in_num_Sub:Ent 65 13 c_num_Sub [.c 4 (some 2)]:=ent Tryz.func65 rfl rfl rfl (show compile _ 13 _=_ by kernel_rfl) (show compRes _ 13 _=_ by kernel_rfl)
def c_num_Cmp:AC:= .seq (.reg [o 2 (.box 27 (.t 0)),o 3 (.box 27 (.t 1)),o 4 (.mv (i64 0))]) (.seq (.reg [o 8 (.ld (some 2) (.t 2)),o 10 (.ld (some 2) (.t 3)),⟨some 9,none, .call 54 [.t 8],[(some 10,none, .ld (some 2) (.t 3))]⟩,o 11 (.call 54 [.t 10]),mv 5 9,mv 6 11]) (.seq (.seq (.reg [mv 12 5,mv 13 6,bn 14 .neq 12 13]) (.cond (.t 14) (.seq (.seq (.reg [mv 15 5,mv 16 6,bn 17 .lss 15 16]) (.cond (.t 17) (.seq (.reg [o 4 (.mv (i64 (-1)))]) .ret) .skip)) (.seq (.reg [o 4 (.mv (i64 1))]) .ret)) .skip)) (.seq (.reg [o 18 (.fld 0 (.t 2)),o 19 (.ld none (.t 18)),o 20 (.fld 0 (.t 3)),o 21 (.ld none (.t 20)),o 22 (.call 113 [.t 19, .t 21]),mv 7 22]) (.seq (.seq (.reg [mv 23 5,o 24 (.bin .lss (.t 23) (i64 0))]) (.cond (.t 24) (.seq (.reg [mv 25 7,o 26 (.un .neg (.t 25)),mv 4 26]) .ret) .skip)) (.seq (.reg [mv 27 7,mv 4 27]) .ret)))))
theorem in_num_Cmp:Ent 66 28 c_num_Cmp [.t 4]:=ent Tryz.func66 rfl rfl rfl (show compile _ 28 _=_ by kernel_rfl) (show compRes _ 28 _=_ by kernel_rfl)
def c_num_Neg:AC:= .seq (.reg [o 1 (.box 27 (.t 0)),o 2 (.alloc 27 [.sl none 0 0 none, .bool false])]) (.seq (.reg [o 3 (.fld 0 (.t 1)),o 4 (.ld none (.t 3)),o 6 (.fld 1 (.t 1)),o 7 (.ld none (.t 6)),o 8 (.un .not (.t 7)),⟨some 5,none, .call 107 [.t 4],[(some 7,none, .ld none (.t 6))]⟩,o 9 (.call 103 [.t 5, .t 8]),od (.st 2 (.t 2) (.t 9))]) .ret)
theorem in_num_Neg:Ent 69 10 c_num_Neg [.c 2 (some 2)]:=ent Tryz.func69 rfl rfl rfl (show compile _ 10 _=_ by kernel_rfl) (show compRes _ 10 _=_ by kernel_rfl)
def c_num_Abs:AC:= .seq (.reg [o 1 (.box 27 (.t 0)),o 2 (.alloc 27 [.sl none 0 0 none, .bool false])]) (.seq (.reg [o 3 (.fld 0 (.t 1)),o 4 (.ld none (.t 3)),o 5 (.call 107 [.t 4]),o 6 (.call 103 [.t 5, .c (.bool false)]),od (.st 2 (.t 2) (.t 6))]) .ret)
theorem in_num_Abs:Ent 71 7 c_num_Abs [.c 2 (some 2)]:=ent Tryz.func71 rfl rfl rfl (show compile _ 7 _=_ by kernel_rfl) (show compRes _ 7 _=_ by kernel_rfl)
def c_num_Engine_Even:AC:= .seq (.reg [o 4 (.box 27 (.t 1)),o 5 (.box 27 (.t 2)),o 6 (.alloc 27 [.sl none 0 0 none, .bool false]),o 7 (.mv (i64 0))]) (.seq (.reg [mv 11 0,o 12 (.nn (.t 11)),o 13 (.fld 0 (.t 12)),o 14 (.ld none (.t 13)),o 15 (.nn (.t 14)),o 16 (.fld 0 (.t 15)),o 17 (.ld none (.t 16)),o 18 (.nn (.t 17)),o 19 (.fld 0 (.t 18)),o 20 (.ld none (.t 19)),o 21 (.fld 0 (.t 4)),o 22 (.ld none (.t 21)),o 23 (.fld 0 (.t 5)),o 24 (.ld none (.t 23)),o 25 (.call 114 [.t 20, .t 22, .t 24]),mv 10 25,o 26 (.ext (.t 10) 0),o 27 (.ext (.t 10) 1),mv 8 26,mv 9 27]) (.seq (.seq (.reg [mv 28 9,o 29 (.bin .neq (.t 28) (i64 0))]) (.cond (.t 29) (.seq (.reg [o 30 (.bld [.sl none 0 0 none, .bool false] []),mv 31 9,od (.st 2 (.t 6) (.t 30)),mv 7 31]) .ret) .skip)) (.seq (.reg [mv 32 8,o 33 (.fld 1 (.t 4)),o 34 (.ld none (.t 33)),o 35 (.fld 1 (.t 5)),o 36 (.ld none (.t 35)),o 37 (.beq true (.t 34) (.t 36)),o 38 (.call 103 [.t 32, .t 37]),od (.st 2 (.t 6) (.t 38)),o 7 (.mv (i64 0))]) .ret)))
theorem in_num_Engine_Even:Ent 74 39 c_num_Engine_Even [.c 6 (some 2), .t 7]:=ent Tryz.func74 rfl rfl rfl (show compile _ 39 _=_ by kernel_rfl) (show compRes _ 39 _=_ by kernel_rfl)
def c_num_made:AC:= .seq (.reg [o 4 (.alloc 27 [.sl none 0 0 none, .bool false])]) (.seq (.reg [mv 5 0,mv 6 1,mv 7 6,og 8 7 true (.mv (.t 0)),og 9 7 true (.call 53 [.t 8]),og 10 7 true (.un .not (.t 9)),o 11 (.pick (.t 7) (.t 10) (.c (.bool false))),o 12 (.bld [.sl none 0 0 none, .bool false] [(0,1, .t 5),(1,1, .t 11)]),od (.st 2 (.t 4) (.t 12))]) .ret)
theorem in_num_made:Ent 103 13 c_num_made [.c 4 (some 2)]:=ent Tryz.func103 rfl rfl rfl (show compile _ 13 _=_ by kernel_rfl) (show compRes _ 13 _=_ by kernel_rfl)
def c_ref17_From:AC:= .seq (.reg [o 1 (.box 27 (.t 0)),o 2 (.alloc 38 [.sl none 0 0 none, .bool false])]) (.seq (.reg [o 3 (.fld 0 (.t 1)),o 4 (.ld none (.t 3)),o 6 (.fld 1 (.t 1)),o 7 (.ld none (.t 6)),⟨some 5,none, .call 79 [.t 4],[(some 7,none, .ld none (.t 6))]⟩,o 8 (.call 99 [.t 5, .t 7]),od (.st 2 (.t 2) (.t 8))]) .ret)
theorem in_ref17_From:Ent 28 9 c_ref17_From [.c 2 (some 2)]:=ent Tryz.func28 rfl rfl rfl (show compile _ 9 _=_ by kernel_rfl) (show compRes _ 9 _=_ by kernel_rfl)
def c_ref17_To:AC:= .seq (.reg [o 1 (.box 38 (.t 0)),o 2 (.alloc 27 [.sl none 0 0 none, .bool false])]) (.seq (.reg [o 3 (.fld 0 (.t 1)),o 4 (.ld none (.t 3)),o 6 (.fld 1 (.t 1)),o 7 (.ld none (.t 6)),⟨some 5,none, .call 80 [.t 4],[(some 7,none, .ld none (.t 6))]⟩,o 8 (.bld [.sl none 0 0 none, .bool false] [(0,1, .t 5),(1,1, .t 7)]),od (.st 2 (.t 2) (.t 8))]) .ret)
theorem in_ref17_To:Ent 30 9 c_ref17_To [.c 2 (some 2)]:=ent Tryz.func30 rfl rfl rfl (show compile _ 9 _=_ by kernel_rfl) (show compRes _ 9 _=_ by kernel_rfl)
def c_ref17_Mul:AC:= .seq (.reg [o 2 (.box 38 (.t 0)),o 3 (.box 38 (.t 1)),o 4 (.alloc 38 [.sl none 0 0 none, .bool false])]) (.seq (.reg [o 5 (.fld 0 (.t 2)),o 6 (.ld none (.t 5)),o 7 (.fld 0 (.t 3)),o 8 (.ld none (.t 7)),o 10 (.fld 1 (.t 2)),o 11 (.ld none (.t 10)),o 12 (.fld 1 (.t 3)),o 13 (.ld none (.t 12)),o 14 (.beq true (.t 11) (.t 13)),⟨some 9,none, .call 37 [.t 6, .t 8],[(some 11,none, .ld none (.t 10)),(some 13,none, .ld none (.t 12))]⟩,o 15 (.call 99 [.t 9, .t 14]),od (.st 2 (.t 4) (.t 15))]) .ret)
theorem in_ref17_Mul:Ent 42 16 c_ref17_Mul [.c 4 (some 2)]:=ent Tryz.func42 rfl rfl rfl (show compile _ 16 _=_ by kernel_rfl) (show compRes _ 16 _=_ by kernel_rfl)
def c_ref17_Add:AC:= .seq (.reg [o 2 (.box 38 (.t 0)),o 3 (.box 38 (.t 1)),o 4 (.alloc 38 [.sl none 0 0 none, .bool false])]) (.seq (.seq (.reg [o 5 (.fld 1 (.t 2)),o 6 (.ld none (.t 5)),o 7 (.fld 1 (.t 3)),o 8 (.ld none (.t 7)),o 9 (.beq false (.t 6) (.t 8))]) (.cond (.t 9) (.seq (.reg [o 10 (.fld 0 (.t 2)),o 11 (.ld none (.t 10)),o 12 (.fld 0 (.t 3)),o 13 (.ld none (.t 12)),o 15 (.fld 1 (.t 2)),o 16 (.ld none (.t 15)),⟨some 14,none, .call 81 [.t 11, .t 13],[(some 16,none, .ld none (.t 15))]⟩,o 17 (.call 99 [.t 14, .t 16]),od (.st 2 (.t 4) (.t 17))]) .ret) .skip)) (.seq (.seq (.reg [o 18 (.fld 0 (.t 2)),o 19 (.ld none (.t 18)),o 20 (.fld 0 (.t 3)),o 21 (.ld none (.t 20)),o 22 (.call 105 [.t 19, .t 21]),o 23 (.bin .geq (.t 22) (i64 0))]) (.cond (.t 23) (.seq (.reg [o 24 (.fld 0 (.t 2)),o 25 (.ld none (.t 24)),o 26 (.fld 0 (.t 3)),o 27 (.ld none (.t 26)),o 29 (.fld 1 (.t 2)),o 30 (.ld none (.t 29)),⟨some 28,none, .call 106 [.t 25, .t 27],[(some 30,none, .ld none (.t 29))]⟩,o 31 (.call 99 [.t 28, .t 30]),od (.st 2 (.t 4) (.t 31))]) .ret) .skip)) (.seq (.reg [o 32 (.fld 0 (.t 3)),o 33 (.ld none (.t 32)),o 34 (.fld 0 (.t 2)),o 35 (.ld none (.t 34)),o 37 (.fld 1 (.t 3)),o 38 (.ld none (.t 37)),⟨some 36,none, .call 106 [.t 33, .t 35],[(some 38,none, .ld none (.t 37))]⟩,o 39 (.call 99 [.t 36, .t 38]),od (.st 2 (.t 4) (.t 39))]) .ret)))
theorem in_ref17_Add:Ent 46 40 c_ref17_Add [.c 4 (some 2)]:=ent Tryz.func46 rfl rfl rfl (show compile _ 40 _=_ by kernel_rfl) (show compRes _ 40 _=_ by kernel_rfl)
def c_ref17_Small:AC:= .seq (.reg [o 2 (.alloc 38 [.sl none 0 0 none, .bool false])]) (.seq (.seq (.reg [mv 3 0,o 4 (.bin .lss (.t 3) (i64 0))]) (.cond (.t 4) (.seq (.reg [mv 5 0,o 6 (.un .neg (.t 5)),o 7 (.cvI .u64 (.t 6)),o 8 (.call 36 [.t 7]),o 9 (.call 99 [.t 8, .c (.bool true)]),od (.st 2 (.t 2) (.t 9))]) .ret) .skip)) (.seq (.reg [mv 10 0,o 11 (.cvI .u64 (.t 10)),o 12 (.call 36 [.t 11]),o 13 (.call 99 [.t 12, .c (.bool false)]),od (.st 2 (.t 2) (.t 13))]) .ret))
theorem in_ref17_Small:Ent 47 14 c_ref17_Small [.c 2 (some 2)]:=ent Tryz.func47 rfl rfl rfl (show compile _ 14 _=_ by kernel_rfl) (show compRes _ 14 _=_ by kernel_rfl)
def c_ref17_Zero:AC:= .seq (.reg [o 1 (.box 38 (.t 0)),o 2 (.mv (.c (.bool false)))]) (.seq (.reg [o 3 (.fld 0 (.t 1)),o 4 (.ld none (.t 3)),o 5 (.call 108 [.t 4]),mv 2 5]) .ret)
theorem in_ref17_Zero:Ent 51 6 c_ref17_Zero [.t 2]:=ent Tryz.func51 rfl rfl rfl (show compile _ 6 _=_ by kernel_rfl) (show compRes _ 6 _=_ by kernel_rfl)
def c_ref17_Trunc:AC:= .seq (.reg [o 2 (.box 38 (.t 0)),o 3 (.box 38 (.t 1)),o 4 (.alloc 38 [.sl none 0 0 none, .bool false]),o 5 (.alloc 38 [.sl none 0 0 none, .bool false])]) (.seq (.reg [o 9 (.fld 0 (.t 2)),o 10 (.ld none (.t 9)),o 11 (.fld 0 (.t 3)),o 12 (.ld none (.t 11)),o 13 (.call 110 [.t 10, .t 12]),mv 8 13,o 14 (.ext (.t 8) 0),o 15 (.ext (.t 8) 1),mv 6 14,mv 7 15]) (.seq (.reg [mv 16 6,o 17 (.fld 1 (.t 2)),o 18 (.ld none (.t 17)),o 19 (.fld 1 (.t 3)),o 20 (.ld none (.t 19)),o 21 (.beq true (.t 18) (.t 20)),mv 23 7,o 24 (.fld 1 (.t 2)),o 25 (.ld none (.t 24)),⟨some 22,none, .call 99 [.t 16, .t 21],[(some 25,none, .ld none (.t 24))]⟩,o 26 (.call 99 [.t 23, .t 25]),od (.st 2 (.t 4) (.t 22)),od (.st 2 (.t 5) (.t 26))]) .ret))
theorem in_ref17_Trunc:Ent 59 27 c_ref17_Trunc [.c 4 (some 2), .c 5 (some 2)]:=ent Tryz.func59 rfl rfl rfl (show compile _ 27 _=_ by kernel_rfl) (show compRes _ 27 _=_ by kernel_rfl)
def c_ref17_Sub:AC:= .seq (.reg [o 2 (.box 38 (.t 0)),o 3 (.box 38 (.t 1)),o 4 (.alloc 38 [.sl none 0 0 none, .bool false])]) (.seq (.reg [o 5 (.ld (some 2) (.t 2)),o 6 (.ld (some 2) (.t 3)),⟨some 7,none, .call 68 [.t 6],[(some 5,none, .ld (some 2) (.t 2))]⟩,o 8 (.call 46 [.t 5, .t 7]),od (.st 2 (.t 4) (.t 8))]) .ret)
theorem in_ref17_Sub:Ent 64 9 c_ref17_Sub [.c 4 (some 2)]:=ent Tryz.func64 rfl rfl rfl (show compile _ 9 _=_ by kernel_rfl) (show compRes _ 9 _=_ by kernel_rfl)
def c_ref17_Cmp:AC:= .seq (.reg [o 2 (.box 38 (.t 0)),o 3 (.box 38 (.t 1)),o 4 (.mv (i64 0))]) (.seq (.reg [o 6 (.ld (some 2) (.t 2)),o 7 (.ld (some 2) (.t 3)),o 8 (.call 64 [.t 6, .t 7]),o 5 (.alloc 38 [.sl none 0 0 none, .bool false]),od (.st 2 (.t 5) (.t 8))]) (.seq (.block 0 (.seq (.reg [o 10 (.ld (some 2) (.t 5)),o 11 (.call 51 [.t 10]),mv 9 11]) (.cond (.t 9) (.seq (.reg [o 4 (.mv (i64 0))]) .ret) (.seq (.reg [o 13 (.fld 1 (.t 5)),o 14 (.ld none (.t 13)),mv 12 14]) (.cond (.t 12) (.seq (.reg [o 4 (.mv (i64 (-1)))]) .ret) .skip))))) (.seq (.reg [o 4 (.mv (i64 1))]) .ret)))
theorem in_ref17_Cmp:Ent 67 15 c_ref17_Cmp [.t 4]:=ent Tryz.func67 rfl rfl rfl (show compile _ 15 _=_ by kernel_rfl) (show compRes _ 15 _=_ by kernel_rfl)
def c_ref17_Neg:AC:= .seq (.reg [o 1 (.box 38 (.t 0)),o 2 (.alloc 38 [.sl none 0 0 none, .bool false])]) (.seq (.reg [o 3 (.fld 0 (.t 1)),o 4 (.ld none (.t 3)),o 5 (.fld 1 (.t 1)),o 6 (.ld none (.t 5)),o 7 (.un .not (.t 6)),o 8 (.call 99 [.t 4, .t 7]),od (.st 2 (.t 2) (.t 8))]) .ret)
theorem in_ref17_Neg:Ent 68 9 c_ref17_Neg [.c 2 (some 2)]:=ent Tryz.func68 rfl rfl rfl (show compile _ 9 _=_ by kernel_rfl) (show compRes _ 9 _=_ by kernel_rfl)
def c_ref17_Abs:AC:= .seq (.reg [o 1 (.box 38 (.t 0)),o 2 (.alloc 38 [.sl none 0 0 none, .bool false])]) (.seq (.reg [o 3 (.fld 0 (.t 1)),o 4 (.ld none (.t 3)),o 5 (.bld [.sl none 0 0 none, .bool false] [(0,1, .t 4),(1,1, .c (.bool false))]),od (.st 2 (.t 2) (.t 5))]) .ret)
theorem in_ref17_Abs:Ent 70 6 c_ref17_Abs [.c 2 (some 2)]:=ent Tryz.func70 rfl rfl rfl (show compile _ 6 _=_ by kernel_rfl) (show compRes _ 6 _=_ by kernel_rfl)
def c_ref17_made:AC:= .seq (.reg [o 4 (.alloc 38 [.sl none 0 0 none, .bool false])]) (.seq (.reg [mv 5 0,mv 6 1,mv 7 6,og 8 7 true (.mv (.t 0)),og 9 7 true (.call 108 [.t 8]),og 10 7 true (.un .not (.t 9)),o 11 (.pick (.t 7) (.t 10) (.c (.bool false))),o 12 (.bld [.sl none 0 0 none, .bool false] [(0,1, .t 5),(1,1, .t 11)]),od (.st 2 (.t 4) (.t 12))]) .ret)
theorem in_ref17_made:Ent 99 13 c_ref17_made [.c 4 (some 2)]:=ent Tryz.func99 rfl rfl rfl (show compile _ 13 _=_ by kernel_rfl) (show compRes _ 13 _=_ by kernel_rfl)
end
theorem wI {n:Int} (h1: -9223372036854775808≤n) (h2:n<9223372036854775808):IntKind.i64.wrap n=n:=by rw[IntKind.wrap_i64];omega
theorem wU {n:Int} (h1:0≤n) (h2:n<18446744073709551616):IntKind.u64.wrap n=n:=by rw[IntKind.wrap_u64];omega
theorem wUm {n:Int}:IntKind.u64.wrap n=n%18446744073709551616:=IntKind.wrap_u64 n
theorem tmodN {a:Nat} {b:Nat}:((a:Int)).tmod (b:Int)=((a%b:Nat):Int):=by rw[Int.tmod_eq_emod_of_nonneg (by omega)];rfl
theorem tdivN {a:Nat} {b:Nat}:((a:Int)).tdiv (b:Int)=((a/b:Nat):Int):=by rw[Int.tdiv_eq_ediv_of_nonneg (by omega)];rfl
theorem bandN {a b:Nat} (ha:a<18446744073709551616) (hb:b<18446744073709551616):IntKind.u64.wrap ((BitVec.ofInt IntKind.u64.bits (a:Int)&&&BitVec.ofInt IntKind.u64.bits (b:Int)).toNat:Int)=((a&&&b:Nat):Int):=by
 have e1:(BitVec.ofInt IntKind.u64.bits (a:Int)&&&BitVec.ofInt IntKind.u64.bits (b:Int)).toNat=a&&&b:=by
  rw[BitVec.toNat_and,BitVec.toNat_ofInt,BitVec.toNat_ofInt]
  show((a:Int)%18446744073709551616).toNat&&&((b:Int)%18446744073709551616).toNat=_
  rw[show((a:Int)%18446744073709551616).toNat=a from by omega,show((b:Int)%18446744073709551616).toNat=b from by omega]
 rw[e1]
 exact wU (by omega) (by have:=Nat.and_lt_two_pow (n:=64) a (y:=b) (by omega);omega)
theorem borN {a b:Nat} (ha:a<18446744073709551616) (hb:b<18446744073709551616):IntKind.u64.wrap ((BitVec.ofInt IntKind.u64.bits (a:Int)|||BitVec.ofInt IntKind.u64.bits (b:Int)).toNat:Int)=((a|||b:Nat):Int):=by
 have e1:(BitVec.ofInt IntKind.u64.bits (a:Int)|||BitVec.ofInt IntKind.u64.bits (b:Int)).toNat=a|||b:=by
  rw[BitVec.toNat_or,BitVec.toNat_ofInt,BitVec.toNat_ofInt]
  show((a:Int)%18446744073709551616).toNat|||((b:Int)%18446744073709551616).toNat=_
  rw[show((a:Int)%18446744073709551616).toNat=a from by omega,show((b:Int)%18446744073709551616).toNat=b from by omega]
 rw[e1]
 exact wU (by omega) (by have:=Nat.or_lt_two_pow (n:=64) (x:=a) (y:=b) (by omega) (by omega);omega)
def val (B:Nat):List Nat→Nat
 |[]=>0
 |x::xs=>x+B*val B xs
theorem val_append (B:Nat) (xs ys:List Nat):val B (xs++ys)=val B xs+B^xs.length*val B ys:=by
 induction xs with
 |nil=>simp[val]
 |cons x xs ih=>
  simp only[List.cons_append,val,ih,List.length_cons,Nat.pow_succ,Nat.mul_add]
  rw[Nat.mul_comm (B^xs.length) B,Nat.mul_assoc,Nat.add_assoc]
theorem val_snoc (B:Nat) (xs:List Nat) (y:Nat):val B (xs++[y])=val B xs+B^xs.length*y:=by simp[val_append,val]
theorem val_zero (B:Nat) (xs:List Nat) (h:∀x∈xs,x=0):val B xs=0:=by
 induction xs with
 |nil=>rfl
 |cons x xs ih=>simp[val,h x (by simp),ih (fun y hy=>h y (by simp[hy]))]
theorem val_cut (B:Nat) (xs:List Nat) (k:Nat) (h:k≤xs.length):val B xs=val B (xs.take k)+B^k*val B (xs.drop k):=by
 rw[←List.take_append_drop k xs,val_append]
 simp[Nat.min_eq_left h]
theorem val_take (B:Nat) (xs:List Nat) (k:Nat) (h:∀x∈xs.drop k,x=0):val B (xs.take k)=val B xs:=by
 conv=>rhs;rw[←List.take_append_drop k xs,val_append,val_zero B _ h]
 simp
theorem val_take_succ (B:Nat) (xs:List Nat) (k:Nat) (h:k<xs.length):val B (xs.take (k+1))=val B (xs.take k)+B^k*xs[k]:=by
 rw[List.take_succ_eq_append_getElem h,val_snoc]
 simp[Nat.min_eq_left (Nat.le_of_lt h)]
theorem val_lt (B:Nat) (_:0<B) (xs:List Nat) (h:∀x∈xs,x<B):val B xs<B^xs.length:=by
 induction xs with
 |nil=>simp[val]
 |cons x xs ih=>
  have h1:=h x (by simp)
  have h2:=ih (fun y hy=>h y (by simp[hy]))
  simp only[val,List.length_cons,Nat.pow_succ]
  rw[Nat.mul_comm _ B]
  calc x+B*val B xs<B+B*val B xs:=by omega
   _=B*(val B xs+1):=by rw[Nat.mul_add];omega
   _≤B*B^xs.length:=Nat.mul_le_mul_left _ h2
theorem val_lt_take (B:Nat) (hB:0<B) (xs:List Nat) (h:∀x∈xs,x<B) (k:Nat):val B (xs.take k)<B^k:=by
 have h1:=val_lt B hB (xs.take k) (fun x hx=>h x (List.mem_of_mem_take hx))
 refine Nat.lt_of_lt_of_le h1 (Nat.pow_le_pow_right hB ?_)
 simp;omega
theorem val_inj (B:Nat) (hB:0<B):∀(xs ys:List Nat),xs.length=ys.length→(∀x∈xs,x<B)→(∀x∈ys,x<B)→val B xs=val B ys→xs=ys
 |[],[],_,_,_,_=>rfl
 |[],_::_,h,_,_,_=>by simp at h
 |_::_,[],h,_,_,_=>by simp at h
 |x::xs,y::ys,h,h1,h2,h3=>by
  simp only[val] at h3
  have hx:=h1 x (by simp)
  have hy:=h2 y (by simp)
  have e1:x=y:=by
   have:=congrArg (· %B) h3
   simpa [Nat.add_mul_mod_self_left,Nat.mod_eq_of_lt hx,Nat.mod_eq_of_lt hy] using this
  subst e1
  have e2:val B xs=val B ys:=Nat.eq_of_mul_eq_mul_left hB (by omega)
  rw[val_inj B hB xs ys (by simpa using h) (fun z hz=>h1 z (by simp[hz])) (fun z hz=>h2 z (by simp[hz])) e2]
def IsN (h:H) (v:AV) (xs:List Nat):Prop:=IsW .u64 h v (xs.map fun n:Nat=>(n:Int))
theorem IsN.mono {h h':H} {v:AV} {xs:List Nat} (hv:IsN h v xs) (hl:h.le h'):IsN h' v xs:=IsW.mono hv hl
theorem IsN.form {h:H} {v:AV} {xs:List Nat} (hv:IsN h v xs):∃id off c,v= .sl id off xs.length c:=by
 obtain⟨id,off,c,e⟩:=IsW.form hv
 exact⟨id,off,c,by simpa using e⟩
theorem IsN.at {h:H} {id:Option Nat} {off n:Nat} {c:Option Nat} {xs:List Nat} (hv:IsN h (.sl id off n c) xs) {j:Nat} (hj:j<xs.length):∃i,id=some i∧n=xs.length∧h.get i (off+j)=some (.int .u64 (xs[j]:Nat)):=by
 obtain⟨i,e1,e2,e3⟩:=IsW.at hv (j:=j) (by simpa using hj)
 exact⟨i,e1,by simpa using e2,by simpa using e3⟩
theorem IsN.row {h:H} {id:Option Nat} {off n:Nat} {c:Option Nat} {xs:List Nat} (hv:IsN h (.sl id off n c) xs):∀i,id=some i→∃r,h.rows i=some r∧(r.own=none∨r.esz=1):=IsW.row hv
theorem IsN.cut {h:H} {id:Option Nat} {off n:Nat} {c c':Option Nat} {xs:List Nat} (hv:IsN h (.sl id off n c) xs) {a b:Nat} (hab:a≤b) (hb:b≤xs.length):IsN h (.sl id (off+a) (b-a) c') ((xs.take b).drop a):=by
 have:=IsW.cut (c':=c') hv hab (by simpa using hb)
 unfold IsN
 rw[List.map_drop,List.map_take]
 exact this
theorem IsN.take {h:H} {id:Option Nat} {off n:Nat} {c c':Option Nat} {xs:List Nat} (hv:IsN h (.sl id off n c) xs) {b:Nat} (hb:b≤xs.length):IsN h (.sl id off b c') (xs.take b):=by
 have:=IsN.cut (c':=c') hv (Nat.zero_le b) hb
 simpa using this
theorem IsN.nil (h:H) (c:Option Nat):IsN h (.sl none 0 0 c) []:=IsW.nil _ _ _
def IsG (b:Nat) (h:H) (v:AV) (xs:List Nat):Prop:=IsF 54 .u64 b h v (xs.map fun n:Nat=>(n:Int))
def Num (B:Nat) (h:H) (v:AV) (n:Nat):Prop:=∃xs,IsN h v xs∧(∀x∈xs,x<B)∧(∀x,xs.getLast? =some x→x≠0)∧val B xs=n
theorem Num.mono {B:Nat} {h h':H} {v:AV} {n:Nat} (hv:Num B h v n) (hl:h.le h'):Num B h' v n:=by
 obtain⟨xs,h1,h2⟩:=hv
 exact⟨xs,h1.mono hl,h2⟩
theorem val_ge (B:Nat) (xs:List Nat) (h:∀x,xs.getLast? =some x→x≠0) (h0:xs≠ []):B^(xs.length-1)≤val B xs:=by
 rcases List.eq_nil_or_concat xs with rfl|⟨ys,y,rfl⟩
 ·exact absurd rfl h0
 ·have hy:=h y (by simp)
  rw[List.concat_eq_append,val_snoc]
  simp only[List.length_append,List.length_cons,List.length_nil]
  have:B^ys.length*1≤B^ys.length*y:=Nat.mul_le_mul_left _ (by omega)
  simp only[Nat.mul_one] at this
  show B^(ys.length+1-1)≤_
  rw[Nat.add_sub_cancel]
  omega
theorem digits_le (B:Nat) (hB:1<B) {xs:List Nat} (h:∀x,xs.getLast? =some x→x≠0) {k:Nat} (hk:val B xs<B^k):xs.length≤k:=by
 by_cases h0:xs=[]
 ·subst h0;simp
 ·have h1:=val_ge B xs h h0
  have h2:B^(xs.length-1)<B^k:=by omega
  have h3:=(Nat.pow_lt_pow_iff_right hB).1 h2
  omega
theorem digits_lt_iff (B:Nat) (hB:1<B) {xs ys:List Nat} (hx:∀x∈xs,x<B) (h:∀x,ys.getLast? =some x→x≠0) (hl:xs.length<ys.length):val B xs<val B ys:=by
 have h1:=val_lt B (by omega) xs hx
 have h2:=val_ge B ys h (by intro e;subst e;simp at hl)
 have h3:B^xs.length≤B^(ys.length-1):=Nat.pow_le_pow_right (by omega) (by omega)
 omega
theorem IsN.lit {h:H} {l:List AV} (ys:List Nat) (t:TypeId) {n:Nat} (hn:n=ys.length) (hl:l=W .u64 (ys.map fun n:Nat=>(n:Int))):IsN (h.new ⟨some t,1,l⟩) (.sl (some h.next) 0 n (some n)) ys:=by
 subst hl
 have:=IsW.lit (t:=t) (k:= .u64) (h:=h) (ys.map fun n:Nat=>(n:Int))
 subst hn
 simpa [IsN] using this
theorem IsG.isN {b:Nat} {h:H} {v:AV} {xs:List Nat} (hv:IsG b h v xs):IsN h v xs:=IsF.isW hv
theorem IsG.mono {b:Nat} {h h':H} {v:AV} {xs:List Nat} (hv:IsG b h v xs) (hl:h.le h'):IsG b h' v xs:=IsF.mono hv hl
theorem H.le_old {a h h':H} (ha:a.wf) (k:a.le h) (hn:h.next≤h'.next) (ho:∀i r,i<a.next→h.rows i=some r→h'.rows i=some r):a.le h':=
 ⟨Nat.le_trans k.1 hn,fun i r e=>ho i r (H.row_lt ha e) (k.2 i r e)⟩
theorem app_num {a h:H} {K:AV→H→Prop} {s x:AV} {xs ys:List Nat} (ha:a.wf) (hw:h.wf) (hah:a.le h) (hs:IsG a.next h s xs) (hx:IsN h x ys) (hl:xs.length+ys.length≤17592186044416)
  (hk:∀v h',h'.wf→a.le h'→IsG a.next h' v (xs++ys)→K v h'):appK 54 1 8 s x h K:=by
 refine app_own hw hs hx hah.1 ?_ ?_ (fun v h' w' hv hn ho=>hk v h' w' (H.le_old ha hah hn ho) ?_)
 ·simp;omega
 ·simp;omega
 ·simpa [IsG] using hv
theorem app_lit {a h:H} {K:AV→H→Prop} {s:AV} {xs:List Nat} {l:List AV} {n:Nat} (ys:List Nat) (ha:a.wf) (hw:h.wf) (hah:a.le h) (hs:IsG a.next h s xs) (hn:n=ys.length) (hy:l=W .u64 (ys.map fun n:Nat=>(n:Int))) (hl:xs.length+ys.length≤17592186044416)
  (hk:∀v h',h'.wf→a.le h'→IsG a.next h' v (xs++ys)→K v h'):appK 54 1 8 s (.sl (some h.next) 0 n (some n)) (h.new ⟨some 54,1,l⟩) K:=
 app_num ha (H.wf_new hw _) (H.le_new hw hah _) (hs.mono (H.le_new hw (H.le_refl h) _)) (IsN.lit ys _ hn hy) hl hk
theorem IsG.made {b:Nat} {h:H} (hb:b≤h.next) (n:Nat):IsG b (h.new ⟨some 54,1,zs [AV.int .u64 0] n⟩) (.sl (some h.next) 0 n (some n)) (List.replicate n 0):=by
 have:=IsF.made (t:=54) (k:= .u64) hb n
 simpa [IsG] using this
theorem IsG.made0 {b:Nat} {h:H} (hb:b≤h.next) (n:Nat):IsG b (h.new ⟨some 54,1,zs [AV.int .u64 0] n⟩) (.sl (some h.next) 0 0 (some n)) []:=IsF.made0 hb n
theorem IsG.put {b:Nat} {h:H} {id:Option Nat} {n:Nat} {c:Option Nat} {xs:List Nat} (hw:h.wf) (hv:IsG b h (.sl id 0 n c) xs) {j:Nat} (hj:j<xs.length):∃i r,id=some i∧b≤i∧i<h.next∧h.rows i=some r∧r.own≠none∧j+1≤r.cells.length∧
  ∀x:Nat,IsG b (h.set i {r with cells:=putAt r.cells j [AV.int .u64 x]}) (.sl id 0 n c) (xs.set j x):=by
 obtain⟨i,r,h1,h2,h3,h4,h5,h6,h7⟩:=IsF.put hw hv (j:=j) (by simpa using hj)
 refine⟨i,r,h1,h2,h3,h4,h5,h6,fun x=> ?_⟩
 have:=h7 x
 unfold IsG
 rw[List.map_set]
 exact this
theorem IsG.form {b:Nat} {h:H} {v:AV} {xs:List Nat} (hv:IsG b h v xs):∃id c,v= .sl id 0 xs.length c:=by
 obtain⟨id,c,e,_⟩:=hv
 exact⟨id,c,by simpa using e⟩
end Ab
end Go.Proofs.YtnlkbdmmoplkoaaGreatDoor
