/-
  WHAT THE LAW LEANS ON, part 7 of 14: a machine of values and its soundness; the functions of the law upon it; what they come to.
-/
import Derived.Test.YthlhlfiklmmenaaGreatDoorYoncf
import Derived.Test.YthlhlfiklmmenaaGreatDoorChecked
import Derived.Tactics
import Derived.Tactics2
import Derived.Defers
import Derived.Recover
set_option linter.unusedVariables false
set_option maxRecDepth 100000
namespace Go.Aa.T
open Go.Aa
def k6_0:List AIt:=[.lp b6_0,.blk 0,.c (.seq (.region [oP 45 (.load true 3 (.t 4)),oP 46 (.load true 3 (.t 9)),oP 47 (.call (.c (.func 32 [])) [(.t 45),(.t 46)]),mV 11 47] false) (.seq (.region [oP 12 (.mov (.c (.int .i64 0)))] false) (.seq (.seq (.region [oP 13 (.mov (.c (.int .i64 0)))] false) (.block 2 (.loop (.seq (.seq (.region [mV 48 13,oP 49 (.fld 1 1 (.t 4)),oP 50 (.load false 1 (.t 49)),oP 51 (.len false (.t 50)),oP 52 (.bin .lss (.t 48) (.t 51))] false) (.cond (.t 52) .skip (.exit 2))) (.seq (.block 3 (.seq (.region [oP 55 (.fld 1 1 (.t 4)),oP 56 (.load false 1 (.t 55)),mV 57 13,oP 58 (.idx 11 (.t 56) (.t 57)),oP 59 (.load true 11 (.t 58)),oP 14 (.box (.c (.agg [(.str []),(.str []),(.int .i64 0),(.sl .full []),(.sl .full []),(.sl .full []),(.sl .full []),(.str []),(.int .i64 0),(.str []),(.bool false)]))),⟨none,.store 11 (.t 14) (.t 59),none,[]⟩] false) (.seq (.region [oP 15 (.mov (.c (.int .i64 0)))] false) (.seq (.seq (.region [oP 60 (.fld 2 1 (.t 9)),oP 61 (.load false 1 (.t 60)),oP 62 (.len false (.t 61)),oP 63 (.bin .sub (.t 62) (.c (.int .i64 1))),mV 16 63] false) (.block 4 (.loop (.seq (.seq (.region [mV 64 16,oP 65 (.bin .geq (.t 64) (.c (.int .i64 0)))] false) (.cond (.t 65) .skip (.exit 4))) (.seq (.block 5 (.seq (.region [oP 68 (.load true 3 (.t 4)),oP 69 (.fld 2 1 (.t 9)),⟨some 70,.load false 1 (.t 69),none,[1]⟩,mV 71 16,⟨some 72,.idx 1 (.t 70) (.t 71),none,[3,1,2]⟩,⟨some 73,.load false 1 (.t 72),none,[2,1,3,4]⟩,oP 74 (.fld 0 2 (.t 9)),⟨some 75,.load true 2 (.t 74),none,[6]⟩,⟨some 76,.call (.c (.func 30 [])) [(.t 68),(.t 73),(.t 75)],none,[6,7,4,3,1,2,5,0]⟩,⟨some 17,.mov (.t 76),none,[0,5,2,1,3,4,7,6,8]⟩] true) (.seq (.region [oP 18 (.mov (.c (.int .i64 0)))] false) (.block 6 (.loop (.seq (.seq (.region [mV 77 18,mV 78 17,oP 79 (.len false (.t 78)),oP 80 (.bin .lss (.t 77) (.t 79))] false) (.cond (.t 80) .skip (.exit 6))) (.seq (.block 7 (.seq (.region [mV 83 17,mV 84 18,⟨some 85,.idx 1 (.t 83) (.t 84),none,[1,0]⟩,⟨some 86,.load false 1 (.t 85),none,[0,1,2]⟩,oP 87 (.fld 0 1 (.t 14)),⟨some 88,.load false 1 (.t 87),none,[4]⟩,⟨some 89,.bin .eql (.t 86) (.t 88),none,[4,5,2,1,0,3]⟩] true) (.cond (.t 89) (.region [oP 90 (.fld 2 1 (.t 9)),oP 91 (.load false 1 (.t 90)),mV 92 16,oP 93 (.idx 1 (.t 91) (.t 92)),oP 94 (.load false 1 (.t 93)),mV 15 94] false) .skip))) (.region [mV 81 18,oP 82 (.bin .add (.t 81) (.c (.int .i64 1))),mV 18 82] false)))))))) (.region [mV 66 16,oP 67 (.bin .sub (.t 66) (.c (.int .i64 1))),mV 16 67] false)))))) (.seq (.seq (.region [mV 95 15,oP 96 (.bin .gtr (.t 95) (.c (.int .i64 0))),mV 97 96,⟨some 98,.fld 10 1 (.t 14),some (97,true),[]⟩,⟨some 99,.load false 1 (.t 98),some (97,true),[]⟩,⟨some 100,.mov (.t 99),some (97,true),[]⟩,⟨some 101,.fld 9 1 (.t 14),some (100,false),[]⟩,⟨some 102,.load false 1 (.t 101),some (100,false),[]⟩,⟨some 103,.bin .eql (.t 102) (.c (.str [])),some (100,false),[]⟩,⟨some 104,.pick (.t 100) (.c (.bool true)) (.t 103),some (97,true),[]⟩,oP 105 (.pick (.t 97) (.t 104) (.c (.bool false)))] false) (.cond (.t 105) (.seq (.region [oP 8 (.mov (.c (.bool false)))] false) .ret) .skip)) (.seq (.region [oP 19 (.mov (.c (.int .i64 0)))] false) (.seq (.seq (.region [oP 20 (.mov (.c (.int .i64 0)))] false) (.block 8 (.loop (.seq (.seq (.region [mV 106 20,mV 107 11,oP 108 (.len false (.t 107)),oP 109 (.bin .lss (.t 106) (.t 108))] false) (.cond (.t 109) .skip (.exit 8))) (.seq (.block 9 (.seq (.region [mV 112 11,mV 113 20,⟨some 114,.idx 2 (.t 112) (.t 113),none,[1,0]⟩,⟨some 115,.fld 0 1 (.t 114),none,[0,1,2]⟩,⟨some 116,.load false 1 (.t 115),none,[2,1,0,3]⟩,oP 117 (.fld 0 1 (.t 14)),⟨some 118,.load false 1 (.t 117),none,[5]⟩,⟨some 119,.bin .eql (.t 116) (.t 118),none,[5,6,3,0,1,2,4]⟩] true) (.cond (.t 119) (.seq (.region [mV 120 19,oP 121 (.bin .add (.t 120) (.c (.int .i64 1))),mV 19 121] false) (.seq (.region [mV 122 11,mV 123 20,oP 124 (.idx 2 (.t 122) (.t 123)),oP 125 (.fld 1 1 (.t 124)),oP 126 (.load false 1 (.t 125)),mV 127 15,oP 128 (.bin .neq (.t 126) (.t 127))] false) (.cond (.t 128) (.seq (.region [oP 8 (.mov (.c (.bool false)))] false) .ret) .skip))) .skip))) (.region [mV 110 20,oP 111 (.bin .add (.t 110) (.c (.int .i64 1))),mV 20 111] false)))))) (.seq (.seq (.region [mV 129 19,oP 130 (.bin .gtr (.t 129) (.c (.int .i64 1))),mV 131 130,⟨some 132,.mov (.t 19),some (131,false),[]⟩,⟨some 133,.bin .eql (.t 132) (.c (.int .i64 1)),some (131,false),[]⟩,⟨some 134,.mov (.t 15),some (131,false),[]⟩,⟨some 135,.bin .gtr (.t 134) (.c (.int .i64 0)),some (131,false),[]⟩,⟨some 136,.eqb true (.t 133) (.t 135),some (131,false),[]⟩,oP 137 (.pick (.t 131) (.c (.bool true)) (.t 136))] false) (.cond (.t 137) (.seq (.region [oP 8 (.mov (.c (.bool false)))] false) .ret) .skip)) (.region [mV 138 12,mV 139 19,oP 140 (.bin .add (.t 138) (.t 139)),mV 12 140] false))))))))) (.region [mV 53 13,oP 54 (.bin .add (.t 53) (.c (.int .i64 1))),mV 13 54] false)))))) (.seq (.region [mV 141 12,mV 142 11,oP 143 (.len false (.t 142)),oP 144 (.bin .eql (.t 141) (.t 143)),mV 8 144] false) .ret))))]
def k6_1:List AIt:=[.lp b6_1,.blk 2,.c (.seq (.region [mV 141 12,mV 142 11,oP 143 (.len false (.t 142)),oP 144 (.bin .eql (.t 141) (.t 143)),mV 8 144] false) .ret)]
def k6_2:List AIt:=[.lp b6_2,.blk 4,.c (.seq (.seq (.region [mV 95 15,oP 96 (.bin .gtr (.t 95) (.c (.int .i64 0))),mV 97 96,⟨some 98,.fld 10 1 (.t 14),some (97,true),[]⟩,⟨some 99,.load false 1 (.t 98),some (97,true),[]⟩,⟨some 100,.mov (.t 99),some (97,true),[]⟩,⟨some 101,.fld 9 1 (.t 14),some (100,false),[]⟩,⟨some 102,.load false 1 (.t 101),some (100,false),[]⟩,⟨some 103,.bin .eql (.t 102) (.c (.str [])),some (100,false),[]⟩,⟨some 104,.pick (.t 100) (.c (.bool true)) (.t 103),some (97,true),[]⟩,oP 105 (.pick (.t 97) (.t 104) (.c (.bool false)))] false) (.cond (.t 105) (.seq (.region [oP 8 (.mov (.c (.bool false)))] false) .ret) .skip)) (.seq (.region [oP 19 (.mov (.c (.int .i64 0)))] false) (.seq (.seq (.region [oP 20 (.mov (.c (.int .i64 0)))] false) (.block 8 (.loop (.seq (.seq (.region [mV 106 20,mV 107 11,oP 108 (.len false (.t 107)),oP 109 (.bin .lss (.t 106) (.t 108))] false) (.cond (.t 109) .skip (.exit 8))) (.seq (.block 9 (.seq (.region [mV 112 11,mV 113 20,⟨some 114,.idx 2 (.t 112) (.t 113),none,[1,0]⟩,⟨some 115,.fld 0 1 (.t 114),none,[0,1,2]⟩,⟨some 116,.load false 1 (.t 115),none,[2,1,0,3]⟩,oP 117 (.fld 0 1 (.t 14)),⟨some 118,.load false 1 (.t 117),none,[5]⟩,⟨some 119,.bin .eql (.t 116) (.t 118),none,[5,6,3,0,1,2,4]⟩] true) (.cond (.t 119) (.seq (.region [mV 120 19,oP 121 (.bin .add (.t 120) (.c (.int .i64 1))),mV 19 121] false) (.seq (.region [mV 122 11,mV 123 20,oP 124 (.idx 2 (.t 122) (.t 123)),oP 125 (.fld 1 1 (.t 124)),oP 126 (.load false 1 (.t 125)),mV 127 15,oP 128 (.bin .neq (.t 126) (.t 127))] false) (.cond (.t 128) (.seq (.region [oP 8 (.mov (.c (.bool false)))] false) .ret) .skip))) .skip))) (.region [mV 110 20,oP 111 (.bin .add (.t 110) (.c (.int .i64 1))),mV 20 111] false)))))) (.seq (.seq (.region [mV 129 19,oP 130 (.bin .gtr (.t 129) (.c (.int .i64 1))),mV 131 130,⟨some 132,.mov (.t 19),some (131,false),[]⟩,⟨some 133,.bin .eql (.t 132) (.c (.int .i64 1)),some (131,false),[]⟩,⟨some 134,.mov (.t 15),some (131,false),[]⟩,⟨some 135,.bin .gtr (.t 134) (.c (.int .i64 0)),some (131,false),[]⟩,⟨some 136,.eqb true (.t 133) (.t 135),some (131,false),[]⟩,oP 137 (.pick (.t 131) (.c (.bool true)) (.t 136))] false) (.cond (.t 137) (.seq (.region [oP 8 (.mov (.c (.bool false)))] false) .ret) .skip)) (.region [mV 138 12,mV 139 19,oP 140 (.bin .add (.t 138) (.t 139)),mV 12 140] false))))),.blk 3,.c (.region [mV 53 13,oP 54 (.bin .add (.t 53) (.c (.int .i64 1))),mV 13 54] false),.lp b6_1,.blk 2,.c (.seq (.region [mV 141 12,mV 142 11,oP 143 (.len false (.t 142)),oP 144 (.bin .eql (.t 141) (.t 143)),mV 8 144] false) .ret)]
def k6_3:List AIt:=[.lp b6_3,.blk 6,.blk 5,.c (.region [mV 66 16,oP 67 (.bin .sub (.t 66) (.c (.int .i64 1))),mV 16 67] false),.lp b6_2,.blk 4,.c (.seq (.seq (.region [mV 95 15,oP 96 (.bin .gtr (.t 95) (.c (.int .i64 0))),mV 97 96,⟨some 98,.fld 10 1 (.t 14),some (97,true),[]⟩,⟨some 99,.load false 1 (.t 98),some (97,true),[]⟩,⟨some 100,.mov (.t 99),some (97,true),[]⟩,⟨some 101,.fld 9 1 (.t 14),some (100,false),[]⟩,⟨some 102,.load false 1 (.t 101),some (100,false),[]⟩,⟨some 103,.bin .eql (.t 102) (.c (.str [])),some (100,false),[]⟩,⟨some 104,.pick (.t 100) (.c (.bool true)) (.t 103),some (97,true),[]⟩,oP 105 (.pick (.t 97) (.t 104) (.c (.bool false)))] false) (.cond (.t 105) (.seq (.region [oP 8 (.mov (.c (.bool false)))] false) .ret) .skip)) (.seq (.region [oP 19 (.mov (.c (.int .i64 0)))] false) (.seq (.seq (.region [oP 20 (.mov (.c (.int .i64 0)))] false) (.block 8 (.loop (.seq (.seq (.region [mV 106 20,mV 107 11,oP 108 (.len false (.t 107)),oP 109 (.bin .lss (.t 106) (.t 108))] false) (.cond (.t 109) .skip (.exit 8))) (.seq (.block 9 (.seq (.region [mV 112 11,mV 113 20,⟨some 114,.idx 2 (.t 112) (.t 113),none,[1,0]⟩,⟨some 115,.fld 0 1 (.t 114),none,[0,1,2]⟩,⟨some 116,.load false 1 (.t 115),none,[2,1,0,3]⟩,oP 117 (.fld 0 1 (.t 14)),⟨some 118,.load false 1 (.t 117),none,[5]⟩,⟨some 119,.bin .eql (.t 116) (.t 118),none,[5,6,3,0,1,2,4]⟩] true) (.cond (.t 119) (.seq (.region [mV 120 19,oP 121 (.bin .add (.t 120) (.c (.int .i64 1))),mV 19 121] false) (.seq (.region [mV 122 11,mV 123 20,oP 124 (.idx 2 (.t 122) (.t 123)),oP 125 (.fld 1 1 (.t 124)),oP 126 (.load false 1 (.t 125)),mV 127 15,oP 128 (.bin .neq (.t 126) (.t 127))] false) (.cond (.t 128) (.seq (.region [oP 8 (.mov (.c (.bool false)))] false) .ret) .skip))) .skip))) (.region [mV 110 20,oP 111 (.bin .add (.t 110) (.c (.int .i64 1))),mV 20 111] false)))))) (.seq (.seq (.region [mV 129 19,oP 130 (.bin .gtr (.t 129) (.c (.int .i64 1))),mV 131 130,⟨some 132,.mov (.t 19),some (131,false),[]⟩,⟨some 133,.bin .eql (.t 132) (.c (.int .i64 1)),some (131,false),[]⟩,⟨some 134,.mov (.t 15),some (131,false),[]⟩,⟨some 135,.bin .gtr (.t 134) (.c (.int .i64 0)),some (131,false),[]⟩,⟨some 136,.eqb true (.t 133) (.t 135),some (131,false),[]⟩,oP 137 (.pick (.t 131) (.c (.bool true)) (.t 136))] false) (.cond (.t 137) (.seq (.region [oP 8 (.mov (.c (.bool false)))] false) .ret) .skip)) (.region [mV 138 12,mV 139 19,oP 140 (.bin .add (.t 138) (.t 139)),mV 12 140] false))))),.blk 3,.c (.region [mV 53 13,oP 54 (.bin .add (.t 53) (.c (.int .i64 1))),mV 13 54] false),.lp b6_1,.blk 2,.c (.seq (.region [mV 141 12,mV 142 11,oP 143 (.len false (.t 142)),oP 144 (.bin .eql (.t 141) (.t 143)),mV 8 144] false) .ret)]
def k6_4:List AIt:=[.lp b6_4,.blk 8,.c (.seq (.seq (.region [mV 129 19,oP 130 (.bin .gtr (.t 129) (.c (.int .i64 1))),mV 131 130,⟨some 132,.mov (.t 19),some (131,false),[]⟩,⟨some 133,.bin .eql (.t 132) (.c (.int .i64 1)),some (131,false),[]⟩,⟨some 134,.mov (.t 15),some (131,false),[]⟩,⟨some 135,.bin .gtr (.t 134) (.c (.int .i64 0)),some (131,false),[]⟩,⟨some 136,.eqb true (.t 133) (.t 135),some (131,false),[]⟩,oP 137 (.pick (.t 131) (.c (.bool true)) (.t 136))] false) (.cond (.t 137) (.seq (.region [oP 8 (.mov (.c (.bool false)))] false) .ret) .skip)) (.region [mV 138 12,mV 139 19,oP 140 (.bin .add (.t 138) (.t 139)),mV 12 140] false)),.blk 3,.c (.region [mV 53 13,oP 54 (.bin .add (.t 53) (.c (.int .i64 1))),mV 13 54] false),.lp b6_1,.blk 2,.c (.seq (.region [mV 141 12,mV 142 11,oP 143 (.len false (.t 142)),oP 144 (.bin .eql (.t 141) (.t 143)),mV 8 144] false) .ret)]
def k30_0:List AIt:=[.lp b30_0,.blk 0,.c (.seq (.region [mV 41 8,mV 6 41] false) .ret)]
def k32_0:List AIt:=[.lp b32_0,.blk 0,.c (.seq (.region [mV 39 5,mV 4 39] false) .ret)]
def k32_1:List AIt:=[.lp b32_1,.blk 2,.blk 1,.c (.region [oP 38 (.bin .add (.t 13) (.c (.int .i64 1))),mV 13 38] false),.lp b32_0,.blk 0,.c (.seq (.region [mV 39 5,mV 4 39] false) .ret)]
def k34_0:List AIt:=[.lp b34_0,.blk 0,.c (.seq (.region [mV 28 5,mV 4 28] false) .ret)]
def k48_0:List AIt:=[.lp b48_0,.blk 0,.c (.seq (.region [mV 19 3,mV 2 19] false) .ret)]
def k51_0:List AIt:=[.lp b51_0,.blk 0,.c (.seq (.seq (.region [oP 4 (.mov (.c (.int .i64 0)))] false) (.block 2 (.loop (.seq (.seq (.region [mV 35 4,oP 36 (.fld 1 1 (.t 1)),oP 37 (.load false 1 (.t 36)),oP 38 (.len false (.t 37)),oP 39 (.bin .lss (.t 35) (.t 38))] false) (.cond (.t 39) .skip (.exit 2))) (.seq (.block 3 (.seq (.region [oP 42 (.fld 1 1 (.t 1)),oP 43 (.load false 1 (.t 42)),mV 44 4,oP 45 (.idx 11 (.t 43) (.t 44)),oP 46 (.load true 11 (.t 45)),oP 47 (.call (.c (.func 117 [])) [(.t 46)]),oP 48 (.un .not (.t 47))] false) (.cond (.t 48) (.seq (.region [oP 2 (.mov (.c (.bool false)))] false) .ret) .skip))) (.region [mV 40 4,oP 41 (.bin .add (.t 40) (.c (.int .i64 1))),mV 4 41] false)))))) (.seq (.region [oP 2 (.mov (.c (.bool true)))] false) .ret))]
def k51_1:List AIt:=[.lp b51_1,.blk 2,.c (.seq (.region [oP 2 (.mov (.c (.bool true)))] false) .ret)]
def k52_0:List AIt:=[.lp b52_0,.blk 0,.c (.seq (.seq (.region [oP 7 (.mov (.c (.int .i64 0)))] false) (.block 2 (.loop (.seq (.seq (.region [mV 56 7,oP 57 (.fld 0 1 (.t 1)),oP 58 (.load false 1 (.t 57)),oP 59 (.len false (.t 58)),oP 60 (.bin .lss (.t 56) (.t 59))] false) (.cond (.t 60) .skip (.exit 2))) (.seq (.block 3 (.seq (.region [oP 64 (.load true 3 (.t 1)),oP 65 (.fld 0 1 (.t 1)),⟨some 66,.load false 1 (.t 65),none,[1]⟩,mV 67 7,⟨some 68,.idx 5 (.t 66) (.t 67),none,[3,1,2]⟩,⟨some 69,.fld 0 1 (.t 68),none,[2,1,3,4]⟩,⟨some 70,.load false 1 (.t 69),none,[4,3,1,2,5]⟩,⟨some 71,.call (.c (.func 121 [])) [(.t 64),(.t 70)],none,[5,2,1,3,4,6,0]⟩,⟨some 63,.mov (.t 71),none,[0,6,4,3,1,2,5,7]⟩,⟨some 72,.extract (.t 63) 0,none,[7,5,2,1,3,4,6,0,8]⟩,⟨some 73,.extract (.t 63) 1,none,[7,5,2,1,3,4,6,0,8]⟩,⟨some 8,.mov (.t 72),none,[8,0,6,4,3,1,2,5,7,9]⟩,⟨some 9,.mov (.t 73),none,[9,11,8,0,6,4,3,1,2,5,7,10]⟩] true) (.seq (.seq (.region [mV 74 9,oP 75 (.bin .neq (.t 74) (.c (.int .i64 0)))] false) (.cond (.t 75) (.seq (.region [mV 76 9,mV 2 76] false) .ret) .skip)) (.seq (.region [mV 77 8,oP 78 (.fld 0 1 (.t 1)),oP 79 (.load false 1 (.t 78)),mV 80 7,oP 81 (.idx 5 (.t 79) (.t 80)),oP 82 (.fld 1 1 (.t 81)),oP 83 (.load false 1 (.t 82)),oP 84 (.call (.c (.func 122 [])) [(.t 77),(.t 83)]),oP 85 (.un .not (.t 84))] false) (.cond (.t 85) (.seq (.region [oP 2 (.mov (.c (.int .i64 7)))] false) .ret) .skip))))) (.region [mV 61 7,oP 62 (.bin .add (.t 61) (.c (.int .i64 1))),mV 7 62] false)))))) (.seq (.region [oP 87 (.load true 3 (.t 1)),oP 88 (.call (.c (.func 123 [])) [(.t 87)]),mV 86 88,oP 89 (.extract (.t 86) 0),oP 90 (.extract (.t 86) 1),mV 3 90] false) (.seq (.region [mV 91 3,mV 2 91] false) .ret)))]
def k52_1:List AIt:=[.lp b52_1,.blk 2,.c (.seq (.region [oP 87 (.load true 3 (.t 1)),oP 88 (.call (.c (.func 123 [])) [(.t 87)]),mV 86 88,oP 89 (.extract (.t 86) 0),oP 90 (.extract (.t 86) 1),mV 3 90] false) (.seq (.region [mV 91 3,mV 2 91] false) .ret))]
def k53_0:List AIt:=[.lp b53_0,.blk 0,.c (.seq (.region [mV 19 3,mV 2 19] false) .ret)]
def k54_0:List AIt:=[.lp b54_0,.blk 0,.c (.seq (.region [mV 19 3,mV 2 19] false) .ret)]
def k55_0:List AIt:=[.lp b55_0,.blk 0,.c (.seq (.region [mV 33 7,mV 4 33] false) .ret)]
def k73_0:List AIt:=[.lp b73_0,.blk 0,.c (.seq (.region [oP 24 (.build [(.str []),(.sl .full []),(.sl .full []),(.sl .full []),(.bool false)] []),⟨none,.store 5 (.t 4) (.t 24),none,[]⟩,oP 5 (.mov (.c (.bool false)))] false) .ret)]
def k81_0:List AIt:=[.lp b81_0,.blk 0,.c (.seq (.region [oP 20 (.build [(.str []),(.sl .full []),(.sl .full []),(.sl .full []),(.bool false)] []),⟨none,.store 5 (.t 4) (.t 20),none,[]⟩,oP 5 (.mov (.c (.bool false)))] false) .ret)]
def k84_0:List AIt:=[.lp b84_0,.blk 0,.c (.seq (.region [oP 24 (.build [(.str []),(.str []),(.bool false)] []),⟨none,.store 3 (.t 4) (.t 24),none,[]⟩,oP 5 (.mov (.c (.bool false)))] false) .ret)]
def k115_0:List AIt:=[.lp b115_0,.blk 0,.c (.seq (.region [oP 2 (.mov (.c (.bool true)))] false) .ret)]
def k118_0:List AIt:=[.lp b118_0,.blk 0,.c (.seq (.region [oP 2 (.mov (.c (.int .i64 0)))] false) .ret)]
def k119_0:List AIt:=[.lp b119_0,.blk 0,.c (.seq (.region [oP 2 (.mov (.c (.int .i64 0)))] false) .ret)]
def k120_0:List AIt:=[.lp b120_0,.blk 0,.c (.seq (.region [oP 2 (.mov (.c (.int .i64 0)))] false) .ret)]
def k121_0:List AIt:=[.lp b121_0,.blk 0,.c (.seq (.region [mV 51 8,mV 4 51,oP 5 (.mov (.c (.int .i64 0)))] false) .ret)]
def k122_0:List AIt:=[.lp b122_0,.blk 0,.c (.seq (.region [oP 4 (.mov (.c (.bool true)))] false) .ret)]
def k123_0:List AIt:=[.lp b123_0,.blk 0,.c (.seq (.region [mV 30 4,mV 2 30,oP 3 (.mov (.c (.int .i64 0)))] false) .ret)]
def k127_0:List AIt:=[.lp b127_0,.blk 0,.c (.seq (.region [oP 4 (.mov (.c (.int .i64 (-1))))] false) .ret)]
def k137_0:List AIt:=[.lp b137_0,.blk 0,.c (.seq (.region [mV 45 3,mV 2 45] false) .ret)]
def k150_0:List AIt:=[.lp b150_0,.blk 0,.c (.seq (.region [oP 4 (.mov (.c (.int .i64 (-1))))] false) .ret)]
def k158_0:List AIt:=[.lp b158_0,.blk 0,.c (.region [mV 39 5,mV 40 6,oP 41 (.bin .sub (.t 39) (.t 40)),⟨none,.store 1 (.t 3) (.t 41),none,[]⟩] false)]
def k160_0:List AIt:=[.lp b160_0,.blk 0,.c (.seq (.region [mV 49 7,mV 6 49] false) .ret)]
def k161_0:List AIt:=[.lp b161_0,.blk 0,.c (.seq (.region [mV 30 5,oP 31 (.callM (.c (.func 227 [])) [(.t 30)])] false) (.seq (.region [mV 32 5,oP 33 (.callM (.c (.func 228 [])) [(.t 32)]),mV 4 33] false) .ret))]
def k196_0:List AIt:=[.lp b196_0,.blk 0,.c (.seq (.region [mV 25 3,mV 2 25] false) .ret)]
def k197_0:List AIt:=[.lp b197_0,.blk 0,.c (.seq (.region [mV 25 3,mV 2 25] false) .ret)]
def k198_0:List AIt:=[.lp b198_0,.blk 0,.c (.seq (.region [mV 30 3,mV 2 30] false) .ret)]
def k199_0:List AIt:=[.lp b199_0,.blk 0,.c (.seq (.region [mV 30 3,mV 2 30] false) .ret)]
def k202_0:List AIt:=[.lp b202_0,.blk 0,.c (.seq (.region [oP 2 (.mov (.c (.bool true)))] false) .ret)]
def k203_0:List AIt:=[.lp b203_0,.blk 0,.c (.seq (.region [oP 2 (.mov (.c (.bool true)))] false) .ret)]
def k204_0:List AIt:=[.lp b204_0,.blk 0,.c (.seq (.region [oP 2 (.mov (.c (.bool true)))] false) .ret)]
def k205_0:List AIt:=[.lp b205_0,.blk 0,.c (.seq (.region [oP 2 (.mov (.c (.bool true)))] false) .ret)]
def k206_0:List AIt:=[.lp b206_0,.blk 0,.c (.seq (.region [oP 2 (.mov (.c (.bool true)))] false) .ret)]
def k210_0:List AIt:=[.lp b210_0,.blk 0,.c (.seq (.region [mV 55 8,oP 56 (.call (.c (.func 268 [])) [(.t 55)]),oP 57 (.extract (.t 56) 0),oP 58 (.extract (.t 56) 1),mV 4 57,mV 5 58] false) .ret)]
def k211_0:List AIt:=[.lp b211_0,.blk 0,.c (.seq (.region [oP 4 (.mov (.c (.int .i64 0)))] false) .ret)]
def k212_0:List AIt:=[.lp b212_0,.blk 0,.c (.seq (.region [mV 30 3,mV 2 30] false) .ret)]
def k216_0:List AIt:=[.lp b216_0,.blk 0,.c (.seq (.region [oP 4 (.mov (.c (.int .i64 (-1))))] false) .ret)]
def k217_0:List AIt:=[.lp b217_0,.blk 0,.c (.seq (.region [oP 4 (.mov (.c (.int .i64 (-1))))] false) .ret)]
def k218_0:List AIt:=[.lp b218_0,.blk 0,.c (.seq (.region [oP 4 (.mov (.c (.int .i64 (-1))))] false) .ret)]
def k223_0:List AIt:=[.lp b223_0,.blk 0,.c (.seq (.region [oP 4 (.mov (.c (.str []))),oP 5 (.mov (.c (.bool false)))] false) .ret)]
def k228_0:List AIt:=[.lp b228_0,.blk 0,.c (.seq (.region [mV 60 0,mV 2 60] false) .ret)]
def k228_1:List AIt:=[.lp b228_1,.blk 2,.c (.seq (.region [mV 54 0,mV 55 3,oP 56 (.slice 1 (.t 54) (some (.t 55)) none none),⟨none,.clearM [(.str [])] (.t 56),none,[]⟩] false) (.seq (.region [mV 57 0,mV 58 3,oP 59 (.slice 1 (.t 57) none (some (.t 58)) none),mV 2 59] false) .ret)),.blk 1,.c (.region [mV 14 3,oP 15 (.bin .add (.t 14) (.c (.int .i64 1))),mV 3 15] false),.lp b228_0,.blk 0,.c (.seq (.region [mV 60 0,mV 2 60] false) .ret)]
def k232_0:List AIt:=[.lp b232_0,.blk 0,.c (.seq (.region [oP 4 (.mov (.c (.int .i64 (-1))))] false) .ret)]
def k247_0:List AIt:=[.lp b247_0,.blk 0,.c (.seq (.region [oP 2 (.mov (.c (.int .i64 0)))] false) .ret)]
def k255_0:List AIt:=[.lp b255_0,.blk 0]
def k259_0:List AIt:=[.lp b259_0,.blk 0,.c (.seq (.region [oP 2 (.mov (.c (.bool true)))] false) .ret)]
def k260_0:List AIt:=[.lp b260_0,.blk 0,.c (.seq (.region [oP 2 (.mov (.c (.int .i64 0)))] false) .ret)]
def k261_0:List AIt:=[.lp b261_0,.blk 0,.c (.seq (.region [oP 2 (.mov (.c (.int .i64 0)))] false) .ret)]
def k262_0:List AIt:=[.lp b262_0,.blk 0,.c (.seq (.region [oP 2 (.mov (.c (.int .i64 0)))] false) .ret)]
def k262_1:List AIt:=[.lp b262_1,.blk 2,.blk 1,.c (.region [mV 12 3,oP 13 (.bin .add (.t 12) (.c (.int .i64 1))),mV 3 13] false),.lp b262_0,.blk 0,.c (.seq (.region [oP 2 (.mov (.c (.int .i64 0)))] false) .ret)]
def k263_0:List AIt:=[.lp b263_0,.blk 0,.c (.seq (.region [oP 2 (.mov (.c (.int .i64 0)))] false) .ret)]
def k264_0:List AIt:=[.lp b264_0,.blk 0,.c (.seq (.region [oP 2 (.mov (.c (.int .i64 0)))] false) .ret)]
def k266_0:List AIt:=[.lp b266_0,.blk 0,.c (.seq (.region [mV 92 5,mV 4 92] false) .ret)]
def k269_0:List AIt:=[.lp b269_0,.blk 0,.c (.seq (.region [oP 4 (.mov (.c (.int .i64 (-1))))] false) .ret)]
def k272_0:List AIt:=[.lp b272_0,.blk 0,.c (.seq (.seq (.region [oP 19 (.load false 1 (.t 0)),oP 20 (.call (.c (.func 273 [])) [(.t 19)]),oP 21 (.len false (.t 20)),oP 22 (.mov (.c (.int .i64 0)))] false) (.block 2 (.loop (.seq (.region [oP 23 (.bin .lss (.t 22) (.t 21))] false) (.seq (.cond (.t 23) .skip (.exit 2)) (.seq (.block 3 (.seq (.region [oP 24 (.idx 1 (.t 20) (.t 22)),oP 25 (.load false 1 (.t 24)),mV 6 25] false) (.seq (.region [oP 27 (.load false 1 (.t 1)),mV 28 6,oP 29 (.call (.t 27) [(.t 28)]),mV 26 29,oP 30 (.extract (.t 26) 0),oP 31 (.extract (.t 26) 1),mV 7 30,mV 8 31] false) (.seq (.region [mV 32 8,oP 33 (.call (.c (.func 68 [])) [(.t 32)])] false) (.seq (.region [mV 34 7,oP 35 (.bin .gtr (.t 34) (.c (.int .i64 0)))] false) (.cond (.t 35) (.region [oP 36 (.load false 1 (.t 2)),mV 37 6,mV 38 7,oP 39 (.build [(.str []),(.int .i64 0)] [(0,1,(.t 37)),(1,1,(.t 38))]),oP 40 (.bslice 2 [(.t 39)]),oP 41 (.append 2 24 (.t 36) (.t 40)),⟨none,.store 1 (.t 2) (.t 41),none,[]⟩] false) .skip)))))) (.region [oP 42 (.bin .add (.t 22) (.c (.int .i64 1))),mV 22 42] false))))))) (.seq (.region [oP 43 (.load false 1 (.t 2)),oP 44 (.len false (.t 43)),oP 45 (.bin .gtr (.t 44) (.c (.int .i64 8)))] false) (.cond (.t 45) (.region [oP 46 (.call (.c (.func 68 [])) [(.c (.int .i64 4))])] false) .skip)))]
def k272_1:List AIt:=[.lp b272_1,.blk 2,.c (.seq (.region [oP 43 (.load false 1 (.t 2)),oP 44 (.len false (.t 43)),oP 45 (.bin .gtr (.t 44) (.c (.int .i64 8)))] false) (.cond (.t 45) (.region [oP 46 (.call (.c (.func 68 [])) [(.c (.int .i64 4))])] false) .skip))]
def k273_0:List AIt:=[.lp b273_0,.blk 0,.c (.seq (.region [mV 27 3,oP 28 (.callM (.c (.func 227 [])) [(.t 27)])] false) (.seq (.region [mV 29 3,oP 30 (.callM (.c (.func 228 [])) [(.t 29)]),mV 2 30] false) .ret))]
def k273_1:List AIt:=[.lp b273_1,.blk 2,.blk 1,.c (.region [oP 26 (.bin .add (.t 10) (.c (.int .i64 1))),mV 10 26] false),.lp b273_0,.blk 0,.c (.seq (.region [mV 27 3,oP 28 (.callM (.c (.func 227 [])) [(.t 27)])] false) (.seq (.region [mV 29 3,oP 30 (.callM (.c (.func 228 [])) [(.t 29)]),mV 2 30] false) .ret))]
end Go.Aa.T
set_option linter.unusedVariables false
set_option linter.unusedSimpArgs false
set_option maxRecDepth 100000
namespace Go.Proofs.YthlhlfiklmmenaaGreatDoor
open Go.RowKit
open Go.Aa
theorem T.catch_idle(p:Addr)(w:World):
 CallsD Tryz.prog 134 #[.pointer (some p)] .returning w fun e u' w'=>e=.returned (.tuple #[])∧u'=.returning∧w'=w:=by
 refine callsD_of_wpS Tryz.func134 rfl fun c₀ cs hu=> ?_
 apply wpS_seq
 apply wpS_region
 simp[wpOpsS,go_sem,recoverD,hu,Tryz.ntmps134,Exit.thenS]
 refine wpS_of_wp ?_
 go_wp2
 cases c₀
 simp_all[bodyPostS,results,Tryz.results134]
theorem T.hta(v:Value)(w:World):(Instr.typeAssert (.iface 211 v) 20 211 true).run Tryz.prog w=.ok (.tuple #[v,.bool true]) w:=by kernel_rfl
set_option maxHeartbeats 4000000 in
theorem T.catch_stop(b:Nat)(x:Int)(n:Int)(older:List PanicEntry)(w:World)(hlt:b<w.heap.size)(hne:¬w.heap.size=b)(hne':¬b=w.heap.size)(hc:w.cell? ⟨b,0,none⟩=some (.int .i64 x))(hz:w.frozen? ⟨b,0,none⟩=false):
 CallsD Tryz.prog 134 #[.pointer (some ⟨b,0,none⟩)] (.panicking ({v:=.iface 211 (.agg #[.int .i64 n]),recovered:=false}::older)) w fun e u' w'=>
  e=.returned (.tuple #[])∧u'=.panicking ({v:=.iface 211 (.agg #[.int .i64 n]),recovered:=true}::older)∧w'=(w.setCell ⟨b,0,none⟩ (.int .i64 n)).alloc (.cells #[.int .i64 n] 211):=by
 have hta:=T.hta
 have hz0:∀w:World,(zeroValue 211).run Tryz.prog w=.ok (.agg #[.int .i64 0]) w:=fun _=>by kernel_rfl
 have hsz:Tryz.prog.cellsOf 211=1:=by kernel_rfl
 have hag:∀w:World,(isAgg 211).run Tryz.prog w=.ok true w:=fun _=>by kernel_rfl
 refine callsD_of_wpS Tryz.func134 rfl fun c₀ cs hu=> ?_
 apply wpS_seq
 apply wpS_region
 simp[wpOpsS,go_sem,recoverD,hu,Tryz.ntmps134,Exit.thenS]
 refine wpS_of_wp ?_
 go_wp2
 cases c₀
 simp_all[bodyPostS,results,Tryz.results134]
theorem T.try_ok{call:CallF}(hcs:CallSound Tryz.prog call){g:FuncId}{caps:List AV}{H H':Heap}{r:ARes}(hr:tryA (call (.fn g) caps H) 211=some (r,H')){G:Ghost}{w:World}{us:Array Value}(hH:HRep Tryz.prog G w H)(hargs:Args G w us caps):
 Calls Tryz.prog 66 #[.func (.func g) #[] us] w (PostOk Tryz.prog G w r H'):=by
 have hmf:∀(fn:Fn)(first cap:Array Value)(w:World),(Instr.makeFunc fn first cap).run Tryz.prog w=.ok (.func fn first cap) w:=fun _ _ _ _=>rfl
 obtain⟨st1,hH1⟩:=lay_step hH (.cells #[.int .i64 0] 63)
 have hlt:=tok_lt hH1
 have hfree:=free_new hH
 have hsz:(w.alloc (.cells #[.int .i64 0] 63)).heap.size=w.heap.size+1:=by simp
 have hb0:(w.alloc (.cells #[.int .i64 0] 63)).heap[w.heap.size]?=some (.cells #[.int .i64 0] 63 (0,0)):=World.alloc_heap_new w _
 have hcall:∃r1 H1,call (.fn g) caps H=some (r1,H1)∧((∃v,r1=.ret v∧r=.ret (.int .i64 0)∧H1=H')∨(∃n,r1=.pan (.iface 211 (.agg [.int .i64 n]))∧r=.ret (.int .i64 n)∧H1=H')):=by
  cases hcc:call (.fn g) caps H with
  |none=>rw[hcc]at hr;cases hr
  |some x=>
   obtain⟨r1,H1⟩:=x
   rw[hcc]at hr
   cases r1 with
   |ret v=>
    simp only[tryA,Option.some.injEq,Prod.mk.injEq]at hr
    exact⟨_,_,rfl,.inl ⟨v,rfl,hr.1.symm,hr.2⟩⟩
   |pan v=>
    unfold tryA at hr
    split at hr
    ·rename_i h;cases h
    ·rename_i h
     split at hr
     ·rename_i ht
      subst ht
      simp only[Option.some.injEq,Prod.mk.injEq]at hr
      simp only[Option.some.injEq,Prod.mk.injEq,ARes.pan.injEq]at h
      obtain⟨rfl,rfl⟩:=h
      exact⟨_,_,rfl,.inr ⟨_,rfl,hr.1.symm,hr.2⟩⟩
     ·cases hr
    ·cases hr
 obtain⟨r1,H1,hc,hend⟩:=hcall
 have hco:=hcs.fn g caps H r1 H1 hc G _ us hH1 (hargs.step st1)
 go_enter_defers Tryz.func66,Tryz.ntmps66
 go_wp2
 rcases hco with⟨_,hrun,hcalls,_⟩|⟨u,w',hrun,hpost⟩
 ·rw[hrun]
  simp only[Oper.upon]
  refine hcalls.mono ?_
  rintro e w2⟨G2,st2,hH2,hend2⟩
  obtain⟨hfree2,hb2⟩:=free_step hfree (by rw[hsz];omega) st2 hlt
  rw[hb0]at hb2
  have hc2:w2.cell? ⟨w.heap.size,0,none⟩=some (.int .i64 0):=by simp[World.cell?,hb2]
  have hz2:w2.frozen? ⟨w.heap.size,0,none⟩=false:=by simp[World.frozen?,hb2]
  have pk:∀n:Int,Step G w G2 (w2.setCell ⟨w.heap.size,0,none⟩ (.int .i64 n))∧HRep Tryz.prog G2 (w2.setCell ⟨w.heap.size,0,none⟩ (.int .i64 n)) H1:=fun n=>
   poke hfree2 hH.base (Nat.le_refl _) (st1.trans st2) hH2 (fun k hk=>Below.heap_setCell _ _ _ k hk) (by simp) hH.glob rfl rfl rfl
  rcases hend with⟨v,rfl,rfl,rfl⟩|⟨n,rfl,rfl,rfl⟩
  ·obtain⟨u,rfl,hu⟩:=hend2
   simp only
   apply ‹∀(a:Act)(w:World),wpList _ _ _ _ a w→_›
   go_wp2
   refine leaves_cons (f:=134) (args:= #[.pointer (some ⟨w.heap.size,0,none⟩)]) (by simp) (by simp[go_sem]) ?_
   refine(T.catch_idle _ _).mono ?_
   rintro e u' w''⟨rfl,rfl,rfl⟩
   have hc3:(w2.setCell ⟨w.heap.size,0,none⟩ (.int .i64 0)).cell? ⟨w.heap.size,0,none⟩=some (.int .i64 0):=by first|exact World.cell?_setCell_same _ hc2|exact World.cell?_setCell_same _ _ hc2|exact World.cell?_setCell_same _ _ _ hc2
   simp[Leaves,settle,results,Tryz.results66,go_sem,hc3]
   exact⟨G2,(pk 0).1,(pk 0).2,_,rfl,.int _ _⟩
  ·obtain⟨u,rfl,hu⟩:=hend2
   have hu':u=.iface 211 (.agg #[.int .i64 n]):=by
    cases hu with
    |iface _ v _ hv=>
     cases hv with
     |agg us _ hn hv=>
      have h0:us.size=1:=hn
      have h1:=hv 0 (by omega) (by simp)
      have e:us= #[us[0]]:=Array.ext (by simpa using h0) (fun i i1 i2=>by
       have:i=0:=by omega
       subst this;rfl)
      rw[List.getElem_cons_zero]at h1
      generalize us[0]=y at h1 e
      cases h1
      rw[e]
   subst hu'
   have hb3:w.heap.size<w2.heap.size:=(Array.getElem?_eq_some_iff.1 hb2).1
   simp only[Exit.then]
   refine leaves_cons (f:=134) (args:= #[.pointer (some ⟨w.heap.size,0,none⟩)]) (by simp) (by simp[go_sem]) ?_
   refine(T.catch_stop w.heap.size 0 n [] w2 hb3 (by omega) (by omega) hc2 hz2).mono ?_
   rintro e u' w''⟨rfl,rfl,rfl⟩
   have hc3:((w2.setCell ⟨w.heap.size,0,none⟩ (.int .i64 n)).alloc (.cells #[.int .i64 n] 211)).cell? ⟨w.heap.size,0,none⟩=some (.int .i64 n):=by
    have e1:=Below.heap_alloc (w2.setCell ⟨w.heap.size,0,none⟩ (.int .i64 n)) (.cells #[.int .i64 n] 211) w.heap.size (by simpa using hb3)
    have c:(w2.setCell ⟨w.heap.size,0,none⟩ (.int .i64 n)).cell? ⟨w.heap.size,0,none⟩=some (.int .i64 n):=by first|exact World.cell?_setCell_same _ hc2|exact World.cell?_setCell_same _ _ hc2|exact World.cell?_setCell_same _ _ _ hc2
    unfold World.cell? at c⊢
    rw[e1];exact c
   simp[Leaves,settle,results,Tryz.results66,go_sem,hc3]
   obtain⟨s3,h3⟩:=pk n
   obtain⟨s4,h4⟩:=lay_step h3 (.cells #[.int .i64 n] 211)
   exact⟨G2,s3.trans s4,h4,_,rfl,.int _ _⟩
 ·rw[hrun]
  simp only[Oper.upon]
  obtain⟨G2,st2,hH2,hend2⟩:=hpost
  obtain⟨hfree2,hb2⟩:=free_step hfree (by rw[hsz];omega) st2 hlt
  rw[hb0]at hb2
  have hc2:w'.cell? ⟨w.heap.size,0,none⟩=some (.int .i64 0):=by simp[World.cell?,hb2]
  have hz2:w'.frozen? ⟨w.heap.size,0,none⟩=false:=by simp[World.frozen?,hb2]
  have pk:∀n:Int,Step G w G2 (w'.setCell ⟨w.heap.size,0,none⟩ (.int .i64 n))∧HRep Tryz.prog G2 (w'.setCell ⟨w.heap.size,0,none⟩ (.int .i64 n)) H1:=fun n=>
   poke hfree2 hH.base (Nat.le_refl _) (st1.trans st2) hH2 (fun k hk=>Below.heap_setCell _ _ _ k hk) (by simp) hH.glob rfl rfl rfl
  rcases hend with⟨v,rfl,rfl,rfl⟩|⟨n,rfl,rfl,rfl⟩
  ·obtain⟨u',hu',hu⟩:=hend2
   apply ‹∀(a:Act)(w:World),wpList _ _ _ _ a w→_›
   go_wp2
   refine leaves_cons (f:=134) (args:= #[.pointer (some ⟨w.heap.size,0,none⟩)]) (by simp) (by simp[go_sem]) ?_
   refine(T.catch_idle _ _).mono ?_
   rintro e u' w''⟨rfl,rfl,rfl⟩
   have hc3:(w'.setCell ⟨w.heap.size,0,none⟩ (.int .i64 0)).cell? ⟨w.heap.size,0,none⟩=some (.int .i64 0):=by first|exact World.cell?_setCell_same _ hc2|exact World.cell?_setCell_same _ _ hc2|exact World.cell?_setCell_same _ _ _ hc2
   simp[Leaves,settle,results,Tryz.results66,go_sem,hc3]
   exact⟨G2,(pk 0).1,(pk 0).2,_,rfl,.int _ _⟩
  ·obtain⟨u',hu',hu⟩:=hend2
   cases hu'
theorem T.tryOk:TryOk Tryz.prog 66 211:=by
 intro call hcs g caps H r H' hr G w vs hH hargs
 obtain⟨h1,h2⟩:=hargs
 have hs:vs.size=1:=h1
 have e:vs= #[vs[0]]:=Array.ext (by simpa using hs) (fun i i1 i2=>by
  have:i=0:=by omega
  subst this;rfl)
 have hv:=h2 0 (by omega) (by simp)
 rw[List.getElem_cons_zero]at hv
 generalize vs[0]=y at hv e
 subst e
 cases hv with
 |func _ us _ hn hu=>exact .inl ⟨w,by kernel_rfl,T.try_ok hcs hr hH ⟨hn,hu⟩,rfl⟩
#print axioms T.tryOk
end Go.Proofs.YthlhlfiklmmenaaGreatDoor
set_option linter.unusedVariables false
set_option linter.unusedSimpArgs false
set_option maxRecDepth 100000
namespace Go.Aa.T
open Go.Aa Go.Proofs
variable{H:Heap}
structure Taint where
 key:List UInt8
 val:List UInt8
 hard:Bool
structure Tol where
 key:List UInt8
 val:List UInt8
 any:Bool
def Taint.cells(t:Taint):List AV:=[.str t.key,.str t.val,.bool t.hard]
def Tol.cells(t:Tol):List AV:=[.str t.key,.str t.val,.bool t.any]
def encT(t:Taint):AV:=.agg t.cells
def encL(t:Tol):AV:=.agg t.cells
instance(t:Taint):Dat (encT t):=⟨rfl,rfl⟩
instance(t:Tol):Dat (encL t):=⟨rfl,rfl⟩
end Go.Aa.T
set_option linter.unusedVariables false
set_option linter.unusedSimpArgs false
set_option maxRecDepth 100000
namespace Go.Aa.T
open Go.Aa Go.Proofs
theorem _root_.Go.Aa.dT(p:Prop)[Decidable p](h:p:=by omega):decide p=true:=decide_eq_true h
theorem _root_.Go.Aa.dF(p:Prop)[Decidable p](h:¬p:=by omega):decide p=false:=decide_eq_false h
theorem _root_.Go.Aa.lM{X:Type}(k:SK)(f:X→AV)(l:List X):lenA false (.sl k (l.map f))=some (.int .i64 (l.length:Int)):=len_map _
theorem _root_.Go.Aa.iR{X:Type}{l post:List X}{x:X}{i:Nat}(es:Nat)(f:X→AV)(hd:l.drop i=x::post)(hc:cellsN es (f x)=true:=by rfl):idxA es (.sl .sh (l.map f)) (.int .i64 (i:Int))=some (.ref (f x).cells):=idx_row hd hc
theorem _root_.Go.Aa.iI(i:Nat)(h:i<9223372036854775807:=by omega):binA .add (.int .i64 (i:Int)) (.int .i64 1)=some (.int .i64 ((i+1:Nat):Int)):=inc_i h
theorem _root_.Go.Aa.lB(b:Bool)(n:Nat)(H:Heap)(k o:Nat)(v:AV)(cs:List AV)(h:H.boxes[k]?=some cs:=by simp+zetaDelta)(e:loadA b n ⟨[cs],[],[]⟩ (.ptr 0 o)=some v:=by rfl):loadA b n H (.ptr k o)=some v:=load_box h e
theorem _root_.Go.Aa.gG{cfg:Cfg}{A:AFunc}{R:ARes×Heap→Prop}{T:Env}{k:List AIt}{H:Heap}(n:Nat)(vs:List (Nat×AV))(hT:Has T vs)(s:ScrQ cfg A R)(e:uns s (fun s=>acts n k s (updL T vs) H)=claims s:=by kernel_rfl):Goes cfg A k T H R:=goG n vs hT s e
def few{α:Type}(f:α→List UInt8×List UInt8)(l:List α):Bool:=l.all fun x=>decide ((f x).1.length≤50)&&decide ((f x).2.length≤50)
def fewT(l:List Taint):Bool:=decide (l.length≤20)&&few (fun t=>(t.key,t.val)) l
def fewL(l:List Tol):Bool:=decide (l.length≤20)&&few (fun t=>(t.key,t.val)) l
theorem fewT_loop(l:List Taint)(hn:l.length≤20):∀(post:List Taint)(i:Nat)(hd:l.drop i=post)(T:Env)(hT:Has T [(0,.sl .sh (l.map encT)),(3,.int .i64 i)]),
 Goes cfg a205 k205_0 T Heap.nil (IsRet (.bool (few (fun t=>(t.key,t.val)) post))):=by
 intro post
 induction post with
 |nil=>
  intro i hd T hT
  have hge:=drop_ge hd
  exact gG 60 _ hT (.len (lM .sh encT l)<|.no (dF ((↑i:Int)<(↑l.length:Int)))<|.fin ((.ret (.bool true),{boxes:=[],toks:=[],loops:=[]:Heap})) rfl)
 |cons x post ih=>
  intro i hd T hT
  have hlt:=drop_lt hd
  have hnx:=drop_next hd
  exact let ζ1:Heap:={boxes:=[],toks:=[],loops:=[]:Heap};gG 60 _ hT (.len (lM .sh encT l)<|.yes (dT ((↑i:Int)<(↑l.length:Int)))<|.idx (iR 3 encT hd)<|.len (show lenA true (.str x.key)=some (.int .i64 (↑x.key.length))from len_str _)<|.split ((50:Int)<(↑x.key.length:Int)) (fun h1=>.yes (dT ((50:Int)<(↑x.key.length:Int)) h1)<|.tt<|.fin ((.ret (.bool false),ζ1)) (by simp only[IsRet];grind[few])) (fun h1=>.no (dF ((50:Int)<(↑x.key.length:Int)) h1)<|.idx (iR 3 encT hd)<|.len (show lenA true (.str x.val)=some (.int .i64 (↑x.val.length))from len_str _)<|.split ((50:Int)<(↑x.val.length:Int)) (fun h2=>.yes (dT ((50:Int)<(↑x.val.length:Int)) h2)<|.fin ((.ret (.bool false),ζ1)) (by simp only[IsRet];grind[few])) (fun h2=>.no (dF ((50:Int)<(↑x.val.length:Int)) h2)<|.bin (iI i)<|.cutQ k205_0 [(0,.sl .sh (l.map encT)),(3,.int .i64 (↑(i+1)))] (ζ1) (fun T hT=>(ih (i+1) hnx T hT).to (by grind[few])))))
theorem fewL_loop(l:List Tol)(hn:l.length≤20):∀(post:List Tol)(i:Nat)(hd:l.drop i=post)(T:Env)(hT:Has T [(0,.sl .sh (l.map encL)),(3,.int .i64 i)]),
 Goes cfg a206 k206_0 T Heap.nil (IsRet (.bool (few (fun t=>(t.key,t.val)) post))):=by
 intro post
 induction post with
 |nil=>
  intro i hd T hT
  have hge:=drop_ge hd
  exact gG 60 _ hT (.len (lM .sh encL l)<|.no (dF ((↑i:Int)<(↑l.length:Int)))<|.fin ((.ret (.bool true),{boxes:=[],toks:=[],loops:=[]:Heap})) rfl)
 |cons x post ih=>
  intro i hd T hT
  have hlt:=drop_lt hd
  have hnx:=drop_next hd
  exact let ζ1:Heap:={boxes:=[],toks:=[],loops:=[]:Heap};gG 60 _ hT (.len (lM .sh encL l)<|.yes (dT ((↑i:Int)<(↑l.length:Int)))<|.idx (iR 3 encL hd)<|.len (show lenA true (.str x.key)=some (.int .i64 (↑x.key.length))from len_str _)<|.split ((50:Int)<(↑x.key.length:Int)) (fun h1=>.yes (dT ((50:Int)<(↑x.key.length:Int)) h1)<|.tt<|.fin ((.ret (.bool false),ζ1)) (by simp only[IsRet];grind[few])) (fun h1=>.no (dF ((50:Int)<(↑x.key.length:Int)) h1)<|.idx (iR 3 encL hd)<|.len (show lenA true (.str x.val)=some (.int .i64 (↑x.val.length))from len_str _)<|.split ((50:Int)<(↑x.val.length:Int)) (fun h2=>.yes (dT ((50:Int)<(↑x.val.length:Int)) h2)<|.fin ((.ret (.bool false),ζ1)) (by simp only[IsRet];grind[few])) (fun h2=>.no (dF ((50:Int)<(↑x.val.length:Int)) h2)<|.bin (iI i)<|.cutQ k206_0 [(0,.sl .sh (l.map encL)),(3,.int .i64 (↑(i+1)))] (ζ1) (fun T hT=>(ih (i+1) hnx T hT).to (by grind[few])))))
theorem fewT_any(l:List Taint):Gives cfg 205 [.sl .sh (l.map encT)] (.bool (fewT l)):=by
 refine Gives.run (l205 _ _) ?_
 have h:=fun hn=>fewT_loop l hn l 0 rfl
 exact let ζ1:Heap:={boxes:=[],toks:=[],loops:=[]:Heap};gG 60 [] trivial (.len (lM .sh encT l)<|.split ((20:Int)<(↑l.length:Int)) (fun h1=>.yes (dT ((20:Int)<(↑l.length:Int)) h1)<|.fin ((.ret (.bool false),ζ1)) (by simp only[IsRet];grind[fewT])) (fun h1=>.no (dF ((20:Int)<(↑l.length:Int)) h1)<|.cutQ k205_0 [(0,.sl .sh (l.map encT)),(3,.int .i64 0)] (ζ1) (fun T hT=>(h (by omega) T hT).to (by grind[fewT]))))
theorem fewL_any(l:List Tol):Gives cfg 206 [.sl .sh (l.map encL)] (.bool (fewL l)):=by
 refine Gives.run (l206 _ _) ?_
 have h:=fun hn=>fewL_loop l hn l 0 rfl
 exact let ζ1:Heap:={boxes:=[],toks:=[],loops:=[]:Heap};gG 60 [] trivial (.len (lM .sh encL l)<|.split ((20:Int)<(↑l.length:Int)) (fun h1=>.yes (dT ((20:Int)<(↑l.length:Int)) h1)<|.fin ((.ret (.bool false),ζ1)) (by simp only[IsRet];grind[fewL])) (fun h1=>.no (dF ((20:Int)<(↑l.length:Int)) h1)<|.cutQ k206_0 [(0,.sl .sh (l.map encL)),(3,.int .i64 0)] (ζ1) (fun T hT=>(h (by omega) T hT).to (by grind[fewL]))))
theorem ofT_loop(l:List Taint)(hn:l.length≤20):∀(post:List Taint)(i:Nat)(acc:List AV)(hd:l.drop i=post)(ha:acc.length=i)(hl:lenOk 3 acc=true)(T:Env)(hT:Has T [(0,.sl .sh (l.map encT)),(3,rowS Heap.nil acc),(4,.int .i64 i)]),
 Goes cfg a212 k212_0 T (rowH Heap.nil acc) (IsRet (rowS Heap.nil (acc++post.map encT))):=by
 intro post
 induction post with
 |nil=>
  intro i acc hd ha hl T hT
  have hge:=drop_ge hd
  exact gG 60 _ hT (.len (lM .sh encT l)<|.no (dF ((↑i:Int)<(↑l.length:Int)))<|.fin ((.ret (setD (setD (setD (setD (setD (setD (updL T [(0,.sl .sh (l.map encT)),(3,rowS Heap.nil acc),(4,.int .i64 ↑i)]) (some 5) (ev (updL T [(0,.sl .sh (l.map encT)),(3,rowS Heap.nil acc),(4,.int .i64 ↑i)]) (.t 4))) (some 6) (ev (setD (updL T [(0,.sl .sh (l.map encT)),(3,rowS Heap.nil acc),(4,.int .i64 ↑i)]) (some 5) (ev (updL T [(0,.sl .sh (l.map encT)),(3,rowS Heap.nil acc),(4,.int .i64 ↑i)]) (.t 4))) (.t 0))) (some 7) (.int .i64 (↑l.length))) (some 8) (.bool (decide ((↑i:Int)<(↑l.length:Int))))) (some 30) (ev (setD (setD (setD (setD (updL T [(0,.sl .sh (l.map encT)),(3,rowS Heap.nil acc),(4,.int .i64 ↑i)]) (some 5) (ev (updL T [(0,.sl .sh (l.map encT)),(3,rowS Heap.nil acc),(4,.int .i64 ↑i)]) (.t 4))) (some 6) (ev (setD (updL T [(0,.sl .sh (l.map encT)),(3,rowS Heap.nil acc),(4,.int .i64 ↑i)]) (some 5) (ev (updL T [(0,.sl .sh (l.map encT)),(3,rowS Heap.nil acc),(4,.int .i64 ↑i)]) (.t 4))) (.t 0))) (some 7) (.int .i64 (↑l.length))) (some 8) (.bool (decide ((↑i:Int)<(↑l.length:Int))))) (.t 3))) (some 2) (ev (setD (setD (setD (setD (setD (updL T [(0,.sl .sh (l.map encT)),(3,rowS Heap.nil acc),(4,.int .i64 ↑i)]) (some 5) (ev (updL T [(0,.sl .sh (l.map encT)),(3,rowS Heap.nil acc),(4,.int .i64 ↑i)]) (.t 4))) (some 6) (ev (setD (updL T [(0,.sl .sh (l.map encT)),(3,rowS Heap.nil acc),(4,.int .i64 ↑i)]) (some 5) (ev (updL T [(0,.sl .sh (l.map encT)),(3,rowS Heap.nil acc),(4,.int .i64 ↑i)]) (.t 4))) (.t 0))) (some 7) (.int .i64 (↑l.length))) (some 8) (.bool (decide ((↑i:Int)<(↑l.length:Int))))) (some 30) (ev (setD (setD (setD (setD (updL T [(0,.sl .sh (l.map encT)),(3,rowS Heap.nil acc),(4,.int .i64 ↑i)]) (some 5) (ev (updL T [(0,.sl .sh (l.map encT)),(3,rowS Heap.nil acc),(4,.int .i64 ↑i)]) (.t 4))) (some 6) (ev (setD (updL T [(0,.sl .sh (l.map encT)),(3,rowS Heap.nil acc),(4,.int .i64 ↑i)]) (some 5) (ev (updL T [(0,.sl .sh (l.map encT)),(3,rowS Heap.nil acc),(4,.int .i64 ↑i)]) (.t 4))) (.t 0))) (some 7) (.int .i64 (↑l.length))) (some 8) (.bool (decide ((↑i:Int)<(↑l.length:Int))))) (.t 3))) (.t 30)) 2),rowH Heap.nil acc)) (by simp only[IsRet,List.map_nil,List.append_nil];rfl))
 |cons x post ih=>
  intro i acc hd ha hl T hT
  have hlt:=drop_lt hd
  have hnx:=drop_next hd
  exact gG 60 _ hT (.len (lM .sh encT l)<|.yes (dT ((↑i:Int)<(↑l.length:Int)) (by simp;omega))<|.idx (iR 3 encT hd)<|.load (rfl:loadA false 1 (rowH Heap.nil acc) (.ref [.str x.key])=some (.str x.key))<|.idx (iR 3 encT hd)<|.load (rfl:loadA false 1 (rowH Heap.nil acc) (.ref [.str x.val])=some (.str x.val))<|.idx (iR 3 encT hd)<|.load (rfl:loadA false 1 (rowH Heap.nil acc) (.ref [.bool x.hard])=some (.bool x.hard))<|.append (show appendA 3 40 (rowH Heap.nil acc) (rowS Heap.nil acc) (.sl .full [.agg [.str x.key,.str x.val,.bool x.hard]])=some ((rowS Heap.nil (acc++[AV.agg [.str x.key,.str x.val,.bool x.hard]]),rowH Heap.nil (acc++[AV.agg [.str x.key,.str x.val,.bool x.hard]])))from row_append (by omega) hl (by rfl) (by rfl))<|.bin (iI i)<|.cutQ k212_0 [(0,.sl .sh (l.map encT)),(3,rowS Heap.nil (acc++[AV.agg [.str x.key,.str x.val,.bool x.hard]])),(4,.int .i64 (↑(i+1)))] (rowH Heap.nil (acc++[AV.agg [.str x.key,.str x.val,.bool x.hard]])) (fun T hT=>(ih (i+1) (acc++[AV.agg [.str x.key,.str x.val,.bool x.hard]]) hnx (by simp;omega) (by exact lenOk_snoc (by assumption) rfl) T hT).to (by simp[encT,Taint.cells])))
theorem ofL_loop(l:List Tol)(hn:l.length≤20):∀(post:List Tol)(i:Nat)(acc:List AV)(hd:l.drop i=post)(ha:acc.length=i)(hl:lenOk 3 acc=true)(T:Env)(hT:Has T [(0,.sl .sh (l.map encL)),(3,rowS Heap.nil acc),(4,.int .i64 i)]),
 Goes cfg a199 k199_0 T (rowH Heap.nil acc) (IsRet (rowS Heap.nil (acc++post.map encL))):=by
 intro post
 induction post with
 |nil=>
  intro i acc hd ha hl T hT
  have hge:=drop_ge hd
  exact gG 60 _ hT (.len (lM .sh encL l)<|.no (dF ((↑i:Int)<(↑l.length:Int)))<|.fin ((.ret (setD (setD (setD (setD (setD (setD (updL T [(0,.sl .sh (l.map encL)),(3,rowS Heap.nil acc),(4,.int .i64 ↑i)]) (some 5) (ev (updL T [(0,.sl .sh (l.map encL)),(3,rowS Heap.nil acc),(4,.int .i64 ↑i)]) (.t 4))) (some 6) (ev (setD (updL T [(0,.sl .sh (l.map encL)),(3,rowS Heap.nil acc),(4,.int .i64 ↑i)]) (some 5) (ev (updL T [(0,.sl .sh (l.map encL)),(3,rowS Heap.nil acc),(4,.int .i64 ↑i)]) (.t 4))) (.t 0))) (some 7) (.int .i64 (↑l.length))) (some 8) (.bool (decide ((↑i:Int)<(↑l.length:Int))))) (some 30) (ev (setD (setD (setD (setD (updL T [(0,.sl .sh (l.map encL)),(3,rowS Heap.nil acc),(4,.int .i64 ↑i)]) (some 5) (ev (updL T [(0,.sl .sh (l.map encL)),(3,rowS Heap.nil acc),(4,.int .i64 ↑i)]) (.t 4))) (some 6) (ev (setD (updL T [(0,.sl .sh (l.map encL)),(3,rowS Heap.nil acc),(4,.int .i64 ↑i)]) (some 5) (ev (updL T [(0,.sl .sh (l.map encL)),(3,rowS Heap.nil acc),(4,.int .i64 ↑i)]) (.t 4))) (.t 0))) (some 7) (.int .i64 (↑l.length))) (some 8) (.bool (decide ((↑i:Int)<(↑l.length:Int))))) (.t 3))) (some 2) (ev (setD (setD (setD (setD (setD (updL T [(0,.sl .sh (l.map encL)),(3,rowS Heap.nil acc),(4,.int .i64 ↑i)]) (some 5) (ev (updL T [(0,.sl .sh (l.map encL)),(3,rowS Heap.nil acc),(4,.int .i64 ↑i)]) (.t 4))) (some 6) (ev (setD (updL T [(0,.sl .sh (l.map encL)),(3,rowS Heap.nil acc),(4,.int .i64 ↑i)]) (some 5) (ev (updL T [(0,.sl .sh (l.map encL)),(3,rowS Heap.nil acc),(4,.int .i64 ↑i)]) (.t 4))) (.t 0))) (some 7) (.int .i64 (↑l.length))) (some 8) (.bool (decide ((↑i:Int)<(↑l.length:Int))))) (some 30) (ev (setD (setD (setD (setD (updL T [(0,.sl .sh (l.map encL)),(3,rowS Heap.nil acc),(4,.int .i64 ↑i)]) (some 5) (ev (updL T [(0,.sl .sh (l.map encL)),(3,rowS Heap.nil acc),(4,.int .i64 ↑i)]) (.t 4))) (some 6) (ev (setD (updL T [(0,.sl .sh (l.map encL)),(3,rowS Heap.nil acc),(4,.int .i64 ↑i)]) (some 5) (ev (updL T [(0,.sl .sh (l.map encL)),(3,rowS Heap.nil acc),(4,.int .i64 ↑i)]) (.t 4))) (.t 0))) (some 7) (.int .i64 (↑l.length))) (some 8) (.bool (decide ((↑i:Int)<(↑l.length:Int))))) (.t 3))) (.t 30)) 2),rowH Heap.nil acc)) (by simp only[IsRet,List.map_nil,List.append_nil];rfl))
 |cons x post ih=>
  intro i acc hd ha hl T hT
  have hlt:=drop_lt hd
  have hnx:=drop_next hd
  exact gG 60 _ hT (.len (lM .sh encL l)<|.yes (dT ((↑i:Int)<(↑l.length:Int)) (by simp;omega))<|.idx (iR 3 encL hd)<|.load (rfl:loadA false 1 (rowH Heap.nil acc) (.ref [.str x.key])=some (.str x.key))<|.idx (iR 3 encL hd)<|.load (rfl:loadA false 1 (rowH Heap.nil acc) (.ref [.str x.val])=some (.str x.val))<|.idx (iR 3 encL hd)<|.load (rfl:loadA false 1 (rowH Heap.nil acc) (.ref [.bool x.any])=some (.bool x.any))<|.append (show appendA 3 40 (rowH Heap.nil acc) (rowS Heap.nil acc) (.sl .full [.agg [.str x.key,.str x.val,.bool x.any]])=some ((rowS Heap.nil (acc++[AV.agg [.str x.key,.str x.val,.bool x.any]]),rowH Heap.nil (acc++[AV.agg [.str x.key,.str x.val,.bool x.any]])))from row_append (by omega) hl (by rfl) (by rfl))<|.bin (iI i)<|.cutQ k199_0 [(0,.sl .sh (l.map encL)),(3,rowS Heap.nil (acc++[AV.agg [.str x.key,.str x.val,.bool x.any]])),(4,.int .i64 (↑(i+1)))] (rowH Heap.nil (acc++[AV.agg [.str x.key,.str x.val,.bool x.any]])) (fun T hT=>(ih (i+1) (acc++[AV.agg [.str x.key,.str x.val,.bool x.any]]) hnx (by simp;omega) (by exact lenOk_snoc (by assumption) rfl) T hT).to (by simp[encL,Tol.cells])))
theorem ofT_any(l:List Taint)(hn:l.length≤20):Gives cfg 212 [.sl .sh (l.map encT)] (rowS Heap.nil (l.map encT)):=by
 refine Gives.run (l212 _ _) ?_
 have h:=ofT_loop l hn l 0 [] rfl rfl rfl
 exact gG 60 [] trivial (.cutQ k212_0 [(0,.sl .sh (l.map encT)),(3,.sl .full []),(4,.int .i64 0)] ({boxes:=[],toks:=[],loops:=[]:Heap}) (fun T hT=>(h T hT)))
theorem ofL_any(l:List Tol)(hn:l.length≤20):Gives cfg 199 [.sl .sh (l.map encL)] (rowS Heap.nil (l.map encL)):=by
 refine Gives.run (l199 _ _) ?_
 have h:=ofL_loop l hn l 0 [] rfl rfl rfl
 exact gG 60 [] trivial (.cutQ k199_0 [(0,.sl .sh (l.map encL)),(3,.sl .full []),(4,.int .i64 0)] ({boxes:=[],toks:=[],loops:=[]:Heap}) (fun T hT=>(h T hT)))
def nameCh(c:UInt8):Bool:=(decide (97≤c.toNat)&&decide (c.toNat≤122))||(decide (48≤c.toNat)&&decide (c.toNat≤57))
def isName(s:List UInt8):Bool:=decide (1≤s.length)&&decide (s.length≤12)&&s.all nameCh
theorem name_loop(s:List UInt8)(hn:s.length≤12):∀(post:List UInt8)(i:Nat)(hd:s.drop i=post)(T:Env)(hT:Has T [(0,.str s),(3,.int .i64 i)]),
 Goes cfg a259 k259_0 T Heap.nil (IsRet (.bool (post.all nameCh))):=by
 intro post
 induction post with
 |nil=>
  intro i hd T hT
  have hge:=drop_ge hd
  exact gG 60 _ hT (.len (show lenA true (.str s)=some (.int .i64 (↑s.length))from len_str _)<|.no (dF ((↑i:Int)<(↑s.length:Int)))<|.fin ((.ret (.bool true),{boxes:=[],toks:=[],loops:=[]:Heap})) rfl)
 |cons x post ih=>
  intro i hd T hT
  have hlt:=drop_lt hd
  have hnx:=drop_next hd
  exact let ζ1:Heap:={boxes:=[],toks:=[],loops:=[]:Heap};gG 60 _ hT (.len (show lenA true (.str s)=some (.int .i64 (↑s.length))from len_str _)<|.yes (dT ((↑i:Int)<(↑s.length:Int)))<|.idxs (show idxsA (.str s) (.int .i64 ↑i)=some (.int .u8 (↑x.toNat))from idx_str hd)<|.split ((↑x.toNat:Int)<(97:Int)) (fun h1=>.yes (dT ((↑x.toNat:Int)<(97:Int)) h1)<|.tt<|.idxs (show idxsA (.str s) (.int .i64 ↑i)=some (.int .u8 (↑x.toNat))from idx_str hd)<|.split ((↑x.toNat:Int)<(48:Int)) (fun h2=>.yes (dT ((↑x.toNat:Int)<(48:Int)) h2)<|.tt<|.fin ((.ret (.bool false),ζ1)) (by simp only[IsRet];grind[nameCh])) (fun h2=>.no (dF ((↑x.toNat:Int)<(48:Int)) h2)<|.idxs (show idxsA (.str s) (.int .i64 ↑i)=some (.int .u8 (↑x.toNat))from idx_str hd)<|.split ((57:Int)<(↑x.toNat:Int)) (fun h3=>.yes (dT ((57:Int)<(↑x.toNat:Int)) h3)<|.fin ((.ret (.bool false),ζ1)) (by simp only[IsRet];grind[nameCh])) (fun h3=>.no (dF ((57:Int)<(↑x.toNat:Int)) h3)<|.bin (iI i)<|.cutQ k259_0 [(0,.str s),(3,.int .i64 (↑(i+1)))] (ζ1) (fun T hT=>(ih (i+1) hnx T hT).to (by grind[nameCh]))))) (fun h1=>.no (dF ((↑x.toNat:Int)<(97:Int)) h1)<|.idxs (show idxsA (.str s) (.int .i64 ↑i)=some (.int .u8 (↑x.toNat))from idx_str hd)<|.split ((122:Int)<(↑x.toNat:Int)) (fun h2=>.yes (dT ((122:Int)<(↑x.toNat:Int)) h2)<|.idxs (show idxsA (.str s) (.int .i64 ↑i)=some (.int .u8 (↑x.toNat))from idx_str hd)<|.no (dF ((↑x.toNat:Int)<(48:Int)))<|.idxs (show idxsA (.str s) (.int .i64 ↑i)=some (.int .u8 (↑x.toNat))from idx_str hd)<|.yes (dT ((57:Int)<(↑x.toNat:Int)))<|.fin ((.ret (.bool false),ζ1)) (by simp only[IsRet];grind[nameCh])) (fun h2=>.no (dF ((122:Int)<(↑x.toNat:Int)) h2)<|.ff<|.bin (iI i)<|.cutQ k259_0 [(0,.str s),(3,.int .i64 (↑(i+1)))] (ζ1) (fun T hT=>(ih (i+1) hnx T hT).to (by grind[nameCh])))))
theorem name_any(s:List UInt8):Gives cfg 259 [.str s] (.bool (isName s)):=by
 refine Gives.run (l259 _ _) ?_
 have h:=fun hn=>name_loop s hn s 0 rfl
 exact let ζ1:Heap:={boxes:=[],toks:=[],loops:=[]:Heap};gG 60 [] trivial (.len (show lenA true (.str s)=some (.int .i64 (↑s.length))from len_str _)<|.split ((↑s.length:Int)<(1:Int)) (fun h1=>.yes (dT ((↑s.length:Int)<(1:Int)) h1)<|.tt<|.fin ((.ret (.bool false),ζ1)) (by simp only[IsRet];grind[isName])) (fun h1=>.no (dF ((↑s.length:Int)<(1:Int)) h1)<|.len (show lenA true (.str s)=some (.int .i64 (↑s.length))from len_str _)<|.split ((12:Int)<(↑s.length:Int)) (fun h2=>.yes (dT ((12:Int)<(↑s.length:Int)) h2)<|.fin ((.ret (.bool false),ζ1)) (by simp only[IsRet];grind[isName])) (fun h2=>.no (dF ((12:Int)<(↑s.length:Int)) h2)<|.cutQ k259_0 [(0,.str s),(3,.int .i64 0)] (ζ1) (fun T hT=>(h (by omega) T hT).to (by grind[isName])))))
def noT:Taint:=⟨[],[],false⟩
def worstV(o:Option Taint):AV:=.tuple [encT (o.getD noT),.bool o.isSome]
end Go.Aa.T
set_option linter.unusedVariables false
set_option linter.unusedSimpArgs false
set_option maxRecDepth 100000
namespace Go.Aa.T
open Go.Aa Go.Proofs
def _root_.Go.Aa.ScrQ.callI{cfg:Cfg}{A:AFunc}{R:ARes×Heap→Prop}{ys:List AV}{g:FuncId}{v:AV}(h:Gives cfg g ys v)(s:ScrQ cfg A R)(hx:ys.map shut2=ys∧ys.all data2=true:=by exact⟨rfl,rfl⟩)(hv:shutA v=v∧isData v=true:=by exact⟨rfl,rfl⟩):ScrQ cfg A R:=.callG ys v h hx hv s
def _root_.Go.Aa.ScrQ.callK{cfg:Cfg}{A:AFunc}{R:ARes×Heap→Prop}(xs:List AV){ys:List AV}{g:FuncId}{v:AV}(w:AV)(h:Gives cfg g ys v)(s:ScrQ cfg A R)(hx:xs.map shut2=ys∧ys.all data2=true:=by exact⟨rfl,rfl⟩)(hv:shutA v=w∧isData w=true:=by exact⟨rfl,rfl⟩):ScrQ cfg A R:=.callG xs w h hx hv s
def same(x y:Taint):Bool:=decide (y.key=x.key)&&decide (y.val=x.val)
def ckTl(l:List Taint):Nat→List Taint→Int
 |_,[]=>0
 |i,x::post=>if isName x.key&&isName x.val then(if(l.take i).any (same x)then 6 else ckTl l (i+1) post)else 3
def ckT(l:List Taint):Int:=if l.length≤8 then ckTl l 0 l else 4
theorem ckT_loop(l:List Taint)(hn:l.length≤8):∀(post:List Taint)(i:Nat)(hd:l.drop i=post)(T:Env)(hT:Has T [(0,.sl .sh (l.map encT)),(3,.int .i64 i)]),
 Goes cfg a262 k262_0 T Heap.nil (IsRet (.int .i64 (ckTl l i post))):=by
 intro post
 induction post with
 |nil=>
  intro i hd T hT
  have hge:=drop_ge hd
  exact gG 60 _ hT (.len (lM .sh encT l)<|.no (dF ((↑i:Int)<(↑l.length:Int)))<|.fin ((.ret (.int .i64 0),{boxes:=[],toks:=[],loops:=[]:Heap})) rfl)
 |cons x post ih=>
  intro i hd T hT
  have hlt:=drop_lt hd
  have hnx:=drop_next hd
  have hx:=drop_at hd
  have inner:∀(q:List Taint)(k:Nat)(hk:(l.take i).drop k=q)(T:Env)(hT:Has T [(0,.sl .sh (l.map encT)),(3,.int .i64 i),(4,.int .i64 k)]),
   Goes cfg a262 k262_1 T Heap.nil (IsRet (.int .i64 (if q.any (same x)then 6 else ckTl l (i+1) post))):=by
   intro q
   induction q with
   |nil=>
    intro k hk T hT
    have hge:i≤k:=by have:=drop_ge hk;simp at this;omega
    exact gG 60 _ hT (.no (dF ((↑k:Int)<(↑i:Int)))<|.bin (iI i)<|.cutQ k262_0 [(0,.sl .sh (l.map encT)),(3,.int .i64 (↑(i+1)))] ({boxes:=[],toks:=[],loops:=[]:Heap}) (fun T hT=>(ih (i+1) hnx T hT)))
   |cons y q ih2=>
    intro k hk T hT
    have hlt2:k<i:=by have:=drop_lt hk;simp at this;omega
    have hnx2:=drop_next hk
    have hy:l[k]?=some y:=by have:=drop_at hk;rw[List.getElem?_take]at this;simpa[hlt2]using this
    exact let ζ1:Heap:={boxes:=[],toks:=[],loops:=[]:Heap};gG 60 _ hT (.yes (dT ((↑k:Int)<(↑i:Int)))<|.idx (show idxA 3 (.sl .sh (l.map encT)) (.int .i64 ↑k)=some (.ref (encT y).cells)from idx_get hy (by rfl))<|.idx (iR 3 encT hd)<|.split ((y.key==x.key)=true) (fun h1=>.yes (show(y.key==x.key)=true from h1)<|.idx (show idxA 3 (.sl .sh (l.map encT)) (.int .i64 ↑k)=some (.ref (encT y).cells)from idx_get hy (by rfl))<|.idx (iR 3 encT hd)<|.split ((y.val==x.val)=true) (fun h2=>.yes (show(y.val==x.val)=true from h2)<|.fin ((.ret (.int .i64 6),ζ1)) (by simp only[IsRet];grind[same])) (fun h2=>.no (show(y.val==x.val)=false from Bool.eq_false_iff.2 h2)<|.bin (iI k)<|.cutQ k262_1 [(0,.sl .sh (l.map encT)),(3,.int .i64 ↑i),(4,.int .i64 (↑(k+1):Int))] (ζ1) (fun T hT=>(ih2 (k+1) hnx2 T hT).to (by grind[same])))) (fun h1=>.no (show(y.key==x.key)=false from Bool.eq_false_iff.2 h1)<|.ff<|.bin (iI k)<|.cutQ k262_1 [(0,.sl .sh (l.map encT)),(3,.int .i64 ↑i),(4,.int .i64 (↑(k+1):Int))] (ζ1) (fun T hT=>(ih2 (k+1) hnx2 T hT).to (by grind[same]))))
  have inner0:=inner (l.take i) 0 rfl
  exact let ζ1:Heap:={boxes:=[],toks:=[],loops:=[]:Heap};gG 60 _ hT (.len (lM .sh encT l)<|.yes (dT ((↑i:Int)<(↑l.length:Int)))<|.idx (iR 3 encT hd)<|.callK ([.str x.key]) (.bool (isName x.key)) (show Gives cfg 259 [.str x.key] (.bool (isName x.key))from name_any _)<|.split (isName x.key=true) (fun h1=>.no (show(!isName x.key)=false from by have hh:isName x.key=true:=h1;simp[hh])<|.idx (iR 3 encT hd)<|.callK ([.str x.val]) (.bool (isName x.val)) (show Gives cfg 259 [.str x.val] (.bool (isName x.val))from name_any _)<|.split (isName x.val=true) (fun h2=>.no (show(!isName x.val)=false from by have hh:isName x.val=true:=h2;simp[hh])<|.cutQ k262_1 [(0,.sl .sh (l.map encT)),(3,.int .i64 ↑i),(4,.int .i64 0)] (ζ1) (fun T hT=>(inner0 T hT).to (by grind[ckTl]))) (fun h2=>.yes (show(!isName x.val)=true from by have hh:¬(isName x.val=true):=h2;simp[hh])<|.fin ((.ret (.int .i64 3),ζ1)) (by simp only[IsRet];grind[ckTl]))) (fun h1=>.yes (show(!isName x.key)=true from by have hh:¬(isName x.key=true):=h1;simp[hh])<|.tt<|.fin ((.ret (.int .i64 3),ζ1)) (by simp only[IsRet];grind[ckTl])))
theorem ckT_any(l:List Taint):Gives cfg 262 [.sl .sh (l.map encT)] (.int .i64 (ckT l)):=by
 refine Gives.run (l262 _ _) ?_
 have h:=fun hn=>ckT_loop l hn l 0 rfl
 exact let ζ1:Heap:={boxes:=[],toks:=[],loops:=[]:Heap};gG 60 [] trivial (.len (lM .sh encT l)<|.split ((8:Int)<(↑l.length:Int)) (fun h1=>.yes (dT ((8:Int)<(↑l.length:Int)) h1)<|.fin ((.ret (.int .i64 4),ζ1)) (by simp only[IsRet];grind[ckT])) (fun h1=>.no (dF ((8:Int)<(↑l.length:Int)) h1)<|.cutQ k262_0 [(0,.sl .sh (l.map encT)),(3,.int .i64 0)] (ζ1) (fun T hT=>(h (by omega) T hT).to (by grind[ckT]))))
def okL(x:Tol):Bool:=(decide (x.key=[])||isName x.key)&&(if x.any then decide (x.val=[])else isName x.val)
def ckL(l:List Tol):Int:=if l.length≤8 then(if l.all okL then 0 else 3)else 4
theorem ckL_loop(l:List Tol)(hn:l.length≤8):∀(post:List Tol)(i:Nat)(bs:List (List AV))(hd:l.drop i=post)(T:Env)(hT:Has T [(0,.sl .sh (l.map encL)),(3,.int .i64 i)]),
 Goes cfg a264 k264_0 T ⟨bs,[],[]⟩ (IsRet (.int .i64 (if post.all okL then 0 else 3))):=by
 intro post
 induction post with
 |nil=>
  intro i bs hd T hT
  have hge:=drop_ge hd
  exact gG 60 _ hT (.len (lM .sh encL l)<|.no (dF ((↑i:Int)<(↑l.length:Int)))<|.fin ((.ret (.int .i64 0),{boxes:=bs,toks:=[],loops:=[]:Heap})) rfl)
 |cons x post ih=>
  intro i bs hd T hT
  have hlt:=drop_lt hd
  have hnx:=drop_next hd
  exact let ζ2:List AV:=[.str x.key,.str x.val,.bool x.any];let ζ1:Heap:={boxes:=bs++[ζ2],toks:=[],loops:=[]:Heap};gG 60 _ hT (.len (lM .sh encL l)<|.yes (dT ((↑i:Int)<(↑l.length:Int)))<|.idx (iR 3 encL hd)<|.load (rfl:loadA true 3 {boxes:=bs,toks:=[],loops:=[]:Heap} (.ref ζ2)=some (.agg ζ2))<|.store (show storeA 3 {boxes:=bs++[[AV.str [],.str [],.bool false]],toks:=[],loops:=[]:Heap} (.ptr bs.length 0) (.agg ζ2)=some (ζ1)from store_box2 (cs:=[.str [],.str [],.bool false]) (cs':=ζ2) (by simp+zetaDelta) rfl (by simp+zetaDelta [List.set_append]))<|.load (lB false 1 ζ1 bs.length 0 (.str x.key) ζ2)<|.split ((x.key==[])=true) (fun h1=>.no (show(!x.key==[])=false from by have hh:(x.key==[])=true:=h1;simp[hh])<|.ff<|.load (lB false 1 ζ1 bs.length 2 (.bool x.any) ζ2)<|.split (x.any=true) (fun h2=>.yes (show(x.any)=true from h2)<|.load (lB false 1 ζ1 bs.length 1 (.str x.val) ζ2)<|.split ((x.val==[])=true) (fun h3=>.no (show(!x.val==[])=false from by have hh:(x.val==[])=true:=h3;simp[hh])<|.load (lB false 1 ζ1 bs.length 2 (.bool x.any) ζ2)<|.no (show(!x.any)=false from by have hh:x.any=true:=(by omega);simp[hh])<|.ff<|.bin (iI i)<|.cutQ k264_0 [(0,.sl .sh (l.map encL)),(3,.int .i64 (↑(i+1)))] (ζ1) (fun T hT=>(ih (i+1) (bs++[ζ2]) hnx T hT).to (by grind[okL]))) (fun h3=>.yes (show(!x.val==[])=true from by have hh:¬((x.val==[])=true):=h3;simp[hh])<|.tt<|.fin ((.ret (.int .i64 3),ζ1)) (by simp only[IsRet];grind[okL]))) (fun h2=>.no (show(x.any)=false from Bool.eq_false_iff.2 h2)<|.ff<|.load (lB false 1 ζ1 bs.length 2 (.bool x.any) ζ2)<|.yes (show(!x.any)=true from by have hh:¬(x.any=true):=(by omega);simp[hh])<|.load (lB false 1 ζ1 bs.length 1 (.str x.val) ζ2)<|.callK ([.str x.val]) (.bool (isName x.val)) (show Gives cfg 259 [.str x.val] (.bool (isName x.val))from name_any _)<|.split (isName x.val=true) (fun h3=>.no (show(!isName x.val)=false from by have hh:isName x.val=true:=h3;simp[hh])<|.bin (iI i)<|.cutQ k264_0 [(0,.sl .sh (l.map encL)),(3,.int .i64 (↑(i+1)))] (ζ1) (fun T hT=>(ih (i+1) (bs++[ζ2]) hnx T hT).to (by grind[okL]))) (fun h3=>.yes (show(!isName x.val)=true from by have hh:¬(isName x.val=true):=h3;simp[hh])<|.fin ((.ret (.int .i64 3),ζ1)) (by simp only[IsRet];grind[okL])))) (fun h1=>.yes (show(!x.key==[])=true from by have hh:¬((x.key==[])=true):=h1;simp[hh])<|.load (lB false 1 ζ1 bs.length 0 (.str x.key) ζ2)<|.callK ([.str x.key]) (.bool (isName x.key)) (show Gives cfg 259 [.str x.key] (.bool (isName x.key))from name_any _)<|.split (isName x.key=true) (fun h2=>.no (show(!isName x.key)=false from by have hh:isName x.key=true:=h2;simp[hh])<|.load (lB false 1 ζ1 bs.length 2 (.bool x.any) ζ2)<|.split (x.any=true) (fun h3=>.yes (show(x.any)=true from h3)<|.load (lB false 1 ζ1 bs.length 1 (.str x.val) ζ2)<|.split ((x.val==[])=true) (fun h4=>.no (show(!x.val==[])=false from by have hh:(x.val==[])=true:=h4;simp[hh])<|.load (lB false 1 ζ1 bs.length 2 (.bool x.any) ζ2)<|.no (show(!x.any)=false from by have hh:x.any=true:=(by omega);simp[hh])<|.ff<|.bin (iI i)<|.cutQ k264_0 [(0,.sl .sh (l.map encL)),(3,.int .i64 (↑(i+1)))] (ζ1) (fun T hT=>(ih (i+1) (bs++[ζ2]) hnx T hT).to (by grind[okL]))) (fun h4=>.yes (show(!x.val==[])=true from by have hh:¬((x.val==[])=true):=h4;simp[hh])<|.tt<|.fin ((.ret (.int .i64 3),ζ1)) (by simp only[IsRet];grind[okL]))) (fun h3=>.no (show(x.any)=false from Bool.eq_false_iff.2 h3)<|.ff<|.load (lB false 1 ζ1 bs.length 2 (.bool x.any) ζ2)<|.yes (show(!x.any)=true from by have hh:¬(x.any=true):=(by omega);simp[hh])<|.load (lB false 1 ζ1 bs.length 1 (.str x.val) ζ2)<|.callK ([.str x.val]) (.bool (isName x.val)) (show Gives cfg 259 [.str x.val] (.bool (isName x.val))from name_any _)<|.split (isName x.val=true) (fun h4=>.no (show(!isName x.val)=false from by have hh:isName x.val=true:=h4;simp[hh])<|.bin (iI i)<|.cutQ k264_0 [(0,.sl .sh (l.map encL)),(3,.int .i64 (↑(i+1)))] (ζ1) (fun T hT=>(ih (i+1) (bs++[ζ2]) hnx T hT).to (by grind[okL]))) (fun h4=>.yes (show(!isName x.val)=true from by have hh:¬(isName x.val=true):=h4;simp[hh])<|.fin ((.ret (.int .i64 3),ζ1)) (by simp only[IsRet];grind[okL])))) (fun h2=>.yes (show(!isName x.key)=true from by have hh:¬(isName x.key=true):=h2;simp[hh])<|.tt<|.tt<|.fin ((.ret (.int .i64 3),ζ1)) (by simp only[IsRet];grind[okL]))))
theorem ckL_any(l:List Tol):Gives cfg 264 [.sl .sh (l.map encL)] (.int .i64 (ckL l)):=by
 refine Gives.run (l264 _ _) ?_
 have h:=fun hn=>ckL_loop l hn l 0 [] rfl
 exact let ζ1:Heap:={boxes:=[],toks:=[],loops:=[]:Heap};gG 60 [] trivial (.len (lM .sh encL l)<|.split ((8:Int)<(↑l.length:Int)) (fun h1=>.yes (dT ((8:Int)<(↑l.length:Int)) h1)<|.fin ((.ret (.int .i64 4),ζ1)) (by simp only[IsRet];grind[ckL])) (fun h1=>.no (dF ((8:Int)<(↑l.length:Int)) h1)<|.cutQ k264_0 [(0,.sl .sh (l.map encL)),(3,.int .i64 0)] (ζ1) (fun T hT=>(h (by omega) T hT).to (by grind[ckL]))))
end Go.Aa.T
set_option linter.unusedVariables false
set_option linter.unusedSimpArgs false
set_option maxRecDepth 100000
namespace Go.Aa.T
open Go.Aa Go.Proofs
def alnum:List UInt8:=[97,98,99,100,101,102,103,104,105,106,107,108,109,110,111,112,113,114,115,116,117,118,119,120,121,122,48,49,50,51,52,53,54,55,56,57]
theorem alnum_ch(c:UInt8):alnum.contains c=nameCh c:=by
 have:∀n:Fin 256,alnum.contains (UInt8.ofNat n.val)=nameCh (UInt8.ofNat n.val):=by decide+kernel
 have h:=this ⟨c.toNat,c.toNat_lt⟩
 simpa using h
theorem dropWhile_nil{p:UInt8→Bool}:∀{l:List UInt8},l.dropWhile p=[]↔l.all p=true
 |[]=>by simp
 |c::l=>by
  by_cases h:p c=true
  ·simp[List.dropWhile_cons,h,dropWhile_nil]
  ·simp[List.dropWhile_cons,h]
theorem trim_nil(s:List UInt8):Lib.trimS s alnum=[]↔s.all nameCh=true:=by
 have hp:(fun c=>alnum.contains c)=nameCh:=funext alnum_ch
 unfold Lib.trimS Lib.trimLeftS Lib.trimRightS
 rw[hp,dropWhile_nil,List.all_reverse]
 constructor
 ·intro h
  have e:=List.takeWhile_append_dropWhile (p:=nameCh) (l:=s.reverse)
  have:s.reverse.all nameCh=true:=by
   rw[←e,List.all_append,h,Bool.and_true]
   exact List.all_takeWhile
  rwa [List.all_reverse]at this
 ·intro h
  have:s.reverse.dropWhile nameCh=[]:=dropWhile_nil.2 (by rwa [List.all_reverse])
  rw[this];rfl
theorem trim_any(s:List UInt8)(h:s.length≤9223372036854775807):Gives cfg 279 [.str s,.str alnum] (.str (Lib.trimS s alnum)):=by
 refine Gives.of (H':=Heap.nil) ?_
 rw[lim_ext (g:=trimE) rfl rfl]
 have:trimE [.str s,.str alnum] Heap.nil=some (.str (Lib.trimS s alnum),Heap.nil):=if_pos ⟨h,by decide,by decide⟩
 rw[this];rfl
theorem res_name(s:List UInt8):Gives cfg 235 [.str s] (.bool (isName s)):=by
 refine Gives.run (l235 _ _) ?_
 have ht:=trim_nil s
 exact let ζ1:Heap:={boxes:=[],toks:=[],loops:=[]:Heap};gG 60 [] trivial (.len (show lenA true (.str s)=some (.int .i64 (↑s.length))from len_str _)<|.split ((1:Int)≤(↑s.length:Int)) (fun h1=>.yes (dT ((1:Int)≤(↑s.length:Int)) h1)<|.len (show lenA true (.str s)=some (.int .i64 (↑s.length))from len_str _)<|.split ((↑s.length:Int)≤(12:Int)) (fun h2=>.yes (dT ((↑s.length:Int)≤(12:Int)) h2)<|.callK ([.str s,.str [(97:UInt8),(98:UInt8),(99:UInt8),(100:UInt8),(101:UInt8),(102:UInt8),(103:UInt8),(104:UInt8),(105:UInt8),(106:UInt8),(107:UInt8),(108:UInt8),(109:UInt8),(110:UInt8),(111:UInt8),(112:UInt8),(113:UInt8),(114:UInt8),(115:UInt8),(116:UInt8),(117:UInt8),(118:UInt8),(119:UInt8),(120:UInt8),(121:UInt8),(122:UInt8),(48:UInt8),(49:UInt8),(50:UInt8),(51:UInt8),(52:UInt8),(53:UInt8),(54:UInt8),(55:UInt8),(56:UInt8),(57:UInt8)]]) (.str (Lib.trimS s alnum)) (show Gives cfg 279 [.str s,.str alnum] (.str (Lib.trimS s alnum))from trim_any _ (by omega))<|.fin ((.ret (.bool (Lib.trimS s alnum==[])),ζ1)) (by simp only[IsRet];grind[isName])) (fun h2=>.no (dF ((↑s.length:Int)≤(12:Int)) h2)<|.fin ((.ret (.bool false),ζ1)) (by simp only[IsRet];grind[isName]))) (fun h1=>.no (dF ((1:Int)≤(↑s.length:Int)) h1)<|.ff<|.fin ((.ret (.bool false),ζ1)) (by simp only[IsRet];grind[isName])))
end Go.Aa.T
