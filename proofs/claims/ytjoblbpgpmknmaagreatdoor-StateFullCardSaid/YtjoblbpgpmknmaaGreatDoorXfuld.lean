/-
  WHAT THE LAW LEANS ON, part 4 of 8: a machine of values and its soundness; the functions of the law upon it; what they come to.
-/
import Derived.Test.YtjoblbpgpmknmaaGreatDoorXfulc
import Derived.Test.YtjoblbpgpmknmaaGreatDoorProg
set_option linter.unusedVariables false
set_option maxRecDepth 100000
namespace Go.Aa.T
open Go.Aa
def mV(d s:Nat):AOper:=⟨some d,.mov (.t s),none,[]⟩
def oP(d:Nat)(p:AOp):AOper:=⟨some d,p,none,[]⟩
def b11_0:ACode:=(.seq (.seq (.region [mV 31 9,oP 32 (.bin .lss (.t 31) (.c (.int .i64 70)))] false) (.cond (.t 32) .skip (.exit 0))) (.seq (.block 1 (.seq (.region [mV 35 9,oP 36 (.bin .quo (.t 35) (.c (.int .i64 26))),oP 37 (.bin .add (.c (.int .i64 97)) (.t 36)),oP 38 (.conv (.int .u8) (.t 37)),mV 39 9,oP 40 (.bin .rem (.t 39) (.c (.int .i64 26))),oP 41 (.bin .add (.c (.int .i64 97)) (.t 40)),oP 42 (.conv (.int .u8) (.t 41)),oP 43 (.bslice 1 [(.t 38),(.t 42)]),oP 44 (.conv .bytes (.t 43)),oP 45 (.bin .add (.c (.str [112])) (.t 44)),mV 46 6,oP 47 (.call (.c (.func 55 [])) [(.t 45),(.t 46),(.c (.str [97]))]),oP 10 (.box (.c (.agg [(.str []),(.str []),(.int .i64 0),(.sl .full []),(.sl .full []),(.sl .full []),(.sl .full []),(.str []),(.int .i64 0),(.str []),(.bool false)]))),⟨none,.store 11 (.t 10) (.t 47),none,[]⟩] false) (.seq (.region [oP 48 (.load true 3 (.t 7)),oP 49 (.load true 11 (.t 10)),oP 50 (.call (.c (.func 45 [])) [(.t 48),(.t 49)]),oP 11 (.box (.c (.agg [(.sl .full []),(.sl .full []),(.sl .full [])]))),⟨none,.store 3 (.t 11) (.t 50),none,[]⟩] false) (.seq (.region [oP 51 (.load true 3 (.t 11)),oP 52 (.call (.c (.func 32 [])) [(.t 51)]),mV 12 52] false) (.seq (.seq (.region [mV 53 8,oP 54 (.bin .add (.t 53) (.c (.int .i64 1))),mV 55 6,oP 56 (.bin .mul (.t 54) (.t 55)),mV 57 5,oP 58 (.bin .gtr (.t 56) (.t 57))] false) (.cond (.t 58) (.seq (.region [mV 59 12,oP 60 (.bin .eql (.t 59) (.c (.int .i64 7))),mV 4 60] false) .ret) .skip)) (.seq (.seq (.region [mV 61 12,oP 62 (.bin .neq (.t 61) (.c (.int .i64 0)))] false) (.cond (.t 62) (.seq (.region [oP 4 (.mov (.c (.bool false)))] false) .ret) .skip)) (.seq (.region [oP 63 (.load true 3 (.t 11)),⟨none,.store 3 (.t 7) (.t 63),none,[]⟩] false) (.region [mV 64 8,oP 65 (.bin .add (.t 64) (.c (.int .i64 1))),mV 8 65] false)))))))) (.region [mV 33 9,oP 34 (.bin .add (.t 33) (.c (.int .i64 1))),mV 9 34] false)))
def c11:ACode:=(.seq (.region [oP 4 (.mov (.c (.bool false)))] false) (.seq (.seq (.region [oP 13 (.call (.c (.func 29 [])) []),oP 14 (.un .not (.t 13))] false) (.cond (.t 14) (.seq (.region [oP 4 (.mov (.c (.bool false)))] false) .ret) .skip)) (.seq (.region [mV 15 0,oP 16 (.bin .rem (.t 15) (.c (.int .u8 60))),oP 17 (.conv (.int .i64) (.t 16)),oP 18 (.bin .add (.c (.int .i64 1)) (.t 17)),mV 5 18] false) (.seq (.region [mV 19 1,oP 20 (.bin .rem (.t 19) (.c (.int .u8 9))),oP 21 (.conv (.int .i64) (.t 20)),oP 22 (.bin .add (.c (.int .i64 1)) (.t 21)),mV 6 22] false) (.seq (.region [oP 23 (.build [(.sl .full []),(.sl .full []),(.sl .full [])] [(0,1,(.c (.sl .full [])))]),oP 7 (.box (.c (.agg [(.sl .full []),(.sl .full []),(.sl .full [])]))),⟨none,.store 3 (.t 7) (.t 23),none,[]⟩] false) (.seq (.region [oP 24 (.fld 0 1 (.t 7)),⟨some 25,.load false 1 (.t 24),none,[0]⟩,mV 26 5,⟨some 27,.call (.c (.func 54 [])) [(.c (.str [97])),(.t 26)],none,[2]⟩,⟨some 28,.bslice 5 [(.t 27)],none,[2,3]⟩,⟨some 29,.append 5 96 (.t 25) (.t 28),none,[3,2,4,0,1]⟩,⟨some 30,.fld 0 1 (.t 7),none,[5,4,3,2,1,0]⟩,⟨none,.store 1 (.t 30) (.t 29),none,[0,1,2,3,4,5,6]⟩] true) (.seq (.region [oP 8 (.mov (.c (.int .i64 0)))] false) (.seq (.seq (.region [oP 9 (.mov (.c (.int .i64 0)))] false) (.block 0 (.loop b11_0))) (.seq (.region [oP 4 (.mov (.c (.bool false)))] false) .ret)))))))))
def a11:AFunc:={results:=[.tmp 4],body:=c11}
def c27:ACode:=(.seq (.region [oP 2 (.box (.t 0)),oP 3 (.box (.t 1)),oP 4 (.box (.c (.agg [(.sl .full []),(.sl .full []),(.sl .full [])])))] false) (.seq (.region [oP 5 (.fld 1 1 (.t 2)),oP 6 (.load false 1 (.t 5)),oP 7 (.callM (.c (.func 90 [])) [(.t 6)]),oP 8 (.mkfunc 91 [(.t 3)]),oP 9 (.callM (.c (.func 89 [])) [(.t 7),(.t 8)]),oP 10 (.fld 1 1 (.t 2)),⟨none,.store 1 (.t 10) (.t 9),none,[]⟩] false) (.seq (.region [oP 11 (.load true 3 (.t 2)),⟨none,.store 3 (.t 4) (.t 11),none,[]⟩] false) .ret)))
def a27:AFunc:={results:=[.cell 4 true 3],body:=c27}
def c29:ACode:=(.seq (.region [oP 0 (.mov (.c (.bool false)))] false) (.seq (.region [oP 14 (.call (.c (.func 54 [])) [(.c (.str [97])),(.c (.int .i64 10))]),oP 15 (.call (.c (.func 54 [])) [(.c (.str [98])),(.c (.int .i64 5))]),oP 16 (.bslice 5 [(.t 14),(.t 15)]),oP 17 (.call (.c (.func 55 [])) [(.c (.str [120])),(.c (.int .i64 3)),(.c (.str [97]))]),oP 18 (.call (.c (.func 55 [])) [(.c (.str [121])),(.c (.int .i64 4)),(.c (.str [97]))]),oP 19 (.bslice 11 [(.t 17),(.t 18)]),oP 20 (.build [(.sl .full []),(.sl .full []),(.sl .full [])] [(0,1,(.t 16)),(1,1,(.t 19))]),oP 1 (.box (.c (.agg [(.sl .full []),(.sl .full []),(.sl .full [])]))),⟨none,.store 3 (.t 1) (.t 20),none,[]⟩] false) (.seq (.region [oP 22 (.load true 3 (.t 1)),oP 23 (.call (.c (.func 33 [])) [(.t 22),(.c (.str [97]))]),mV 21 23,oP 24 (.extract (.t 21) 0),oP 25 (.extract (.t 21) 1),mV 2 24,mV 3 25] false) (.seq (.region [oP 27 (.load true 3 (.t 1)),oP 28 (.call (.c (.func 37 [])) [(.t 27),(.c (.str [97]))]),mV 26 28,oP 29 (.extract (.t 26) 0),oP 30 (.extract (.t 26) 1),mV 4 29,mV 5 30] false) (.seq (.region [oP 32 (.load true 3 (.t 1)),oP 33 (.call (.c (.func 39 [])) [(.t 32)]),mV 31 33,oP 34 (.extract (.t 31) 0),oP 35 (.extract (.t 31) 1),mV 6 34,mV 7 35] false) (.seq (.region [oP 37 (.load true 3 (.t 1)),oP 38 (.call (.c (.func 33 [])) [(.t 37),(.c (.str [99]))]),mV 36 38,oP 39 (.extract (.t 36) 0),oP 40 (.extract (.t 36) 1),mV 8 39,mV 9 40] false) (.seq (.region [oP 41 (.load true 3 (.t 1)),oP 42 (.call (.c (.func 48 [])) [(.t 41),(.c (.str [121])),(.c (.str [98]))]),oP 10 (.box (.c (.agg [(.sl .full []),(.sl .full []),(.sl .full [])]))),⟨none,.store 3 (.t 10) (.t 42),none,[]⟩] false) (.seq (.region [oP 43 (.load true 3 (.t 1)),oP 44 (.call (.c (.func 55 [])) [(.c (.str [122])),(.c (.int .i64 4)),(.c (.str [97]))]),⟨some 45,.call (.c (.func 45 [])) [(.t 43),(.t 44)],none,[1,0]⟩,oP 11 (.box (.c (.agg [(.sl .full []),(.sl .full []),(.sl .full [])]))),⟨none,.store 3 (.t 11) (.t 45),none,[0,1,2,3]⟩] true) (.seq (.region [oP 46 (.load true 3 (.t 10)),oP 47 (.call (.c (.func 41 [])) [(.t 46),(.c (.str [97]))]),mV 12 47] false) (.seq (.region [oP 48 (.load true 3 (.t 1)),oP 49 (.call (.c (.func 27 [])) [(.t 48),(.c (.str [120]))]),oP 13 (.box (.c (.agg [(.sl .full []),(.sl .full []),(.sl .full [])]))),⟨none,.store 3 (.t 13) (.t 49),none,[]⟩] false) (.seq (.region [mV 50 3,mV 51 5,oP 52 (.bin .add (.t 50) (.t 51)),mV 53 7,oP 54 (.bin .add (.t 52) (.t 53)),oP 55 (.bin .eql (.t 54) (.c (.int .i64 0))),mV 56 55,⟨some 57,.mov (.t 2),some (56,true),[]⟩,⟨some 58,.call (.c (.func 57 [])) [(.t 57),(.c (.str [99,112,117]))],some (56,true),[]⟩,⟨some 59,.bin .eql (.t 58) (.c (.int .i64 7)),some (56,true),[]⟩,oP 60 (.pick (.t 56) (.t 59) (.c (.bool false))),mV 61 60,⟨some 62,.mov (.t 4),some (61,true),[]⟩,⟨some 63,.call (.c (.func 57 [])) [(.t 62),(.c (.str [99,112,117]))],some (61,true),[]⟩,⟨some 64,.bin .eql (.t 63) (.c (.int .i64 3)),some (61,true),[]⟩,oP 65 (.pick (.t 61) (.t 64) (.c (.bool false))),mV 66 65,⟨some 67,.mov (.t 6),some (66,true),[]⟩,⟨some 68,.call (.c (.func 57 [])) [(.t 67),(.c (.str [99,112,117]))],some (66,true),[]⟩,⟨some 69,.bin .eql (.t 68) (.c (.int .i64 15)),some (66,true),[]⟩,oP 70 (.pick (.t 66) (.t 69) (.c (.bool false))),mV 71 70,⟨some 72,.mov (.t 9),some (71,true),[]⟩,⟨some 73,.bin .eql (.t 72) (.c (.int .i64 3)),some (71,true),[]⟩,oP 74 (.pick (.t 71) (.t 73) (.c (.bool false))),mV 75 74,⟨some 76,.load true 3 (.t 1),some (75,true),[]⟩,⟨some 77,.call (.c (.func 32 [])) [(.t 76)],some (75,true),[]⟩,⟨some 78,.bin .eql (.t 77) (.c (.int .i64 0)),some (75,true),[]⟩,oP 79 (.pick (.t 75) (.t 78) (.c (.bool false))),mV 80 79,⟨some 81,.load true 3 (.t 11),some (80,true),[]⟩,⟨some 82,.call (.c (.func 32 [])) [(.t 81)],some (80,true),[]⟩,⟨some 83,.bin .eql (.t 82) (.c (.int .i64 7)),some (80,true),[]⟩,oP 84 (.pick (.t 80) (.t 83) (.c (.bool false))),mV 85 84,⟨some 86,.fld 1 1 (.t 11),some (85,true),[]⟩,⟨some 87,.load false 1 (.t 86),some (85,true),[]⟩,⟨some 88,.len false (.t 87),some (85,true),[]⟩,⟨some 89,.bin .eql (.t 88) (.c (.int .i64 3)),some (85,true),[]⟩,oP 90 (.pick (.t 85) (.t 89) (.c (.bool false))),mV 91 90,⟨some 92,.mov (.t 12),some (91,true),[]⟩,⟨some 93,.len false (.t 92),some (91,true),[]⟩,⟨some 94,.bin .eql (.t 93) (.c (.int .i64 1)),some (91,true),[]⟩,oP 95 (.pick (.t 91) (.t 94) (.c (.bool false))),mV 96 95,⟨some 97,.mov (.t 12),some (96,true),[]⟩,⟨some 98,.idx 11 (.t 97) (.c (.int .i64 0)),some (96,true),[]⟩,⟨some 99,.fld 0 1 (.t 98),some (96,true),[]⟩,⟨some 100,.load false 1 (.t 99),some (96,true),[]⟩,⟨some 101,.bin .eql (.t 100) (.c (.str [120])),some (96,true),[]⟩,oP 102 (.pick (.t 96) (.t 101) (.c (.bool false))),mV 103 102,⟨some 104,.fld 1 1 (.t 13),some (103,true),[]⟩,⟨some 105,.load false 1 (.t 104),some (103,true),[]⟩,⟨some 106,.len false (.t 105),some (103,true),[]⟩,⟨some 107,.bin .eql (.t 106) (.c (.int .i64 1)),some (103,true),[]⟩,oP 108 (.pick (.t 103) (.t 107) (.c (.bool false))),mV 109 108,⟨some 110,.fld 1 1 (.t 1),some (109,true),[]⟩,⟨some 111,.load false 1 (.t 110),some (109,true),[]⟩,⟨some 112,.len false (.t 111),some (109,true),[]⟩,⟨some 113,.bin .eql (.t 112) (.c (.int .i64 2)),some (109,true),[]⟩,oP 114 (.pick (.t 109) (.t 113) (.c (.bool false))),mV 115 114,⟨some 116,.fld 1 1 (.t 1),some (115,true),[]⟩,⟨some 117,.load false 1 (.t 116),some (115,true),[]⟩,⟨some 118,.idx 11 (.t 117) (.c (.int .i64 1)),some (115,true),[]⟩,⟨some 119,.fld 9 1 (.t 118),some (115,true),[]⟩,⟨some 120,.load false 1 (.t 119),some (115,true),[]⟩,⟨some 121,.bin .eql (.t 120) (.c (.str [97])),some (115,true),[]⟩,oP 122 (.pick (.t 115) (.t 121) (.c (.bool false))),mV 123 122,⟨some 124,.load true 3 (.t 1),some (123,true),[]⟩,⟨some 125,.load true 3 (.t 1),some (123,true),[]⟩,⟨some 126,.call (.c (.func 50 [])) [(.t 124),(.t 125)],some (123,true),[]⟩,oP 127 (.pick (.t 123) (.t 126) (.c (.bool false))),mV 128 127,⟨some 129,.load true 3 (.t 1),some (128,true),[]⟩,⟨some 130,.load true 3 (.t 10),some (128,true),[]⟩,⟨some 131,.call (.c (.func 50 [])) [(.t 129),(.t 130)],some (128,true),[]⟩,⟨some 132,.un .not (.t 131),some (128,true),[]⟩,oP 133 (.pick (.t 128) (.t 132) (.c (.bool false))),mV 0 133] false) .ret)))))))))))
def a29:AFunc:={results:=[.tmp 0],body:=c29}
def c32:ACode:=(.seq (.region [oP 1 (.box (.t 0)),oP 2 (.mov (.c (.int .i64 0)))] false) (.seq (.region [oP 3 (.mkfunc 100 [(.t 1)]),oP 4 (.call (.c (.func 77 [])) [(.t 3)]),mV 2 4] false) .ret))
def a32:AFunc:={results:=[.tmp 2],body:=c32}
def c33:ACode:=(.seq (.region [oP 2 (.box (.t 0)),oP 4 (.mov (.c (.sl .full []))),oP 5 (.mov (.c (.int .i64 0)))] false) (.seq (.seq (.region [oP 9 (.fld 0 1 (.t 2)),oP 10 (.load false 1 (.t 9)),mV 11 1,oP 12 (.call (.c (.func 79 [])) [(.t 10),(.t 11)]),mV 8 12,oP 13 (.extract (.t 8) 0),oP 14 (.extract (.t 8) 1),oP 6 (.box (.c (.agg [(.str []),(.sl .full []),(.sl .full []),(.sl .full []),(.bool false)]))),⟨none,.store 5 (.t 6) (.t 13),none,[]⟩,mV 7 14] false) (.seq (.region [mV 15 7,oP 16 (.un .not (.t 15))] false) (.cond (.t 16) (.seq (.region [oP 4 (.mov (.c (.sl .full []))),oP 5 (.mov (.c (.int .i64 3)))] false) .ret) .skip))) (.seq (.region [oP 17 (.load true 3 (.t 2)),mV 18 1,oP 19 (.call (.c (.func 41 [])) [(.t 17),(.t 18)]),oP 20 (.call (.c (.func 106 [])) [(.t 19),(.c (.func 107 []))]),oP 21 (.extract (.t 20) 0),oP 22 (.extract (.t 20) 1),mV 4 21,mV 5 22] false) .ret)))
def a33:AFunc:={results:=[.tmp 4,.tmp 5],body:=c33}
def c37:ACode:=(.seq (.region [oP 2 (.box (.t 0)),oP 4 (.mov (.c (.sl .full []))),oP 5 (.mov (.c (.int .i64 0)))] false) (.seq (.region [oP 11 (.fld 0 1 (.t 2)),oP 12 (.load false 1 (.t 11)),mV 13 1,oP 14 (.call (.c (.func 79 [])) [(.t 12),(.t 13)]),mV 10 14,oP 15 (.extract (.t 10) 0),oP 16 (.extract (.t 10) 1),oP 6 (.box (.c (.agg [(.str []),(.sl .full []),(.sl .full []),(.sl .full []),(.bool false)]))),⟨none,.store 5 (.t 6) (.t 15),none,[]⟩,mV 7 16] false) (.seq (.region [oP 18 (.load true 3 (.t 2)),mV 19 1,oP 20 (.call (.c (.func 33 [])) [(.t 18),(.t 19)]),mV 17 20,oP 21 (.extract (.t 17) 0),oP 22 (.extract (.t 17) 1),mV 8 21,mV 9 22] false) (.seq (.seq (.region [mV 23 9,oP 24 (.bin .neq (.t 23) (.c (.int .i64 0)))] false) (.cond (.t 24) (.seq (.region [mV 25 9,oP 4 (.mov (.c (.sl .full []))),mV 5 25] false) .ret) .skip)) (.seq (.region [oP 26 (.fld 1 1 (.t 6)),oP 27 (.load false 1 (.t 26)),mV 28 8,oP 29 (.call (.c (.func 109 [])) [(.t 27),(.t 28)]),oP 30 (.extract (.t 29) 0),oP 31 (.extract (.t 29) 1),mV 4 30,mV 5 31] false) .ret)))))
def a37:AFunc:={results:=[.tmp 4,.tmp 5],body:=c37}
def c39:ACode:=(.seq (.region [oP 1 (.box (.t 0)),oP 2 (.mov (.c (.sl .full []))),oP 3 (.mov (.c (.int .i64 0)))] false) (.seq (.region [oP 4 (.fld 0 1 (.t 1)),oP 5 (.load false 1 (.t 4)),oP 6 (.call (.c (.func 111 [])) [(.t 5),(.c (.func 112 []))]),oP 7 (.extract (.t 6) 0),oP 8 (.extract (.t 6) 1),mV 2 7,mV 3 8] false) .ret))
def a39:AFunc:={results:=[.tmp 2,.tmp 3],body:=c39}
def b41_0:ACode:=(.seq (.region [oP 12 (.bin .lss (.t 11) (.t 10))] false) (.seq (.cond (.t 12) .skip (.exit 0)) (.seq (.block 1 (.seq (.region [oP 13 (.idx 11 (.t 9) (.t 11)),oP 14 (.load true 11 (.t 13)),oP 7 (.box (.c (.agg [(.str []),(.str []),(.int .i64 0),(.sl .full []),(.sl .full []),(.sl .full []),(.sl .full []),(.str []),(.int .i64 0),(.str []),(.bool false)]))),⟨none,.store 11 (.t 7) (.t 14),none,[]⟩] false) (.seq (.region [oP 15 (.fld 9 1 (.t 7)),oP 16 (.load false 1 (.t 15)),mV 17 1,oP 18 (.bin .eql (.t 16) (.t 17)),mV 19 18,⟨some 20,.mov (.t 1),some (19,true),[]⟩,⟨some 21,.bin .neq (.t 20) (.c (.str [])),some (19,true),[]⟩,oP 22 (.pick (.t 19) (.t 21) (.c (.bool false)))] false) (.cond (.t 22) (.region [mV 23 5,oP 24 (.load true 11 (.t 7)),oP 25 (.bslice 11 [(.t 24)]),oP 26 (.append 11 184 (.t 23) (.t 25)),mV 5 26] false) .skip)))) (.region [oP 27 (.bin .add (.t 11) (.c (.int .i64 1))),mV 11 27] false))))
def c41:ACode:=(.seq (.region [oP 2 (.box (.t 0)),oP 4 (.mov (.c (.sl .full [])))] false) (.seq (.region [oP 5 (.mov (.c (.sl .full [])))] false) (.seq (.seq (.region [oP 8 (.fld 1 1 (.t 2)),oP 9 (.load false 1 (.t 8)),oP 10 (.len false (.t 9)),oP 11 (.mov (.c (.int .i64 0)))] false) (.block 0 (.loop b41_0))) (.seq (.region [mV 28 5,mV 4 28] false) .ret))))
def a41:AFunc:={results:=[.tmp 4],body:=c41}
def c45:ACode:=(.seq (.region [oP 2 (.box (.t 0)),oP 3 (.box (.t 1)),oP 4 (.box (.c (.agg [(.sl .full []),(.sl .full []),(.sl .full [])])))] false) (.seq (.region [oP 7 (.load true 3 (.t 2)),oP 8 (.fld 0 1 (.t 3)),oP 9 (.load false 1 (.t 8)),oP 10 (.callM (.c (.func 27 [])) [(.t 7),(.t 9)]),⟨none,.store 3 (.t 2) (.t 10),none,[]⟩] false) (.seq (.region [oP 12 (.fld 1 1 (.t 2)),oP 13 (.load false 1 (.t 12)),oP 14 (.fld 0 1 (.t 3)),oP 15 (.load false 1 (.t 14)),oP 16 (.callM (.c (.func 116 [])) [(.t 13),(.t 15),(.c (.func 117 []))]),mV 11 16,oP 17 (.extract (.t 11) 0),oP 18 (.extract (.t 11) 1),mV 5 17,mV 6 18] false) (.seq (.region [oP 19 (.fld 1 1 (.t 2)),oP 20 (.load false 1 (.t 19)),mV 21 5,oP 22 (.load true 11 (.t 3)),oP 23 (.bsliceM 11 [(.t 22)]),oP 24 (.callM (.c (.func 119 [])) [(.t 20),(.t 21),(.t 23)]),oP 25 (.fld 1 1 (.t 2)),⟨none,.store 1 (.t 25) (.t 24),none,[]⟩] false) (.seq (.region [oP 26 (.load true 3 (.t 2)),⟨none,.store 3 (.t 4) (.t 26),none,[]⟩] false) .ret)))))
def a45:AFunc:={results:=[.cell 4 true 3],body:=c45}
def c48:ACode:=(.seq (.region [oP 3 (.box (.t 0)),oP 6 (.box (.c (.agg [(.sl .full []),(.sl .full []),(.sl .full [])])))] false) (.seq (.region [oP 9 (.fld 1 1 (.t 3)),oP 10 (.load false 1 (.t 9)),oP 11 (.callM (.c (.func 90 [])) [(.t 10)]),oP 12 (.fld 1 1 (.t 3)),⟨none,.store 1 (.t 12) (.t 11),none,[]⟩] false) (.seq (.seq (.region [oP 13 (.fld 1 1 (.t 3)),oP 14 (.load false 1 (.t 13)),oP 15 (.len false (.t 14)),oP 16 (.mov (.c (.int .i64 0)))] false) (.block 0 (.loop (.seq (.region [oP 17 (.bin .lss (.t 16) (.t 15))] false) (.seq (.cond (.t 17) .skip (.exit 0)) (.seq (.block 1 (.seq (.region [mV 18 16,oP 19 (.idx 11 (.t 14) (.t 16)),oP 20 (.load true 11 (.t 19)),oP 8 (.box (.c (.agg [(.str []),(.str []),(.int .i64 0),(.sl .full []),(.sl .full []),(.sl .full []),(.sl .full []),(.str []),(.int .i64 0),(.str []),(.bool false)]))),mV 7 18,⟨none,.store 11 (.t 8) (.t 20),none,[]⟩] false) (.seq (.region [oP 21 (.fld 0 1 (.t 8)),oP 22 (.load false 1 (.t 21)),mV 23 1,oP 24 (.bin .eql (.t 22) (.t 23))] false) (.cond (.t 24) (.region [oP 25 (.fld 1 1 (.t 3)),oP 26 (.load false 1 (.t 25)),mV 27 7,mV 28 2,oP 29 (.idx 11 (.t 26) (.t 27)),oP 30 (.fld 9 1 (.t 29)),⟨none,.store 1 (.t 30) (.t 28),none,[]⟩] false) .skip)))) (.region [oP 31 (.bin .add (.t 16) (.c (.int .i64 1))),mV 16 31] false))))))) (.seq (.region [oP 32 (.load true 3 (.t 3)),⟨none,.store 3 (.t 6) (.t 32),none,[]⟩] false) .ret))))
def a48:AFunc:={results:=[.cell 6 true 3],body:=c48}
def c50:ACode:=(.seq (.region [oP 2 (.box (.t 0)),oP 3 (.box (.t 1)),oP 4 (.mov (.c (.bool false)))] false) (.seq (.region [oP 5 (.fld 0 1 (.t 2)),oP 6 (.load false 1 (.t 5)),oP 7 (.fld 0 1 (.t 3)),oP 8 (.load false 1 (.t 7)),oP 9 (.call (.c (.func 121 [])) [(.t 6),(.t 8),(.c (.func 122 []))]),mV 10 9,⟨some 11,.fld 1 1 (.t 2),some (10,true),[]⟩,⟨some 12,.load false 1 (.t 11),some (10,true),[]⟩,⟨some 13,.fld 1 1 (.t 3),some (10,true),[]⟩,⟨some 14,.load false 1 (.t 13),some (10,true),[]⟩,⟨some 15,.call (.c (.func 123 [])) [(.t 12),(.t 14),(.c (.func 61 []))],some (10,true),[]⟩,oP 16 (.pick (.t 10) (.t 15) (.c (.bool false))),mV 17 16,⟨some 18,.fld 2 1 (.t 2),some (17,true),[]⟩,⟨some 19,.load false 1 (.t 18),some (17,true),[]⟩,⟨some 20,.fld 2 1 (.t 3),some (17,true),[]⟩,⟨some 21,.load false 1 (.t 20),some (17,true),[]⟩,⟨some 22,.call (.c (.func 124 [])) [(.t 19),(.t 21),(.c (.func 125 []))],some (17,true),[]⟩,oP 23 (.pick (.t 17) (.t 22) (.c (.bool false))),mV 4 23] false) .ret))
def a50:AFunc:={results:=[.tmp 4],body:=c50}
def c52:ACode:=(.seq (.region [oP 2 (.box (.t 0)),oP 3 (.box (.t 1)),oP 4 (.mov (.c (.sl .full []))),oP 5 (.mov (.c (.int .i64 0)))] false) (.seq (.region [oP 6 (.mkfunc 128 [(.t 2),(.t 3)]),oP 7 (.load false 1 (.t 2)),oP 8 (.load false 1 (.t 3)),oP 9 (.bslice 1 [(.t 7),(.t 8)]),oP 10 (.call (.c (.func 127 [])) [(.t 6),(.t 9)]),oP 11 (.extract (.t 10) 0),oP 12 (.extract (.t 10) 1),mV 4 11,mV 5 12] false) .ret))
def a52:AFunc:={results:=[.tmp 4,.tmp 5],body:=c52}
def c53:ACode:=(.seq (.region [oP 4 (.mov (.c (.bool false)))] false) (.seq (.region [mV 5 0,mV 6 1,oP 7 (.call (.c (.func 130 [])) [(.t 5),(.t 6)]),mV 4 7] false) .ret))
def a53:AFunc:={results:=[.tmp 4],body:=c53}
def c54:ACode:=(.seq (.region [oP 4 (.box (.c (.agg [(.str []),(.sl .full []),(.sl .full []),(.sl .full []),(.bool false)])))] false) (.seq (.region [mV 5 0,mV 6 1,oP 7 (.build [(.str []),(.int .i64 0)] [(0,1,(.c (.str [99,112,117]))),(1,1,(.t 6))]),oP 8 (.bslice 2 [(.t 7)]),oP 9 (.build [(.str []),(.sl .full []),(.sl .full []),(.sl .full []),(.bool false)] [(0,1,(.t 5)),(1,1,(.t 8))]),⟨none,.store 5 (.t 4) (.t 9),none,[]⟩] false) .ret))
def a54:AFunc:={results:=[.cell 4 true 5],body:=c54}
def c55:ACode:=(.seq (.region [oP 6 (.box (.c (.agg [(.str []),(.str []),(.int .i64 0),(.sl .full []),(.sl .full []),(.sl .full []),(.sl .full []),(.str []),(.int .i64 0),(.str []),(.bool false)])))] false) (.seq (.region [mV 7 0,mV 8 1,oP 9 (.build [(.str []),(.int .i64 0)] [(0,1,(.c (.str [99,112,117]))),(1,1,(.t 8))]),oP 10 (.bslice 2 [(.t 9)]),mV 11 2,oP 12 (.build [(.str []),(.str []),(.int .i64 0),(.sl .full []),(.sl .full []),(.sl .full []),(.sl .full []),(.str []),(.int .i64 0),(.str []),(.bool false)] [(0,1,(.t 7)),(3,1,(.t 10)),(9,1,(.t 11))]),⟨none,.store 11 (.t 6) (.t 12),none,[]⟩] false) .ret))
def a55:AFunc:={results:=[.cell 6 true 11],body:=c55}
def c57:ACode:=(.seq (.region [oP 3 (.box (.t 1)),oP 4 (.mov (.c (.int .i64 0)))] false) (.seq (.region [mV 6 0,oP 7 (.mkfunc 132 [(.t 3)]),oP 8 (.call (.c (.func 131 [])) [(.t 6),(.t 7)]),mV 5 8] false) (.seq (.seq (.region [mV 9 5,oP 10 (.bin .lss (.t 9) (.c (.int .i64 0)))] false) (.cond (.t 10) (.seq (.region [oP 4 (.mov (.c (.int .i64 0)))] false) .ret) .skip)) (.seq (.region [mV 11 0,mV 12 5,oP 13 (.idx 2 (.t 11) (.t 12)),oP 14 (.fld 1 1 (.t 13)),oP 15 (.load false 1 (.t 14)),mV 4 15] false) .ret))))
def a57:AFunc:={results:=[.tmp 4],body:=c57}
def c58:ACode:=(.seq (.region [oP 3 (.box (.t 1)),oP 4 (.mov (.c (.bool false)))] false) (.seq (.region [mV 5 0,oP 6 (.mkfunc 134 [(.t 3)]),oP 7 (.call (.c (.func 133 [])) [(.t 5),(.t 6)]),oP 8 (.un .not (.t 7)),mV 4 8] false) .ret))
def a58:AFunc:={results:=[.tmp 4],body:=c58}
def c59:ACode:=(.seq (.region [oP 1 (.box (.t 0)),oP 2 (.mov (.c (.int .i64 0)))] false) (.seq (.region [oP 3 (.fld 0 1 (.t 1)),⟨some 4,.load false 1 (.t 3),none,[0]⟩,⟨some 5,.call (.c (.func 136 [])) [(.t 4)],none,[0,1]⟩,oP 6 (.fld 1 1 (.t 1)),⟨some 7,.load false 1 (.t 6),none,[3]⟩,⟨some 8,.call (.c (.func 137 [])) [(.t 7)],none,[1,0,2,3,4]⟩,oP 9 (.load true 11 (.t 1)),⟨some 10,.call (.c (.func 138 [])) [(.t 9)],none,[4,3,2,0,1,5,6]⟩,oP 11 (.fld 3 1 (.t 1)),⟨some 12,.load false 1 (.t 11),none,[8]⟩,⟨some 13,.call (.c (.func 139 [])) [(.t 12)],none,[6,5,1,0,2,3,4,7,8,9]⟩,oP 14 (.fld 4 1 (.t 1)),⟨some 15,.load false 1 (.t 14),none,[11]⟩,⟨some 16,.call (.c (.func 140 [])) [(.t 15)],none,[9,8,7,4,3,2,0,1,5,6,10,11,12]⟩,oP 17 (.fld 5 1 (.t 1)),⟨some 18,.load false 1 (.t 17),none,[14]⟩,⟨some 19,.call (.c (.func 141 [])) [(.t 18)],none,[12,11,10,6,5,1,0,2,3,4,7,8,9,13,14,15]⟩,oP 20 (.fld 6 1 (.t 1)),⟨some 21,.load false 1 (.t 20),none,[17]⟩,⟨some 22,.call (.c (.func 142 [])) [(.t 21)],none,[15,14,13,9,8,7,4,3,2,0,1,5,6,10,11,12,16,17,18]⟩,oP 23 (.fld 7 1 (.t 1)),⟨some 24,.load false 1 (.t 23),none,[20]⟩,⟨some 25,.call (.c (.func 137 [])) [(.t 24)],none,[18,17,16,12,11,10,6,5,1,0,2,3,4,7,8,9,13,14,15,19,20,21]⟩,oP 26 (.load true 11 (.t 1)),⟨some 27,.call (.c (.func 143 [])) [(.t 26)],none,[21,20,19,15,14,13,9,8,7,4,3,2,0,1,5,6,10,11,12,16,17,18,22,23]⟩,oP 28 (.fld 9 1 (.t 1)),⟨some 29,.load false 1 (.t 28),none,[25]⟩,⟨some 30,.call (.c (.func 137 [])) [(.t 29)],none,[23,22,18,17,16,12,11,10,6,5,1,0,2,3,4,7,8,9,13,14,15,19,20,21,24,25,26]⟩,⟨some 31,.bslice 1 [(.t 5),(.t 8),(.t 10),(.t 13),(.t 16),(.t 19),(.t 22),(.t 25),(.t 27),(.t 30)],none,[26,25,27,23,24,21,20,22,18,17,19,15,14,16,12,11,13,9,8,10,6,7,4,3,5,1,0,2]⟩,⟨some 32,.call (.c (.func 135 [])) [(.t 31)],none,[2,0,1,5,3,4,7,6,10,8,9,13,11,12,16,14,15,19,17,18,22,20,21,24,23,27,25,26,28]⟩,⟨some 2,.mov (.t 32),none,[28,26,25,27,23,24,21,20,22,18,17,19,15,14,16,12,11,13,9,8,10,6,7,4,3,5,1,0,2,29]⟩] true) .ret))
def a59:AFunc:={results:=[.tmp 2],body:=c59}
def c61:ACode:=(.seq (.region [oP 2 (.box (.t 0)),oP 3 (.box (.t 1)),oP 4 (.mov (.c (.bool false)))] false) (.seq (.region [oP 5 (.fld 0 1 (.t 2)),oP 6 (.load false 1 (.t 5)),oP 7 (.fld 0 1 (.t 3)),oP 8 (.load false 1 (.t 7)),oP 9 (.bin .eql (.t 6) (.t 8)),mV 10 9,⟨some 11,.fld 1 1 (.t 2),some (10,true),[]⟩,⟨some 12,.load false 1 (.t 11),some (10,true),[]⟩,⟨some 13,.fld 1 1 (.t 3),some (10,true),[]⟩,⟨some 14,.load false 1 (.t 13),some (10,true),[]⟩,⟨some 15,.bin .eql (.t 12) (.t 14),some (10,true),[]⟩,oP 16 (.pick (.t 10) (.t 15) (.c (.bool false))),mV 17 16,⟨some 18,.fld 2 1 (.t 2),some (17,true),[]⟩,⟨some 19,.load false 1 (.t 18),some (17,true),[]⟩,⟨some 20,.fld 2 1 (.t 3),some (17,true),[]⟩,⟨some 21,.load false 1 (.t 20),some (17,true),[]⟩,⟨some 22,.bin .eql (.t 19) (.t 21),some (17,true),[]⟩,oP 23 (.pick (.t 17) (.t 22) (.c (.bool false))),mV 24 23,⟨some 25,.fld 3 1 (.t 2),some (24,true),[]⟩,⟨some 26,.load false 1 (.t 25),some (24,true),[]⟩,⟨some 27,.fld 3 1 (.t 3),some (24,true),[]⟩,⟨some 28,.load false 1 (.t 27),some (24,true),[]⟩,⟨some 29,.call (.c (.func 53 [])) [(.t 26),(.t 28)],some (24,true),[]⟩,oP 30 (.pick (.t 24) (.t 29) (.c (.bool false))),mV 31 30,⟨some 32,.fld 4 1 (.t 2),some (31,true),[]⟩,⟨some 33,.load false 1 (.t 32),some (31,true),[]⟩,⟨some 34,.fld 4 1 (.t 3),some (31,true),[]⟩,⟨some 35,.load false 1 (.t 34),some (31,true),[]⟩,⟨some 36,.call (.c (.func 144 [])) [(.t 33),(.t 35)],some (31,true),[]⟩,oP 37 (.pick (.t 31) (.t 36) (.c (.bool false))),mV 38 37,⟨some 39,.fld 5 1 (.t 2),some (38,true),[]⟩,⟨some 40,.load false 1 (.t 39),some (38,true),[]⟩,⟨some 41,.fld 5 1 (.t 3),some (38,true),[]⟩,⟨some 42,.load false 1 (.t 41),some (38,true),[]⟩,⟨some 43,.call (.c (.func 145 [])) [(.t 40),(.t 42)],some (38,true),[]⟩,oP 44 (.pick (.t 38) (.t 43) (.c (.bool false))),mV 45 44,⟨some 46,.fld 6 1 (.t 2),some (45,true),[]⟩,⟨some 47,.load false 1 (.t 46),some (45,true),[]⟩,⟨some 48,.fld 6 1 (.t 3),some (45,true),[]⟩,⟨some 49,.load false 1 (.t 48),some (45,true),[]⟩,⟨some 50,.call (.c (.func 146 [])) [(.t 47),(.t 49)],some (45,true),[]⟩,oP 51 (.pick (.t 45) (.t 50) (.c (.bool false))),mV 52 51,⟨some 53,.fld 7 1 (.t 2),some (52,true),[]⟩,⟨some 54,.load false 1 (.t 53),some (52,true),[]⟩,⟨some 55,.fld 7 1 (.t 3),some (52,true),[]⟩,⟨some 56,.load false 1 (.t 55),some (52,true),[]⟩,⟨some 57,.bin .eql (.t 54) (.t 56),some (52,true),[]⟩,oP 58 (.pick (.t 52) (.t 57) (.c (.bool false))),mV 59 58,⟨some 60,.fld 8 1 (.t 2),some (59,true),[]⟩,⟨some 61,.load false 1 (.t 60),some (59,true),[]⟩,⟨some 62,.fld 8 1 (.t 3),some (59,true),[]⟩,⟨some 63,.load false 1 (.t 62),some (59,true),[]⟩,⟨some 64,.bin .eql (.t 61) (.t 63),some (59,true),[]⟩,oP 65 (.pick (.t 59) (.t 64) (.c (.bool false))),mV 66 65,⟨some 67,.fld 9 1 (.t 2),some (66,true),[]⟩,⟨some 68,.load false 1 (.t 67),some (66,true),[]⟩,⟨some 69,.fld 9 1 (.t 3),some (66,true),[]⟩,⟨some 70,.load false 1 (.t 69),some (66,true),[]⟩,⟨some 71,.bin .eql (.t 68) (.t 70),some (66,true),[]⟩,oP 72 (.pick (.t 66) (.t 71) (.c (.bool false))),mV 73 72,⟨some 74,.fld 10 1 (.t 2),some (73,true),[]⟩,⟨some 75,.load false 1 (.t 74),some (73,true),[]⟩,⟨some 76,.fld 10 1 (.t 3),some (73,true),[]⟩,⟨some 77,.load false 1 (.t 76),some (73,true),[]⟩,⟨some 78,.eqb false (.t 75) (.t 77),some (73,true),[]⟩,oP 79 (.pick (.t 73) (.t 78) (.c (.bool false))),mV 4 79] false) .ret))
def a61:AFunc:={results:=[.tmp 4],body:=c61}
def b79_0:ACode:=(.seq (.region [oP 11 (.bin .lss (.t 10) (.t 9))] false) (.seq (.cond (.t 11) .skip (.exit 0)) (.seq (.block 1 (.seq (.region [oP 12 (.idx 5 (.t 8) (.t 10)),oP 13 (.load true 5 (.t 12)),oP 7 (.box (.c (.agg [(.str []),(.sl .full []),(.sl .full []),(.sl .full []),(.bool false)]))),⟨none,.store 5 (.t 7) (.t 13),none,[]⟩] false) (.seq (.region [oP 14 (.fld 0 1 (.t 7)),oP 15 (.load false 1 (.t 14)),mV 16 1,oP 17 (.bin .eql (.t 15) (.t 16))] false) (.cond (.t 17) (.seq (.region [oP 18 (.load true 5 (.t 7)),⟨none,.store 5 (.t 4) (.t 18),none,[]⟩,oP 5 (.mov (.c (.bool true)))] false) .ret) .skip)))) (.region [oP 19 (.bin .add (.t 10) (.c (.int .i64 1))),mV 10 19] false))))
def c79:ACode:=(.seq (.region [oP 4 (.box (.c (.agg [(.str []),(.sl .full []),(.sl .full []),(.sl .full []),(.bool false)]))),oP 5 (.mov (.c (.bool false)))] false) (.seq (.seq (.region [mV 8 0,oP 9 (.len false (.t 8)),oP 10 (.mov (.c (.int .i64 0)))] false) (.block 0 (.loop b79_0))) (.seq (.region [oP 20 (.build [(.str []),(.sl .full []),(.sl .full []),(.sl .full []),(.bool false)] []),⟨none,.store 5 (.t 4) (.t 20),none,[]⟩,oP 5 (.mov (.c (.bool false)))] false) .ret)))
def a79:AFunc:={results:=[.cell 4 true 5,.tmp 5],body:=c79}
def b89_0:ACode:=(.seq (.seq (.region [mV 16 6,mV 17 0,oP 18 (.len false (.t 17)),oP 19 (.bin .lss (.t 16) (.t 18))] false) (.cond (.t 19) .skip (.exit 0))) (.seq (.block 1 (.seq (.region [mV 22 0,mV 23 6,oP 24 (.idx 11 (.t 22) (.t 23)),oP 25 (.load true 11 (.t 24)),oP 7 (.box (.c (.agg [(.str []),(.str []),(.int .i64 0),(.sl .full []),(.sl .full []),(.sl .full []),(.sl .full []),(.str []),(.int .i64 0),(.str []),(.bool false)]))),⟨none,.store 11 (.t 7) (.t 25),none,[]⟩] false) (.seq (.region [mV 26 1,oP 27 (.load true 11 (.t 7)),oP 28 (.callM (.t 26) [(.t 27)]),oP 29 (.un .not (.t 28))] false) (.cond (.t 29) (.seq (.region [mV 30 0,mV 31 5,oP 32 (.load true 11 (.t 7)),oP 33 (.idx 11 (.t 30) (.t 31)),⟨none,.store 11 (.t 33) (.t 32),none,[]⟩] false) (.region [mV 34 5,oP 35 (.bin .add (.t 34) (.c (.int .i64 1))),mV 5 35] false)) .skip)))) (.region [mV 20 6,oP 21 (.bin .add (.t 20) (.c (.int .i64 1))),mV 6 21] false)))
def c89:ACode:=(.seq (.region [oP 4 (.mov (.c (.sl .full [])))] false) (.seq (.region [mV 8 0,mV 9 1,oP 10 (.callM (.c (.func 162 [])) [(.t 8),(.t 9)]),mV 5 10] false) (.seq (.seq (.region [mV 11 5,oP 12 (.bin .eql (.t 11) (.c (.int .i64 (-1))))] false) (.cond (.t 12) (.seq (.region [mV 13 0,mV 4 13] false) .ret) .skip)) (.seq (.seq (.region [mV 14 5,oP 15 (.bin .add (.t 14) (.c (.int .i64 1))),mV 6 15] false) (.block 0 (.loop b89_0))) (.seq (.region [mV 36 0,mV 37 5,oP 38 (.slice 11 (.t 36) (some (.t 37)) none none),⟨none,.clearM [(.str []),(.str []),(.int .i64 0),(.sl .full []),(.sl .full []),(.sl .full []),(.sl .full []),(.str []),(.int .i64 0),(.str []),(.bool false)] (.t 38),none,[]⟩] false) (.seq (.region [mV 39 0,mV 40 5,oP 41 (.slice 11 (.t 39) none (some (.t 40)) none),mV 4 41] false) .ret))))))
def a89:AFunc:={results:=[.tmp 4],body:=c89}
def c91:ACode:=(.seq (.region [oP 2 (.box (.t 0)),oP 3 (.mov (.c (.bool false)))] false) (.seq (.region [oP 4 (.fld 0 1 (.t 2)),oP 5 (.load false 1 (.t 4)),oP 6 (.load false 1 (.t 1)),oP 7 (.bin .eql (.t 5) (.t 6)),mV 3 7] false) .ret))
def a91:AFunc:={results:=[.tmp 3],body:=c91}
def b100_1:ACode:=(.seq (.region [oP 47 (.bin .lss (.t 46) (.t 45))] false) (.seq (.cond (.t 47) .skip (.exit 2)) (.seq (.block 3 (.seq (.region [oP 48 (.idx 5 (.t 44) (.t 46)),oP 49 (.load true 5 (.t 48)),oP 6 (.box (.c (.agg [(.str []),(.sl .full []),(.sl .full []),(.sl .full []),(.bool false)]))),⟨none,.store 5 (.t 6) (.t 49),none,[]⟩] false) (.seq (.region [oP 50 (.load true 3 (.t 0)),oP 51 (.fld 0 1 (.t 6)),⟨some 52,.load false 1 (.t 51),none,[1]⟩,⟨some 53,.call (.c (.func 33 [])) [(.t 50),(.t 52)],none,[1,2,0]⟩,⟨some 54,.extract (.t 53) 0,none,[0,2,1,3]⟩,⟨some 55,.extract (.t 53) 1,none,[0,2,1,3]⟩,⟨some 56,.call (.c (.func 105 [])) [(.t 54),(.t 55)],none,[5,3,1,2,0,4]⟩,oP 57 (.fld 1 1 (.t 6)),⟨some 58,.load false 1 (.t 57),none,[7]⟩,⟨some 59,.call (.c (.func 58 [])) [(.t 56),(.t 58)],none,[7,8,4,0,2,1,3,5,6]⟩,⟨some 60,.un .not (.t 59),none,[6,5,3,1,2,0,4,8,7,9]⟩] true) (.cond (.t 60) (.region [oP 61 (.call (.c (.func 101 [])) [(.c (.int .i64 7))])] false) .skip)))) (.region [oP 62 (.bin .add (.t 46) (.c (.int .i64 1))),mV 46 62] false))))
def b100_0:ACode:=(.seq (.region [oP 23 (.bin .lss (.t 22) (.t 21))] false) (.seq (.cond (.t 23) .skip (.exit 0)) (.seq (.block 1 (.seq (.region [oP 24 (.idx 11 (.t 20) (.t 22)),oP 25 (.load true 11 (.t 24)),oP 2 (.box (.c (.agg [(.str []),(.str []),(.int .i64 0),(.sl .full []),(.sl .full []),(.sl .full []),(.sl .full []),(.str []),(.int .i64 0),(.str []),(.bool false)]))),⟨none,.store 11 (.t 2) (.t 25),none,[]⟩] false) (.seq (.region [oP 27 (.fld 0 1 (.t 0)),oP 28 (.load false 1 (.t 27)),oP 29 (.fld 9 1 (.t 2)),oP 30 (.load false 1 (.t 29)),oP 31 (.call (.c (.func 79 [])) [(.t 28),(.t 30)]),mV 26 31,oP 32 (.extract (.t 26) 0),oP 33 (.extract (.t 26) 1),oP 3 (.box (.c (.agg [(.str []),(.sl .full []),(.sl .full []),(.sl .full []),(.bool false)]))),⟨none,.store 5 (.t 3) (.t 32),none,[]⟩,mV 4 33] false) (.seq (.region [oP 34 (.fld 9 1 (.t 2)),oP 35 (.load false 1 (.t 34)),oP 36 (.bin .neq (.t 35) (.c (.str []))),mV 37 36,⟨some 38,.mov (.t 4),some (37,true),[]⟩,⟨some 39,.un .not (.t 38),some (37,true),[]⟩,oP 40 (.pick (.t 37) (.t 39) (.c (.bool false)))] false) (.cond (.t 40) (.region [oP 41 (.call (.c (.func 101 [])) [(.c (.int .i64 3))])] false) .skip))))) (.region [oP 42 (.bin .add (.t 22) (.c (.int .i64 1))),mV 22 42] false))))
def c100:ACode:=(.seq (.region [oP 7 (.fld 0 1 (.t 0)),oP 8 (.load false 1 (.t 7)),oP 9 (.call (.c (.func 102 [])) [(.t 8)]),oP 10 (.call (.c (.func 101 [])) [(.t 9)])] false) (.seq (.region [oP 11 (.fld 1 1 (.t 0)),oP 12 (.load false 1 (.t 11)),oP 13 (.call (.c (.func 103 [])) [(.t 12)]),oP 14 (.call (.c (.func 101 [])) [(.t 13)])] false) (.seq (.region [oP 15 (.fld 2 1 (.t 0)),oP 16 (.load false 1 (.t 15)),oP 17 (.call (.c (.func 104 [])) [(.t 16)]),oP 18 (.call (.c (.func 101 [])) [(.t 17)])] false) (.seq (.seq (.region [oP 19 (.fld 1 1 (.t 0)),oP 20 (.load false 1 (.t 19)),oP 21 (.len false (.t 20)),oP 22 (.mov (.c (.int .i64 0)))] false) (.block 0 (.loop b100_0))) (.seq (.seq (.region [oP 43 (.fld 0 1 (.t 0)),oP 44 (.load false 1 (.t 43)),oP 45 (.len false (.t 44)),oP 46 (.mov (.c (.int .i64 0)))] false) (.block 2 (.loop b100_1))) (.region [oP 63 (.load true 3 (.t 0)),oP 64 (.call (.c (.func 39 [])) [(.t 63)]),oP 65 (.extract (.t 64) 0),oP 66 (.extract (.t 64) 1),oP 67 (.call (.c (.func 105 [])) [(.t 65),(.t 66)])] false))))))
def a100:AFunc:={results:=[],body:=c100}
def c101:ACode:=(.seq (.region [mV 2 0,oP 3 (.bin .neq (.t 2) (.c (.int .i64 0)))] false) (.cond (.t 3) (.region [mV 4 0,oP 5 (.build [(.int .i64 0)] [(0,1,(.t 4))]),oP 6 (.mkiface 212 (.t 5)),⟨none,.panic (.t 6),none,[]⟩] false) .skip))
def a101:AFunc:={results:=[],body:=c101}
def c102:ACode:=(.seq (.region [oP 2 (.mov (.c (.int .i64 0)))] false) (.seq (.region [mV 3 0,oP 4 (.call (.c (.func 169 [])) [(.t 3),(.c (.int .i64 32)),(.c (.func 170 [])),(.c (.func 171 []))]),mV 2 4] false) .ret))
def a102:AFunc:={results:=[.tmp 2],body:=c102}
def c103:ACode:=(.seq (.region [oP 2 (.mov (.c (.int .i64 0)))] false) (.seq (.region [mV 3 0,oP 4 (.call (.c (.func 172 [])) [(.t 3),(.c (.int .i64 128)),(.c (.func 173 [])),(.c (.func 59 []))]),mV 2 4] false) .ret))
def a103:AFunc:={results:=[.tmp 2],body:=c103}
def c104:ACode:=(.seq (.region [oP 2 (.mov (.c (.int .i64 0)))] false) (.seq (.region [mV 3 0,oP 4 (.call (.c (.func 174 [])) [(.t 3),(.c (.int .i64 8)),(.c (.func 175 [])),(.c (.func 176 []))]),mV 2 4] false) .ret))
def a104:AFunc:={results:=[.tmp 2],body:=c104}
def c105:ACode:=(.seq (.region [oP 4 (.mov (.c (.sl .full [])))] false) (.seq (.region [mV 5 1,oP 6 (.call (.c (.func 101 [])) [(.t 5)])] false) (.seq (.region [mV 7 0,mV 4 7] false) .ret)))
def a105:AFunc:={results:=[.tmp 4],body:=c105}
def c106:ACode:=(.seq (.region [oP 2 (.box (.t 0)),oP 3 (.box (.t 1)),oP 4 (.mov (.c (.sl .full []))),oP 5 (.mov (.c (.int .i64 0)))] false) (.seq (.region [oP 6 (.box (.c (.sl .full [])))] false) (.seq (.region [oP 8 (.mkfunc 177 [(.t 2),(.t 6),(.t 3)]),oP 9 (.call (.c (.func 77 [])) [(.t 8)]),mV 7 9] false) (.seq (.seq (.region [mV 10 7,oP 11 (.bin .neq (.t 10) (.c (.int .i64 0)))] false) (.cond (.t 11) (.seq (.region [mV 12 7,oP 4 (.mov (.c (.sl .full []))),mV 5 12] false) .ret) .skip)) (.seq (.region [oP 13 (.load false 1 (.t 6)),mV 4 13,oP 5 (.mov (.c (.int .i64 0)))] false) .ret)))))
def a106:AFunc:={results:=[.tmp 4,.tmp 5],body:=c106}
def c107:ACode:=(.seq (.region [oP 1 (.box (.t 0)),oP 2 (.mov (.c (.sl .full [])))] false) (.seq (.region [oP 3 (.fld 3 1 (.t 1)),oP 4 (.load false 1 (.t 3)),mV 2 4] false) .ret))
def a107:AFunc:={results:=[.tmp 2],body:=c107}
def c109:ACode:=(.seq (.region [oP 2 (.box (.t 0)),oP 3 (.box (.t 1)),oP 4 (.mov (.c (.sl .full []))),oP 5 (.mov (.c (.int .i64 0)))] false) (.seq (.region [oP 6 (.mkfunc 182 [(.t 2),(.t 3)]),oP 7 (.load false 1 (.t 2)),oP 8 (.load false 1 (.t 3)),oP 9 (.bslice 1 [(.t 7),(.t 8)]),oP 10 (.call (.c (.func 127 [])) [(.t 6),(.t 9)]),oP 11 (.extract (.t 10) 0),oP 12 (.extract (.t 10) 1),mV 4 11,mV 5 12] false) .ret))
def a109:AFunc:={results:=[.tmp 4,.tmp 5],body:=c109}
def c111:ACode:=(.seq (.region [oP 2 (.box (.t 0)),oP 3 (.box (.t 1)),oP 4 (.mov (.c (.sl .full []))),oP 5 (.mov (.c (.int .i64 0)))] false) (.seq (.region [oP 6 (.box (.c (.sl .full [])))] false) (.seq (.region [oP 8 (.mkfunc 185 [(.t 2),(.t 6),(.t 3)]),oP 9 (.call (.c (.func 77 [])) [(.t 8)]),mV 7 9] false) (.seq (.seq (.region [mV 10 7,oP 11 (.bin .neq (.t 10) (.c (.int .i64 0)))] false) (.cond (.t 11) (.seq (.region [mV 12 7,oP 4 (.mov (.c (.sl .full []))),mV 5 12] false) .ret) .skip)) (.seq (.region [oP 13 (.load false 1 (.t 6)),mV 4 13,oP 5 (.mov (.c (.int .i64 0)))] false) .ret)))))
def a111:AFunc:={results:=[.tmp 4,.tmp 5],body:=c111}
def c112:ACode:=(.seq (.region [oP 1 (.box (.t 0)),oP 2 (.mov (.c (.sl .full [])))] false) (.seq (.region [oP 3 (.fld 1 1 (.t 1)),oP 4 (.load false 1 (.t 3)),mV 2 4] false) .ret))
def a112:AFunc:={results:=[.tmp 2],body:=c112}
def b116_0:ACode:=(.seq (.seq (.region [mV 15 9,mV 16 10,oP 17 (.bin .lss (.t 15) (.t 16))] false) (.cond (.t 17) .skip (.exit 0))) (.block 1 (.seq (.region [mV 18 9,mV 19 10,oP 20 (.bin .add (.t 18) (.t 19)),oP 21 (.conv (.int .u64) (.t 20)),oP 22 (.bin .shr (.t 21) (.c (.int .u64 1))),oP 23 (.conv (.int .i64) (.t 22)),mV 11 23] false) (.seq (.region [mV 24 2,mV 25 0,mV 26 11,oP 27 (.idx 11 (.t 25) (.t 26)),oP 28 (.load true 11 (.t 27)),mV 29 1,oP 30 (.call (.t 24) [(.t 28),(.t 29)]),oP 31 (.bin .lss (.t 30) (.c (.int .i64 0)))] false) (.cond (.t 31) (.region [mV 32 11,oP 33 (.bin .add (.t 32) (.c (.int .i64 1))),mV 9 33] false) (.region [mV 34 11,mV 10 34] false))))))
def c116:ACode:=(.seq (.region [oP 6 (.mov (.c (.int .i64 0))),oP 7 (.mov (.c (.bool false)))] false) (.seq (.region [mV 12 0,oP 13 (.len false (.t 12)),mV 8 13] false) (.seq (.region [mV 14 8,oP 9 (.mov (.c (.int .i64 0))),mV 10 14] false) (.seq (.block 0 (.loop b116_0)) (.seq (.region [mV 35 9,mV 36 9,mV 37 8,oP 38 (.bin .lss (.t 36) (.t 37)),mV 39 38,⟨some 40,.mov (.t 2),some (39,true),[]⟩,⟨some 41,.mov (.t 0),some (39,true),[]⟩,⟨some 42,.mov (.t 9),some (39,true),[]⟩,⟨some 43,.idx 11 (.t 41) (.t 42),some (39,true),[]⟩,⟨some 44,.load true 11 (.t 43),some (39,true),[]⟩,⟨some 45,.mov (.t 1),some (39,true),[]⟩,⟨some 46,.call (.t 40) [(.t 44),(.t 45)],some (39,true),[]⟩,⟨some 47,.bin .eql (.t 46) (.c (.int .i64 0)),some (39,true),[]⟩,oP 48 (.pick (.t 39) (.t 47) (.c (.bool false))),mV 6 35,mV 7 48] false) .ret)))))
def a116:AFunc:={results:=[.tmp 6,.tmp 7],body:=c116}
def c117:ACode:=(.seq (.region [oP 2 (.box (.t 0)),oP 4 (.mov (.c (.int .i64 0)))] false) (.seq (.region [oP 5 (.fld 0 1 (.t 2)),oP 6 (.load false 1 (.t 5)),mV 7 1,oP 8 (.call (.c (.func 118 [])) [(.t 6),(.t 7)]),mV 4 8] false) .ret))
def a117:AFunc:={results:=[.tmp 4],body:=c117}
def c121:ACode:=(.seq (.region [oP 6 (.mov (.c (.bool false)))] false) (.seq (.seq (.region [mV 10 0,oP 11 (.len false (.t 10)),mV 12 1,oP 13 (.len false (.t 12)),oP 14 (.bin .neq (.t 11) (.t 13))] false) (.cond (.t 14) (.seq (.region [oP 6 (.mov (.c (.bool false)))] false) .ret) .skip)) (.seq (.seq (.region [mV 15 0,oP 16 (.len false (.t 15)),oP 17 (.mov (.c (.int .i64 0)))] false) (.block 0 (.loop (.seq (.region [oP 18 (.bin .lss (.t 17) (.t 16))] false) (.seq (.cond (.t 18) .skip (.exit 0)) (.seq (.block 1 (.seq (.region [mV 19 17,oP 20 (.idx 5 (.t 15) (.t 17)),oP 21 (.load true 5 (.t 20)),oP 8 (.box (.c (.agg [(.str []),(.sl .full []),(.sl .full []),(.sl .full []),(.bool false)]))),mV 7 19,⟨none,.store 5 (.t 8) (.t 21),none,[]⟩] false) (.seq (.region [mV 22 1,mV 23 7,oP 24 (.idx 5 (.t 22) (.t 23)),oP 25 (.load true 5 (.t 24)),oP 9 (.box (.c (.agg [(.str []),(.sl .full []),(.sl .full []),(.sl .full []),(.bool false)]))),⟨none,.store 5 (.t 9) (.t 25),none,[]⟩] false) (.seq (.region [mV 26 2,oP 27 (.load true 5 (.t 8)),oP 28 (.load true 5 (.t 9)),oP 29 (.call (.t 26) [(.t 27),(.t 28)]),oP 30 (.un .not (.t 29))] false) (.cond (.t 30) (.seq (.region [oP 6 (.mov (.c (.bool false)))] false) .ret) .skip))))) (.region [oP 31 (.bin .add (.t 17) (.c (.int .i64 1))),mV 17 31] false))))))) (.seq (.region [oP 6 (.mov (.c (.bool true)))] false) .ret))))
def a121:AFunc:={results:=[.tmp 6],body:=c121}
def c122:ACode:=(.seq (.region [oP 2 (.box (.t 0)),oP 3 (.box (.t 1)),oP 4 (.mov (.c (.bool false)))] false) (.seq (.region [oP 5 (.fld 0 1 (.t 2)),oP 6 (.load false 1 (.t 5)),oP 7 (.fld 0 1 (.t 3)),oP 8 (.load false 1 (.t 7)),oP 9 (.bin .eql (.t 6) (.t 8)),mV 10 9,⟨some 11,.fld 4 1 (.t 2),some (10,true),[]⟩,⟨some 12,.load false 1 (.t 11),some (10,true),[]⟩,⟨some 13,.fld 4 1 (.t 3),some (10,true),[]⟩,⟨some 14,.load false 1 (.t 13),some (10,true),[]⟩,⟨some 15,.eqb false (.t 12) (.t 14),some (10,true),[]⟩,oP 16 (.pick (.t 10) (.t 15) (.c (.bool false))),mV 17 16,⟨some 18,.fld 1 1 (.t 2),some (17,true),[]⟩,⟨some 19,.load false 1 (.t 18),some (17,true),[]⟩,⟨some 20,.fld 1 1 (.t 3),some (17,true),[]⟩,⟨some 21,.load false 1 (.t 20),some (17,true),[]⟩,⟨some 22,.call (.c (.func 53 [])) [(.t 19),(.t 21)],some (17,true),[]⟩,oP 23 (.pick (.t 17) (.t 22) (.c (.bool false))),mV 24 23,⟨some 25,.fld 2 1 (.t 2),some (24,true),[]⟩,⟨some 26,.load false 1 (.t 25),some (24,true),[]⟩,⟨some 27,.fld 2 1 (.t 3),some (24,true),[]⟩,⟨some 28,.load false 1 (.t 27),some (24,true),[]⟩,⟨some 29,.call (.c (.func 144 [])) [(.t 26),(.t 28)],some (24,true),[]⟩,oP 30 (.pick (.t 24) (.t 29) (.c (.bool false))),mV 31 30,⟨some 32,.fld 3 1 (.t 2),some (31,true),[]⟩,⟨some 33,.load false 1 (.t 32),some (31,true),[]⟩,⟨some 34,.fld 3 1 (.t 3),some (31,true),[]⟩,⟨some 35,.load false 1 (.t 34),some (31,true),[]⟩,⟨some 36,.call (.c (.func 189 [])) [(.t 33),(.t 35)],some (31,true),[]⟩,oP 37 (.pick (.t 31) (.t 36) (.c (.bool false))),mV 4 37] false) .ret))
def a122:AFunc:={results:=[.tmp 4],body:=c122}
def c123:ACode:=(.seq (.region [oP 6 (.mov (.c (.bool false)))] false) (.seq (.seq (.region [mV 10 0,oP 11 (.len false (.t 10)),mV 12 1,oP 13 (.len false (.t 12)),oP 14 (.bin .neq (.t 11) (.t 13))] false) (.cond (.t 14) (.seq (.region [oP 6 (.mov (.c (.bool false)))] false) .ret) .skip)) (.seq (.seq (.region [mV 15 0,oP 16 (.len false (.t 15)),oP 17 (.mov (.c (.int .i64 0)))] false) (.block 0 (.loop (.seq (.region [oP 18 (.bin .lss (.t 17) (.t 16))] false) (.seq (.cond (.t 18) .skip (.exit 0)) (.seq (.block 1 (.seq (.region [mV 19 17,oP 20 (.idx 11 (.t 15) (.t 17)),oP 21 (.load true 11 (.t 20)),oP 8 (.box (.c (.agg [(.str []),(.str []),(.int .i64 0),(.sl .full []),(.sl .full []),(.sl .full []),(.sl .full []),(.str []),(.int .i64 0),(.str []),(.bool false)]))),mV 7 19,⟨none,.store 11 (.t 8) (.t 21),none,[]⟩] false) (.seq (.region [mV 22 1,mV 23 7,oP 24 (.idx 11 (.t 22) (.t 23)),oP 25 (.load true 11 (.t 24)),oP 9 (.box (.c (.agg [(.str []),(.str []),(.int .i64 0),(.sl .full []),(.sl .full []),(.sl .full []),(.sl .full []),(.str []),(.int .i64 0),(.str []),(.bool false)]))),⟨none,.store 11 (.t 9) (.t 25),none,[]⟩] false) (.seq (.region [mV 26 2,oP 27 (.load true 11 (.t 8)),oP 28 (.load true 11 (.t 9)),oP 29 (.call (.t 26) [(.t 27),(.t 28)]),oP 30 (.un .not (.t 29))] false) (.cond (.t 30) (.seq (.region [oP 6 (.mov (.c (.bool false)))] false) .ret) .skip))))) (.region [oP 31 (.bin .add (.t 17) (.c (.int .i64 1))),mV 17 31] false))))))) (.seq (.region [oP 6 (.mov (.c (.bool true)))] false) .ret))))
def a123:AFunc:={results:=[.tmp 6],body:=c123}
def c124:ACode:=(.seq (.region [oP 6 (.mov (.c (.bool false)))] false) (.seq (.seq (.region [mV 10 0,oP 11 (.len false (.t 10)),mV 12 1,oP 13 (.len false (.t 12)),oP 14 (.bin .neq (.t 11) (.t 13))] false) (.cond (.t 14) (.seq (.region [oP 6 (.mov (.c (.bool false)))] false) .ret) .skip)) (.seq (.seq (.region [mV 15 0,oP 16 (.len false (.t 15)),oP 17 (.mov (.c (.int .i64 0)))] false) (.block 0 (.loop (.seq (.region [oP 18 (.bin .lss (.t 17) (.t 16))] false) (.seq (.cond (.t 18) .skip (.exit 0)) (.seq (.block 1 (.seq (.region [mV 19 17,oP 20 (.idx 3 (.t 15) (.t 17)),oP 21 (.load true 3 (.t 20)),oP 8 (.box (.c (.agg [(.str []),(.sl .full []),(.int .i64 0)]))),mV 7 19,⟨none,.store 3 (.t 8) (.t 21),none,[]⟩] false) (.seq (.region [mV 22 1,mV 23 7,oP 24 (.idx 3 (.t 22) (.t 23)),oP 25 (.load true 3 (.t 24)),oP 9 (.box (.c (.agg [(.str []),(.sl .full []),(.int .i64 0)]))),⟨none,.store 3 (.t 9) (.t 25),none,[]⟩] false) (.seq (.region [mV 26 2,oP 27 (.load true 3 (.t 8)),oP 28 (.load true 3 (.t 9)),oP 29 (.call (.t 26) [(.t 27),(.t 28)]),oP 30 (.un .not (.t 29))] false) (.cond (.t 30) (.seq (.region [oP 6 (.mov (.c (.bool false)))] false) .ret) .skip))))) (.region [oP 31 (.bin .add (.t 17) (.c (.int .i64 1))),mV 17 31] false))))))) (.seq (.region [oP 6 (.mov (.c (.bool true)))] false) .ret))))
def a124:AFunc:={results:=[.tmp 6],body:=c124}
def c125:ACode:=(.seq (.region [oP 2 (.box (.t 0)),oP 3 (.box (.t 1)),oP 4 (.mov (.c (.bool false)))] false) (.seq (.region [oP 5 (.fld 0 1 (.t 2)),oP 6 (.load false 1 (.t 5)),oP 7 (.fld 0 1 (.t 3)),oP 8 (.load false 1 (.t 7)),oP 9 (.bin .eql (.t 6) (.t 8)),mV 10 9,⟨some 11,.fld 2 1 (.t 2),some (10,true),[]⟩,⟨some 12,.load false 1 (.t 11),some (10,true),[]⟩,⟨some 13,.fld 2 1 (.t 3),some (10,true),[]⟩,⟨some 14,.load false 1 (.t 13),some (10,true),[]⟩,⟨some 15,.bin .eql (.t 12) (.t 14),some (10,true),[]⟩,oP 16 (.pick (.t 10) (.t 15) (.c (.bool false))),mV 17 16,⟨some 18,.fld 1 1 (.t 2),some (17,true),[]⟩,⟨some 19,.load false 1 (.t 18),some (17,true),[]⟩,⟨some 20,.fld 1 1 (.t 3),some (17,true),[]⟩,⟨some 21,.load false 1 (.t 20),some (17,true),[]⟩,⟨some 22,.call (.c (.func 190 [])) [(.t 19),(.t 21)],some (17,true),[]⟩,oP 23 (.pick (.t 17) (.t 22) (.c (.bool false))),mV 4 23] false) .ret))
def a125:AFunc:={results:=[.tmp 4],body:=c125}
def c127:ACode:=(.seq (.region [oP 2 (.box (.t 0)),oP 3 (.box (.t 1)),oP 4 (.mov (.c (.sl .full []))),oP 5 (.mov (.c (.int .i64 0)))] false) (.seq (.region [oP 6 (.box (.c (.sl .full [])))] false) (.seq (.region [oP 8 (.mkfunc 192 [(.t 3),(.t 2),(.t 6)]),oP 9 (.call (.c (.func 77 [])) [(.t 8)]),mV 7 9] false) (.seq (.seq (.region [mV 10 7,oP 11 (.bin .neq (.t 10) (.c (.int .i64 0)))] false) (.cond (.t 11) (.seq (.region [mV 12 7,oP 4 (.mov (.c (.sl .full []))),mV 5 12] false) .ret) .skip)) (.seq (.region [oP 13 (.load false 1 (.t 6)),mV 4 13,oP 5 (.mov (.c (.int .i64 0)))] false) .ret)))))
def a127:AFunc:={results:=[.tmp 4,.tmp 5],body:=c127}
def c128:ACode:=(.seq (.region [oP 4 (.mov (.c (.int .i64 0))),oP 5 (.mov (.c (.int .i64 0)))] false) (.seq (.region [oP 6 (.load false 1 (.t 1)),mV 7 0,⟨some 8,.call (.c (.func 57 [])) [(.t 6),(.t 7)],none,[1,0]⟩,oP 9 (.load false 1 (.t 2)),mV 10 0,⟨some 11,.call (.c (.func 57 [])) [(.t 9),(.t 10)],none,[0,1,2,4,3]⟩,⟨some 12,.call (.c (.func 129 [])) [(.t 8),(.t 11)],none,[3,4,5,0,1,2]⟩,⟨some 13,.extract (.t 12) 0,none,[2,1,0,5,4,3,6]⟩,⟨some 14,.extract (.t 12) 1,none,[2,1,0,5,4,3,6]⟩,⟨some 4,.mov (.t 13),none,[8,6,3,4,5,0,1,2,7]⟩,⟨some 5,.mov (.t 14),none,[7,9,6,3,4,5,0,1,2,8]⟩] true) .ret))
def a128:AFunc:={results:=[.tmp 4,.tmp 5],body:=c128}
def c129:ACode:=(.seq (.region [oP 4 (.mov (.c (.int .i64 0))),oP 5 (.mov (.c (.int .i64 0)))] false) (.seq (.seq (.region [mV 7 0,mV 8 1,oP 9 (.call (.c (.func 194 [])) [(.t 7),(.t 8)]),mV 6 9] false) (.seq (.region [mV 10 6,oP 11 (.bin .neq (.t 10) (.c (.int .i64 0)))] false) (.cond (.t 11) (.seq (.region [mV 12 6,oP 4 (.mov (.c (.int .i64 0))),mV 5 12] false) .ret) .skip))) (.seq (.region [mV 13 0,oP 14 (.conv (.int .u64) (.t 13)),mV 15 1,oP 16 (.conv (.int .u64) (.t 15)),oP 17 (.bin .add (.t 14) (.t 16)),oP 18 (.call (.c (.func 195 [])) [(.t 17),(.c (.bool false))]),oP 19 (.extract (.t 18) 0),oP 20 (.extract (.t 18) 1),mV 4 19,mV 5 20] false) .ret)))
def a129:AFunc:={results:=[.tmp 4,.tmp 5],body:=c129}
def c130:ACode:=(.seq (.region [oP 4 (.mov (.c (.bool false)))] false) (.seq (.seq (.region [mV 6 0,oP 7 (.len false (.t 6)),mV 8 1,oP 9 (.len false (.t 8)),oP 10 (.bin .neq (.t 7) (.t 9))] false) (.cond (.t 10) (.seq (.region [oP 4 (.mov (.c (.bool false)))] false) .ret) .skip)) (.seq (.seq (.region [mV 11 0,oP 12 (.len false (.t 11)),oP 13 (.mov (.c (.int .i64 0)))] false) (.block 0 (.loop (.seq (.region [oP 14 (.bin .lss (.t 13) (.t 12))] false) (.seq (.cond (.t 14) .skip (.exit 0)) (.seq (.block 1 (.seq (.region [mV 15 13,mV 5 15] false) (.seq (.region [mV 16 0,mV 17 5,⟨some 18,.idx 2 (.t 16) (.t 17),none,[1,0]⟩,⟨some 19,.load true 2 (.t 18),none,[0,1,2]⟩,mV 20 1,mV 21 5,⟨some 22,.idx 2 (.t 20) (.t 21),none,[5,4]⟩,⟨some 23,.load true 2 (.t 22),none,[4,5,6]⟩,⟨some 24,.eqst true [.s,.i] (.t 19) (.t 23),none,[6,5,4,7,2,1,0,3]⟩] true) (.cond (.t 24) (.seq (.region [oP 4 (.mov (.c (.bool false)))] false) .ret) .skip)))) (.region [oP 25 (.bin .add (.t 13) (.c (.int .i64 1))),mV 13 25] false))))))) (.seq (.region [oP 4 (.mov (.c (.bool true)))] false) .ret))))
def a130:AFunc:={results:=[.tmp 4],body:=c130}
def b131_0:ACode:=(.seq (.region [oP 9 (.bin .lss (.t 8) (.t 7))] false) (.seq (.cond (.t 9) .skip (.exit 0)) (.seq (.block 1 (.seq (.region [mV 10 8,mV 5 10] false) (.seq (.region [mV 11 1,mV 12 0,mV 13 5,oP 14 (.idx 2 (.t 12) (.t 13)),oP 15 (.load true 2 (.t 14)),oP 16 (.call (.t 11) [(.t 15)])] false) (.cond (.t 16) (.seq (.region [mV 17 5,mV 4 17] false) .ret) .skip)))) (.region [oP 18 (.bin .add (.t 8) (.c (.int .i64 1))),mV 8 18] false))))
def c131:ACode:=(.seq (.region [oP 4 (.mov (.c (.int .i64 0)))] false) (.seq (.seq (.region [mV 6 0,oP 7 (.len false (.t 6)),oP 8 (.mov (.c (.int .i64 0)))] false) (.block 0 (.loop b131_0))) (.seq (.region [oP 4 (.mov (.c (.int .i64 (-1))))] false) .ret)))
def a131:AFunc:={results:=[.tmp 4],body:=c131}
def c132:ACode:=(.seq (.region [oP 2 (.box (.t 0)),oP 3 (.mov (.c (.bool false)))] false) (.seq (.region [oP 4 (.fld 0 1 (.t 2)),oP 5 (.load false 1 (.t 4)),oP 6 (.load false 1 (.t 1)),oP 7 (.bin .eql (.t 5) (.t 6)),mV 3 7] false) .ret))
def a132:AFunc:={results:=[.tmp 3],body:=c132}
def c133:ACode:=(.seq (.region [oP 4 (.mov (.c (.bool false)))] false) (.seq (.region [mV 5 0,mV 6 1,oP 7 (.call (.c (.func 131 [])) [(.t 5),(.t 6)]),oP 8 (.bin .geq (.t 7) (.c (.int .i64 0))),mV 4 8] false) .ret))
def a133:AFunc:={results:=[.tmp 4],body:=c133}
def c134:ACode:=(.seq (.region [oP 2 (.box (.t 0)),oP 3 (.mov (.c (.bool false)))] false) (.seq (.region [oP 4 (.fld 1 1 (.t 2)),⟨some 5,.load false 1 (.t 4),none,[0]⟩,oP 6 (.load false 1 (.t 1)),oP 7 (.fld 0 1 (.t 2)),⟨some 8,.load false 1 (.t 7),none,[3]⟩,⟨some 9,.call (.c (.func 57 [])) [(.t 6),(.t 8)],none,[3,4,2]⟩,⟨some 10,.bin .gtr (.t 5) (.t 9),none,[2,4,3,5,0,1]⟩,⟨some 3,.mov (.t 10),none,[1,0,5,3,4,2,6]⟩] true) .ret))
def a134:AFunc:={results:=[.tmp 3],body:=c134}
def b135_0:ACode:=(.seq (.region [oP 8 (.bin .lss (.t 7) (.t 6))] false) (.seq (.cond (.t 8) .skip (.exit 0)) (.seq (.block 1 (.seq (.region [oP 9 (.idx 1 (.t 5) (.t 7)),oP 10 (.load false 1 (.t 9)),mV 4 10] false) (.seq (.region [mV 11 4,oP 12 (.bin .neq (.t 11) (.c (.int .i64 0)))] false) (.cond (.t 12) (.seq (.region [mV 13 4,mV 2 13] false) .ret) .skip)))) (.region [oP 14 (.bin .add (.t 7) (.c (.int .i64 1))),mV 7 14] false))))
def c135:ACode:=(.seq (.region [oP 2 (.mov (.c (.int .i64 0)))] false) (.seq (.seq (.region [mV 5 0,oP 6 (.len false (.t 5)),oP 7 (.mov (.c (.int .i64 0)))] false) (.block 0 (.loop b135_0))) (.seq (.region [oP 2 (.mov (.c (.int .i64 0)))] false) .ret)))
def a135:AFunc:={results:=[.tmp 2],body:=c135}
def c136:ACode:=(.seq (.region [oP 2 (.mov (.c (.int .i64 0)))] false) (.seq (.seq (.region [mV 3 0,oP 4 (.call (.c (.func 196 [])) [(.t 3)]),oP 5 (.un .not (.t 4))] false) (.cond (.t 5) (.seq (.region [oP 2 (.mov (.c (.int .i64 3)))] false) .ret) .skip)) (.seq (.region [oP 2 (.mov (.c (.int .i64 0)))] false) .ret)))
def a136:AFunc:={results:=[.tmp 2],body:=c136}
def c137:ACode:=(.seq (.region [oP 2 (.mov (.c (.int .i64 0)))] false) (.seq (.seq (.region [mV 3 0,oP 4 (.bin .eql (.t 3) (.c (.str [])))] false) (.cond (.t 4) (.seq (.region [oP 2 (.mov (.c (.int .i64 0)))] false) .ret) .skip)) (.seq (.region [mV 5 0,oP 6 (.call (.c (.func 136 [])) [(.t 5)]),mV 2 6] false) .ret)))
def a137:AFunc:={results:=[.tmp 2],body:=c137}
def c138:ACode:=(.seq (.region [oP 1 (.box (.t 0)),oP 2 (.mov (.c (.int .i64 0)))] false) (.seq (.seq (.region [oP 3 (.fld 10 1 (.t 1)),oP 4 (.load false 1 (.t 3))] false) (.cond (.t 4) (.seq (.region [oP 5 (.fld 2 1 (.t 1)),oP 6 (.load false 1 (.t 5)),oP 7 (.call (.c (.func 197 [])) [(.t 6),(.c (.int .i64 (-1))),(.c (.int .i64 (-1)))]),mV 2 7] false) .ret) .skip)) (.seq (.region [oP 8 (.fld 2 1 (.t 1)),oP 9 (.load false 1 (.t 8)),oP 10 (.call (.c (.func 197 [])) [(.t 9),(.c (.int .i64 0)),(.c (.int .i64 1000000))]),mV 2 10] false) .ret)))
def a138:AFunc:={results:=[.tmp 2],body:=c138}
def b139_0:ACode:=(.seq (.region [oP 11 (.bin .lss (.t 10) (.t 9))] false) (.seq (.cond (.t 11) .skip (.exit 0)) (.seq (.block 1 (.seq (.region [mV 12 10,oP 13 (.idx 2 (.t 8) (.t 10)),oP 14 (.load true 2 (.t 13)),oP 4 (.box (.c (.agg [(.str []),(.int .i64 0)]))),mV 3 12,⟨none,.store 2 (.t 4) (.t 14),none,[]⟩] false) (.block 2 (.seq (.region [oP 16 (.fld 0 1 (.t 4)),oP 17 (.load false 1 (.t 16)),oP 18 (.call (.c (.func 196 [])) [(.t 17)]),oP 19 (.un .not (.t 18)),mV 15 19] false) (.cond (.t 15) (.seq (.region [oP 2 (.mov (.c (.int .i64 3)))] false) .ret) (.seq (.region [oP 21 (.fld 1 1 (.t 4)),oP 22 (.load false 1 (.t 21)),oP 23 (.bin .leq (.t 22) (.c (.int .i64 0))),mV 20 23] false) (.cond (.t 20) (.seq (.region [oP 2 (.mov (.c (.int .i64 1)))] false) .ret) (.seq (.region [mV 25 3,⟨some 26,.bin .gtr (.t 25) (.c (.int .i64 0)),none,[0]⟩,⟨some 27,.mov (.t 26),none,[0,1]⟩,⟨some 28,.fld 0 1 (.t 4),some (27,true),[1,0,2]⟩,⟨some 29,.load false 1 (.t 28),some (27,true),[2,0,1,3]⟩,⟨some 30,.mov (.t 0),some (27,true),[1,0,2]⟩,⟨some 31,.mov (.t 3),some (27,true),[1,0,2]⟩,⟨some 32,.bin .sub (.t 31) (.c (.int .i64 1)),some (27,true),[2,0,1,6]⟩,⟨some 33,.idx 2 (.t 30) (.t 32),some (27,true),[6,7,2,0,1,5]⟩,⟨some 34,.fld 0 1 (.t 33),some (27,true),[5,1,0,2,7,6,8]⟩,⟨some 35,.load false 1 (.t 34),some (27,true),[8,6,7,2,0,1,5,9]⟩,⟨some 36,.bin .leq (.t 29) (.t 35),some (27,true),[9,5,7,6,8,10,3,1,0,2,4]⟩,⟨some 37,.pick (.t 27) (.t 36) (.c (.bool false)),none,[4,3,10,8,6,7,5,9,11,1,0,2]⟩,⟨some 24,.mov (.t 37),none,[2,0,1,11,9,5,7,6,8,10,3,4,12]⟩] true) (.cond (.t 24) (.seq (.region [oP 2 (.mov (.c (.int .i64 13)))] false) .ret) .skip))))))))) (.region [oP 38 (.bin .add (.t 10) (.c (.int .i64 1))),mV 10 38] false))))
def c139:ACode:=(.seq (.region [oP 2 (.mov (.c (.int .i64 0)))] false) (.seq (.seq (.region [mV 5 0,oP 6 (.len false (.t 5)),oP 7 (.bin .gtr (.t 6) (.c (.int .i64 8)))] false) (.cond (.t 7) (.seq (.region [oP 2 (.mov (.c (.int .i64 4)))] false) .ret) .skip)) (.seq (.seq (.region [mV 8 0,oP 9 (.len false (.t 8)),oP 10 (.mov (.c (.int .i64 0)))] false) (.block 0 (.loop b139_0))) (.seq (.region [oP 2 (.mov (.c (.int .i64 0)))] false) .ret))))
def a139:AFunc:={results:=[.tmp 2],body:=c139}
def b140_0:ACode:=(.seq (.region [oP 11 (.bin .lss (.t 10) (.t 9))] false) (.seq (.cond (.t 11) .skip (.exit 0)) (.seq (.block 1 (.seq (.region [mV 12 10,oP 13 (.idx 2 (.t 8) (.t 10)),oP 14 (.load true 2 (.t 13)),oP 4 (.box (.c (.agg [(.str []),(.str [])]))),mV 3 12,⟨none,.store 2 (.t 4) (.t 14),none,[]⟩] false) (.block 2 (.seq (.region [oP 16 (.fld 0 1 (.t 4)),oP 17 (.load false 1 (.t 16)),oP 18 (.call (.c (.func 196 [])) [(.t 17)]),oP 19 (.un .not (.t 18)),mV 20 19,⟨some 21,.fld 1 1 (.t 4),some (20,false),[]⟩,⟨some 22,.load false 1 (.t 21),some (20,false),[]⟩,⟨some 23,.call (.c (.func 196 [])) [(.t 22)],some (20,false),[]⟩,⟨some 24,.un .not (.t 23),some (20,false),[]⟩,oP 25 (.pick (.t 20) (.c (.bool true)) (.t 24)),mV 15 25] false) (.cond (.t 15) (.seq (.region [oP 2 (.mov (.c (.int .i64 3)))] false) .ret) (.seq (.region [mV 27 3,⟨some 28,.bin .gtr (.t 27) (.c (.int .i64 0)),none,[0]⟩,⟨some 29,.mov (.t 28),none,[0,1]⟩,⟨some 30,.fld 0 1 (.t 4),some (29,true),[1,0,2]⟩,⟨some 31,.load false 1 (.t 30),some (29,true),[2,0,1,3]⟩,⟨some 32,.mov (.t 0),some (29,true),[1,0,2]⟩,⟨some 33,.mov (.t 3),some (29,true),[1,0,2]⟩,⟨some 34,.bin .sub (.t 33) (.c (.int .i64 1)),some (29,true),[2,0,1,6]⟩,⟨some 35,.idx 2 (.t 32) (.t 34),some (29,true),[6,7,2,0,1,5]⟩,⟨some 36,.fld 0 1 (.t 35),some (29,true),[5,1,0,2,7,6,8]⟩,⟨some 37,.load false 1 (.t 36),some (29,true),[8,6,7,2,0,1,5,9]⟩,⟨some 38,.bin .leq (.t 31) (.t 37),some (29,true),[9,5,7,6,8,10,3,1,0,2,4]⟩,⟨some 39,.pick (.t 29) (.t 38) (.c (.bool false)),none,[4,3,10,8,6,7,5,9,11,1,0,2]⟩,⟨some 26,.mov (.t 39),none,[2,0,1,11,9,5,7,6,8,10,3,4,12]⟩] true) (.cond (.t 26) (.seq (.region [oP 2 (.mov (.c (.int .i64 13)))] false) .ret) .skip))))))) (.region [oP 40 (.bin .add (.t 10) (.c (.int .i64 1))),mV 10 40] false))))
def c140:ACode:=(.seq (.region [oP 2 (.mov (.c (.int .i64 0)))] false) (.seq (.seq (.region [mV 5 0,oP 6 (.len false (.t 5)),oP 7 (.bin .gtr (.t 6) (.c (.int .i64 8)))] false) (.cond (.t 7) (.seq (.region [oP 2 (.mov (.c (.int .i64 4)))] false) .ret) .skip)) (.seq (.seq (.region [mV 8 0,oP 9 (.len false (.t 8)),oP 10 (.mov (.c (.int .i64 0)))] false) (.block 0 (.loop b140_0))) (.seq (.region [oP 2 (.mov (.c (.int .i64 0)))] false) .ret))))
def a140:AFunc:={results:=[.tmp 2],body:=c140}
def b141_0:ACode:=(.seq (.region [oP 12 (.bin .lss (.t 11) (.t 10))] false) (.seq (.cond (.t 12) .skip (.exit 0)) (.seq (.block 1 (.seq (.region [oP 13 (.idx 3 (.t 9) (.t 11)),oP 14 (.load true 3 (.t 13)),oP 4 (.box (.c (.agg [(.int .i64 0),(.str []),(.str [])]))),⟨none,.store 3 (.t 4) (.t 14),none,[]⟩] false) (.seq (.region [oP 15 (.fld 2 1 (.t 4)),oP 16 (.load false 1 (.t 15)),oP 17 (.bin .eql (.t 16) (.c (.str []))),mV 5 17] false) (.seq (.seq (.region [oP 18 (.fld 0 1 (.t 4)),oP 19 (.load false 1 (.t 18))] false) (.block 2 (.seq (.seq (.region [oP 21 (.bin .eql (.t 19) (.c (.int .i64 1))),mV 20 21] false) (.cond (.t 20) .skip (.region [oP 22 (.bin .eql (.t 19) (.c (.int .i64 2))),mV 20 22] false))) (.cond (.t 20) (.region [oP 23 (.fld 2 1 (.t 4)),oP 24 (.load false 1 (.t 23)),oP 25 (.call (.c (.func 196 [])) [(.t 24)]),mV 5 25] false) (.seq (.seq (.region [oP 27 (.bin .eql (.t 19) (.c (.int .i64 3))),mV 26 27] false) (.cond (.t 26) .skip (.region [oP 28 (.bin .eql (.t 19) (.c (.int .i64 4))),mV 26 28] false))) (.cond (.t 26) .skip (.seq (.region [oP 2 (.mov (.c (.int .i64 1)))] false) .ret))))))) (.seq (.region [oP 29 (.fld 1 1 (.t 4)),oP 30 (.load false 1 (.t 29)),oP 31 (.call (.c (.func 196 [])) [(.t 30)]),oP 32 (.un .not (.t 31)),mV 33 32,⟨some 34,.mov (.t 5),some (33,false),[]⟩,⟨some 35,.un .not (.t 34),some (33,false),[]⟩,oP 36 (.pick (.t 33) (.c (.bool true)) (.t 35))] false) (.cond (.t 36) (.seq (.region [oP 2 (.mov (.c (.int .i64 3)))] false) .ret) .skip)))))) (.region [oP 37 (.bin .add (.t 11) (.c (.int .i64 1))),mV 11 37] false))))
def c141:ACode:=(.seq (.region [oP 2 (.mov (.c (.int .i64 0)))] false) (.seq (.seq (.region [mV 6 0,oP 7 (.len false (.t 6)),oP 8 (.bin .gtr (.t 7) (.c (.int .i64 8)))] false) (.cond (.t 8) (.seq (.region [oP 2 (.mov (.c (.int .i64 4)))] false) .ret) .skip)) (.seq (.seq (.region [mV 9 0,oP 10 (.len false (.t 9)),oP 11 (.mov (.c (.int .i64 0)))] false) (.block 0 (.loop b141_0))) (.seq (.region [oP 2 (.mov (.c (.int .i64 0)))] false) .ret))))
def a141:AFunc:={results:=[.tmp 2],body:=c141}
def b142_0:ACode:=(.seq (.region [oP 11 (.bin .lss (.t 10) (.t 9))] false) (.seq (.cond (.t 11) .skip (.exit 0)) (.seq (.block 1 (.seq (.region [oP 12 (.idx 3 (.t 8) (.t 10)),oP 13 (.load true 3 (.t 12)),oP 4 (.box (.c (.agg [(.str []),(.str []),(.bool false)]))),⟨none,.store 3 (.t 4) (.t 13),none,[]⟩] false) (.seq (.region [oP 14 (.fld 0 1 (.t 4)),oP 15 (.load false 1 (.t 14)),oP 16 (.bin .neq (.t 15) (.c (.str []))),mV 17 16,⟨some 18,.fld 0 1 (.t 4),some (17,true),[]⟩,⟨some 19,.load false 1 (.t 18),some (17,true),[]⟩,⟨some 20,.call (.c (.func 196 [])) [(.t 19)],some (17,true),[]⟩,⟨some 21,.un .not (.t 20),some (17,true),[]⟩,oP 22 (.pick (.t 17) (.t 21) (.c (.bool false))),mV 23 22,⟨some 24,.fld 2 1 (.t 4),some (23,false),[]⟩,⟨some 25,.load false 1 (.t 24),some (23,false),[]⟩,⟨some 26,.fld 1 1 (.t 4),some (23,false),[]⟩,⟨some 27,.load false 1 (.t 26),some (23,false),[]⟩,⟨some 28,.bin .eql (.t 27) (.c (.str [])),some (23,false),[]⟩,⟨some 29,.eqb true (.t 25) (.t 28),some (23,false),[]⟩,oP 30 (.pick (.t 23) (.c (.bool true)) (.t 29)),mV 31 30,⟨some 32,.fld 2 1 (.t 4),some (31,false),[]⟩,⟨some 33,.load false 1 (.t 32),some (31,false),[]⟩,⟨some 34,.un .not (.t 33),some (31,false),[]⟩,⟨some 35,.mov (.t 34),some (31,false),[]⟩,⟨some 36,.fld 1 1 (.t 4),some (35,true),[]⟩,⟨some 37,.load false 1 (.t 36),some (35,true),[]⟩,⟨some 38,.call (.c (.func 196 [])) [(.t 37)],some (35,true),[]⟩,⟨some 39,.un .not (.t 38),some (35,true),[]⟩,⟨some 40,.pick (.t 35) (.t 39) (.c (.bool false)),some (31,false),[]⟩,oP 41 (.pick (.t 31) (.c (.bool true)) (.t 40))] false) (.cond (.t 41) (.seq (.region [oP 2 (.mov (.c (.int .i64 3)))] false) .ret) .skip)))) (.region [oP 42 (.bin .add (.t 10) (.c (.int .i64 1))),mV 10 42] false))))
def c142:ACode:=(.seq (.region [oP 2 (.mov (.c (.int .i64 0)))] false) (.seq (.seq (.region [mV 5 0,oP 6 (.len false (.t 5)),oP 7 (.bin .gtr (.t 6) (.c (.int .i64 8)))] false) (.cond (.t 7) (.seq (.region [oP 2 (.mov (.c (.int .i64 4)))] false) .ret) .skip)) (.seq (.seq (.region [mV 8 0,oP 9 (.len false (.t 8)),oP 10 (.mov (.c (.int .i64 0)))] false) (.block 0 (.loop b142_0))) (.seq (.region [oP 2 (.mov (.c (.int .i64 0)))] false) .ret))))
def a142:AFunc:={results:=[.tmp 2],body:=c142}
def c143:ACode:=(.seq (.region [oP 1 (.box (.t 0)),oP 2 (.mov (.c (.int .i64 0)))] false) (.seq (.seq (.region [oP 3 (.fld 7 1 (.t 1)),oP 4 (.load false 1 (.t 3)),oP 5 (.bin .eql (.t 4) (.c (.str [])))] false) (.cond (.t 5) (.seq (.region [oP 6 (.fld 8 1 (.t 1)),oP 7 (.load false 1 (.t 6)),oP 8 (.call (.c (.func 197 [])) [(.t 7),(.c (.int .i64 0)),(.c (.int .i64 0))]),mV 2 8] false) .ret) .skip)) (.seq (.region [oP 9 (.fld 8 1 (.t 1)),oP 10 (.load false 1 (.t 9)),oP 11 (.call (.c (.func 197 [])) [(.t 10),(.c (.int .i64 1)),(.c (.int .i64 128))]),mV 2 11] false) .ret)))
def a143:AFunc:={results:=[.tmp 2],body:=c143}
def c144:ACode:=(.seq (.region [oP 4 (.mov (.c (.bool false)))] false) (.seq (.seq (.region [mV 6 0,oP 7 (.len false (.t 6)),mV 8 1,oP 9 (.len false (.t 8)),oP 10 (.bin .neq (.t 7) (.t 9))] false) (.cond (.t 10) (.seq (.region [oP 4 (.mov (.c (.bool false)))] false) .ret) .skip)) (.seq (.seq (.region [mV 11 0,oP 12 (.len false (.t 11)),oP 13 (.mov (.c (.int .i64 0)))] false) (.block 0 (.loop (.seq (.region [oP 14 (.bin .lss (.t 13) (.t 12))] false) (.seq (.cond (.t 14) .skip (.exit 0)) (.seq (.block 1 (.seq (.region [mV 15 13,mV 5 15] false) (.seq (.region [mV 16 0,mV 17 5,⟨some 18,.idx 2 (.t 16) (.t 17),none,[1,0]⟩,⟨some 19,.load true 2 (.t 18),none,[0,1,2]⟩,mV 20 1,mV 21 5,⟨some 22,.idx 2 (.t 20) (.t 21),none,[5,4]⟩,⟨some 23,.load true 2 (.t 22),none,[4,5,6]⟩,⟨some 24,.eqst true [.s,.s] (.t 19) (.t 23),none,[6,5,4,7,2,1,0,3]⟩] true) (.cond (.t 24) (.seq (.region [oP 4 (.mov (.c (.bool false)))] false) .ret) .skip)))) (.region [oP 25 (.bin .add (.t 13) (.c (.int .i64 1))),mV 13 25] false))))))) (.seq (.region [oP 4 (.mov (.c (.bool true)))] false) .ret))))
def a144:AFunc:={results:=[.tmp 4],body:=c144}
def c145:ACode:=(.seq (.region [oP 4 (.mov (.c (.bool false)))] false) (.seq (.seq (.region [mV 6 0,oP 7 (.len false (.t 6)),mV 8 1,oP 9 (.len false (.t 8)),oP 10 (.bin .neq (.t 7) (.t 9))] false) (.cond (.t 10) (.seq (.region [oP 4 (.mov (.c (.bool false)))] false) .ret) .skip)) (.seq (.seq (.region [mV 11 0,oP 12 (.len false (.t 11)),oP 13 (.mov (.c (.int .i64 0)))] false) (.block 0 (.loop (.seq (.region [oP 14 (.bin .lss (.t 13) (.t 12))] false) (.seq (.cond (.t 14) .skip (.exit 0)) (.seq (.block 1 (.seq (.region [mV 15 13,mV 5 15] false) (.seq (.region [mV 16 0,mV 17 5,⟨some 18,.idx 3 (.t 16) (.t 17),none,[1,0]⟩,⟨some 19,.load true 3 (.t 18),none,[0,1,2]⟩,mV 20 1,mV 21 5,⟨some 22,.idx 3 (.t 20) (.t 21),none,[5,4]⟩,⟨some 23,.load true 3 (.t 22),none,[4,5,6]⟩,⟨some 24,.eqst true [.i,.s,.s] (.t 19) (.t 23),none,[6,5,4,7,2,1,0,3]⟩] true) (.cond (.t 24) (.seq (.region [oP 4 (.mov (.c (.bool false)))] false) .ret) .skip)))) (.region [oP 25 (.bin .add (.t 13) (.c (.int .i64 1))),mV 13 25] false))))))) (.seq (.region [oP 4 (.mov (.c (.bool true)))] false) .ret))))
def a145:AFunc:={results:=[.tmp 4],body:=c145}
def c146:ACode:=(.seq (.region [oP 4 (.mov (.c (.bool false)))] false) (.seq (.seq (.region [mV 6 0,oP 7 (.len false (.t 6)),mV 8 1,oP 9 (.len false (.t 8)),oP 10 (.bin .neq (.t 7) (.t 9))] false) (.cond (.t 10) (.seq (.region [oP 4 (.mov (.c (.bool false)))] false) .ret) .skip)) (.seq (.seq (.region [mV 11 0,oP 12 (.len false (.t 11)),oP 13 (.mov (.c (.int .i64 0)))] false) (.block 0 (.loop (.seq (.region [oP 14 (.bin .lss (.t 13) (.t 12))] false) (.seq (.cond (.t 14) .skip (.exit 0)) (.seq (.block 1 (.seq (.region [mV 15 13,mV 5 15] false) (.seq (.region [mV 16 0,mV 17 5,⟨some 18,.idx 3 (.t 16) (.t 17),none,[1,0]⟩,⟨some 19,.load true 3 (.t 18),none,[0,1,2]⟩,mV 20 1,mV 21 5,⟨some 22,.idx 3 (.t 20) (.t 21),none,[5,4]⟩,⟨some 23,.load true 3 (.t 22),none,[4,5,6]⟩,⟨some 24,.eqst true [.s,.s,.b] (.t 19) (.t 23),none,[6,5,4,7,2,1,0,3]⟩] true) (.cond (.t 24) (.seq (.region [oP 4 (.mov (.c (.bool false)))] false) .ret) .skip)))) (.region [oP 25 (.bin .add (.t 13) (.c (.int .i64 1))),mV 13 25] false))))))) (.seq (.region [oP 4 (.mov (.c (.bool true)))] false) .ret))))
def a146:AFunc:={results:=[.tmp 4],body:=c146}
def b162_0:ACode:=(.seq (.region [oP 9 (.bin .lss (.t 8) (.t 7))] false) (.seq (.cond (.t 9) .skip (.exit 0)) (.seq (.block 1 (.seq (.region [mV 10 8,mV 5 10] false) (.seq (.region [mV 11 1,mV 12 0,mV 13 5,oP 14 (.idx 11 (.t 12) (.t 13)),oP 15 (.load true 11 (.t 14)),oP 16 (.call (.t 11) [(.t 15)])] false) (.cond (.t 16) (.seq (.region [mV 17 5,mV 4 17] false) .ret) .skip)))) (.region [oP 18 (.bin .add (.t 8) (.c (.int .i64 1))),mV 8 18] false))))
def c162:ACode:=(.seq (.region [oP 4 (.mov (.c (.int .i64 0)))] false) (.seq (.seq (.region [mV 6 0,oP 7 (.len false (.t 6)),oP 8 (.mov (.c (.int .i64 0)))] false) (.block 0 (.loop b162_0))) (.seq (.region [oP 4 (.mov (.c (.int .i64 (-1))))] false) .ret)))
def a162:AFunc:={results:=[.tmp 4],body:=c162}
def b169_0:ACode:=(.seq (.region [oP 19 (.bin .lss (.t 18) (.t 17))] false) (.seq (.cond (.t 19) .skip (.exit 0)) (.seq (.block 1 (.seq (.region [mV 20 18,oP 21 (.idx 5 (.t 16) (.t 18)),oP 22 (.load true 5 (.t 21)),oP 10 (.box (.c (.agg [(.str []),(.sl .full []),(.sl .full []),(.sl .full []),(.bool false)]))),mV 9 20,⟨none,.store 5 (.t 10) (.t 22),none,[]⟩] false) (.seq (.seq (.region [mV 23 3,oP 24 (.load true 5 (.t 10)),oP 25 (.call (.t 23) [(.t 24)]),mV 11 25] false) (.seq (.region [mV 26 11,oP 27 (.bin .neq (.t 26) (.c (.int .i64 0)))] false) (.cond (.t 27) (.seq (.region [mV 28 11,mV 8 28] false) .ret) .skip))) (.seq (.region [mV 29 9,⟨some 30,.bin .gtr (.t 29) (.c (.int .i64 0)),none,[0]⟩,⟨some 31,.mov (.t 30),none,[0,1]⟩,⟨some 32,.mov (.t 2),some (31,true),[1,0,2]⟩,⟨some 33,.load true 5 (.t 10),some (31,true),[1,0,2]⟩,⟨some 34,.call (.t 32) [(.t 33)],some (31,true),[4,2,0,1,3]⟩,⟨some 35,.mov (.t 2),some (31,true),[1,0,2]⟩,⟨some 36,.mov (.t 0),some (31,true),[1,0,2]⟩,⟨some 37,.mov (.t 9),some (31,true),[1,0,2]⟩,⟨some 38,.bin .sub (.t 37) (.c (.int .i64 1)),some (31,true),[2,0,1,8]⟩,⟨some 39,.idx 5 (.t 36) (.t 38),some (31,true),[8,9,2,0,1,7]⟩,⟨some 40,.load true 5 (.t 39),some (31,true),[7,1,0,2,9,8,10]⟩,⟨some 41,.call (.t 35) [(.t 40)],some (31,true),[3,4,5,10,8,9,7,11,2,0,1,6]⟩,⟨some 42,.bin .leq (.t 34) (.t 41),some (31,true),[6,11,7,9,8,10,12,3,1,0,2,4,5]⟩,⟨some 43,.pick (.t 31) (.t 42) (.c (.bool false)),none,[5,4,3,12,10,8,9,7,11,6,13,1,0,2]⟩] true) (.cond (.t 43) (.seq (.region [oP 8 (.mov (.c (.int .i64 13)))] false) .ret) .skip))))) (.region [oP 44 (.bin .add (.t 18) (.c (.int .i64 1))),mV 18 44] false))))
def c169:ACode:=(.seq (.region [oP 8 (.mov (.c (.int .i64 0)))] false) (.seq (.seq (.region [mV 12 0,oP 13 (.len false (.t 12)),mV 14 1,oP 15 (.bin .gtr (.t 13) (.t 14))] false) (.cond (.t 15) (.seq (.region [oP 8 (.mov (.c (.int .i64 4)))] false) .ret) .skip)) (.seq (.seq (.region [mV 16 0,oP 17 (.len false (.t 16)),oP 18 (.mov (.c (.int .i64 0)))] false) (.block 0 (.loop b169_0))) (.seq (.region [oP 8 (.mov (.c (.int .i64 0)))] false) .ret))))
def a169:AFunc:={results:=[.tmp 8],body:=c169}
def c170:ACode:=(.seq (.region [oP 1 (.box (.t 0)),oP 2 (.mov (.c (.str [])))] false) (.seq (.region [oP 3 (.fld 0 1 (.t 1)),oP 4 (.load false 1 (.t 3)),mV 2 4] false) .ret))
def a170:AFunc:={results:=[.tmp 2],body:=c170}
def c171:ACode:=(.seq (.region [oP 1 (.box (.t 0)),oP 2 (.mov (.c (.int .i64 0)))] false) (.seq (.region [oP 3 (.fld 0 1 (.t 1)),⟨some 4,.load false 1 (.t 3),none,[0]⟩,⟨some 5,.call (.c (.func 136 [])) [(.t 4)],none,[0,1]⟩,oP 6 (.fld 1 1 (.t 1)),⟨some 7,.load false 1 (.t 6),none,[3]⟩,⟨some 8,.call (.c (.func 139 [])) [(.t 7)],none,[1,0,2,3,4]⟩,oP 9 (.fld 2 1 (.t 1)),⟨some 10,.load false 1 (.t 9),none,[6]⟩,⟨some 11,.call (.c (.func 140 [])) [(.t 10)],none,[4,3,2,0,1,5,6,7]⟩,oP 12 (.fld 3 1 (.t 1)),⟨some 13,.load false 1 (.t 12),none,[9]⟩,⟨some 14,.call (.c (.func 212 [])) [(.t 13)],none,[7,6,5,1,0,2,3,4,8,9,10]⟩,⟨some 15,.bslice 1 [(.t 5),(.t 8),(.t 11),(.t 14)],none,[10,9,11,7,6,8,4,3,5,1,0,2]⟩,⟨some 16,.call (.c (.func 135 [])) [(.t 15)],none,[2,0,1,5,3,4,8,6,7,11,9,10,12]⟩,⟨some 2,.mov (.t 16),none,[12,10,9,11,7,6,8,4,3,5,1,0,2,13]⟩] true) .ret))
def a171:AFunc:={results:=[.tmp 2],body:=c171}
def b172_0:ACode:=(.seq (.region [oP 19 (.bin .lss (.t 18) (.t 17))] false) (.seq (.cond (.t 19) .skip (.exit 0)) (.seq (.block 1 (.seq (.region [mV 20 18,oP 21 (.idx 11 (.t 16) (.t 18)),oP 22 (.load true 11 (.t 21)),oP 10 (.box (.c (.agg [(.str []),(.str []),(.int .i64 0),(.sl .full []),(.sl .full []),(.sl .full []),(.sl .full []),(.str []),(.int .i64 0),(.str []),(.bool false)]))),mV 9 20,⟨none,.store 11 (.t 10) (.t 22),none,[]⟩] false) (.seq (.seq (.region [mV 23 3,oP 24 (.load true 11 (.t 10)),oP 25 (.call (.t 23) [(.t 24)]),mV 11 25] false) (.seq (.region [mV 26 11,oP 27 (.bin .neq (.t 26) (.c (.int .i64 0)))] false) (.cond (.t 27) (.seq (.region [mV 28 11,mV 8 28] false) .ret) .skip))) (.seq (.region [mV 29 9,⟨some 30,.bin .gtr (.t 29) (.c (.int .i64 0)),none,[0]⟩,⟨some 31,.mov (.t 30),none,[0,1]⟩,⟨some 32,.mov (.t 2),some (31,true),[1,0,2]⟩,⟨some 33,.load true 11 (.t 10),some (31,true),[1,0,2]⟩,⟨some 34,.call (.t 32) [(.t 33)],some (31,true),[4,2,0,1,3]⟩,⟨some 35,.mov (.t 2),some (31,true),[1,0,2]⟩,⟨some 36,.mov (.t 0),some (31,true),[1,0,2]⟩,⟨some 37,.mov (.t 9),some (31,true),[1,0,2]⟩,⟨some 38,.bin .sub (.t 37) (.c (.int .i64 1)),some (31,true),[2,0,1,8]⟩,⟨some 39,.idx 11 (.t 36) (.t 38),some (31,true),[8,9,2,0,1,7]⟩,⟨some 40,.load true 11 (.t 39),some (31,true),[7,1,0,2,9,8,10]⟩,⟨some 41,.call (.t 35) [(.t 40)],some (31,true),[3,4,5,10,8,9,7,11,2,0,1,6]⟩,⟨some 42,.bin .leq (.t 34) (.t 41),some (31,true),[6,11,7,9,8,10,12,3,1,0,2,4,5]⟩,⟨some 43,.pick (.t 31) (.t 42) (.c (.bool false)),none,[5,4,3,12,10,8,9,7,11,6,13,1,0,2]⟩] true) (.cond (.t 43) (.seq (.region [oP 8 (.mov (.c (.int .i64 13)))] false) .ret) .skip))))) (.region [oP 44 (.bin .add (.t 18) (.c (.int .i64 1))),mV 18 44] false))))
def c172:ACode:=(.seq (.region [oP 8 (.mov (.c (.int .i64 0)))] false) (.seq (.seq (.region [mV 12 0,oP 13 (.len false (.t 12)),mV 14 1,oP 15 (.bin .gtr (.t 13) (.t 14))] false) (.cond (.t 15) (.seq (.region [oP 8 (.mov (.c (.int .i64 4)))] false) .ret) .skip)) (.seq (.seq (.region [mV 16 0,oP 17 (.len false (.t 16)),oP 18 (.mov (.c (.int .i64 0)))] false) (.block 0 (.loop b172_0))) (.seq (.region [oP 8 (.mov (.c (.int .i64 0)))] false) .ret))))
def a172:AFunc:={results:=[.tmp 8],body:=c172}
def c173:ACode:=(.seq (.region [oP 1 (.box (.t 0)),oP 2 (.mov (.c (.str [])))] false) (.seq (.region [oP 3 (.fld 0 1 (.t 1)),oP 4 (.load false 1 (.t 3)),mV 2 4] false) .ret))
def a173:AFunc:={results:=[.tmp 2],body:=c173}
def b174_0:ACode:=(.seq (.region [oP 19 (.bin .lss (.t 18) (.t 17))] false) (.seq (.cond (.t 19) .skip (.exit 0)) (.seq (.block 1 (.seq (.region [mV 20 18,oP 21 (.idx 3 (.t 16) (.t 18)),oP 22 (.load true 3 (.t 21)),oP 10 (.box (.c (.agg [(.str []),(.sl .full []),(.int .i64 0)]))),mV 9 20,⟨none,.store 3 (.t 10) (.t 22),none,[]⟩] false) (.seq (.seq (.region [mV 23 3,oP 24 (.load true 3 (.t 10)),oP 25 (.call (.t 23) [(.t 24)]),mV 11 25] false) (.seq (.region [mV 26 11,oP 27 (.bin .neq (.t 26) (.c (.int .i64 0)))] false) (.cond (.t 27) (.seq (.region [mV 28 11,mV 8 28] false) .ret) .skip))) (.seq (.region [mV 29 9,⟨some 30,.bin .gtr (.t 29) (.c (.int .i64 0)),none,[0]⟩,⟨some 31,.mov (.t 30),none,[0,1]⟩,⟨some 32,.mov (.t 2),some (31,true),[1,0,2]⟩,⟨some 33,.load true 3 (.t 10),some (31,true),[1,0,2]⟩,⟨some 34,.call (.t 32) [(.t 33)],some (31,true),[4,2,0,1,3]⟩,⟨some 35,.mov (.t 2),some (31,true),[1,0,2]⟩,⟨some 36,.mov (.t 0),some (31,true),[1,0,2]⟩,⟨some 37,.mov (.t 9),some (31,true),[1,0,2]⟩,⟨some 38,.bin .sub (.t 37) (.c (.int .i64 1)),some (31,true),[2,0,1,8]⟩,⟨some 39,.idx 3 (.t 36) (.t 38),some (31,true),[8,9,2,0,1,7]⟩,⟨some 40,.load true 3 (.t 39),some (31,true),[7,1,0,2,9,8,10]⟩,⟨some 41,.call (.t 35) [(.t 40)],some (31,true),[3,4,5,10,8,9,7,11,2,0,1,6]⟩,⟨some 42,.bin .leq (.t 34) (.t 41),some (31,true),[6,11,7,9,8,10,12,3,1,0,2,4,5]⟩,⟨some 43,.pick (.t 31) (.t 42) (.c (.bool false)),none,[5,4,3,12,10,8,9,7,11,6,13,1,0,2]⟩] true) (.cond (.t 43) (.seq (.region [oP 8 (.mov (.c (.int .i64 13)))] false) .ret) .skip))))) (.region [oP 44 (.bin .add (.t 18) (.c (.int .i64 1))),mV 18 44] false))))
def c174:ACode:=(.seq (.region [oP 8 (.mov (.c (.int .i64 0)))] false) (.seq (.seq (.region [mV 12 0,oP 13 (.len false (.t 12)),mV 14 1,oP 15 (.bin .gtr (.t 13) (.t 14))] false) (.cond (.t 15) (.seq (.region [oP 8 (.mov (.c (.int .i64 4)))] false) .ret) .skip)) (.seq (.seq (.region [mV 16 0,oP 17 (.len false (.t 16)),oP 18 (.mov (.c (.int .i64 0)))] false) (.block 0 (.loop b174_0))) (.seq (.region [oP 8 (.mov (.c (.int .i64 0)))] false) .ret))))
def a174:AFunc:={results:=[.tmp 8],body:=c174}
def c175:ACode:=(.seq (.region [oP 1 (.box (.t 0)),oP 2 (.mov (.c (.str [])))] false) (.seq (.region [oP 3 (.fld 0 1 (.t 1)),oP 4 (.load false 1 (.t 3)),mV 2 4] false) .ret))
def a175:AFunc:={results:=[.tmp 2],body:=c175}
def c176:ACode:=(.seq (.region [oP 1 (.box (.t 0)),oP 2 (.mov (.c (.int .i64 0)))] false) (.seq (.region [oP 3 (.mov (.c (.int .i64 0)))] false) (.seq (.seq (.region [oP 4 (.fld 2 1 (.t 1)),oP 5 (.load false 1 (.t 4)),oP 6 (.bin .lss (.t 5) (.c (.int .i64 0))),mV 7 6,⟨some 8,.fld 2 1 (.t 1),some (7,false),[]⟩,⟨some 9,.load false 1 (.t 8),some (7,false),[]⟩,⟨some 10,.bin .gtr (.t 9) (.c (.int .i64 128)),some (7,false),[]⟩,oP 11 (.pick (.t 7) (.c (.bool true)) (.t 10))] false) (.cond (.t 11) (.region [oP 3 (.mov (.c (.int .i64 1)))] false) .skip)) (.seq (.region [oP 12 (.fld 0 1 (.t 1)),⟨some 13,.load false 1 (.t 12),none,[0]⟩,⟨some 14,.call (.c (.func 136 [])) [(.t 13)],none,[0,1]⟩,oP 15 (.fld 1 1 (.t 1)),⟨some 16,.load false 1 (.t 15),none,[3]⟩,⟨some 17,.call (.c (.func 141 [])) [(.t 16)],none,[1,0,2,3,4]⟩,mV 18 3,⟨some 19,.bslice 1 [(.t 14),(.t 17),(.t 18)],none,[6,4,3,5,1,0,2]⟩,⟨some 20,.call (.c (.func 135 [])) [(.t 19)],none,[2,0,1,5,3,4,6,7]⟩,⟨some 2,.mov (.t 20),none,[7,6,4,3,5,1,0,2,8]⟩] true) .ret))))
def a176:AFunc:={results:=[.tmp 2],body:=c176}
def b177_0:ACode:=(.seq (.region [oP 8 (.bin .lss (.t 7) (.t 6))] false) (.seq (.cond (.t 8) .skip (.exit 0)) (.seq (.block 1 (.seq (.region [oP 9 (.idx 11 (.t 5) (.t 7)),oP 10 (.load true 11 (.t 9)),oP 4 (.box (.c (.agg [(.str []),(.str []),(.int .i64 0),(.sl .full []),(.sl .full []),(.sl .full []),(.sl .full []),(.str []),(.int .i64 0),(.str []),(.bool false)]))),⟨none,.store 11 (.t 4) (.t 10),none,[]⟩] false) (.region [oP 11 (.load false 1 (.t 1)),oP 12 (.load false 1 (.t 2)),oP 13 (.load true 11 (.t 4)),⟨some 14,.call (.t 12) [(.t 13)],none,[2,1]⟩,⟨some 15,.call (.c (.func 52 [])) [(.t 11),(.t 14)],none,[1,2,3,0]⟩,⟨some 16,.extract (.t 15) 0,none,[0,3,2,1,4]⟩,⟨some 17,.extract (.t 15) 1,none,[0,3,2,1,4]⟩,⟨some 18,.call (.c (.func 105 [])) [(.t 16),(.t 17)],none,[6,4,1,2,3,0,5]⟩,⟨none,.store 1 (.t 1) (.t 18),none,[5,0,3,2,1,4,6,7]⟩] true))) (.region [oP 19 (.bin .add (.t 7) (.c (.int .i64 1))),mV 7 19] false))))
def c177:ACode:=(.seq (.region [oP 5 (.load false 1 (.t 0)),oP 6 (.len false (.t 5)),oP 7 (.mov (.c (.int .i64 0)))] false) (.block 0 (.loop b177_0)))
def a177:AFunc:={results:=[],body:=c177}
def c182:ACode:=(.seq (.region [oP 4 (.mov (.c (.int .i64 0))),oP 5 (.mov (.c (.int .i64 0)))] false) (.seq (.region [oP 6 (.load false 1 (.t 1)),mV 7 0,⟨some 8,.call (.c (.func 57 [])) [(.t 6),(.t 7)],none,[1,0]⟩,oP 9 (.load false 1 (.t 2)),mV 10 0,⟨some 11,.call (.c (.func 57 [])) [(.t 9),(.t 10)],none,[0,1,2,4,3]⟩,⟨some 12,.call (.c (.func 183 [])) [(.t 8),(.t 11)],none,[3,4,5,0,1,2]⟩,⟨some 13,.extract (.t 12) 0,none,[2,1,0,5,4,3,6]⟩,⟨some 14,.extract (.t 12) 1,none,[2,1,0,5,4,3,6]⟩,⟨some 4,.mov (.t 13),none,[8,6,3,4,5,0,1,2,7]⟩,⟨some 5,.mov (.t 14),none,[7,9,6,3,4,5,0,1,2,8]⟩] true) .ret))
def a182:AFunc:={results:=[.tmp 4,.tmp 5],body:=c182}
def c183:ACode:=(.seq (.region [oP 4 (.mov (.c (.int .i64 0))),oP 5 (.mov (.c (.int .i64 0)))] false) (.seq (.seq (.region [mV 7 0,mV 8 1,oP 9 (.call (.c (.func 194 [])) [(.t 7),(.t 8)]),mV 6 9] false) (.seq (.region [mV 10 6,oP 11 (.bin .neq (.t 10) (.c (.int .i64 0)))] false) (.cond (.t 11) (.seq (.region [mV 12 6,oP 4 (.mov (.c (.int .i64 0))),mV 5 12] false) .ret) .skip))) (.seq (.region [mV 13 0,mV 14 1,oP 15 (.bin .sub (.t 13) (.t 14)),oP 16 (.conv (.int .u64) (.t 15)),mV 17 0,mV 18 1,oP 19 (.bin .lss (.t 17) (.t 18)),oP 20 (.call (.c (.func 195 [])) [(.t 16),(.t 19)]),oP 21 (.extract (.t 20) 0),oP 22 (.extract (.t 20) 1),mV 4 21,mV 5 22] false) .ret)))
def a183:AFunc:={results:=[.tmp 4,.tmp 5],body:=c183}
def b185_0:ACode:=(.seq (.region [oP 8 (.bin .lss (.t 7) (.t 6))] false) (.seq (.cond (.t 8) .skip (.exit 0)) (.seq (.block 1 (.seq (.region [oP 9 (.idx 5 (.t 5) (.t 7)),oP 10 (.load true 5 (.t 9)),oP 4 (.box (.c (.agg [(.str []),(.sl .full []),(.sl .full []),(.sl .full []),(.bool false)]))),⟨none,.store 5 (.t 4) (.t 10),none,[]⟩] false) (.region [oP 11 (.load false 1 (.t 1)),oP 12 (.load false 1 (.t 2)),oP 13 (.load true 5 (.t 4)),⟨some 14,.call (.t 12) [(.t 13)],none,[2,1]⟩,⟨some 15,.call (.c (.func 52 [])) [(.t 11),(.t 14)],none,[1,2,3,0]⟩,⟨some 16,.extract (.t 15) 0,none,[0,3,2,1,4]⟩,⟨some 17,.extract (.t 15) 1,none,[0,3,2,1,4]⟩,⟨some 18,.call (.c (.func 105 [])) [(.t 16),(.t 17)],none,[6,4,1,2,3,0,5]⟩,⟨none,.store 1 (.t 1) (.t 18),none,[5,0,3,2,1,4,6,7]⟩] true))) (.region [oP 19 (.bin .add (.t 7) (.c (.int .i64 1))),mV 7 19] false))))
def c185:ACode:=(.seq (.region [oP 5 (.load false 1 (.t 0)),oP 6 (.len false (.t 5)),oP 7 (.mov (.c (.int .i64 0)))] false) (.block 0 (.loop b185_0)))
def a185:AFunc:={results:=[],body:=c185}
def c189:ACode:=(.seq (.region [oP 4 (.mov (.c (.bool false)))] false) (.seq (.seq (.region [mV 6 0,oP 7 (.len false (.t 6)),mV 8 1,oP 9 (.len false (.t 8)),oP 10 (.bin .neq (.t 7) (.t 9))] false) (.cond (.t 10) (.seq (.region [oP 4 (.mov (.c (.bool false)))] false) .ret) .skip)) (.seq (.seq (.region [mV 11 0,oP 12 (.len false (.t 11)),oP 13 (.mov (.c (.int .i64 0)))] false) (.block 0 (.loop (.seq (.region [oP 14 (.bin .lss (.t 13) (.t 12))] false) (.seq (.cond (.t 14) .skip (.exit 0)) (.seq (.block 1 (.seq (.region [mV 15 13,mV 5 15] false) (.seq (.region [mV 16 0,mV 17 5,⟨some 18,.idx 3 (.t 16) (.t 17),none,[1,0]⟩,⟨some 19,.load true 3 (.t 18),none,[0,1,2]⟩,mV 20 1,mV 21 5,⟨some 22,.idx 3 (.t 20) (.t 21),none,[5,4]⟩,⟨some 23,.load true 3 (.t 22),none,[4,5,6]⟩,⟨some 24,.eqst true [.s,.s,.b] (.t 19) (.t 23),none,[6,5,4,7,2,1,0,3]⟩] true) (.cond (.t 24) (.seq (.region [oP 4 (.mov (.c (.bool false)))] false) .ret) .skip)))) (.region [oP 25 (.bin .add (.t 13) (.c (.int .i64 1))),mV 13 25] false))))))) (.seq (.region [oP 4 (.mov (.c (.bool true)))] false) .ret))))
def a189:AFunc:={results:=[.tmp 4],body:=c189}
def c190:ACode:=(.seq (.region [oP 4 (.mov (.c (.bool false)))] false) (.seq (.seq (.region [mV 6 0,oP 7 (.len false (.t 6)),mV 8 1,oP 9 (.len false (.t 8)),oP 10 (.bin .neq (.t 7) (.t 9))] false) (.cond (.t 10) (.seq (.region [oP 4 (.mov (.c (.bool false)))] false) .ret) .skip)) (.seq (.seq (.region [mV 11 0,oP 12 (.len false (.t 11)),oP 13 (.mov (.c (.int .i64 0)))] false) (.block 0 (.loop (.seq (.region [oP 14 (.bin .lss (.t 13) (.t 12))] false) (.seq (.cond (.t 14) .skip (.exit 0)) (.seq (.block 1 (.seq (.region [mV 15 13,mV 5 15] false) (.seq (.region [mV 16 0,mV 17 5,⟨some 18,.idx 3 (.t 16) (.t 17),none,[1,0]⟩,⟨some 19,.load true 3 (.t 18),none,[0,1,2]⟩,mV 20 1,mV 21 5,⟨some 22,.idx 3 (.t 20) (.t 21),none,[5,4]⟩,⟨some 23,.load true 3 (.t 22),none,[4,5,6]⟩,⟨some 24,.eqst true [.i,.s,.s] (.t 19) (.t 23),none,[6,5,4,7,2,1,0,3]⟩] true) (.cond (.t 24) (.seq (.region [oP 4 (.mov (.c (.bool false)))] false) .ret) .skip)))) (.region [oP 25 (.bin .add (.t 13) (.c (.int .i64 1))),mV 13 25] false))))))) (.seq (.region [oP 4 (.mov (.c (.bool true)))] false) .ret))))
def a190:AFunc:={results:=[.tmp 4],body:=c190}
def b192_0:ACode:=(.seq (.region [oP 12 (.bin .lss (.t 11) (.t 10))] false) (.seq (.cond (.t 12) .skip (.exit 0)) (.seq (.block 1 (.seq (.region [oP 13 (.idx 1 (.t 9) (.t 11)),oP 14 (.load false 1 (.t 13)),mV 4 14] false) (.region [mV 15 4,oP 16 (.call (.c (.func 139 [])) [(.t 15)]),oP 17 (.call (.c (.func 101 [])) [(.t 16)])] false))) (.region [oP 18 (.bin .add (.t 11) (.c (.int .i64 1))),mV 11 18] false))))
def b192_1:ACode:=(.seq (.region [oP 23 (.bin .lss (.t 22) (.t 21))] false) (.seq (.cond (.t 23) .skip (.exit 2)) (.seq (.block 3 (.seq (.region [oP 24 (.idx 1 (.t 20) (.t 22)),oP 25 (.load false 1 (.t 24)),mV 6 25] false) (.seq (.region [oP 27 (.load false 1 (.t 1)),mV 28 6,oP 29 (.call (.t 27) [(.t 28)]),mV 26 29,oP 30 (.extract (.t 26) 0),oP 31 (.extract (.t 26) 1),mV 7 30,mV 8 31] false) (.seq (.region [mV 32 8,oP 33 (.call (.c (.func 101 [])) [(.t 32)])] false) (.seq (.region [mV 34 7,oP 35 (.bin .gtr (.t 34) (.c (.int .i64 0)))] false) (.cond (.t 35) (.region [oP 36 (.load false 1 (.t 2)),mV 37 6,mV 38 7,oP 39 (.build [(.str []),(.int .i64 0)] [(0,1,(.t 37)),(1,1,(.t 38))]),oP 40 (.bslice 2 [(.t 39)]),oP 41 (.append 2 24 (.t 36) (.t 40)),⟨none,.store 1 (.t 2) (.t 41),none,[]⟩] false) .skip)))))) (.region [oP 42 (.bin .add (.t 22) (.c (.int .i64 1))),mV 22 42] false))))
def c192:ACode:=(.seq (.seq (.region [oP 9 (.load false 1 (.t 0)),oP 10 (.len false (.t 9)),oP 11 (.mov (.c (.int .i64 0)))] false) (.block 0 (.loop b192_0))) (.seq (.seq (.region [oP 19 (.load false 1 (.t 0)),oP 20 (.call (.c (.func 193 [])) [(.t 19)]),oP 21 (.len false (.t 20)),oP 22 (.mov (.c (.int .i64 0)))] false) (.block 2 (.loop b192_1))) (.seq (.region [oP 43 (.load false 1 (.t 2)),oP 44 (.len false (.t 43)),oP 45 (.bin .gtr (.t 44) (.c (.int .i64 8)))] false) (.cond (.t 45) (.region [oP 46 (.call (.c (.func 101 [])) [(.c (.int .i64 4))])] false) .skip))))
def a192:AFunc:={results:=[],body:=c192}
def b193_1:ACode:=(.seq (.region [oP 17 (.bin .lss (.t 16) (.t 15))] false) (.seq (.cond (.t 17) .skip (.exit 2)) (.seq (.block 3 (.seq (.region [oP 18 (.idx 2 (.t 14) (.t 16)),oP 19 (.load true 2 (.t 18)),oP 7 (.box (.c (.agg [(.str []),(.int .i64 0)]))),⟨none,.store 2 (.t 7) (.t 19),none,[]⟩] false) (.region [mV 20 3,oP 21 (.fld 0 1 (.t 7)),oP 22 (.load false 1 (.t 21)),oP 23 (.bslice 1 [(.t 22)]),oP 24 (.appendM 1 16 (.t 20) (.t 23)),mV 3 24] false))) (.region [oP 25 (.bin .add (.t 16) (.c (.int .i64 1))),mV 16 25] false))))
def b193_0:ACode:=(.seq (.region [oP 11 (.bin .lss (.t 10) (.t 9))] false) (.seq (.cond (.t 11) .skip (.exit 0)) (.seq (.block 1 (.seq (.region [oP 12 (.idx 1 (.t 8) (.t 10)),oP 13 (.load false 1 (.t 12)),mV 5 13] false) (.seq (.region [mV 14 5,oP 15 (.len false (.t 14)),oP 16 (.mov (.c (.int .i64 0)))] false) (.block 2 (.loop b193_1))))) (.region [oP 26 (.bin .add (.t 10) (.c (.int .i64 1))),mV 10 26] false))))
def c193:ACode:=(.seq (.region [oP 2 (.mov (.c (.sl .full [])))] false) (.seq (.region [oP 3 (.mov (.c (.sl .full [])))] false) (.seq (.seq (.region [mV 8 0,oP 9 (.len false (.t 8)),oP 10 (.mov (.c (.int .i64 0)))] false) (.block 0 (.loop b193_0))) (.seq (.region [mV 27 3,oP 28 (.callM (.c (.func 204 [])) [(.t 27)])] false) (.seq (.region [mV 29 3,oP 30 (.callM (.c (.func 205 [])) [(.t 29)]),mV 2 30] false) .ret)))))
def a193:AFunc:={results:=[.tmp 2],body:=c193}
def c194:ACode:=(.seq (.region [oP 4 (.mov (.c (.int .i64 0)))] false) (.seq (.seq (.region [mV 5 0,oP 6 (.bin .lss (.t 5) (.c (.int .i64 0))),mV 7 6,⟨some 8,.mov (.t 1),some (7,false),[]⟩,⟨some 9,.bin .lss (.t 8) (.c (.int .i64 0)),some (7,false),[]⟩,oP 10 (.pick (.t 7) (.c (.bool true)) (.t 9))] false) (.cond (.t 10) (.seq (.region [oP 4 (.mov (.c (.int .i64 1)))] false) .ret) .skip)) (.seq (.region [oP 4 (.mov (.c (.int .i64 0)))] false) .ret)))
def a194:AFunc:={results:=[.tmp 4],body:=c194}
def c195:ACode:=(.seq (.region [oP 4 (.mov (.c (.int .i64 0))),oP 5 (.mov (.c (.int .i64 0)))] false) (.seq (.seq (.region [mV 6 1,mV 7 6,⟨some 8,.mov (.t 0),some (7,false),[]⟩,⟨some 9,.bin .gtr (.t 8) (.c (.int .u64 9223372036854775807)),some (7,false),[]⟩,oP 10 (.pick (.t 7) (.c (.bool true)) (.t 9))] false) (.cond (.t 10) (.seq (.region [oP 4 (.mov (.c (.int .i64 0))),oP 5 (.mov (.c (.int .i64 5)))] false) .ret) .skip)) (.seq (.region [mV 11 0,oP 12 (.conv (.int .i64) (.t 11)),mV 4 12,oP 5 (.mov (.c (.int .i64 0)))] false) .ret)))
def a195:AFunc:={results:=[.tmp 4,.tmp 5],body:=c195}
def c196:ACode:=(.seq (.region [oP 2 (.mov (.c (.bool false)))] false) (.seq (.region [mV 3 0,oP 4 (.len true (.t 3)),oP 5 (.bin .geq (.t 4) (.c (.int .i64 1))),mV 6 5,⟨some 7,.mov (.t 0),some (6,true),[]⟩,⟨some 8,.len true (.t 7),some (6,true),[]⟩,⟨some 9,.bin .leq (.t 8) (.c (.int .i64 12)),some (6,true),[]⟩,oP 10 (.pick (.t 6) (.t 9) (.c (.bool false))),mV 11 10,⟨some 12,.mov (.t 0),some (11,true),[]⟩,⟨some 13,.call (.c (.func 215 [])) [(.t 12),(.c (.str [97,98,99,100,101,102,103,104,105,106,107,108,109,110,111,112,113,114,115,116,117,118,119,120,121,122,48,49,50,51,52,53,54,55,56,57]))],some (11,true),[]⟩,⟨some 14,.bin .eql (.t 13) (.c (.str [])),some (11,true),[]⟩,oP 15 (.pick (.t 11) (.t 14) (.c (.bool false))),mV 2 15] false) .ret))
def a196:AFunc:={results:=[.tmp 2],body:=c196}
def c197:ACode:=(.seq (.region [oP 6 (.mov (.c (.int .i64 0)))] false) (.seq (.seq (.region [mV 7 0,mV 8 1,oP 9 (.bin .lss (.t 7) (.t 8)),mV 10 9,⟨some 11,.mov (.t 0),some (10,false),[]⟩,⟨some 12,.mov (.t 2),some (10,false),[]⟩,⟨some 13,.bin .gtr (.t 11) (.t 12),some (10,false),[]⟩,oP 14 (.pick (.t 10) (.c (.bool true)) (.t 13))] false) (.cond (.t 14) (.seq (.region [oP 6 (.mov (.c (.int .i64 1)))] false) .ret) .skip)) (.seq (.region [oP 6 (.mov (.c (.int .i64 0)))] false) .ret)))
def a197:AFunc:={results:=[.tmp 6],body:=c197}
def b205_1:ACode:=(.seq (.seq (.region [mV 29 5,mV 30 4,oP 31 (.len false (.t 30)),oP 32 (.bin .lss (.t 29) (.t 31))] false) (.cond (.t 32) .skip (.exit 2))) (.seq (.block 3 (.seq (.region [mV 35 4,mV 36 5,⟨some 37,.idx 1 (.t 35) (.t 36),none,[1,0]⟩,⟨some 38,.load false 1 (.t 37),none,[0,1,2]⟩,mV 39 4,mV 40 5,⟨some 41,.bin .sub (.t 40) (.c (.int .i64 1)),none,[5]⟩,⟨some 42,.idx 1 (.t 39) (.t 41),none,[5,6,4]⟩,⟨some 43,.load false 1 (.t 42),none,[4,6,5,7]⟩,⟨some 44,.bin .neq (.t 38) (.t 43),none,[7,5,6,4,8,2,1,0,3]⟩] true) (.cond (.t 44) (.seq (.region [mV 45 0,mV 46 3,mV 47 4,mV 48 5,oP 49 (.idx 1 (.t 47) (.t 48)),oP 50 (.load false 1 (.t 49)),oP 51 (.idx 1 (.t 45) (.t 46)),⟨none,.store 1 (.t 51) (.t 50),none,[]⟩] false) (.region [mV 52 3,oP 53 (.bin .add (.t 52) (.c (.int .i64 1))),mV 3 53] false)) .skip))) (.region [mV 33 5,oP 34 (.bin .add (.t 33) (.c (.int .i64 1))),mV 5 34] false)))
def b205_0:ACode:=(.seq (.seq (.region [mV 10 3,mV 11 0,oP 12 (.len false (.t 11)),oP 13 (.bin .lss (.t 10) (.t 12))] false) (.cond (.t 13) .skip (.exit 0))) (.seq (.block 1 (.seq (.region [mV 16 0,mV 17 3,⟨some 18,.idx 1 (.t 16) (.t 17),none,[1,0]⟩,⟨some 19,.load false 1 (.t 18),none,[0,1,2]⟩,mV 20 0,mV 21 3,⟨some 22,.bin .sub (.t 21) (.c (.int .i64 1)),none,[5]⟩,⟨some 23,.idx 1 (.t 20) (.t 22),none,[5,6,4]⟩,⟨some 24,.load false 1 (.t 23),none,[4,6,5,7]⟩,⟨some 25,.bin .eql (.t 19) (.t 24),none,[7,5,6,4,8,2,1,0,3]⟩] true) (.cond (.t 25) (.seq (.region [mV 26 0,mV 27 3,oP 28 (.slice 1 (.t 26) (some (.t 27)) none none),mV 4 28] false) (.seq (.seq (.region [oP 5 (.mov (.c (.int .i64 1)))] false) (.block 2 (.loop b205_1))) (.seq (.region [mV 54 0,mV 55 3,oP 56 (.slice 1 (.t 54) (some (.t 55)) none none),⟨none,.clearM [(.str [])] (.t 56),none,[]⟩] false) (.seq (.region [mV 57 0,mV 58 3,oP 59 (.slice 1 (.t 57) none (some (.t 58)) none),mV 2 59] false) .ret)))) .skip))) (.region [mV 14 3,oP 15 (.bin .add (.t 14) (.c (.int .i64 1))),mV 3 15] false)))
def c205:ACode:=(.seq (.region [oP 2 (.mov (.c (.sl .full [])))] false) (.seq (.seq (.region [mV 6 0,oP 7 (.len false (.t 6)),oP 8 (.bin .lss (.t 7) (.c (.int .i64 2)))] false) (.cond (.t 8) (.seq (.region [mV 9 0,mV 2 9] false) .ret) .skip)) (.seq (.seq (.region [oP 3 (.mov (.c (.int .i64 1)))] false) (.block 0 (.loop b205_0))) (.seq (.region [mV 60 0,mV 2 60] false) .ret))))
def a205:AFunc:={results:=[.tmp 2],body:=c205}
def b212_0:ACode:=(.seq (.region [oP 11 (.bin .lss (.t 10) (.t 9))] false) (.seq (.cond (.t 11) .skip (.exit 0)) (.seq (.block 1 (.seq (.region [mV 12 10,oP 13 (.idx 3 (.t 8) (.t 10)),oP 14 (.load true 3 (.t 13)),oP 4 (.box (.c (.agg [(.str []),(.str []),(.bool false)]))),mV 3 12,⟨none,.store 3 (.t 4) (.t 14),none,[]⟩] false) (.block 2 (.seq (.region [oP 16 (.fld 0 1 (.t 4)),oP 17 (.load false 1 (.t 16)),oP 18 (.call (.c (.func 196 [])) [(.t 17)]),oP 19 (.un .not (.t 18)),mV 20 19,⟨some 21,.fld 1 1 (.t 4),some (20,false),[]⟩,⟨some 22,.load false 1 (.t 21),some (20,false),[]⟩,⟨some 23,.call (.c (.func 196 [])) [(.t 22)],some (20,false),[]⟩,⟨some 24,.un .not (.t 23),some (20,false),[]⟩,oP 25 (.pick (.t 20) (.c (.bool true)) (.t 24)),mV 15 25] false) (.cond (.t 15) (.seq (.region [oP 2 (.mov (.c (.int .i64 3)))] false) .ret) (.seq (.region [mV 27 0,mV 28 3,oP 29 (.slice 3 (.t 27) none (some (.t 28)) none),oP 30 (.mkfunc 220 [(.t 4)]),oP 31 (.call (.c (.func 219 [])) [(.t 29),(.t 30)]),mV 26 31] false) (.cond (.t 26) (.seq (.region [oP 2 (.mov (.c (.int .i64 6)))] false) .ret) .skip))))))) (.region [oP 32 (.bin .add (.t 10) (.c (.int .i64 1))),mV 10 32] false))))
def c212:ACode:=(.seq (.region [oP 2 (.mov (.c (.int .i64 0)))] false) (.seq (.seq (.region [mV 5 0,oP 6 (.len false (.t 5)),oP 7 (.bin .gtr (.t 6) (.c (.int .i64 8)))] false) (.cond (.t 7) (.seq (.region [oP 2 (.mov (.c (.int .i64 4)))] false) .ret) .skip)) (.seq (.seq (.region [mV 8 0,oP 9 (.len false (.t 8)),oP 10 (.mov (.c (.int .i64 0)))] false) (.block 0 (.loop b212_0))) (.seq (.region [oP 2 (.mov (.c (.int .i64 0)))] false) .ret))))
def a212:AFunc:={results:=[.tmp 2],body:=c212}
def c219:ACode:=(.seq (.region [oP 4 (.mov (.c (.bool false)))] false) (.seq (.region [mV 5 0,mV 6 1,oP 7 (.call (.c (.func 240 [])) [(.t 5),(.t 6)]),oP 8 (.bin .geq (.t 7) (.c (.int .i64 0))),mV 4 8] false) .ret))
def a219:AFunc:={results:=[.tmp 4],body:=c219}
def c220:ACode:=(.seq (.region [oP 2 (.box (.t 0)),oP 3 (.mov (.c (.bool false)))] false) (.seq (.region [oP 4 (.fld 0 1 (.t 2)),oP 5 (.load false 1 (.t 4)),oP 6 (.fld 0 1 (.t 1)),oP 7 (.load false 1 (.t 6)),oP 8 (.bin .eql (.t 5) (.t 7)),mV 9 8,⟨some 10,.fld 1 1 (.t 2),some (9,true),[]⟩,⟨some 11,.load false 1 (.t 10),some (9,true),[]⟩,⟨some 12,.fld 1 1 (.t 1),some (9,true),[]⟩,⟨some 13,.load false 1 (.t 12),some (9,true),[]⟩,⟨some 14,.bin .eql (.t 11) (.t 13),some (9,true),[]⟩,oP 15 (.pick (.t 9) (.t 14) (.c (.bool false))),mV 3 15] false) .ret))
def a220:AFunc:={results:=[.tmp 3],body:=c220}
def b240_0:ACode:=(.seq (.region [oP 9 (.bin .lss (.t 8) (.t 7))] false) (.seq (.cond (.t 9) .skip (.exit 0)) (.seq (.block 1 (.seq (.region [mV 10 8,mV 5 10] false) (.seq (.region [mV 11 1,mV 12 0,mV 13 5,oP 14 (.idx 3 (.t 12) (.t 13)),oP 15 (.load true 3 (.t 14)),oP 16 (.call (.t 11) [(.t 15)])] false) (.cond (.t 16) (.seq (.region [mV 17 5,mV 4 17] false) .ret) .skip)))) (.region [oP 18 (.bin .add (.t 8) (.c (.int .i64 1))),mV 8 18] false))))
def c240:ACode:=(.seq (.region [oP 4 (.mov (.c (.int .i64 0)))] false) (.seq (.seq (.region [mV 6 0,oP 7 (.len false (.t 6)),oP 8 (.mov (.c (.int .i64 0)))] false) (.block 0 (.loop b240_0))) (.seq (.region [oP 4 (.mov (.c (.int .i64 (-1))))] false) .ret)))
def a240:AFunc:={results:=[.tmp 4],body:=c240}
def muF(f:Nat):Bool:=[27,45,48,49,89,90,193,205,157,5,28,92].contains f
def tab:List (Nat×AFunc):=[(11,a11),(27,a27),(29,a29),(32,a32),(33,a33),(37,a37),(39,a39),(41,a41),(45,a45),(48,a48),(50,a50),(52,a52),(53,a53),(54,a54),(55,a55),(57,a57),(58,a58),(59,a59),(61,a61),(79,a79),(89,a89),(91,a91),(100,a100),(101,a101),(102,a102),(103,a103),(104,a104),(105,a105),(106,a106),(107,a107),(109,a109),(111,a111),(112,a112),(116,a116),(117,a117),(121,a121),(122,a122),(123,a123),(124,a124),(125,a125),(127,a127),(128,a128),(129,a129),(130,a130),(131,a131),(132,a132),(133,a133),(134,a134),(135,a135),(136,a136),(137,a137),(138,a138),(139,a139),(140,a140),(141,a141),(142,a142),(143,a143),(144,a144),(145,a145),(146,a146),(162,a162),(169,a169),(170,a170),(171,a171),(172,a172),(173,a173),(174,a174),(175,a175),(176,a176),(177,a177),(182,a182),(183,a183),(185,a185),(189,a189),(190,a190),(192,a192),(193,a193),(194,a194),(195,a195),(196,a196),(197,a197),(205,a205),(212,a212),(219,a219),(220,a220),(240,a240)]
def tabG:Nat→Option AFunc
 |11=>some a11
 |27=>some a27
 |29=>some a29
 |32=>some a32
 |33=>some a33
 |37=>some a37
 |39=>some a39
 |41=>some a41
 |45=>some a45
 |48=>some a48
 |50=>some a50
 |52=>some a52
 |53=>some a53
 |54=>some a54
 |55=>some a55
 |57=>some a57
 |58=>some a58
 |59=>some a59
 |61=>some a61
 |79=>some a79
 |89=>some a89
 |91=>some a91
 |100=>some a100
 |101=>some a101
 |102=>some a102
 |103=>some a103
 |104=>some a104
 |105=>some a105
 |106=>some a106
 |107=>some a107
 |109=>some a109
 |111=>some a111
 |112=>some a112
 |116=>some a116
 |117=>some a117
 |121=>some a121
 |122=>some a122
 |123=>some a123
 |124=>some a124
 |125=>some a125
 |127=>some a127
 |128=>some a128
 |129=>some a129
 |130=>some a130
 |131=>some a131
 |132=>some a132
 |133=>some a133
 |134=>some a134
 |135=>some a135
 |136=>some a136
 |137=>some a137
 |138=>some a138
 |139=>some a139
 |140=>some a140
 |141=>some a141
 |142=>some a142
 |143=>some a143
 |144=>some a144
 |145=>some a145
 |146=>some a146
 |162=>some a162
 |169=>some a169
 |170=>some a170
 |171=>some a171
 |172=>some a172
 |173=>some a173
 |174=>some a174
 |175=>some a175
 |176=>some a176
 |177=>some a177
 |182=>some a182
 |183=>some a183
 |185=>some a185
 |189=>some a189
 |190=>some a190
 |192=>some a192
 |193=>some a193
 |194=>some a194
 |195=>some a195
 |196=>some a196
 |197=>some a197
 |205=>some a205
 |212=>some a212
 |219=>some a219
 |220=>some a220
 |240=>some a240
 |_=>none
def tabF(f:Nat):Option AFunc:=bif Nat.blt f 241 then tabG f else none
theorem tab_eq:tab.map (fun p=>(Go.Proofs.Tryz.prog.funcs[p.1]?).bind (cFunc Go.Proofs.Tryz.prog (muF p.1)))=tab.map (fun p=>some p.2):=by kernel_rfl
theorem tab_look:(List.range 241).map tabF=(List.range 241).map (fun f=>tab.lookup f):=by kernel_rfl
theorem look_mem{α:Type}{f:Nat}{A:α}:∀{l:List (Nat×α)},l.lookup f=some A→(f,A)∈l
 |[],h=>by cases h
 |(g,B)::l,h=>by
  simp only[List.lookup_cons]at h
  split at h
  ·rename_i e
   have e:f=g:=by simpa using e
   cases h
   rw[e]
   exact List.mem_cons_self ..
  ·exact List.mem_cons_of_mem _ (look_mem h)
theorem tab_mem{f:Nat}{A:AFunc}(h:tabF f=some A):(f,A)∈tab:=by
 have hlt:f<241:=by
  cases hb:Nat.blt f 241 with
  |true=>exact Nat.le_of_ble_eq_true hb
  |false=>unfold tabF at h;rw[hb]at h;cases h
 have:=List.map_inj_left.1 tab_look f (List.mem_range.2 hlt)
 rw[h]at this
 exact look_mem this.symm
theorem tab_fn{f:Nat}{A:AFunc}(h:tabF f=some A):∃fn mu,Go.Proofs.Tryz.prog.funcs[f]?=some fn∧cFunc Go.Proofs.Tryz.prog mu fn=some A:=by
 have:=List.map_inj_left.1 tab_eq _ (tab_mem h)
 simp only[Option.bind_eq_some_iff]at this
 obtain⟨fn,h1,h2⟩:=this
 exact⟨fn,_,h1,h2⟩
end Go.Aa.T
set_option linter.unusedVariables false
set_option linter.unusedSimpArgs false
namespace Go.Aa
open Go.RowKit
open Classical in
noncomputable def limOpt{α:Type}(p:Nat→Option α):Option α:=if h:∃r n,p n=some r then some (Classical.choose h)else none
theorem limOpt_iff{α:Type}{p:Nat→Option α}(hm:∀n m r,n≤m→p n=some r→p m=some r){r:α}:limOpt p=some r↔∃n,p n=some r:=by
 unfold limOpt
 constructor
 ·intro h
  split at h
  ·rename_i hex
   simp only[Option.some.injEq]at h
   rw[←h]
   exact Classical.choose_spec hex
  ·cases h
 ·rintro⟨n,h⟩
  have hex:∃r n,p n=some r:=⟨r,n,h⟩
  rw[dif_pos hex]
  obtain⟨m,hs⟩:=Classical.choose_spec hex
  have h1:=hm n (max n m) _ (Nat.le_max_left _ _) h
  have h2:=hm m (max n m) _ (Nat.le_max_right _ _) hs
  rw[h1]at h2
  exact h2.symm
noncomputable def lim(cfg:Cfg):CallF:=fun k xs H=>limOpt fun n=>callN cfg n k xs H
theorem lim_iff{cfg:Cfg}{k:Key}{xs:List AV}{H:Heap}{r:ARes×Heap}:lim cfg k xs H=some r↔∃n,callN cfg n k xs H=some r:=
 limOpt_iff fun n m r hnm h=>callN_le cfg hnm _ _ _ _ h
theorem le_lim(cfg:Cfg)(n:Nat):Le (callN cfg n) (lim cfg):=fun k xs H r h=>lim_iff.2 ⟨n,h⟩
noncomputable def runL(cfg:Cfg)(A:AFunc)(k:List AIt)(T:Env)(H:Heap):Option (ARes×Heap):=limOpt fun n=>run (lim cfg) A n k T H
theorem runL_iff{cfg:Cfg}{A:AFunc}{k:List AIt}{T:Env}{H:Heap}{r:ARes×Heap}:runL cfg A k T H=some r↔∃n,run (lim cfg) A n k T H=some r:=
 limOpt_iff fun n m r hnm h=>run_mono (.refl _) A n m k T H r hnm h
section
variable{cfg:Cfg}
theorem callE_lim{g:FuncId}{xs:List AV}{H:Heap}{out:Out}(h:callE (lim cfg) g xs H=some out):∃n,callE (callN cfg n) g xs H=some out:=by
 unfold callE at h
 split at h
 ·rename_i v H' hc;obtain⟨n,hn⟩:=lim_iff.1 hc;exact⟨n,by unfold callE;rw[hn];exact h⟩
 ·rename_i v H' hc;obtain⟨n,hn⟩:=lim_iff.1 hc;exact⟨n,by unfold callE;rw[hn];exact h⟩
 ·cases h
theorem callV_lim{fv:AV}{xs:List AV}{H:Heap}{out:Out}(h:callV (lim cfg) fv xs H=some out):∃n,callV (callN cfg n) fv xs H=some out:=by
 unfold callV at h
 split at h
 ·rename_i g caps
  split at h
  ·rename_i hd
   split at h
   ·rename_i v _ hc
    obtain⟨n,hn⟩:=lim_iff.1 hc
    split at h
    ·rename_i hdd;exact⟨n,by unfold callV;simp only[hd,if_true,hn,hdd];exact h⟩
    ·rename_i hdd
     obtain⟨m,hm⟩:=callE_lim h
     refine⟨max n m,?_⟩
     unfold callV
     simp only[hd,if_true,callN_le cfg (Nat.le_max_left n m) _ _ _ _ hn]
     rw[hdd]
     exact callE_mono (callN_le cfg (Nat.le_max_right n m)) hm
   ·rename_i v _ hc
    obtain⟨n,hn⟩:=lim_iff.1 hc
    exact⟨n,by unfold callV;simp only[hd,if_true,hn];exact h⟩
   ·cases h
  ·rename_i hd
   obtain⟨m,hm⟩:=callE_lim h
   exact⟨m,by unfold callV;simp only[hd,if_false];exact hm⟩
 ·split at h
  ·rename_i v H' hc;obtain⟨n,hn⟩:=lim_iff.1 hc;exact⟨n,by unfold callV;simp only[hn];exact h⟩
  ·rename_i v H' hc;obtain⟨n,hn⟩:=lim_iff.1 hc;exact⟨n,by unfold callV;simp only[hn];exact h⟩
  ·cases h
 ·cases h
theorem callW_lim{fv:AV}{xs:List AV}{H:Heap}{out:Out}(h:callW (lim cfg) fv xs H=some out):∃n,callW (callN cfg n) fv xs H=some out:=by
 unfold callW at h
 split at h
 ·rename_i g caps
  split at h
  ·rename_i hd
   split at h
   ·rename_i v _ hc
    obtain⟨n,hn⟩:=lim_iff.1 hc
    split at h
    ·rename_i hdd;exact⟨n,by unfold callW;simp only[hd,if_true,hn,hdd];exact h⟩
    ·rename_i hdd
     obtain⟨m,hm⟩:=callE_lim h
     refine⟨max n m,?_⟩
     unfold callW
     simp only[hd,if_true,callN_le cfg (Nat.le_max_left n m) _ _ _ _ hn]
     rw[if_neg hdd]
     exact callE_mono (callN_le cfg (Nat.le_max_right n m)) hm
   ·rename_i v _ hc
    obtain⟨n,hn⟩:=lim_iff.1 hc
    exact⟨n,by unfold callW;simp only[hd,if_true,hn];exact h⟩
   ·cases h
  ·rename_i hd
   obtain⟨m,hm⟩:=callE_lim h
   exact⟨m,by unfold callW;simp only[hd,if_false];exact hm⟩
 ·cases h
theorem opStep_lim{op:AOp}{T:Env}{H:Heap}{out:Out}(h:opStep (lim cfg) op T H=some out):∃n,opStep (callN cfg n) op T H=some out:=by
 cases op with
 |call f xs=>exact callV_lim h
 |callM f xs=>exact callW_lim h
 |_=>exact⟨0,h⟩
theorem runOps_lim:∀{ops:List AOper}{T:Env}{H:Heap}{out:OutE},runOps (lim cfg) ops T H=some out→∃n,runOps (callN cfg n) ops T H=some out
 |[],T,H,out,h=>⟨0,h⟩
 |o::ops,T,H,out,h=>by
  simp only[runOps]at h
  split at h
  ·rename_i hw
   split at h
   ·rename_i v H' ho
    obtain⟨n,hn⟩:=opStep_lim ho
    obtain⟨m,hm⟩:=runOps_lim h
    refine⟨max n m,?_⟩
    simp only[runOps,hw,opStep_mono (callN_le cfg (Nat.le_max_left n m)) hn]
    exact runOps_mono (callN_le cfg (Nat.le_max_right n m)) hm
   ·rename_i v H' ho
    obtain⟨n,hn⟩:=opStep_lim ho
    exact⟨n,by simp only[runOps,hw,hn];exact h⟩
   ·cases h
  ·rename_i hw
   obtain⟨m,hm⟩:=runOps_lim h
   exact⟨m,by simp only[runOps,hw];exact hm⟩
  ·cases h
theorem callD_lim{fv:AV}{xs:List AV}{H:Heap}{out:Out}(h:callD (lim cfg) fv xs H=some out):∃n,callD (callN cfg n) fv xs H=some out:=by
 unfold callD at h
 split at h
 ·split at h
  ·rename_i hd
   split at h
   ·rename_i v _ hc;obtain⟨n,hn⟩:=lim_iff.1 hc;exact⟨n,by unfold callD;simp only[hd,if_true,hn];exact h⟩
   ·rename_i v _ hc;obtain⟨n,hn⟩:=lim_iff.1 hc;exact⟨n,by unfold callD;simp only[hd,if_true,hn];exact h⟩
   ·cases h
  ·rename_i hd
   obtain⟨v,h1,rfl⟩:=calm_some h
   obtain⟨n,hn⟩:=callE_lim h1
   exact⟨n,by unfold callD;simp only[hd,if_false,hn];exact calm_val⟩
 ·cases h
theorem callDW_lim{fv:AV}{xs:List AV}{H:Heap}{out:Out}(h:callDW (lim cfg) fv xs H=some out):∃n,callDW (callN cfg n) fv xs H=some out:=by
 unfold callDW at h
 split at h
 ·split at h
  ·rename_i hd
   split at h
   ·rename_i v _ hc;obtain⟨n,hn⟩:=lim_iff.1 hc;exact⟨n,by unfold callDW;simp only[hd,if_true,hn];exact h⟩
   ·rename_i v _ hc;obtain⟨n,hn⟩:=lim_iff.1 hc;exact⟨n,by unfold callDW;simp only[hd,if_true,hn];exact h⟩
   ·cases h
  ·rename_i hd
   obtain⟨v,h1,rfl⟩:=calm_some h
   obtain⟨n,hn⟩:=callE_lim h1
   exact⟨n,by unfold callDW;simp only[hd,if_false,hn];exact calm_val⟩
 ·cases h
theorem opStepD_lim{op:AOp}{T:Env}{H:Heap}{out:Out}(h:opStepD (lim cfg) op T H=some out):∃n,opStepD (callN cfg n) op T H=some out:=by
 cases op with
 |call f xs=>exact callD_lim h
 |callM f xs=>exact callDW_lim h
 |_=>exact⟨0,h⟩
theorem runD_lim:∀{ops:List AOper}{i:Nat}{p:Option (Nat×AV)}{T:Env}{H:Heap}{out:OutE},runD (lim cfg) i ops p T H=some out→∃n,runD (callN cfg n) i ops p T H=some out
 |[],i,none,T,H,out,h=>⟨0,h⟩
 |[],i,some _,T,H,out,h=>⟨0,h⟩
 |o::ops,i,none,T,H,out,h=>by
  simp only[runD]at h
  split at h
  ·rename_i hw
   split at h
   ·rename_i v H' ho
    obtain⟨n,hn⟩:=opStepD_lim ho
    obtain⟨m,hm⟩:=runD_lim h
    refine⟨max n m,?_⟩
    simp only[runD,hw,opStepD_mono (callN_le cfg (Nat.le_max_left n m)) hn]
    exact runD_mono (callN_le cfg (Nat.le_max_right n m)) hm
   ·rename_i v H' ho
    obtain⟨n,hn⟩:=opStepD_lim ho
    obtain⟨m,hm⟩:=runD_lim h
    refine⟨max n m,?_⟩
    simp only[runD,hw,opStepD_mono (callN_le cfg (Nat.le_max_left n m)) hn]
    exact runD_mono (callN_le cfg (Nat.le_max_right n m)) hm
   ·cases h
  ·rename_i hw
   obtain⟨m,hm⟩:=runD_lim h
   exact⟨m,by simp only[runD,hw];exact hm⟩
  ·cases h
 |o::ops,i,some (p,x),T,H,out,h=>by
  simp only[runD]at h
  split at h
  ·rename_i hd
   obtain⟨m,hm⟩:=runD_lim h
   exact⟨m,by simp only[runD,hd,if_true];exact hm⟩
  ·rename_i hd
   split at h
   ·rename_i hw
    split at h
    ·rename_i v H' ho
     obtain⟨n,hn⟩:=opStepD_lim ho
     obtain⟨m,hm⟩:=runD_lim h
     refine⟨max n m,?_⟩
     simp only[runD,hd,if_false,hw,opStepD_mono (callN_le cfg (Nat.le_max_left n m)) hn]
     exact runD_mono (callN_le cfg (Nat.le_max_right n m)) hm
    ·cases h
   ·rename_i hw
    obtain⟨m,hm⟩:=runD_lim h
    exact⟨m,by simp only[runD,hd,if_false,hw];exact hm⟩
   ·cases h
theorem regionA_lim{d:Bool}{ops:List AOper}{T:Env}{H:Heap}{out:OutE}(h:regionA (lim cfg) d ops T H=some out):∃n,regionA (callN cfg n) d ops T H=some out:=by
 cases d with
 |true=>exact runD_lim h
 |false=>exact runOps_lim h
theorem rangeA_lim{fv A T ps a b H r}(h:rangeA (lim cfg) fv A T ps a b H=some r):∃n,rangeA (callN cfg n) fv A T ps a b H=some r:=by
 obtain⟨g,caps,rfl,⟨v,H3,H4,h1,h2,rfl⟩|⟨v,H3,H4,h1,h2,h3,rfl⟩⟩:=rangeA_inv h
 ·obtain⟨n,hn⟩:=callV_lim h1;exact⟨n,rangeA_val hn h2⟩
 ·obtain⟨n,hn⟩:=callV_lim h1;exact⟨n,rangeA_pan hn h2 h3⟩
theorem run_lim {A : AFunc} : ∀ (n : Nat) (k : List AIt) (T : Env) (H : Heap) (r : ARes × Heap), run (lim cfg) A n k T H = some r → ∃ m, run (callN cfg m) A m k T H = some r := by
  intro n
  induction n with
  | zero => intro k T H r e; cases k <;> simp [run] at e
  | succ n ih =>
    intro k T H r e
    -- one step, and what is behind it
    have step : ∀ k' T' H', run (lim cfg) A n k' T' H' = some r → (∀ m, run (callN cfg m) A m k' T' H' = some r → ∃ j, m ≤ j ∧ run (callN cfg j) A (j + 1) k T H = some r) → ∃ m, run (callN cfg m) A m k T H = some r := by
      intro k' T' H' h1 h2
      obtain ⟨m, hm⟩ := ih _ _ _ _ h1
      obtain ⟨j, _, hj⟩ := h2 m hm
      exact ⟨j + 1, run_mono (callN_mono cfg j) A _ _ _ _ _ _ (Nat.le_refl _) hj⟩
    cases k with
    | nil => exact ⟨1, e⟩
    | cons it k =>
      cases it with
      | blk id => exact step _ _ _ e fun m hm => ⟨m, Nat.le_refl _, hm⟩
      | lp b => exact step _ _ _ e fun m hm => ⟨m, Nat.le_refl _, hm⟩
      | beg l =>
        simp only [run] at e
        split at e
        · rename_i r0 hr0
          split at e
          · cases e
          · rename_i hb
            exact step _ _ _ e fun m hm => ⟨m, Nat.le_refl _, by simp only [run, hr0, hb, Bool.false_eq_true, if_false]; exact hm⟩
        · cases e
      | c c0 =>
        cases c0 with
        | skip => exact step _ _ _ e fun m hm => ⟨m, Nat.le_refl _, hm⟩
        | seq a b => exact step _ _ _ e fun m hm => ⟨m, Nat.le_refl _, hm⟩
        | cond x a b =>
          simp only [run] at e
          split at e
          · rename_i t ht
            exact step _ _ _ e fun m hm => ⟨m, Nat.le_refl _, by simp only [run, ht]; exact hm⟩
          · cases e
        | block id b => exact step _ _ _ e fun m hm => ⟨m, Nat.le_refl _, hm⟩
        | loop b => exact step _ _ _ e fun m hm => ⟨m, Nat.le_refl _, hm⟩
        | exit id =>
          simp only [run] at e
          split at e
          · rename_i k' hk'
            exact step _ _ _ e fun m hm => ⟨m, Nat.le_refl _, by simp only [run, hk']; exact hm⟩
          · cases e
        | ret => exact ⟨1, e⟩
        | region ops d =>
          simp only [run] at e
          split at e
          · rename_i T' H' hr
            obtain ⟨q, hq⟩ := regionA_lim hr
            refine step _ _ _ e fun m hm => ⟨max m q, Nat.le_max_left _ _, ?_⟩
            simp only [run, regionA_mono (callN_le cfg (Nat.le_max_right m q)) hq]
            exact run_mono (callN_le cfg (Nat.le_max_left m q)) A _ _ _ _ _ _ (Nat.le_max_left m q) hm
          · rename_i v H' hr
            obtain ⟨q, hq⟩ := regionA_lim hr
            refine ⟨q + 1, ?_⟩
            simp only [run, regionA_mono (callN_mono cfg q) hq]
            exact e
          · cases e
        | range f ps a b =>
          simp only [run] at e
          split at e
          · cases e
          · rename_i hro
            split at e
            · rename_i H' hr
              obtain ⟨q, hq⟩ := rangeA_lim hr
              refine step _ _ _ e fun m hm => ⟨max m q, Nat.le_max_left _ _, ?_⟩
              simp only [run, hro, rangeA_mono (callN_le cfg (Nat.le_max_right m q)) hq]
              exact run_mono (callN_le cfg (Nat.le_max_left m q)) A _ _ _ _ _ _ (Nat.le_max_left m q) hm
            · rename_i v H' hr
              obtain ⟨q, hq⟩ := rangeA_lim hr
              refine ⟨q + 1, ?_⟩
              simp only [run, hro, rangeA_mono (callN_mono cfg q) hq]
              exact e
            · cases e

theorem opt_ext{α:Type}{x y:Option α}(h:∀r,x=some r↔y=some r):x=y:=by
 cases x with
 |some a=>exact((h a).1 rfl).symm
 |none=>
  cases y with
  |none=>rfl
  |some b=>exact(h b).2 rfl
theorem lim_fn{f:FuncId}{A:AFunc}(ht:cfg.tryF f=false)(hx:cfg.ext f=none)(hA:cfg.F f=some A)(xs:List AV)(H:Heap):lim cfg (.fn f) xs H=runL cfg A [.c A.body] (initEnv xs) H:=by
 refine opt_ext fun r=> ?_
 rw[lim_iff,runL_iff]
 constructor
 ·rintro⟨n,h⟩
  cases n with
  |zero=>simp[callN]at h
  |succ n=>
   rw[callN]at h
   simp only[ht,Bool.false_eq_true,if_false,hx,hA]at h
   exact⟨n,run_mono (le_lim cfg n) A _ _ _ _ _ _ (Nat.le_refl _) h⟩
 ·rintro⟨n,h⟩
  obtain⟨m,hm⟩:=run_lim _ _ _ _ _ h
  refine⟨m+1,?_⟩
  rw[callN]
  simp only[ht,Bool.false_eq_true,if_false,hx,hA]
  exact hm
theorem lim_ext{f:FuncId}{g:List AV→Heap→Option (AV×Heap)}(ht:cfg.tryF f=false)(hx:cfg.ext f=some g)(xs:List AV)(H:Heap):lim cfg (.fn f) xs H=(g xs H).map fun r=>(.ret r.1,r.2):=by
 refine opt_ext fun r=> ?_
 rw[lim_iff]
 constructor
 ·rintro⟨n,h⟩
  cases n with
  |zero=>simp[callN]at h
  |succ n=>
   rw[callN]at h
   simp only[ht,Bool.false_eq_true,if_false,hx]at h
   cases hg:g xs H with
   |none=>rw[hg]at h;cases h
   |some x=>rw[hg]at h;simpa using h
 ·intro h
  refine⟨1,?_⟩
  rw[callN]
  simp only[ht,Bool.false_eq_true,if_false,hx]
  cases hg:g xs H with
  |none=>rw[hg]at h;cases h
  |some x=>rw[hg]at h;simpa using h
theorem lim_of{n:Nat}{k:Key}{xs:List AV}{H:Heap}{r:ARes×Heap}(h:callN cfg n k xs H=some r):lim cfg k xs H=some r:=lim_iff.2 ⟨n,h⟩
variable{A:AFunc}{k:List AIt}{T:Env}{H:Heap}
theorem runL_step{it:AIt}{k':List AIt}{T':Env}{H':Heap}(h:∀n,run (lim cfg) A (n+1) (it::k) T H=run (lim cfg) A n k' T' H'):runL cfg A (it::k) T H=runL cfg A k' T' H':=by
 refine opt_ext fun r=> ?_
 rw[runL_iff,runL_iff]
 constructor
 ·rintro⟨n,e⟩
  cases n with
  |zero=>simp[run]at e
  |succ n=>exact⟨n,by rw[←h];exact e⟩
 ·rintro⟨n,e⟩
  exact⟨n+1,by rw[h];exact e⟩
theorem runL_now{ks:List AIt}{x:Option (ARes×Heap)}(h:∀n,run (lim cfg) A (n+1) ks T H=x):runL cfg A ks T H=x:=by
 refine opt_ext fun r=> ?_
 rw[runL_iff]
 constructor
 ·rintro⟨n,e⟩
  cases n with
  |zero=>cases ks<;>simp[run]at e
  |succ n=>rw[h]at e;exact e
 ·intro e;exact⟨1,by rw[h];exact e⟩
theorem runL_nil:runL cfg A [] T H=retA A T H:=runL_now fun n=>rfl
theorem runL_blk{id:Nat}:runL cfg A (.blk id::k) T H=runL cfg A k T H:=runL_step fun n=>rfl
theorem runL_lp{b:ACode}:runL cfg A (.lp b::k) T H=runL cfg A (.c b::.lp b::k) T H:=runL_step fun n=>rfl
theorem runL_skip:runL cfg A (.c .skip::k) T H=runL cfg A k T H:=runL_step fun n=>rfl
theorem runL_seq{a b:ACode}:runL cfg A (.c (.seq a b)::k) T H=runL cfg A (.c a::.c b::k) T H:=runL_step fun n=>rfl
theorem runL_block{id:Nat}{b:ACode}:runL cfg A (.c (.block id b)::k) T H=runL cfg A (.c b::.blk id::k) T H:=runL_step fun n=>rfl
theorem runL_loop{b:ACode}:runL cfg A (.c (.loop b)::k) T H=runL cfg A (.lp b::k) T H:=by
 rw[runL_lp];exact runL_step fun n=>rfl
theorem runL_ret:runL cfg A (.c .ret::k) T H=if A.round then none else retA A T H:=runL_now fun n=>rfl
theorem runL_cond{x:Opd}{a b:ACode}:runL cfg A (.c (.cond x a b)::k) T H=match ev T x with|.bool t=>runL cfg A (.c (if t then a else b)::k) T H|_=>none:=by
 cases hx:ev T x with
 |bool t=>exact runL_step fun n=>by simp only[run,hx]
 |_=>exact runL_now fun n=>by simp only[run,hx]
theorem runL_exit{id:Nat}:runL cfg A (.c (.exit id)::k) T H=match exitA id k with|some k'=>runL cfg A k' T H|none=>none:=by
 cases hx:exitA id k with
 |some k'=>exact runL_step fun n=>by simp only[run,hx]
 |none=>exact runL_now fun n=>by simp only[run,hx]
theorem runL_region{ops:List AOper}{d:Bool}:runL cfg A (.c (.region ops d)::k) T H=match regionA (lim cfg) d ops T H with|some (.env T' H')=>runL cfg A k T' H'|some (.pan v H')=>some (.pan v,H')|none=>none:=by
 cases hx:regionA (lim cfg) d ops T H with
 |none=>exact runL_now fun n=>by simp only[run,hx]
 |some o=>
  cases o with
  |env T' H'=>exact runL_step fun n=>by simp only[run,hx]
  |pan v H'=>exact runL_now fun n=>by simp only[run,hx]
end
theorem callV_func{call:CallF}{g:FuncId}{caps args:List AV}{H:Heap}:callV call (.func g caps) args H=bif(args.all isData&&caps.all data0)then(match call (.fn g) (args++caps) Heap.nil with
 |some (.ret v,H1)=>match dataOut H1 v with
  |some u=>some (.val u H)
  |none=>callE call g (args++caps) H
 |some (.pan v,_)=>bif isData v then some (.pan v H)else none
 |none=>none)else callE call g (args++caps) H:=by
 simp only[callV]
 cases(args.all isData&&caps.all data0)with
 |false=>rfl
 |true=>
  simp only[if_true,cond_true]
  cases call (.fn g) (args++caps) Heap.nil with
  |none=>rfl
  |some r=>
   obtain⟨r1,r2⟩:=r
   cases r1 with
   |ret v=>rfl
   |pan v=>simp only;cases isData v<;>rfl
theorem callD_func{call:CallF}{g:FuncId}{caps args:List AV}{H:Heap}:callD call (.func g caps) args H=bif(args.all isData&&caps.all data0)then(match call (.fn g) (args++caps) Heap.nil with
 |some (.ret v,H1)=>match dataOut H1 v with
  |some u=>some (.val u H)
  |none=>none
 |some (.pan v,_)=>bif isData v then some (.pan v H)else none
 |none=>none)else calm H (callE call g (args++caps) H):=by
 simp only[callD]
 cases(args.all isData&&caps.all data0)with
 |false=>rfl
 |true=>
  simp only[if_true,cond_true]
  cases call (.fn g) (args++caps) Heap.nil with
  |none=>rfl
  |some r=>
   obtain⟨r1,r2⟩:=r
   cases r1 with
   |ret v=>rfl
   |pan v=>simp only;cases isData v<;>rfl
theorem dataOut_of{H:Heap}{v w:AV}(h:shutA v=w∧isData w=true):dataOut H v=some w:=by
 unfold dataOut
 rw[h.1,if_pos h.2]
theorem binA_eql(k:IntKind)(a b:Int):binA .eql (.int k a) (.int k b)=some (.bool (a==b)):=by simp[binA,intBin]
end Go.Aa
set_option linter.unusedVariables false
set_option linter.unusedSimpArgs false
namespace Go.Aa
def worth(r:Nat):Nat:=if r<4503599627370496 then r else(4503599627370496+r%4503599627370496)*2^(r/4503599627370496-1)
inductive Reads(b:Nat):Prop
 |number(m k:Nat)(h:FloatKind.f64.format.read b=.number (decide (b/9223372036854775808%2=1)) m (-1074+(k:Int)))(hw:m*2^k=worth (b%9223372036854775808))(hlt:b%9223372036854775808<9218868437227405312)
 |inf(h:FloatKind.f64.format.read b=.infinity (decide (b/9223372036854775808%2=1)))(he:b%9223372036854775808=9218868437227405312)
 |nan(s:Bool)(x:Nat)(h:FloatKind.f64.format.read b=.nan s x)(hgt:9218868437227405312<b%9223372036854775808)
theorem reads(b:Nat):Reads b:=by
 have e1:FloatKind.f64.format.signWeight=9223372036854775808:=rfl
 have e2:FloatKind.f64.format.binade=4503599627370496:=rfl
 have e3:FloatKind.f64.format.infRung=9218868437227405312:=rfl
 have e4:FloatKind.f64.format.leastPlace= -1074:=rfl
 have es:(b/9223372036854775808%2==1)=decide (b/9223372036854775808%2=1):=by
  by_cases h:b/9223372036854775808%2=1<;>simp[h]
 by_cases h1:b%9223372036854775808<4503599627370496
 ·refine .number (b%9223372036854775808) 0 ?_ ?_ (by omega)
  ·unfold Ieee.Format.read
   simp only[e1,e2,e3,e4,es]
   rw[if_pos h1]
   simp
  ·unfold worth;rw[if_pos h1];simp
 ·by_cases h2:b%9223372036854775808<9218868437227405312
  ·refine .number (4503599627370496+b%9223372036854775808%4503599627370496) (b%9223372036854775808/4503599627370496-1) ?_ ?_ h2
   ·unfold Ieee.Format.read
    simp only[e1,e2,e3,e4,es]
    rw[if_neg h1,if_pos h2]
   ·unfold worth;rw[if_neg h1]
  ·by_cases h3:b%9223372036854775808=9218868437227405312
   ·refine .inf ?_ h3
    unfold Ieee.Format.read
    simp only[e1,e2,e3,e4,es]
    rw[if_neg h1,if_neg h2,if_pos h3]
   ·refine .nan (decide (b/9223372036854775808%2=1)) (b%9223372036854775808-9218868437227405312) ?_ (by omega)
    unfold Ieee.Format.read
    simp only[e1,e2,e3,e4,es]
    rw[if_neg h1,if_neg h2,if_neg h3]
end Go.Aa
set_option linter.unusedVariables false
set_option linter.unusedSimpArgs false
namespace Go.Aa
inductive Sc where
 |ret(v:AV)
 |dec(b:Bool)
 |op(v:AV)(H:Heap)
 |cut
theorem upd_self{T:Env}{g:Nat}{v:AV}(h:T g=v):upd T g v=T:=by
 funext i
 rw[upd_eq]
 split
 ·rename_i e;rw[e,h]
 ·rfl
end Go.Aa
set_option linter.unusedVariables false
set_option linter.unusedSimpArgs false
namespace Go.Aa
def cl(T:Env)(x:Opd):Opd:=.c (ev T x)
def clOp(T:Env):AOp→AOp
 |.mov x=>.mov (cl T x)
 |.pick c a b=>.pick (cl T c) (cl T a) (cl T b)
 |.box x=>.box (cl T x)
 |.build z ps=>.build z (ps.map fun p=>(p.1,p.2.1,cl T p.2.2))
 |.bslice es xs=>.bslice es (xs.map (cl T))
 |.bsliceM es xs=>.bsliceM es (xs.map (cl T))
 |.makeM es b z x=>.makeM es b z (cl T x)
 |.clearM z x=>.clearM z (cl T x)
 |.callM f az=>.callM (cl T f) (az.map (cl T))
 |.appendM es b x y=>.appendM es b (cl T x) (cl T y)
 |.load a n x=>.load a n (cl T x)
 |.store n x v=>.store n (cl T x) (cl T v)
 |.nilchk x=>.nilchk (cl T x)
 |.bin o x y=>.bin o (cl T x) (cl T y)
 |.eqst g ks x y=>.eqst g ks (cl T x) (cl T y)
 |.eqb g x y=>.eqb g (cl T x) (cl T y)
 |.eqnil g k x=>.eqnil g k (cl T x)
 |.un o x=>.un o (cl T x)
 |.conv c x=>.conv c (cl T x)
 |.mkiface t x=>.mkiface t (cl T x)
 |.mkfunc f caps=>.mkfunc f (caps.map (cl T))
 |.slice es x lo hi mx=>.slice es (cl T x) (lo.map (cl T)) (hi.map (cl T)) (mx.map (cl T))
 |.fld a b x=>.fld a b (cl T x)
 |.fldv g a b x=>.fldv g a b (cl T x)
 |.idx es x i=>.idx es (cl T x) (cl T i)
 |.idxs x i=>.idxs (cl T x) (cl T i)
 |.extract x i=>.extract (cl T x) i
 |.call f az=>.call (cl T f) (az.map (cl T))
 |.len s x=>.len s (cl T x)
 |.append es b x y=>.append es b (cl T x) (cl T y)
 |.mm m x y=>.mm m (cl T x) (cl T y)
 |.panic x=>.panic (cl T x)
theorem ev_cl(T T':Env)(x:Opd):ev T' (cl T x)=ev T x:=rfl
theorem evs_cl(T T':Env)(xs:List Opd):(xs.map (cl T)).map (ev T')=xs.map (ev T):=by
 rw[List.map_map];exact List.map_congr_left fun a _=>rfl
theorem evo_cl(T T':Env)(x:Option Opd):(x.map (cl T)).map (ev T')=x.map (ev T):=by cases x<;>rfl
theorem cl_pure(T T':Env)(op:AOp):pureOp (clOp T op) T'=pureOp op T:=by
 cases op with
 |build z ps=>simp only[clOp,pureOp,List.map_map,Function.comp_def,ev_cl]
 |bslice es xs=>simp only[clOp,pureOp,List.map_map,Function.comp_def,ev_cl]
 |mkfunc f caps=>simp only[clOp,pureOp,evs_cl]
 |slice es x lo hi mx=>simp only[clOp,pureOp,evo_cl,ev_cl]
 |_=>rfl
theorem cl_step(call:CallF)(T T':Env)(op:AOp)(H:Heap):opStep call (clOp T op) T' H=opStep call op T H:=by
 cases op with
 |build z ps=>exact congrArg (fun x=>match x with|some v=>some (Out.val v H)|none=>none) (cl_pure T T' (.build z ps))
 |bslice es xs=>exact congrArg (fun x=>match x with|some v=>some (Out.val v H)|none=>none) (cl_pure T T' (.bslice es xs))
 |mkfunc f caps=>exact congrArg (fun x=>match x with|some v=>some (Out.val v H)|none=>none) (cl_pure T T' (.mkfunc f caps))
 |slice es x lo hi mx=>exact congrArg (fun x=>match x with|some v=>some (Out.val v H)|none=>none) (cl_pure T T' (.slice es x lo hi mx))
 |call f az=>
  simp only[clOp,opStep,ev_cl,List.map_map]
  congr 1
 |callM f az=>
  simp only[clOp,opStep,ev_cl,List.map_map]
  congr 1
 |bsliceM es xs=>
  simp only[clOp,opStep,List.map_map]
  rfl
 |_=>rfl
theorem cl_stepD(call:CallF)(T T':Env)(op:AOp)(H:Heap):opStepD call (clOp T op) T' H=opStepD call op T H:=by
 cases op with
 |call f az=>
  simp only[clOp,opStepD,ev_cl,List.map_map]
  congr 1
 |callM f az=>
  simp only[clOp,opStepD,ev_cl,List.map_map]
  congr 1
 |bsliceM es xs=>exact cl_step call T T' (.bsliceM es xs) H
 |mov x=>exact cl_step call T T' (.mov x) H
 |pick a b c=>exact cl_step call T T' (.pick a b c) H
 |box x=>exact cl_step call T T' (.box x) H
 |build z ps=>exact cl_step call T T' (.build z ps) H
 |bslice es xs=>exact cl_step call T T' (.bslice es xs) H
 |mkfunc f caps=>exact cl_step call T T' (.mkfunc f caps) H
 |slice es x lo hi mx=>exact cl_step call T T' (.slice es x lo hi mx) H
 |_=>rfl
def binNo:BinOp→Nat
 |.add=>1|.sub=>2|.mul=>3|.quo=>4|.rem=>5|.eql=>6|.neq=>7|.lss=>8|.leq=>9|.gtr=>10|.geq=>11|_=>12
def tag:AOp→Nat
 |.mov _=>1|.pick .. =>2|.box _=>3|.build .. =>4|.bslice .. =>5|.load .. =>6|.store .. =>7|.nilchk _=>8|.eqst .. =>9|.eqb .. =>10|.eqnil .. =>11
 |.un .. =>12|.conv .. =>13|.mkiface .. =>14|.mkfunc .. =>15|.slice .. =>16|.fld .. =>17|.fldv .. =>18|.idx .. =>19|.idxs .. =>20|.extract .. =>21
 |.call .. =>22|.len .. =>23|.append .. =>24|.mm .. =>25|.panic _=>26
 |.bsliceM .. =>27|.appendM .. =>28|.makeM .. =>29|.clearM .. =>30|.callM .. =>31
 |.bin o _ _=>100+binNo o
def isMust(o:AOp):Bool:=match o with
 |.call .. |.idx .. |.idxs .. |.slice .. |.append .. |.panic _|.appendM .. |.makeM .. |.clearM .. |.callM .. =>true
 |_=>false
def isCall(o:AOp):Bool:=match o with
 |.call .. =>true
 |.callM .. =>true
 |_=>false
theorem stepD_of{call:CallF}{o:AOp}(h:isCall o=false)(T:Env)(H:Heap):opStepD call o T H=opStep call o T H:=by
 cases o<;>first|rfl|cases h
def Has(T:Env):List (Nat×AV)→Prop
 |[]=>True
 |(i,v)::r=>T i=v∧Has T r
def updL(T:Env):List (Nat×AV)→Env
 |[]=>T
 |(i,v)::r=>upd (updL T r) i v
theorem updL_self{T:Env}:∀{vs:List (Nat×AV)},Has T vs→updL T vs=T
 |[],_=>rfl
 |(i,v)::r,h=>by rw[updL,updL_self h.2];exact upd_self h.1
theorem has_of{T:Env}:∀{vs:List (Nat×AV)},vs.map (fun p=>T p.1)=vs.map (fun p=>p.2)→Has T vs
 |[],_=>trivial
 |(i,v)::r,h=>by
  simp only[List.map_cons,List.cons.injEq]at h
  exact⟨h.1,has_of h.2⟩
inductive ScrQ(cfg:Cfg)(A:AFunc)(R:ARes×Heap→Prop)where
 |fin(r:ARes×Heap)(h:R r)
 |dec(b p:Bool)(h:p=b)(s:ScrQ cfg A R)
 |op(o:AOp)(v:AV)(h:∀T H,opStepD (lim cfg) o T H=some (.val v H))(s:ScrQ cfg A R)
 |eff(o:AOp)(H:Heap)(v:AV)(H':Heap)(h:∀T,opStep (lim cfg) o T H=some (.val v H'))(s:ScrQ cfg A R)
 |pan(o:AOp)(H:Heap)(v:AV)(H':Heap)(h:∀T,opStepD (lim cfg) o T H=some (.pan v H'))(hq:R (.pan v,H'))
 |panE(o:AOp)(H:Heap)(v:AV)(H':Heap)(h:∀T,opStep (lim cfg) o T H=some (.pan v H'))(hq:R (.pan v,H'))
 |cutQ(k:List AIt)(vs:List (Nat×AV))(H:Heap)(h:∀T,Has T vs→∃r,runL cfg A k T H=some r∧R r)
 |split(p:Prop)(s1:p→ScrQ cfg A R)(s2:¬p→ScrQ cfg A R)
 |effS(o:AOp)(H:Heap)(v:AV)(h:∀T,opStepD (lim cfg) o T H=some (.val v H))(s:ScrQ cfg A R)
abbrev Scr(cfg:Cfg)(A:AFunc)(r:ARes×Heap):=ScrQ cfg A (fun x=>x=r)
inductive Chk where
 |av(x:AV)(c:Chk)
 |op(o:AOp)(c:Chk)
 |eff(o:AOp)(H:Heap)(c:Chk)
 |pan(o:AOp)(H:Heap)
 |cut(k:List AIt)(vs:List AV)(H:Heap)
 |res(r:Option (ARes×Heap))
 |want(o:AOp)(H:Heap)
 |wantB(x:AV)
 |stuck
 |split(p:Prop)(f:p→Chk)(g:¬p→Chk)
section
variable{cfg:Cfg}{A:AFunc}{R:ARes×Heap→Prop}
def claims:ScrQ cfg A R→Chk
 |.fin r h=>.res (some r)
 |.dec b p h s=>.av (.bool p) (claims s)
 |.op o v h s=>.op o (claims s)
 |.eff o H v H' h s=>.eff o H (claims s)
 |.effS o H v h s=>.eff o H (claims s)
 |.pan o H v H' h hq=>.pan o H
 |.panE o H v H' h hq=>.pan o H
 |.cutQ k vs H h=>.cut k (vs.map fun p=>p.2) H
 |.split p s1 s2=>.split p (fun h=>claims (s1 h)) (fun h=>claims (s2 h))
theorem claims_want(s:ScrQ cfg A R){o:AOp}{H:Heap}:claims s≠.want o H:=by cases s<;>simp[claims]
theorem claims_wantB(s:ScrQ cfg A R){x:AV}:claims s≠.wantB x:=by cases s<;>simp[claims]
theorem claims_stuck(s:ScrQ cfg A R):claims s≠.stuck:=by cases s<;>simp[claims]
def uns:ScrQ cfg A R→(ScrQ cfg A R→Chk)→Chk
 |.split p s1 s2,K=>.split p (fun h=>uns (s1 h) K) (fun h=>uns (s2 h) K)
 |.fin r h,K=>K (.fin r h)
 |.dec b p h s,K=>K (.dec b p h s)
 |.op o v h s,K=>K (.op o v h s)
 |.eff o H v H' h s,K=>K (.eff o H v H' h s)
 |.effS o H v h s,K=>K (.effS o H v h s)
 |.pan o H v H' h hq,K=>K (.pan o H v H' h hq)
 |.panE o H v H' h hq,K=>K (.panE o H v H' h hq)
 |.cutQ k vs H h,K=>K (.cutQ k vs H h)
theorem uns_sound{K:ScrQ cfg A R→Chk}:∀{s:ScrQ cfg A R},uns s K=claims s→∃s',K s'=claims s':=by
 intro s
 induction s with
 |split p s1 s2 h1 h2=>
  intro h
  simp only[uns,claims,Chk.split.injEq,heq_eq_eq,true_and]at h
  by_cases hp:p
  ·exact h1 hp (congrFun h.1 hp)
  ·exact h2 hp (congrFun h.2 hp)
 |_=>exact fun h=>⟨_,h⟩
noncomputable def auto(cfg:Cfg)(K:Env→Heap→Chk)(d:Option Nat)(o:AOp)(T:Env)(H:Heap):Chk:=
 bif isMust o then .want (clOp T o) H else match opStepD (lim cfg) o T H with
 |some (.val v H')=>K (setD T d v) H'
 |_=>.want (clOp T o) H
noncomputable def actOp(draw:Bool)(last:Heap→Bool)(K:ScrQ cfg A R→Env→Heap→Chk)(s:ScrQ cfg A R)(d:Option Nat)(o:AOp)(T:Env)(H:Heap):Chk:=
 match s with
 |.op o' v h s'=>bif tag o'==tag o then .op (clOp T o) (uns s' fun s'=>K s' (setD T d v) H)else auto cfg (K s) d o T H
 |.eff o' H0 v H' h s'=>bif tag o'==tag o then(bif draw&&isCall o then .stuck else .eff (clOp T o) H (uns s' fun s'=>K s' (setD T d v) H'))else auto cfg (K s) d o T H
 |.effS o' H0 v h s'=>bif tag o'==tag o then .eff (clOp T o) H (uns s' fun s'=>K s' (setD T d v) H)else auto cfg (K s) d o T H
 |.pan o' H0 v H' h hq=>bif tag o'==tag o then(bif draw&& !last H' then .stuck else .pan (clOp T o) H)else auto cfg (K s) d o T H
 |.panE o' H0 v H' h hq=>bif tag o'==tag o then(bif draw then .stuck else .pan (clOp T o) H)else auto cfg (K s) d o T H
 |s=>auto cfg (K s) d o T H
def quietVal(o:AOp)(T:Env)(H:Heap):Option AV:=match o with
 |.mov x=>some (ev T x)
 |.idx es x i=>idxA es (ev T x) (ev T i)
 |.idxs x i=>idxsA (ev T x) (ev T i)
 |.fld a b x=>fldA a b (ev T x)
 |.len s x=>lenA s (ev T x)
 |.bin b x y=>binA b (ev T x) (ev T y)
 |.load a n x=>loadA a n H (ev T x)
 |_=>none
theorem quiet_step{o:AOp}{T:Env}{H:Heap}{v:AV}(h:quietVal o T H=some v)(call:CallF):opStepD call o T H=some (.val v H):=by
 cases o<;>simp only[quietVal,reduceCtorEq]at h<;>simp only[opStepD,opStep,pureOp,h]
def quiet(p:Nat):List AOper→Env→Heap→Bool
 |[],_,_=>true
 |o::r,T,H=>bif o.deps.contains p then quiet p r T H else match o.guard with
  |some _=>false
  |none=>match quietVal o.op T H with
   |some v=>quiet p r (setD T o.dst v) H
   |none=>false
theorem runD_quiet{call:CallF}{p:Nat}{v:AV}:∀{ops:List AOper}(i:Nat){T:Env}{H:Heap},quiet p ops T H=true→runD call i ops (some (p,v)) T H=some (.pan v H)
 |[],_,_,_,_=>rfl
 |o::ops,i,T,H,h=>by
  unfold quiet at h
  cases hd:o.deps.contains p with
  |true=>
   rw[hd]at h
   simp only[runD,hd,if_true]
   exact runD_quiet _ h
  |false=>
   rw[hd]at h
   simp only[cond_false]at h
   split at h
   ·cases h
   ·rename_i hg
    split at h
    ·rename_i u hu
     have hw:wantedA o T=some true:=by unfold wantedA;rw[hg]
     simp only[runD,hd,hw,quiet_step hu,Bool.false_eq_true,if_false]
     exact runD_quiet _ h
    ·cases h
def lastB(i:Nat)(ops:List AOper)(T:Env)(H:Heap):Bool:=(ops.all fun o=>o.deps.contains i)||quiet i ops T H
noncomputable def actOps(draw:Bool)(Q:ScrQ cfg A R→Env→Heap→Chk):Nat→List Nat→List AOper→ScrQ cfg A R→Env→Heap→Chk
 |_,_,[],s,T,H=>Q s T H
 |i,kn,o::ops,s,T,H=>
  match o.guard with
  |none=>actOp draw (fun H'=>lastB i ops T H') (fun s T H=>actOps draw Q (i+1) kn ops s T H) s o.dst o.op T H
  |some (g,w)=>
   match T g with
   |.tuple []=>actOps draw Q (i+1) kn ops s (setD T o.dst (.tuple [])) H
   |.bool p'=>
    bif kn.contains g then bif p'==w then actOp draw (fun H'=>lastB i ops T H') (fun s T H=>actOps draw Q (i+1) kn ops s T H) s o.dst o.op T H else actOps draw Q (i+1) kn ops s (setD T o.dst (.tuple [])) H
    else
    match s with
    |.dec b p h s=>.av (.bool p') (uns s fun s=>bif b==w then actOp draw (fun H'=>lastB i ops T H') (fun s T H=>actOps draw Q (i+1) (g::kn) ops s T H) s o.dst o.op (upd T g (.bool b)) H
      else actOps draw Q (i+1) (g::kn) ops s (setD (upd T g (.bool b)) o.dst (.tuple [])) H)
    |_=>.wantB (.bool p')
   |_=>.stuck
noncomputable def acts:Nat→List AIt→ScrQ cfg A R→Env→Heap→Chk
 |0,_,_,_,_=>.stuck
 |n+1,k,s,T,H=>
  match k with
  |[]=>match s with
   |.fin _ _=>.res (retA A T H)
   |_=>.stuck
  |.blk _::k=>acts n k s T H
  |.lp b::k=>match s with
   |.cutQ k' vs H' h=>.cut (.lp b::k) (vs.map fun p=>T p.1) H
   |s=>acts n (.c b::.lp b::k) s T H
  |.beg _::k=>.stuck
  |.c c::k=>
   match c with
   |.skip=>acts n k s T H
   |.seq a b=>acts n (.c a::.c b::k) s T H
   |.cond x a b=>match s with
    |.dec t p h s=>.av (ev T x) (uns s fun s=>acts n (.c (bif t then a else b)::k) s T H)
    |_=>.wantB (ev T x)
   |.block id b=>acts n (.c b::.blk id::k) s T H
   |.loop b=>acts n (.lp b::k) s T H
   |.exit id=>match exitA id k with
    |some k'=>acts n k' s T H
    |none=>.stuck
   |.ret=>match s with
    |.fin _ _=>bif A.round then .stuck else .res (retA A T H)
    |_=>.stuck
   |.region ops draw=>bif draw then actOps true (fun s T H=>acts n k s T H) 0 [] (resv H.boxes.length ops) s T (roomH H (resvCells ops))else actOps false (fun s T H=>acts n k s T H) 0 [] ops s T H
   |.range f ps a b=>match s with
    |.cutQ k' vs H' h=>.cut (.c (.range f ps a b)::k) (vs.map fun p=>T p.1) H
    |_=>.stuck
theorem auto_sound{K:Env→Heap→Chk}{s:ScrQ cfg A R}{d:Option Nat}{o:AOp}{T:Env}{H:Heap}(h:auto cfg K d o T H=claims s):∃v H',opStepD (lim cfg) o T H=some (.val v H')∧K (setD T d v) H'=claims s:=by
 unfold auto at h
 cases hm:isMust o with
 |true=>rw[hm]at h;exact absurd h.symm (claims_want s)
 |false=>
  rw[hm]at h
  simp only[cond_false]at h
  split at h
  ·rename_i v H' ho;exact⟨v,H',ho,h⟩
  ·exact absurd h.symm (claims_want s)
def OneA(cfg:Cfg)(A:AFunc)(R:ARes×Heap→Prop)(draw:Bool)(last:Heap→Bool)(K:ScrQ cfg A R→Env→Heap→Chk)(d:Option Nat)(o:AOp)(T:Env)(H:Heap):Prop:=
 (∃v H' s',opStep (lim cfg) o T H=some (.val v H')∧(draw=true→opStepD (lim cfg) o T H=some (.val v H'))∧K s' (setD T d v) H'=claims s')∨
 (∃v H',opStep (lim cfg) o T H=some (.pan v H')∧(draw=true→opStepD (lim cfg) o T H=some (.pan v H')∧last H'=true)∧R (.pan v,H'))
theorem actOp_sound{draw:Bool}{last:Heap→Bool}{K:ScrQ cfg A R→Env→Heap→Chk}{s:ScrQ cfg A R}{d:Option Nat}{o:AOp}{T:Env}{H:Heap}(h:actOp draw last K s d o T H=claims s):OneA cfg A R draw last K d o T H:=by
 have au:auto cfg (K s) d o T H=claims s→OneA cfg A R draw last K d o T H:=fun h=>by
  obtain⟨v,H',h1,h2⟩:=auto_sound h
  exact .inl ⟨v,H',s,stepD_step h1,fun _=>h1,h2⟩
 unfold actOp at h
 split at h
 ·rename_i o' v hp s'
  cases ht:tag o'==tag o with
  |false=>rw[ht]at h;exact au h
  |true=>
   rw[ht]at h
   simp only[cond_true,claims,Chk.op.injEq]at h
   have e:opStepD (lim cfg) o T H=some (.val v H):=by
    have hh:=hp T H
    rw[←hh,←h.1,cl_stepD]
   obtain⟨s2,h2⟩:=uns_sound h.2
   exact .inl ⟨v,H,s2,stepD_step e,fun _=>e,h2⟩
 ·rename_i o' H0 v H' hp s'
  cases ht:tag o'==tag o with
  |false=>rw[ht]at h;exact au h
  |true=>
   rw[ht]at h
   simp only[cond_true]at h
   cases hd:draw&&isCall o with
   |true=>rw[hd]at h;exact absurd h.symm (claims_stuck _)
   |false=>
    rw[hd]at h
    simp only[cond_false,claims,Chk.eff.injEq]at h
    have e:opStep (lim cfg) o T H=some (.val v H'):=by
     have hh:=hp T
     rw[←hh,←h.1,h.2.1,cl_step]
    obtain⟨s2,h2⟩:=uns_sound h.2.2
    refine .inl ⟨v,H',s2,e,fun hdr=> ?_,h2⟩
    rw[hdr,Bool.true_and]at hd
    rw[stepD_of hd];exact e
 ·rename_i o' H0 v hp s'
  cases ht:tag o'==tag o with
  |false=>rw[ht]at h;exact au h
  |true=>
   rw[ht]at h
   simp only[cond_true,claims,Chk.eff.injEq]at h
   have e:opStepD (lim cfg) o T H=some (.val v H):=by
    have hh:=hp T
    rw[←h.1,←h.2.1,cl_stepD]at hh
    exact hh
   obtain⟨s2,h2⟩:=uns_sound h.2.2
   exact .inl ⟨v,H,s2,stepD_step e,fun _=>e,h2⟩
 ·rename_i o' H0 v H' hp hq
  cases ht:tag o'==tag o with
  |false=>rw[ht]at h;exact au h
  |true=>
   rw[ht]at h
   simp only[cond_true]at h
   cases hd:draw&& !last H' with
   |true=>rw[hd]at h;exact absurd h.symm (claims_stuck _)
   |false=>
    rw[hd]at h
    simp only[cond_false,claims,Chk.pan.injEq]at h
    obtain⟨hc,hc2⟩:=h
    have e:opStepD (lim cfg) o T H=some (.pan v H'):=by
     have hh:=hp T
     rw[←hh,←hc,hc2,cl_stepD]
    refine .inr ⟨v,H',stepD_step e,fun hdr=>⟨e,?_⟩,hq⟩
    rw[hdr]at hd;simpa using hd
 ·rename_i o' H0 v H' hp hq
  cases ht:tag o'==tag o with
  |false=>rw[ht]at h;exact au h
  |true=>
   rw[ht]at h
   simp only[cond_true]at h
   cases draw with
   |true=>exact absurd h.symm (claims_stuck _)
   |false=>
    simp only[cond_false,claims,Chk.pan.injEq]at h
    obtain⟨hc,hc2⟩:=h
    have e:opStep (lim cfg) o T H=some (.pan v H'):=by
     have hh:=hp T
     rw[←hh,←hc,hc2,cl_step]
    exact .inr ⟨v,H',e,(fun hdr=>by cases hdr),hq⟩
 ·exact au h
noncomputable def regI(cfg:Cfg)(draw:Bool)(i:Nat)(ops:List AOper)(T:Env)(H:Heap):Option OutE:=if draw then runD (lim cfg) i ops none T H else runOps (lim cfg) ops T H
def Comes(cfg:Cfg)(A:AFunc)(R:ARes×Heap→Prop)(draw:Bool)(Q:ScrQ cfg A R→Env→Heap→Chk)(i:Nat)(ops:List AOper)(T:Env)(H:Heap):Prop:=
 (∃s' T' H',Q s' T' H'=claims s'∧regI cfg draw i ops T H=some (.env T' H'))∨(∃v H',regI cfg draw i ops T H=some (.pan v H')∧R (.pan v,H'))
theorem runD_last0{call:CallF}{p:Nat}{v:AV}:∀{ops:List AOper}(i:Nat){T:Env}{H:Heap},(ops.all fun o=>o.deps.contains p)=true→runD call i ops (some (p,v)) T H=some (.pan v H)
 |[],_,_,_,_=>rfl
 |o::ops,i,T,H,h=>by
  rw[List.all_cons,Bool.and_eq_true]at h
  simp only[runD,h.1,if_true]
  exact runD_last0 _ h.2
theorem runD_last{call:CallF}{i:Nat}{v:AV}{ops:List AOper}{T:Env}{H:Heap}(h:lastB i ops T H=true):runD call (i+1) ops (some (i,v)) T H=some (.pan v H):=by
 unfold lastB at h
 rw[Bool.or_eq_true]at h
 rcases h with h|h
 ·exact runD_last0 _ h
 ·exact runD_quiet _ h
theorem actOps_sound{draw:Bool}{Q:ScrQ cfg A R→Env→Heap→Chk}:∀{ops:List AOper}{i:Nat}{kn:List Nat}{s:ScrQ cfg A R}{T:Env}{H:Heap},actOps draw Q i kn ops s T H=claims s→Comes cfg A R draw Q i ops T H
 |[],i,kn,s,T,H,h=>.inl ⟨s,T,H,h,by cases draw<;>rfl⟩
 |o::ops,i,kn,s,T,H,h=>by
  have key:∀kn s,wantedA o T=some true→actOp draw (fun H'=>lastB i ops T H') (fun s T H=>actOps draw Q (i+1) kn ops s T H) s o.dst o.op T H=claims s→Comes cfg A R draw Q i (o::ops) T H:=by
   intro kn s hw h
   rcases actOp_sound h with⟨v,H',s',h1,h2,h3⟩|⟨v,H',h1,h2,h3⟩
   ·rcases actOps_sound h3 with⟨s2,T2,H2,q,e⟩|⟨v2,H2,e,q⟩
    ·refine .inl ⟨s2,T2,H2,q,?_⟩
     cases draw with
     |false=>simp only[regI,runOps,hw,h1,Bool.false_eq_true,if_false]at e⊢;exact e
     |true=>simp only[regI,runD,hw,h2 rfl,if_true]at e⊢;exact e
    ·refine .inr ⟨v2,H2,?_,q⟩
     cases draw with
     |false=>simp only[regI,runOps,hw,h1,Bool.false_eq_true,if_false]at e⊢;exact e
     |true=>simp only[regI,runD,hw,h2 rfl,if_true]at e⊢;exact e
   ·refine .inr ⟨v,H',?_,h3⟩
    cases draw with
    |false=>simp only[regI,runOps,hw,h1,Bool.false_eq_true,if_false]
    |true=>
     simp only[regI,runD,hw,(h2 rfl).1,if_true]
     exact runD_last (h2 rfl).2
  have skip:∀kn s,wantedA o T=some false→actOps draw Q (i+1) kn ops s (setD T o.dst (.tuple [])) H=claims s→Comes cfg A R draw Q i (o::ops) T H:=by
   intro kn s hw h
   rcases actOps_sound h with⟨s2,T2,H2,q,e⟩|⟨v2,H2,e,q⟩
   ·refine .inl ⟨s2,T2,H2,q,?_⟩
    cases draw with
    |false=>simp only[regI,runOps,hw,Bool.false_eq_true,if_false]at e⊢;exact e
    |true=>simp only[regI,runD,hw,if_true]at e⊢;exact e
   ·refine .inr ⟨v2,H2,?_,q⟩
    cases draw with
    |false=>simp only[regI,runOps,hw,Bool.false_eq_true,if_false]at e⊢;exact e
    |true=>simp only[regI,runD,hw,if_true]at e⊢;exact e
  simp only[actOps]at h
  split at h
  ·rename_i hg
   exact key _ s (by unfold wantedA;rw[hg]) h
  ·rename_i g w hg
   have fin:∀b kn s,T g=.bool b→(bif b==w then actOp draw (fun H'=>lastB i ops T H') (fun s T H=>actOps draw Q (i+1) kn ops s T H) s o.dst o.op T H else actOps draw Q (i+1) kn ops s (setD T o.dst (.tuple [])) H)=claims s→
    Comes cfg A R draw Q i (o::ops) T H:=by
    intro b kn s h1 h2
    have hw:wantedA o T=some (b==w):=by unfold wantedA;rw[hg];simp only[h1]
    cases hb:(b==w)with
    |true=>rw[hb]at hw h2;exact key _ _ hw h2
    |false=>rw[hb]at hw h2;exact skip _ _ hw h2
   split at h
   ·rename_i hb
    exact skip kn s (by unfold wantedA;rw[hg];simp only[hb]) h
   ·rename_i p' hb
    cases hkn:kn.contains g with
    |true=>
     rw[hkn]at h
     simp only[cond_true]at h
     exact fin _ _ _ hb h
    |false=>
     rw[hkn]at h
     simp only[cond_false]at h
     split at h
     ·rename_i b p hp s'
      simp only[claims,Chk.av.injEq,AV.bool.injEq]at h
      have h1:T g=.bool b:=by rw[hb,h.1,hp]
      obtain⟨s2,h2⟩:=uns_sound h.2
      rw[upd_self h1]at h2
      exact fin _ _ _ h1 h2
     ·exact absurd h.symm (claims_wantB _)
   ·exact absurd h.symm (claims_stuck _)
theorem acts_sound:∀(n:Nat){k:List AIt}{s:ScrQ cfg A R}{T:Env}{H:Heap},acts n k s T H=claims s→∃r,runL cfg A k T H=some r∧R r:=by
 intro n
 induction n with
 |zero=>intro k s T H h;exact absurd h.symm (claims_stuck s)
 |succ n ih=>
  intro k s T H h
  simp only[acts]at h
  ·split at h
   ·split at h
    ·rename_i r hr
     simp only[claims,Chk.res.injEq]at h
     rw[runL_nil];exact⟨r,h,hr⟩
    ·exact absurd h.symm (claims_stuck _)
   ·rw[runL_blk];exact ih h
   ·split at h
    ·rename_i k' vs H' hc
     simp only[claims,Chk.cut.injEq]at h
     obtain⟨e1,e2,e3⟩:=h
     rw[e1,e3]
     exact hc T (has_of e2)
    ·rw[runL_lp];exact ih h
   ·exact absurd h.symm (claims_stuck _)
   ·split at h
    ·rw[runL_skip];exact ih h
    ·rw[runL_seq];exact ih h
    ·rename_i x a b
     split at h
     ·rename_i t p hp s'
      simp only[claims,Chk.av.injEq]at h
      obtain⟨h1,h2⟩:=h
      obtain⟨s2,h2⟩:=uns_sound h2
      rw[runL_cond,h1,hp]
      cases t<;>exact ih h2
     ·exact absurd h.symm (claims_wantB _)
    ·rw[runL_block];exact ih h
    ·rw[runL_loop];exact ih h
    ·split at h
     ·rename_i k' hk;rw[runL_exit,hk];exact ih h
     ·exact absurd h.symm (claims_stuck _)
    ·split at h
     ·rename_i r hr
      cases hro:A.round with
      |true=>rw[hro]at h;exact absurd h.symm (claims_stuck _)
      |false=>
       rw[hro]at h
       simp only[cond_false,claims,Chk.res.injEq]at h
       rw[runL_ret,hro];exact⟨_,h,hr⟩
     ·exact absurd h.symm (claims_stuck _)
    ·rename_i ops d
     rw[runL_region]
     cases d with
     |false=>
      have hreg:regionA (lim cfg) false ops T H=regI cfg false 0 ops T H:=rfl
      rw[hreg]
      rcases actOps_sound h with⟨s',T',H',q,e⟩|⟨v,H',e,q⟩
      ·rw[e];exact ih q
      ·rw[e];exact⟨_,rfl,q⟩
     |true=>
      have hreg:regionA (lim cfg) true ops T H=regI cfg true 0 (resv H.boxes.length ops) T (roomH H (resvCells ops)):=rfl
      rw[hreg]
      rcases actOps_sound h with⟨s',T',H',q,e⟩|⟨v,H',e,q⟩
      ·rw[e];exact ih q
      ·rw[e];exact⟨_,rfl,q⟩
    ·split at h
     ·rename_i k' vs H' hc
      simp only[claims,Chk.cut.injEq]at h
      obtain⟨e1,e2,e3⟩:=h
      rw[e1,e3]
      exact hc T (has_of e2)
     ·exact absurd h.symm (claims_stuck _)
theorem goQ{T:Env}{k:List AIt}{H:Heap}(n:Nat)(vs:List (Nat×AV))(hT:Has T vs)(s:ScrQ cfg A R)(e:uns s (fun s=>acts n k s (updL T vs) H)=claims s):∃r,runL cfg A k T H=some r∧R r:=by
 rw[updL_self hT]at e
 obtain⟨s',e⟩:=uns_sound e
 exact acts_sound n e
theorem go{r:ARes×Heap}{T:Env}{k:List AIt}{H:Heap}(n:Nat)(vs:List (Nat×AV))(hT:Has T vs)(s:Scr cfg A r)(e:uns s (fun s=>acts n k s (updL T vs) H)=claims s):runL cfg A k T H=some r:=by
 obtain⟨x,h,rfl⟩:=goQ n vs hT s e
 exact h
def ScrQ.done{r:ARes×Heap}:ScrQ cfg A (fun x=>x=r):=.fin r rfl
def ScrQ.cut{r:ARes×Heap}(k:List AIt)(vs:List (Nat×AV))(H:Heap)(h:∀T,Has T vs→runL cfg A k T H=some r):ScrQ cfg A (fun x=>x=r):=.cutQ k vs H fun T hT=>⟨r,h T hT,rfl⟩
class Shut(v:AV)(w:outParam AV):Prop where
 p:shut2 v=w∧data2 w=true
class Dat(x:AV):Prop where
 p:shut2 x=x∧data2 x=true
instance(v:AV) [h:Dat v]:Shut v v:=⟨h.p⟩
instance(t:Nat)(l:List AV):Shut (.sl (.own t) l) (.sl .sh l):=⟨rfl,rfl⟩
instance(l:List AV):Shut (.sl .full l) (.sl .sh l):=⟨rfl,rfl⟩
instance(k:IntKind)(n:Int):Dat (.int k n):=⟨rfl,rfl⟩
instance(b:Bool):Dat (.bool b):=⟨rfl,rfl⟩
instance(s:List UInt8):Dat (.str s):=⟨rfl,rfl⟩
instance(b:Nat):Dat (.flt b):=⟨rfl,rfl⟩
instance:Dat .nan:=⟨rfl,rfl⟩
instance(l:List AV):Dat (.sl .sh l):=⟨rfl,rfl⟩
instance:Dat .nilptr:=⟨rfl,rfl⟩
instance:Dat .nilIface:=⟨rfl,rfl⟩
instance:Dat .nilFunc:=⟨rfl,rfl⟩
class Shuts(xs:List AV)(ys:outParam (List AV)):Prop where
 p:xs.map shut2=ys∧ys.all data2=true
instance:Shuts [] []:=⟨rfl,rfl⟩
instance(x y:AV)(xs ys:List AV) [h:Shut x y] [hs:Shuts xs ys]:Shuts (x::xs) (y::ys):=⟨by
 obtain⟨a,b⟩:=h.p
 obtain⟨c,d⟩:=hs.p
 simp[a,b,c,d]⟩
class Dats(xs:List AV):Prop where
 p:xs.map shut2=xs∧xs.all data2=true
instance:Dats []:=⟨rfl,rfl⟩
instance(x:AV)(xs:List AV) [h:Dat x] [hs:Dats xs]:Dats (x::xs):=⟨by
 obtain⟨a,b⟩:=h.p
 obtain⟨c,d⟩:=hs.p
 simp[a,b,c,d]⟩
class Res(v:AV)(w:outParam AV):Prop where
 p:shutA v=w∧isData w=true
theorem shut_res{v w:AV}(h:shut2 v=w∧data2 w=true):shutA v=w∧isData w=true:=by
 obtain⟨a,b⟩:=h
 have hv:∀cs,w≠.tuple cs:=fun cs e=>by subst e;cases b
 have e1:shutA v=shut2 v:=by
  cases v with
  |tuple cs=>exact absurd a.symm (hv cs)
  |_=>rfl
 refine⟨e1.trans a,?_⟩
 have:isData w=data2 w:=by
  cases w with
  |tuple cs=>exact absurd rfl (hv cs)
  |_=>rfl
 rw[this];exact b
instance(v w:AV) [h:Shut v w]:Res v w:=⟨shut_res h.p⟩
instance(vs ws:List AV) [h:Shuts vs ws]:Res (.tuple vs) (.tuple ws):=⟨by
 obtain⟨a,b⟩:=h.p
 exact⟨by rw[←a];rfl,b⟩⟩
theorem shuts_args{xs ys:List AV}(h:xs.map shut2=ys∧ys.all data2=true):xs.map shutA=ys∧ys.all isData=true:=by
 obtain⟨a,b⟩:=h
 subst a
 rw[List.all_eq_true]at b
 have e:∀x∈xs,shutA x=shut2 x∧isData (shut2 x)=true:=fun x hx=>by
  obtain⟨p,q⟩:=shut_res (v:=x) (w:=shut2 x) ⟨rfl,b _ (List.mem_map_of_mem hx)⟩
  exact⟨p,q⟩
 refine⟨List.map_congr_left fun x hx=>(e x hx).1,List.all_eq_true.2 fun y hy=> ?_⟩
 obtain⟨x,hx,rfl⟩:=List.mem_map.1 hy
 exact(e x hx).2
theorem callD_ret{xs ys:List AV}{g:FuncId}{v w:AV}{H':Heap}(h:lim cfg (.fn g) ys Heap.nil=some (.ret v,H'))(hx:xs.map shut2=ys∧ys.all data2=true)(hv:shutA v=w∧isData w=true)(T:Env)(H:Heap):
 opStepD (lim cfg) (.call (.c (.func g [])) (xs.map fun x=>.c x)) T H=some (.val w H):=by
 obtain⟨a,b⟩:=shuts_args hx
 simp only[opStepD,List.map_map]
 have e:(List.map ((fun x=>shutA (ev T x))∘fun x=>Opd.c x) xs)=ys:=a
 rw[e,show ev T (.c (.func g []))=.func g []from rfl,callD_func]
 simp only[b,List.all_nil,Bool.and_self,cond_true,List.append_nil,h,dataOut_of hv]
theorem callD_pan{xs ys:List AV}{g:FuncId}{v:AV}{H':Heap}(h:lim cfg (.fn g) ys Heap.nil=some (.pan v,H'))(hx:xs.map shut2=ys∧ys.all data2=true)(hv:isData v=true)(H:Heap)(T:Env):
 opStepD (lim cfg) (.call (.c (.func g [])) (xs.map fun x=>.c x)) T H=some (.pan v H):=by
 obtain⟨a,b⟩:=shuts_args hx
 simp only[opStepD,List.map_map]
 have e:(List.map ((fun x=>shutA (ev T x))∘fun x=>Opd.c x) xs)=ys:=a
 rw[e,show ev T (.c (.func g []))=.func g []from rfl,callD_func]
 simp only[b,List.all_nil,Bool.and_self,cond_true,List.append_nil,h,hv]
def ScrQ.call{xs:List AV}{g:FuncId}{v w:AV}{H':Heap}(h:lim cfg (.fn g) xs Heap.nil=some (.ret v,H')) [hx:Dats xs] [hv:Res v w](s:ScrQ cfg A R):ScrQ cfg A R:=.op (.call (.c (.func g [])) (xs.map fun x=>.c x)) w (callD_ret h hx.p hv.p) s
def ScrQ.callW(xs:List AV){ys:List AV}{g:FuncId}{v w:AV}{H':Heap} [hx:Shuts xs ys](h:lim cfg (.fn g) ys Heap.nil=some (.ret v,H')) [hv:Res v w](s:ScrQ cfg A R):ScrQ cfg A R:=.op (.call (.c (.func g [])) (xs.map fun x=>.c x)) w (callD_ret h hx.p hv.p) s
def ScrQ.yes{p:Bool}(h:p=true)(s:ScrQ cfg A R):ScrQ cfg A R:=.dec true p h s
def ScrQ.no{p:Bool}(h:p=false)(s:ScrQ cfg A R):ScrQ cfg A R:=.dec false p h s
def ScrQ.tt(s:ScrQ cfg A R):ScrQ cfg A R:=.dec true true rfl s
def ScrQ.ff(s:ScrQ cfg A R):ScrQ cfg A R:=.dec false false rfl s
theorem pure_step{o:AOp}{v:AV}(hc:∀T,pureOp o T=some v)(h:∀call T H,opStepD call o T H=match pureOp o T with|some v=>some (.val v H)|none=>none)(T:Env)(H:Heap):opStepD (lim cfg) o T H=some (.val v H):=by rw[h,hc]
def ScrQ.idx{es:Nat}{x i v:AV}(h:idxA es x i=some v)(s:ScrQ cfg A R):ScrQ cfg A R:=.op (.idx es (.c x) (.c i)) v (pure_step (fun _=>h) fun _ _ _=>rfl) s
def ScrQ.idxs{x i v:AV}(h:idxsA x i=some v)(s:ScrQ cfg A R):ScrQ cfg A R:=.op (.idxs (.c x) (.c i)) v (pure_step (fun _=>h) fun _ _ _=>rfl) s
def ScrQ.bin{b:BinOp}{x y v:AV}(h:binA b x y=some v)(s:ScrQ cfg A R):ScrQ cfg A R:=.op (.bin b (.c x) (.c y)) v (pure_step (fun _=>h) fun _ _ _=>rfl) s
def ScrQ.len{b:Bool}{x v:AV}(h:lenA b x=some v)(s:ScrQ cfg A R):ScrQ cfg A R:=.op (.len b (.c x)) v (pure_step (fun _=>h) fun _ _ _=>rfl) s
def ScrQ.conv{b:CV}{x v:AV}(h:convA b x=some v)(s:ScrQ cfg A R):ScrQ cfg A R:=.op (.conv b (.c x)) v (pure_step (fun _=>h) fun _ _ _=>rfl) s
def ScrQ.eqnil{b:Bool}{k:NK}{x v:AV}(h:eqnilA b k x=some v)(s:ScrQ cfg A R):ScrQ cfg A R:=.op (.eqnil b k (.c x)) v (pure_step (fun _=>h) fun _ _ _=>rfl) s
def ScrQ.eqst{b:Bool}{ks:List FK}{x y v:AV}(h:eqstA b ks x y=some v)(s:ScrQ cfg A R):ScrQ cfg A R:=.op (.eqst b ks (.c x) (.c y)) v (pure_step (fun _=>h) fun _ _ _=>rfl) s
def ScrQ.slice{es:Nat}{x v:AV}{lo hi mx:Option AV}(h:sliceA es x lo hi mx=some v)(s:ScrQ cfg A R):ScrQ cfg A R:=.op (.slice es (.c x) (lo.map .c) (hi.map .c) (mx.map .c)) v
 (pure_step (fun T=>by simp only[pureOp,ev,Option.map_map,Function.comp_def];simpa using h) fun _ _ _=>rfl) s
theorem append_step{es b:Nat}{H H':Heap}{x y v:AV}(h:appendA es b H x y=some (v,H'))(T:Env):opStep (lim cfg) (.append es b (.c x) (.c y)) T H=some (.val v H'):=by
 simp only[opStep,ev,h]
def ScrQ.append{es b:Nat}{H H':Heap}{x y v:AV}(h:appendA es b H x y=some (v,H'))(s:ScrQ cfg A R):ScrQ cfg A R:=.eff (.append es b (.c x) (.c y)) H v H' (append_step h) s
theorem load_step{agg:Bool}{n:Nat}{H:Heap}{x v:AV}(h:loadA agg n H x=some v)(T:Env):opStep (lim cfg) (.load agg n (.c x)) T H=some (.val v H):=by
 simp only[opStep,ev,h]
def ScrQ.load{agg:Bool}{n:Nat}{H:Heap}{x v:AV}(h:loadA agg n H x=some v)(s:ScrQ cfg A R):ScrQ cfg A R:=.eff (.load agg n (.c x)) H v H (load_step h) s
theorem store_step{n:Nat}{H H':Heap}{x v:AV}(h:storeA n H x v=some H')(T:Env):opStep (lim cfg) (.store n (.c x) (.c v)) T H=some (.val .undef H'):=by
 simp only[opStep,ev,h]
def ScrQ.store{n:Nat}{H H':Heap}{x v:AV}(h:storeA n H x v=some H')(s:ScrQ cfg A R):ScrQ cfg A R:=.eff (.store n (.c x) (.c v)) H .undef H' (store_step h) s
variable{k:IntKind}{a b:Int}
theorem lssT(h:a<b):binA .lss (.int k a) (.int k b)=some (.bool true):=by simp[binA,intBin,h]
theorem lssF(h:b≤a):binA .lss (.int k a) (.int k b)=some (.bool false):=by simp[binA,intBin,h]
theorem eqlF(h:a≠b):binA .eql (.int k a) (.int k b)=some (.bool false):=by simp[binA,intBin,h]
theorem neqT(h:a≠b):binA .neq (.int k a) (.int k b)=some (.bool true):=by simp[binA,intBin,h]
theorem wrap_i64{x:Int}(h1: -9223372036854775808≤x)(h2:x<9223372036854775808):IntKind.i64.wrap x=x:=by
 have e:(x%18446744073709551616)=if 0≤x then x else x+18446744073709551616:=by split<;>omega
 simp only[IntKind.wrap,IntKind.bits,IntKind.signed,Bool.true_and,show(2:Int)^64=18446744073709551616 from rfl,show(2:Int)^(64-1)=9223372036854775808 from rfl,e,decide_eq_true_eq]
 split<;>split<;>omega
theorem addI(h1: -9223372036854775808≤a+b)(h2:a+b<9223372036854775808):binA .add (.int .i64 a) (.int .i64 b)=some (.int .i64 (a+b)):=by
 simp[binA,intBin,wrap_i64 h1 h2]
theorem subI(h1: -9223372036854775808≤a-b)(h2:a-b<9223372036854775808):binA .sub (.int .i64 a) (.int .i64 b)=some (.int .i64 (a-b)):=by
 simp[binA,intBin,wrap_i64 h1 h2]
theorem mulI(h1: -9223372036854775808≤a*b)(h2:a*b<9223372036854775808):binA .mul (.int .i64 a) (.int .i64 b)=some (.int .i64 (a*b)):=by
 simp[binA,intBin,wrap_i64 h1 h2]
def ScrQ.add(h: -9223372036854775808≤a+b∧a+b<9223372036854775808)(s:ScrQ cfg A R):ScrQ cfg A R:=.bin (addI h.1 h.2) s
def ScrQ.sub(h: -9223372036854775808≤a-b∧a-b<9223372036854775808)(s:ScrQ cfg A R):ScrQ cfg A R:=.bin (subI h.1 h.2) s
def ScrQ.mul(h: -9223372036854775808≤a*b∧a*b<9223372036854775808)(s:ScrQ cfg A R):ScrQ cfg A R:=.bin (mulI h.1 h.2) s
def ScrQ.inc(i:Nat)(h:i<9223372036854775807)(s:ScrQ cfg A R):ScrQ cfg A R:=.bin (show binA .add (.int .i64 (i:Int)) (.int .i64 1)=some (.int .i64 ((i+1:Nat):Int))from by
 rw[addI (by omega) (by omega)];rfl) s
theorem idx_at{es i:Nat}{k:SK}{q:IntKind}{l:List AV}{x:AV}(h:l[i]?=some x)(hc:cellsN es x=true):idxA es (.sl k l) (.int q (i:Int))=some (.ref x.cells):=by
 simp[idxA,h,hc]
theorem bslice_step{es:Nat}{xs:List AV}(h1:xs.map shut2=xs)(h2:lenOk es xs=true)(h3:dataOk xs=true)(T:Env)(H:Heap):opStepD (lim cfg) (.bslice es (xs.map .c)) T H=some (.val (.sl .full xs) H):=by
 simp only[opStepD,opStep,pureOp,List.map_map]
 have e:(List.map ((fun x=>shut2 (ev T x))∘Opd.c) xs)=xs:=h1
 rw[e,if_pos ⟨h2,h3⟩]
def ScrQ.bslice{es:Nat}{xs:List AV}(h1:xs.map shut2=xs)(h2:lenOk es xs=true)(h3:dataOk xs=true)(s:ScrQ cfg A R):ScrQ cfg A R:=.op (.bslice es (xs.map .c)) (.sl .full xs) (bslice_step h1 h2 h3) s
def rowS(H:Heap):List AV→AV
 |[]=>.sl .full []
 |y::ys=>.sl (.own H.toks.length) (y::ys)
def rowH(H:Heap):List AV→Heap
 |[]=>H
 |y::ys=>{H with toks:=H.toks++[(y::ys).length]}
instance(H:Heap)(ys:List AV):Shut (rowS H ys) (.sl .sh ys):=⟨by cases ys<;>exact⟨rfl,rfl⟩⟩
theorem row_append{es bytes:Nat}{H:Heap}{ys:List AV}{v:AV}(h:(ys.length+1)*bytes≤140737488355328)(hl:lenOk es ys=true)(hv:cellsN es v=true)(hd:dataOk [v]=true):
 appendA es bytes (rowH H ys) (rowS H ys) (.sl .full [v])=some (rowS H (ys++[v]),rowH H (ys++[v])):=by
 have hv':lenOk es [v]=true:=by simp[lenOk,hv]
 cases ys with
 |nil=>
  have h':bytes≤140737488355328:=by simpa using h
  have e:(([]:List AV).length+([v]:List AV).length)*bytes≤140737488355328:=by simpa using h'
  have e2:lenOk es ([]:List AV)=true:=rfl
  simp only[appendA,rowS,rowH,hv',hd,e2,List.nil_append]
  rw[if_pos ⟨e,trivial,trivial,trivial⟩]
  rfl
 |cons y ys=>
  simp only[appendA,rowS,rowH,hl,hv',hd,List.length_cons,List.length_nil,List.cons_append]at h⊢
  simp[h]
theorem callH_step{xs caps:List AV}{g:FuncId}{v:AV}{H H2:Heap}(h:lim cfg (.fn g) (xs++caps) H=some (.ret v,H2))(hx:xs.map shutA=xs)(hd:(xs.all isData&&caps.all data0)=false)(T:Env):
 opStep (lim cfg) (.call (.c (.func g caps)) (xs.map .c)) T H=some (.val (shutA v) (trunc H.boxes.length H.toks.length (shutA v) H2)):=by
 have e:(xs.map Opd.c).map (fun x=>shutA (ev T x))=xs:=by rw[List.map_map];exact hx
 simp only[opStep,e]
 rw[show ev T (.c (.func g caps))=.func g caps from rfl,callV_func,hd]
 simp only[cond_false,callE,h]
theorem strEqT{a b:List UInt8}(h:a=b):binA .eql (.str a) (.str b)=some (.bool true):=by simp[binA,strBin,h]
theorem strEqF{a b:List UInt8}(h:a≠b):binA .eql (.str a) (.str b)=some (.bool false):=by simp[binA,strBin,h]
theorem strNeT{a b:List UInt8}(h:a≠b):binA .neq (.str a) (.str b)=some (.bool true):=by simp[binA,strBin,h]
theorem strNeF{a b:List UInt8}(h:a=b):binA .neq (.str a) (.str b)=some (.bool false):=by simp[binA,strBin,h]
def IsRet(v:AV)(r:ARes×Heap):Prop:=r.1=.ret v
def Gives(cfg:Cfg)(g:FuncId)(xs:List AV)(v:AV):Prop:=∃r,lim cfg (.fn g) xs Heap.nil=some r∧IsRet v r
def Goes(cfg:Cfg)(A:AFunc)(k:List AIt)(T:Env)(H:Heap)(R:ARes×Heap→Prop):Prop:=∃r,runL cfg A k T H=some r∧R r
theorem Gives.ret{g:FuncId}{xs:List AV}{v:AV}(h:Gives cfg g xs v):∃H',lim cfg (.fn g) xs Heap.nil=some (.ret v,H'):=by
 obtain⟨⟨a,H'⟩,h,e⟩:=h
 simp only[IsRet]at e
 subst e
 exact⟨H',h⟩
theorem Gives.of{g:FuncId}{xs:List AV}{v:AV}{H':Heap}(h:lim cfg (.fn g) xs Heap.nil=some (.ret v,H')):Gives cfg g xs v:=⟨_,h,rfl⟩
theorem Gives.to{g:FuncId}{xs:List AV}{v w:AV}(h:Gives cfg g xs v)(e:v=w):Gives cfg g xs w:=e▸h
theorem Gives.run{g:FuncId}{xs:List AV}{v:AV}{k:List AIt}{T:Env}(e:lim cfg (.fn g) xs Heap.nil=runL cfg A k T Heap.nil)(h:Goes cfg A k T Heap.nil (IsRet v)):Gives cfg g xs v:=by
 unfold Gives;rw[e];exact h
theorem givesD{xs ys:List AV}{g:FuncId}{v w:AV}(h:Gives cfg g ys v)(hx:xs.map shut2=ys∧ys.all data2=true)(hv:shutA v=w∧isData w=true)(T:Env)(H:Heap):
 opStepD (lim cfg) (.call (.c (.func g [])) (xs.map fun x=>.c x)) T H=some (.val w H):=by
 obtain⟨H',h⟩:=h.ret
 exact callD_ret h hx hv T H
def ScrQ.callG(xs:List AV){ys:List AV}{g:FuncId}{v:AV}(w:AV)(h:Gives cfg g ys v)(hx:xs.map shut2=ys∧ys.all data2=true)(hv:shutA v=w∧isData w=true)(s:ScrQ cfg A R):ScrQ cfg A R:=.op (.call (.c (.func g [])) (xs.map fun x=>.c x)) w (givesD h hx hv) s
theorem Goes.to{k:List AIt}{T:Env}{H:Heap}{v w:AV}(h:Goes cfg A k T H (IsRet v))(e:v=w):Goes cfg A k T H (IsRet w):=e▸h
class D0(x:AV):Prop where
 p:shut1 x=x∧data0 x=true
instance(k:IntKind)(n:Int):D0 (.int k n):=⟨rfl,rfl⟩
instance(b:Bool):D0 (.bool b):=⟨rfl,rfl⟩
instance(s:List UInt8):D0 (.str s):=⟨rfl,rfl⟩
instance(b:Nat):D0 (.flt b):=⟨rfl,rfl⟩
instance:D0 .nan:=⟨rfl,rfl⟩
instance(l:List AV):D0 (.sl .sh l):=⟨rfl,rfl⟩
end
end Go.Aa
set_option linter.unusedVariables false
set_option linter.unusedSimpArgs false
namespace Go.Aa
theorem goG{cfg:Cfg}{A:AFunc}{R:ARes×Heap→Prop}{T:Env}{k:List AIt}{H:Heap}(n:Nat)(vs:List (Nat×AV))(hT:Has T vs)(s:ScrQ cfg A R)(e:uns s (fun s=>acts n k s (updL T vs) H)=claims s):Goes cfg A k T H R:=goQ n vs hT s e
class D0s(xs:List AV):Prop where
 p:xs.map shut1=xs∧xs.all data0=true
instance:D0s []:=⟨rfl,rfl⟩
instance(x:AV)(xs:List AV) [h:D0 x] [hs:D0s xs]:D0s (x::xs):=⟨by
 obtain⟨a,b⟩:=h.p
 obtain⟨c,d⟩:=hs.p
 simp[a,b,c,d]⟩
instance(xs:List AV) [h:D0s xs]:Dat (.agg xs):=⟨by
 obtain⟨a,b⟩:=h.p
 exact⟨by simp[shut2,a],b⟩⟩
variable{α:Type}{f:α→AV}{l:List α}{x:α}{post:List α}{i:Nat}
theorem drop_lt(h:l.drop i=x::post):i<l.length:=by
 have:0<(l.drop i).length:=by rw[h];simp
 simp at this;omega
theorem drop_ge(h:l.drop i=[]):l.length≤i:=by simpa using h
theorem drop_next(h:l.drop i=x::post):l.drop (i+1)=post:=by
 rw[←List.tail_drop,h];rfl
theorem drop_at(h:l.drop i=x::post):l[i]?=some x:=by
 have:=congrArg List.head? h
 simpa[List.head?_drop]using this
theorem drop_take(h:l.drop i=x::post):l.take (i+1)=l.take i++[x]:=by
 rw[List.take_add_one,drop_at h];rfl
theorem drop_mem(h:l.drop i=x::post):x∈l:=by
 have:x∈l.drop i:=by rw[h];simp
 exact List.mem_of_mem_drop this
theorem len_map(k:SK):lenA false (.sl k (l.map f))=some (.int .i64 l.length):=by simp[lenA]
theorem len_sl(k:SK)(l:List AV):lenA false (.sl k l)=some (.int .i64 l.length):=rfl
theorem len_str(s:List UInt8):lenA true (.str s)=some (.int .i64 s.length):=rfl
theorem idx_row{es:Nat}{k:SK}{q:IntKind}(h:l.drop i=x::post)(hc:cellsN es (f x)=true):idxA es (.sl k (l.map f)) (.int q (i:Int))=some (.ref (f x).cells):=
 idx_at (by simp[drop_at h]) hc
theorem idx_get{es:Nat}{k:SK}{q:IntKind}(h:l[i]?=some x)(hc:cellsN es (f x)=true):idxA es (.sl k (l.map f)) (.int q (i:Int))=some (.ref (f x).cells):=
 idx_at (by simp[h]) hc
theorem inc_i(h:i<9223372036854775807):binA .add (.int .i64 (i:Int)) (.int .i64 1)=some (.int .i64 ((i+1:Nat):Int)):=by
 rw[addI (by omega) (by omega)];rfl
theorem load_box{agg:Bool}{n k off:Nat}{H:Heap}{cs:List AV}{v:AV}(h:H.boxes[k]?=some cs)(e:loadA agg n ⟨[cs],[],[]⟩ (.ptr 0 off)=some v):loadA agg n H (.ptr k off)=some v:=by
 simp only[loadA,h,List.getElem?_cons_zero]at e⊢
 exact e
theorem store_box{n k off:Nat}{H:Heap}{cs cs':List AV}{v:AV}(h:H.boxes[k]?=some cs)(e:storeA n ⟨[cs],[],[]⟩ (.ptr 0 off) v=some ⟨[cs'],[],[]⟩):storeA n H (.ptr k off) v=some {H with boxes:=H.boxes.set k cs'}:=by
 simp only[storeA,h,List.getElem?_cons_zero]at e⊢
 split at e
 ·rename_i hc
  simp only[Option.some.injEq,Heap.mk.injEq,List.set_cons_zero,List.cons.injEq]at e
  rw[if_pos hc,e.1.1]
 ·cases e
theorem bound_nat{m n d:Nat}{q:IntKind}(h:n≤m):boundA m (some (.int q (n:Int))) d=some n:=by simp[boundA,h]
theorem bound_none{m d:Nat}:boundA m none d=some d:=rfl
theorem slice_go{es h k:Nat}{xs:List AV}(hk:k≤h)(hh:h≤xs.length)(hc:∀x∈xs,cellsN es x=true):(match xs[k]? with
 |none=>some (AV.sl .sh [])
 |some e=>if cellsN es e=true then some (.sl .sh ((xs.take h).drop k))else none)=some (.sl .sh ((xs.take h).drop k)):=by
 cases he:xs[k]? with
 |none=>
  have:(xs.take h).drop k=[]:=by
   have:xs.length≤k:=by simpa using he
   simp;omega
  simp[this]
 |some e=>
  have:=hc e (List.mem_of_getElem? he)
  simp[this]
theorem slice_to{es k:Nat}{q:IntKind}{sk:SK}(hk:k≤l.length)(he:(es==0)=false)(hc:∀x,cellsN es (f x)=true):sliceA es (.sl sk (l.map f)) none (some (.int q (k:Int))) none=some (.sl .sh ((l.take k).map f)):=by
 have he':es≠0:=by simpa using he
 simp only[sliceA,if_neg he',sliceSl,bound_none,List.length_map,bound_nat hk]
 have:=slice_go (es:=es) (h:=k) (k:=0) (xs:=l.map f) (by omega) (by simpa using hk) (by intro x hx;obtain⟨y,-,rfl⟩:=List.mem_map.1 hx;exact hc y)
 refine Eq.trans this ?_
 rw[←List.map_take]
 simp
@[simp]theorem rowH_boxes(H:Heap)(ys:List AV):(rowH H ys).boxes=H.boxes:=by cases ys<;>rfl
@[simp]theorem rowH_loops(H:Heap)(ys:List AV):(rowH H ys).loops=H.loops:=by cases ys<;>rfl
theorem row_append_map{es bytes:Nat}{H:Heap}{ys:List α}(h:((ys.map f).length+1)*bytes≤140737488355328)(hl:lenOk es (ys.map f)=true)(hv:cellsN es (f x)=true)(hd:dataOk [f x]=true):
 appendA es bytes (rowH H (ys.map f)) (rowS H (ys.map f)) (.sl .full [f x])=some (rowS H ((ys++[x]).map f),rowH H ((ys++[x]).map f)):=by
 rw[row_append h hl hv hd,List.map_append];rfl
theorem lenOk_map{n:Nat}(h:∀x,cellsN n (f x)=true):lenOk n (l.map f)=true:=by
 simp only[lenOk,List.all_eq_true,List.mem_map]
 rintro _⟨x,-,rfl⟩
 exact h x
theorem dataOk_map(h:∀x,(f x).cells.all data0=true):dataOk (l.map f)=true:=by
 simp only[dataOk,List.all_eq_true,List.mem_map]
 rintro _⟨x,-,rfl⟩
 exact List.all_eq_true.1 (h x)
theorem rem_nat{k:IntKind}{a m:Nat}(h:m≠0):binA .rem (.int k (a:Int)) (.int k (m:Int))=some (.int k ((a%m:Nat):Int)):=by
 have:(m:Int)≠0:=by omega
 simp only[binA,if_true,intBin,if_neg this]
 rfl
theorem conv_i64{k:IntKind}{n:Int}(h: -9223372036854775808≤n∧n<9223372036854775808):convA (.int .i64) (.int k n)=some (.int .i64 n):=by
 simp[convA,wrap_i64 h.1 h.2]
theorem store_box2{n k off:Nat}{H:Heap}{cs cs':List AV}{bs':List (List AV)}{v:AV}(h:H.boxes[k]?=some cs)(e:storeA n ⟨[cs],[],[]⟩ (.ptr 0 off) v=some ⟨[cs'],[],[]⟩)(hs:H.boxes.set k cs'=bs'):storeA n H (.ptr k off) v=some {H with boxes:=bs'}:=by
 rw[←hs];exact store_box h e
end Go.Aa
set_option linter.unusedVariables false
set_option linter.unusedSimpArgs false
namespace Go.Aa
section
variable{cfg:Cfg}
theorem lim_try{f:FuncId}(ht:cfg.tryF f=true)(g:FuncId)(caps:List AV)(H:Heap):lim cfg (.fn f) [.func g caps] H=tryA (lim cfg (.fn g) caps H) cfg.stopT:=by
 refine opt_ext fun r=> ?_
 rw[lim_iff]
 constructor
 ·rintro⟨n,h⟩
  cases n with
  |zero=>simp[callN]at h
  |succ n=>
   rw[callN]at h
   simp only[ht,if_true]at h
   cases hc:callN cfg n (.fn g) caps H with
   |none=>rw[hc]at h;simp[tryA]at h
   |some x=>rw[hc]at h;rw[lim_of hc];exact h
 ·intro h
  cases hc:lim cfg (.fn g) caps H with
  |none=>rw[hc]at h;simp[tryA]at h
  |some x=>
   rw[hc]at h
   obtain⟨n,hn⟩:=lim_iff.1 hc
   refine⟨n+1,?_⟩
   rw[callN]
   simp only[ht,if_true,hn]
   exact h
variable{A:AFunc}{k:List AIt}{T:Env}{H:Heap}
theorem callN_step{xs:List AV}{g:FuncId}{v v0:AV}{H H2 H0:Heap}(h0:lim cfg (.fn g) xs Heap.nil=some (.ret v0,H0))(hn:dataOut H0 v0=none)(h:lim cfg (.fn g) xs H=some (.ret v,H2))(hx:xs.map shutA=xs)(hd:xs.all isData=true)(T:Env):
 opStep (lim cfg) (.call (.c (.func g [])) (xs.map .c)) T H=some (.val (shutA v) (trunc H.boxes.length H.toks.length (shutA v) H2)):=by
 have e:(xs.map Opd.c).map (fun x=>shutA (ev T x))=xs:=by rw[List.map_map];exact hx
 simp only[opStep,e]
 rw[show ev T (.c (.func g []))=.func g []from rfl]
 unfold callV
 simp only[hd,List.all_nil,Bool.and_self,if_true,List.append_nil,h0,hn,Bool.false_eq_true,if_false,callE,h]
def ScrQ.callN{R:ARes×Heap→Prop}{xs:List AV}{g:FuncId}{v v0:AV}{H H2 H0:Heap}(h0:lim cfg (.fn g) xs Heap.nil=some (.ret v0,H0))(hn:dataOut H0 v0=none)(h:lim cfg (.fn g) xs H=some (.ret v,H2))(hx:xs.map shutA=xs)(hd:xs.all isData=true)(s:ScrQ cfg A R):ScrQ cfg A R:=
 .eff (.call (.c (.func g [])) (xs.map .c)) H (shutA v) (trunc H.boxes.length H.toks.length (shutA v) H2) (callN_step h0 hn h hx hd) s
def Pans(cfg:Cfg)(g:FuncId)(xs:List AV)(v:AV):Prop:=∃r,lim cfg (.fn g) xs Heap.nil=some r∧r.1=.pan v
def IsPan(v:AV)(r:ARes×Heap):Prop:=r.1=.pan v
theorem Pans.pan{g:FuncId}{xs:List AV}{v:AV}(h:Pans cfg g xs v):∃H',lim cfg (.fn g) xs Heap.nil=some (.pan v,H'):=by
 obtain⟨⟨a,H'⟩,h,e⟩:=h
 simp only at e
 subst e
 exact⟨H',h⟩
theorem Pans.run{g:FuncId}{xs:List AV}{v:AV}(e:lim cfg (.fn g) xs Heap.nil=runL cfg A k T Heap.nil)(h:Goes cfg A k T Heap.nil (IsPan v)):Pans cfg g xs v:=by
 unfold Pans;rw[e];exact h
theorem pansD{xs ys:List AV}{g:FuncId}{v:AV}(h:Pans cfg g ys v)(hx:xs.map shut2=ys∧ys.all data2=true)(hv:isData v=true)(H:Heap)(T:Env):
 opStepD (lim cfg) (.call (.c (.func g [])) (xs.map fun x=>.c x)) T H=some (.pan v H):=by
 obtain⟨H',h⟩:=h.pan
 exact callD_pan h hx hv H T
def ScrQ.callP{R:ARes×Heap→Prop}(xs:List AV){ys:List AV}{g:FuncId}{v:AV}(H:Heap)(h:Pans cfg g ys v)(hx:xs.map shut2=ys∧ys.all data2=true)(hv:isData v=true)(hq:R (.pan v,H)):ScrQ cfg A R:=
 .pan (.call (.c (.func g [])) (xs.map fun x=>.c x)) H v H (pansD h hx hv H) hq
theorem panic_step{t:TypeId}{v:AV}(H:Heap)(T:Env):opStepD (lim cfg) (.panic (.c (.iface t v))) T H=some (.pan (.iface t v) H):=rfl
def ScrQ.panicI{R:ARes×Heap→Prop}(t:TypeId)(v:AV)(H:Heap)(hq:R (.pan (.iface t v),H)):ScrQ cfg A R:=.pan (.panic (.c (.iface t v))) H (.iface t v) H (panic_step H) hq
def Does(cfg:Cfg)(o:AOp)(H:Heap)(v:AV)(H':Heap):Prop:=∀T,opStep (lim cfg) o T H=some (.val v H')
def ScrQ.effY{R:ARes×Heap→Prop}{o:AOp}{H H':Heap}{v:AV}(h:Does cfg o H v H')(s:ScrQ cfg A R):ScrQ cfg A R:=.eff o H v H' h s
theorem does_calmM{g:FuncId}{caps xs:List AV}{H:Heap}{v:AV}(h:Does cfg (.callM (.c (.func g caps)) (xs.map .c)) H v H)(hd:((xs.map shutA).all isData&&caps.all data0)=false)(T:Env):
 opStepD (lim cfg) (.callM (.c (.func g caps)) (xs.map .c)) T H=some (.val v H):=by
 have e:(xs.map Opd.c).map (fun x=>shutA (ev T x))=xs.map shutA:=by rw[List.map_map];rfl
 have h:=h T
 simp only[opStep,e]at h
 simp only[opStepD,e]
 rw[show ev T (.c (.func g caps))=.func g caps from rfl]at h⊢
 simp only[callW,hd,Bool.false_eq_true,if_false]at h
 simp only[callDW,hd,Bool.false_eq_true,if_false,h]
 exact calm_val
def ScrQ.effCM{R:ARes×Heap→Prop}{g:FuncId}{caps:List AV}(xs:List AV){H:Heap}{v:AV}(h:Does cfg (.callM (.c (.func g caps)) (xs.map .c)) H v H)(hd:((xs.map shutA).all isData&&caps.all data0)=false)(s:ScrQ cfg A R):ScrQ cfg A R:=.effS (.callM (.c (.func g caps)) (xs.map .c)) H v (does_calmM h hd) s
theorem does_callN{xs:List AV}{g:FuncId}{v v0:AV}{H H2 H0:Heap}(h0:lim cfg (.fn g) xs Heap.nil=some (.ret v0,H0))(hn:dataOut H0 v0=none)(h:lim cfg (.fn g) xs H=some (.ret v,H2))(hx:xs.map shutA=xs)(hd:xs.all isData=true):
 Does cfg (.call (.c (.func g [])) (xs.map .c)) H (shutA v) (trunc H.boxes.length H.toks.length (shutA v) H2):=callN_step h0 hn h hx hd
theorem does_callE{xs caps:List AV}{g:FuncId}{v:AV}{H H2:Heap}(h:lim cfg (.fn g) (xs++caps) H=some (.ret v,H2))(hx:xs.map shutA=xs)(hd:(xs.all isData&&caps.all data0)=false):
 Does cfg (.call (.c (.func g caps)) (xs.map .c)) H (shutA v) (trunc H.boxes.length H.toks.length (shutA v) H2):=callH_step h hx hd
end
end Go.Aa
set_option linter.unusedVariables false
set_option linter.unusedSimpArgs false
namespace Go.Aa
section
variable{cfg:Cfg}
def GivesF(cfg:Cfg)(g:FuncId)(xs:List AV)(u:AV):Prop:=∃v H,lim cfg (.fn g) xs Heap.nil=some (.ret v,H)∧dataOut H v=some u
theorem does_callF{xs:List AV}{g:FuncId}{u:AV}(h:GivesF cfg g xs u)(hx:xs.map shutA=xs)(hd:xs.all isData=true)(H:Heap):Does cfg (.call (.c (.func g [])) (xs.map .c)) H u H:=by
 obtain⟨v,H1,h1,h2⟩:=h
 intro T
 have e:(xs.map Opd.c).map (fun x=>shutA (ev T x))=xs:=by rw[List.map_map];exact hx
 simp only[opStep,e]
 rw[show ev T (.c (.func g []))=.func g []from rfl]
 simp only[callV,hd,List.all_nil,Bool.and_self,if_true,List.append_nil,h1,h2]
theorem Gives.f{g:FuncId}{xs:List AV}{v:AV}(h:Gives cfg g xs v)(hd:shutA v=v)(h2:isData v=true):GivesF cfg g xs v:=by
 obtain⟨H,h⟩:=h.ret
 exact⟨v,H,h,dataOut_of ⟨hd,h2⟩⟩
def IsOut(u:AV)(r:ARes×Heap):Prop:=∃v,r.1=.ret v∧dataOut r.2 v=some u
theorem GivesF.run{A:AFunc}{g:FuncId}{xs:List AV}{u:AV}{k:List AIt}{T:Env}(e:lim cfg (.fn g) xs Heap.nil=runL cfg A k T Heap.nil)(h:Goes cfg A k T Heap.nil (IsOut u)):GivesF cfg g xs u:=by
 obtain⟨⟨r,H⟩,h1,v,h2,h3⟩:=h
 simp only at h2 h3
 subst h2
 exact⟨v,H,e.trans h1,h3⟩
theorem idx_msl{k off n es:Nat}{q:IntKind}{i:Nat}(h:i<n):idxA es (.msl k off n es) (.int q (i:Nat))=some (.ptr k (off+i*es)):=by
 simp only[idxA]
 rw[if_pos ⟨⟨Int.natCast_nonneg i,by exact_mod_cast h⟩,trivial⟩];simp
def elOk(es:Nat):AV→Bool
 |.agg cs=>es !=1&&cs.length==es
 |.undef|.tuple _=>false
 |_=>es==1
theorem el_cells{es:Nat}{x:AV}(h:elOk es x=true):x.cells.length=es∧cellsN es x=true:=by
 cases x<;>simp_all[elOk,AV.cells,cellsN]
theorem paste_spec:∀(vs cells:List AV)(off:Nat),off+vs.length≤cells.length→paste cells off vs=cells.take off++vs++cells.drop (off+vs.length)
 |[],cells,off,h=>by simp[paste]
 |v::vs,cells,off,h=>by
  simp only[List.length_cons]at h
  rw[paste,paste_spec vs (cells.set off v) (off+1) (by simp;omega)]
  have h1:(cells.set off v).take (off+1)=cells.take off++[v]:=by
   rw[List.take_add_one,List.getElem?_set_self (by omega)]
   simp[List.take_set_of_le]
  have h2:(cells.set off v).drop (off+1+vs.length)=cells.drop (off+(v::vs).length):=by
   rw[List.drop_set_of_lt (by omega)]
   congr 1
   simp only[List.length_cons];omega
  rw[h1,h2];simp
theorem cells_at{es:Nat}:∀{l:List AV}{i:Nat}{x:AV},l.all (elOk es)=true→l[i]?=some x→((rowCells l).drop (i*es)).take es=x.cells∧i*es+es≤(rowCells l).length
 |[],i,x,_,h=>by simp at h
 |y::l,0,x,ha,h=>by
  simp only[List.all_cons,Bool.and_eq_true]at ha
  simp only[List.getElem?_cons_zero,Option.some.injEq]at h
  subst h
  have h1:=(el_cells ha.1).1
  simp only[rowCells,List.flatMap_cons,Nat.zero_mul,List.drop_zero,Nat.zero_add,List.length_append]
  exact⟨by rw[List.take_append_of_le_length (by omega),List.take_of_length_le (by omega)],by omega⟩
 |y::l,i+1,x,ha,h=>by
  simp only[List.all_cons,Bool.and_eq_true]at ha
  simp only[List.getElem?_cons_succ]at h
  obtain⟨h1,h2⟩:=cells_at ha.2 h
  have hy:=(el_cells ha.1).1
  have e:rowCells (y::l)=y.cells++rowCells l:=by simp[rowCells]
  have e2:(i+1)*es=y.cells.length+i*es:=by rw[hy,Nat.add_mul];omega
  rw[e,e2,List.drop_append,List.drop_eq_nil_of_le (by omega),List.nil_append,Nat.add_sub_cancel_left,List.length_append]
  exact⟨h1,by omega⟩
theorem does_callM{xs:List AV}{g:FuncId}{v:AV}{H H2:Heap}(h:lim cfg (.fn g) xs H=some (.ret v,H2))(hx:xs.map shutA=xs)(hd:xs.all isData=false):
 Does cfg (.callM (.c (.func g [])) (xs.map .c)) H (shutA v) (trunc H.boxes.length H.toks.length (shutA v) H2):=fun T=>by
 have e:(xs.map Opd.c).map (fun x=>shutA (ev T x))=xs:=by rw[List.map_map];exact hx
 simp only[opStep,e]
 rw[show ev T (.c (.func g []))=.func g []from rfl]
 simp only[callW,hd,Bool.false_and,Bool.false_eq_true,if_false,List.append_nil,callE,h]
end
end Go.Aa
