/-
  WHAT THE LAW LEANS ON, part 4 of 6: a machine of values and its soundness; the functions of the law upon it; what they come to.
-/
import Derived.Test.YtbcfceehklfojaaGreatDoorVworc
import Derived.Test.YtbcfceehklfojaaGreatDoorProg
set_option linter.unusedVariables false
set_option maxRecDepth 100000
namespace Go.Aa.T
open Go.Aa
def rG(l:List AOper):ACode:=.region l false
def mV(d s:Nat):AOper:=⟨some d,.mov (.t s),none,[]⟩
def oP(d:Nat)(p:AOp):AOper:=⟨some d,p,none,[]⟩
def c4:ACode:=(.seq (rG [oP 4 (.mov (.c (.bool false)))]) (.seq (.seq (rG [oP 9 (.call (.c (.func 12 [])) []),oP 10 (.un .not (.t 9))]) (.cond (.t 10) (.seq (rG [oP 4 (.mov (.c (.bool false)))]) .ret) .skip)) (.seq (.seq (rG [mV 11 0,oP 12 (.len true (.t 11)),oP 13 (.bin .gtr (.t 12) (.c (.int .i64 300))),mV 14 13,⟨some 15,.mov (.t 1),some (14,false),[]⟩,⟨some 16,.call (.c (.func 13 [])) [(.t 15)],some (14,false),[]⟩,⟨some 17,.un .not (.t 16),some (14,false),[]⟩,oP 18 (.pick (.t 14) (.c (.bool true)) (.t 17))]) (.cond (.t 18) (.seq (rG [oP 4 (.mov (.c (.bool true)))]) .ret) .skip)) (.seq (rG [mV 20 0,oP 21 (.call (.c (.func 32 [])) [(.t 20)]),mV 19 21,oP 22 (.extract (.t 19) 0),oP 23 (.extract (.t 19) 1),mV 5 22,mV 6 23]) (.seq (rG [mV 25 0,oP 26 (.call (.c (.func 33 [])) [(.t 25)]),mV 24 26,oP 27 (.extract (.t 24) 0),oP 28 (.extract (.t 24) 1),mV 7 27,mV 8 28]) (.seq (.seq (rG [mV 29 5,mV 30 6,mV 31 7,mV 32 8,oP 33 (.call (.c (.func 23 [])) [(.t 29),(.t 30),(.t 31),(.t 32)]),oP 34 (.un .not (.t 33)),mV 35 34,⟨some 36,.mov (.t 8),some (35,false),[]⟩,⟨some 37,.bin .eql (.t 36) (.c (.int .i64 0)),some (35,false),[]⟩,⟨some 38,.mov (.t 37),some (35,false),[]⟩,⟨some 39,.mov (.t 5),some (38,true),[]⟩,⟨some 40,.call (.c (.func 19 [])) [(.t 39)],some (38,true),[]⟩,⟨some 41,.mov (.t 0),some (38,true),[]⟩,⟨some 42,.bin .neq (.t 40) (.t 41),some (38,true),[]⟩,⟨some 43,.pick (.t 38) (.t 42) (.c (.bool false)),some (35,false),[]⟩,oP 44 (.pick (.t 35) (.c (.bool true)) (.t 43)),mV 45 44,⟨some 46,.mov (.t 0),some (45,false),[]⟩,⟨some 47,.call (.c (.func 34 [])) [(.t 46)],some (45,false),[]⟩,⟨some 48,.mov (.t 0),some (45,false),[]⟩,⟨some 49,.call (.c (.func 35 [])) [(.t 48)],some (45,false),[]⟩,⟨some 50,.eqb true (.t 47) (.t 49),some (45,false),[]⟩,oP 51 (.pick (.t 45) (.c (.bool true)) (.t 50))]) (.cond (.t 51) (.seq (rG [oP 4 (.mov (.c (.bool false)))]) .ret) .skip)) (.seq (rG [mV 52 1,oP 53 (.call (.c (.func 14 [])) [(.t 52)]),oP 54 (.call (.c (.func 16 [])) [(.t 53)]),oP 55 (.bin .neq (.t 54) (.c (.int .i64 0))),mV 56 55,⟨some 57,.mov (.t 1),some (56,false),[]⟩,⟨some 58,.mov (.t 0),some (56,false),[]⟩,⟨some 59,.call (.c (.func 36 [])) [(.t 57),(.t 58)],some (56,false),[]⟩,⟨some 60,.mov (.t 1),some (56,false),[]⟩,⟨some 61,.call (.c (.func 14 [])) [(.t 60)],some (56,false),[]⟩,⟨some 62,.mov (.t 0),some (56,false),[]⟩,⟨some 63,.call (.c (.func 37 [])) [(.t 61),(.t 62)],some (56,false),[]⟩,⟨some 64,.bin .eql (.t 59) (.t 63),some (56,false),[]⟩,oP 65 (.pick (.t 56) (.c (.bool true)) (.t 64)),mV 4 65]) .ret)))))))
def a4:AFunc:={results:=[.tmp 4],body:=c4}
theorem r4:a4.results=[.tmp 4]:=rfl
def c12:ACode:=(.seq (rG [oP 0 (.mov (.c (.bool false)))]) (.seq (rG [oP 19 (.build [(.str []),(.int .i64 0)] [(0,1,(.c (.str [99,112,117]))),(1,1,(.c (.int .i64 100)))]),oP 20 (.build [(.str []),(.int .i64 0)] [(0,1,(.c (.str [109,101,109]))),(1,1,(.c (.int .i64 5)))]),oP 21 (.bslice 2 [(.t 19),(.t 20)]),mV 1 21]) (.seq (rG [oP 22 (.build [(.str []),(.int .i64 0)] [(0,1,(.c (.str [99,112,117]))),(1,1,(.c (.int .i64 40)))]),oP 23 (.build [(.str []),(.int .i64 0)] [(0,1,(.c (.str [103,112,117]))),(1,1,(.c (.int .i64 1)))]),oP 24 (.bslice 2 [(.t 22),(.t 23)]),mV 2 24]) (.seq (rG [mV 26 1,mV 27 2,oP 28 (.call (.c (.func 21 [])) [(.t 26),(.t 27)]),mV 25 28,oP 29 (.extract (.t 25) 0),oP 30 (.extract (.t 25) 1),mV 3 29,mV 4 30]) (.seq (rG [mV 32 3,mV 33 1,oP 34 (.call (.c (.func 24 [])) [(.t 32),(.t 33)]),mV 31 34,oP 35 (.extract (.t 31) 0),oP 36 (.extract (.t 31) 1),mV 5 35,mV 6 36]) (.seq (rG [mV 38 1,mV 39 2,oP 40 (.call (.c (.func 24 [])) [(.t 38),(.t 39)]),mV 37 40,oP 41 (.extract (.t 37) 0),oP 42 (.extract (.t 37) 1),mV 7 41,mV 8 42]) (.seq (rG [mV 44 2,oP 45 (.call (.c (.func 26 [])) [(.t 44),(.c (.int .i64 3))]),mV 43 45,oP 46 (.extract (.t 43) 0),oP 47 (.extract (.t 43) 1),mV 9 46,mV 10 47]) (.seq (rG [mV 49 1,oP 50 (.call (.c (.func 28 [])) [(.t 49),(.c (.int .i64 100))]),mV 48 50,oP 51 (.extract (.t 48) 0),oP 52 (.extract (.t 48) 1),mV 11 51,mV 12 52]) (.seq (rG [oP 54 (.call (.c (.func 32 [])) [(.c (.str [99,112,117,61,49,48,48,44,109,101,109,61,53]))]),mV 53 54,oP 55 (.extract (.t 53) 0),oP 56 (.extract (.t 53) 1),mV 13 55,mV 14 56]) (.seq (rG [oP 58 (.call (.c (.func 32 [])) [(.c (.str [99,112,117,61,48,49]))]),mV 57 58,oP 59 (.extract (.t 57) 0),oP 60 (.extract (.t 57) 1),mV 15 59,mV 16 60]) (.seq (rG [oP 62 (.call (.c (.func 32 [])) [(.c (.str [109,101,109,61,49,44,99,112,117,61,49]))]),mV 61 62,oP 63 (.extract (.t 61) 0),oP 64 (.extract (.t 61) 1),mV 17 63,mV 18 64]) (.seq (rG [mV 65 4,mV 66 6,oP 67 (.bin .add (.t 65) (.t 66)),mV 68 10,oP 69 (.bin .add (.t 67) (.t 68)),mV 70 12,oP 71 (.bin .add (.t 69) (.t 70)),mV 72 14,oP 73 (.bin .add (.t 71) (.t 72)),oP 74 (.bin .eql (.t 73) (.c (.int .i64 0))),mV 75 74,⟨some 76,.mov (.t 3),some (75,true),[]⟩,⟨some 77,.call (.c (.func 19 [])) [(.t 76)],some (75,true),[]⟩,⟨some 78,.bin .eql (.t 77) (.c (.str [99,112,117,61,49,52,48,44,103,112,117,61,49,44,109,101,109,61,53])),some (75,true),[]⟩,oP 79 (.pick (.t 75) (.t 78) (.c (.bool false))),mV 80 79,⟨some 81,.mov (.t 5),some (80,true),[]⟩,⟨some 82,.mov (.t 2),some (80,true),[]⟩,⟨some 83,.call (.c (.func 17 [])) [(.t 81),(.t 82)],some (80,true),[]⟩,oP 84 (.pick (.t 80) (.t 83) (.c (.bool false))),mV 85 84,⟨some 86,.mov (.t 8),some (85,true),[]⟩,⟨some 87,.bin .eql (.t 86) (.c (.int .i64 5)),some (85,true),[]⟩,oP 88 (.pick (.t 85) (.t 87) (.c (.bool false))),mV 89 88,⟨some 90,.mov (.t 9),some (89,true),[]⟩,⟨some 91,.call (.c (.func 36 [])) [(.t 90),(.c (.str [99,112,117]))],some (89,true),[]⟩,⟨some 92,.bin .eql (.t 91) (.c (.int .i64 120)),some (89,true),[]⟩,oP 93 (.pick (.t 89) (.t 92) (.c (.bool false))),mV 94 93,⟨some 95,.mov (.t 11),some (94,true),[]⟩,⟨some 96,.call (.c (.func 19 [])) [(.t 95)],some (94,true),[]⟩,⟨some 97,.bin .eql (.t 96) (.c (.str [99,112,117,61,49,48])),some (94,true),[]⟩,oP 98 (.pick (.t 94) (.t 97) (.c (.bool false))),mV 99 98,⟨some 100,.mov (.t 13),some (99,true),[]⟩,⟨some 101,.mov (.t 1),some (99,true),[]⟩,⟨some 102,.call (.c (.func 17 [])) [(.t 100),(.t 101)],some (99,true),[]⟩,oP 103 (.pick (.t 99) (.t 102) (.c (.bool false))),mV 104 103,⟨some 105,.mov (.t 16),some (104,true),[]⟩,⟨some 106,.bin .eql (.t 105) (.c (.int .i64 2)),some (104,true),[]⟩,oP 107 (.pick (.t 104) (.t 106) (.c (.bool false))),mV 108 107,⟨some 109,.mov (.t 18),some (108,true),[]⟩,⟨some 110,.bin .eql (.t 109) (.c (.int .i64 13)),some (108,true),[]⟩,oP 111 (.pick (.t 108) (.t 110) (.c (.bool false))),mV 112 111,⟨some 113,.mov (.t 2),some (112,true),[]⟩,⟨some 114,.mov (.t 3),some (112,true),[]⟩,⟨some 115,.call (.c (.func 30 [])) [(.t 113),(.t 114)],some (112,true),[]⟩,oP 116 (.pick (.t 112) (.t 115) (.c (.bool false))),mV 117 116,⟨some 118,.mov (.t 3),some (117,true),[]⟩,⟨some 119,.mov (.t 2),some (117,true),[]⟩,⟨some 120,.call (.c (.func 30 [])) [(.t 118),(.t 119)],some (117,true),[]⟩,⟨some 121,.un .not (.t 120),some (117,true),[]⟩,oP 122 (.pick (.t 117) (.t 121) (.c (.bool false))),mV 123 122,⟨some 124,.call (.c (.func 34 [])) [(.c (.str [97,49]))],some (123,true),[]⟩,oP 125 (.pick (.t 123) (.t 124) (.c (.bool false))),mV 126 125,⟨some 127,.call (.c (.func 34 [])) [(.c (.str [65]))],some (126,true),[]⟩,⟨some 128,.un .not (.t 127),some (126,true),[]⟩,oP 129 (.pick (.t 126) (.t 128) (.c (.bool false))),mV 130 129,⟨some 131,.mov (.t 1),some (130,true),[]⟩,⟨some 132,.call (.c (.func 15 [])) [(.t 131)],some (130,true),[]⟩,⟨some 133,.bin .eql (.t 132) (.c (.int .i64 0)),some (130,true),[]⟩,oP 134 (.pick (.t 130) (.t 133) (.c (.bool false))),mV 135 134,⟨some 136,.call (.c (.func 19 [])) [(.c (.sl .full []))],some (135,true),[]⟩,⟨some 137,.bin .eql (.t 136) (.c (.str [45])),some (135,true),[]⟩,oP 138 (.pick (.t 135) (.t 137) (.c (.bool false))),mV 0 138]) .ret))))))))))))
def a12:AFunc:={results:=[.tmp 0],body:=c12}
def b13_0:ACode:=(.seq (.seq (rG [mV 7 3,mV 8 0,oP 9 (.len false (.t 8)),oP 10 (.bin .lss (.t 7) (.t 9))]) (.cond (.t 10) .skip (.exit 0))) (.seq (.block 1 (.seq (rG [mV 13 0,mV 14 3,oP 15 (.idx 2 (.t 13) (.t 14)),oP 16 (.fld 0 1 (.t 15)),oP 17 (.load false 1 (.t 16)),oP 18 (.len true (.t 17)),oP 19 (.bin .gtr (.t 18) (.c (.int .i64 50)))]) (.cond (.t 19) (.seq (rG [oP 2 (.mov (.c (.bool false)))]) .ret) .skip))) (rG [mV 11 3,oP 12 (.bin .add (.t 11) (.c (.int .i64 1))),mV 3 12])))
def c13:ACode:=(.seq (rG [oP 2 (.mov (.c (.bool false)))]) (.seq (.seq (rG [mV 4 0,oP 5 (.len false (.t 4)),oP 6 (.bin .gtr (.t 5) (.c (.int .i64 20)))]) (.cond (.t 6) (.seq (rG [oP 2 (.mov (.c (.bool false)))]) .ret) .skip)) (.seq (.seq (rG [oP 3 (.mov (.c (.int .i64 0)))]) (.block 0 (.loop b13_0))) (.seq (rG [oP 2 (.mov (.c (.bool true)))]) .ret))))
def a13:AFunc:={results:=[.tmp 2],body:=c13}
def b14_0:ACode:=(.seq (.seq (rG [mV 5 4,mV 6 0,oP 7 (.len false (.t 6)),oP 8 (.bin .lss (.t 5) (.t 7))]) (.cond (.t 8) .skip (.exit 0))) (.seq (.block 1 (.region [mV 11 3,mV 12 0,mV 13 4,⟨some 14,.idx 2 (.t 12) (.t 13),none,[2,1]⟩,⟨some 15,.fld 0 1 (.t 14),none,[1,2,3]⟩,⟨some 16,.load false 1 (.t 15),none,[3,2,1,4]⟩,mV 17 0,mV 18 4,⟨some 19,.idx 2 (.t 17) (.t 18),none,[7,6]⟩,⟨some 20,.fld 1 1 (.t 19),none,[6,7,8]⟩,⟨some 21,.load false 1 (.t 20),none,[8,7,6,9]⟩,⟨some 22,.build [(.str []),(.int .i64 0)] [(0,1,(.t 16)),(1,1,(.t 21))],none,[9,6,7,8,10,4,1,2,3,5]⟩,⟨some 23,.bslice 2 [(.t 22)],none,[5,3,2,1,4,10,8,7,6,9,11]⟩,⟨some 24,.append 2 24 (.t 11) (.t 23),none,[11,9,6,7,8,10,4,1,2,3,5,12,0]⟩,⟨some 3,.mov (.t 24),none,[0,12,5,3,2,1,4,10,8,7,6,9,11,13]⟩] true)) (rG [mV 9 4,oP 10 (.bin .add (.t 9) (.c (.int .i64 1))),mV 4 10])))
def c14:ACode:=(.seq (rG [oP 2 (.mov (.c (.sl .full [])))]) (.seq (rG [oP 3 (.mov (.c (.sl .full [])))]) (.seq (.seq (rG [oP 4 (.mov (.c (.int .i64 0)))]) (.block 0 (.loop b14_0))) (.seq (rG [mV 25 3,mV 2 25]) .ret))))
def a14:AFunc:={results:=[.tmp 2],body:=c14}
def b15_0:ACode:=(.seq (rG [oP 11 (.bin .lss (.t 10) (.t 9))]) (.seq (.cond (.t 11) .skip (.exit 0)) (.seq (.block 1 (.seq (rG [mV 12 10,oP 13 (.idx 2 (.t 8) (.t 10)),oP 14 (.load true 2 (.t 13)),oP 4 (.box (.c (.agg [(.str []),(.int .i64 0)]))),mV 3 12,⟨none,.store 2 (.t 4) (.t 14),none,[]⟩]) (.block 2 (.seq (rG [oP 16 (.fld 0 1 (.t 4)),oP 17 (.load false 1 (.t 16)),oP 18 (.call (.c (.func 34 [])) [(.t 17)]),oP 19 (.un .not (.t 18)),mV 15 19]) (.cond (.t 15) (.seq (rG [oP 2 (.mov (.c (.int .i64 3)))]) .ret) (.seq (rG [oP 21 (.fld 1 1 (.t 4)),oP 22 (.load false 1 (.t 21)),oP 23 (.bin .leq (.t 22) (.c (.int .i64 0))),mV 20 23]) (.cond (.t 20) (.seq (rG [oP 2 (.mov (.c (.int .i64 1)))]) .ret) (.seq (.region [mV 25 3,⟨some 26,.bin .gtr (.t 25) (.c (.int .i64 0)),none,[0]⟩,⟨some 27,.mov (.t 26),none,[0,1]⟩,⟨some 28,.fld 0 1 (.t 4),some (27,true),[1,0,2]⟩,⟨some 29,.load false 1 (.t 28),some (27,true),[2,0,1,3]⟩,⟨some 30,.mov (.t 0),some (27,true),[1,0,2]⟩,⟨some 31,.mov (.t 3),some (27,true),[1,0,2]⟩,⟨some 32,.bin .sub (.t 31) (.c (.int .i64 1)),some (27,true),[2,0,1,6]⟩,⟨some 33,.idx 2 (.t 30) (.t 32),some (27,true),[6,7,2,0,1,5]⟩,⟨some 34,.fld 0 1 (.t 33),some (27,true),[5,1,0,2,7,6,8]⟩,⟨some 35,.load false 1 (.t 34),some (27,true),[8,6,7,2,0,1,5,9]⟩,⟨some 36,.bin .leq (.t 29) (.t 35),some (27,true),[9,5,7,6,8,10,3,1,0,2,4]⟩,⟨some 37,.pick (.t 27) (.t 36) (.c (.bool false)),none,[4,3,10,8,6,7,5,9,11,1,0,2]⟩,⟨some 24,.mov (.t 37),none,[2,0,1,11,9,5,7,6,8,10,3,4,12]⟩] true) (.cond (.t 24) (.seq (rG [oP 2 (.mov (.c (.int .i64 13)))]) .ret) .skip))))))))) (rG [oP 38 (.bin .add (.t 10) (.c (.int .i64 1))),mV 10 38]))))
def c15:ACode:=(.seq (rG [oP 2 (.mov (.c (.int .i64 0)))]) (.seq (.seq (rG [mV 5 0,oP 6 (.len false (.t 5)),oP 7 (.bin .gtr (.t 6) (.c (.int .i64 8)))]) (.cond (.t 7) (.seq (rG [oP 2 (.mov (.c (.int .i64 4)))]) .ret) .skip)) (.seq (.seq (rG [mV 8 0,oP 9 (.len false (.t 8)),oP 10 (.mov (.c (.int .i64 0)))]) (.block 0 (.loop b15_0))) (.seq (rG [oP 2 (.mov (.c (.int .i64 0)))]) .ret))))
def a15:AFunc:={results:=[.tmp 2],body:=c15}
def b16_0:ACode:=(.seq (.seq (rG [mV 7 3,mV 8 0,oP 9 (.len false (.t 8)),oP 10 (.bin .lss (.t 7) (.t 9))]) (.cond (.t 10) .skip (.exit 0))) (.seq (.block 1 (.seq (.seq (rG [mV 13 0,mV 14 3,oP 15 (.idx 2 (.t 13) (.t 14)),oP 16 (.fld 0 1 (.t 15)),oP 17 (.load false 1 (.t 16)),oP 18 (.call (.c (.func 35 [])) [(.t 17)]),oP 19 (.un .not (.t 18))]) (.cond (.t 19) (.seq (rG [oP 2 (.mov (.c (.int .i64 3)))]) .ret) .skip)) (.seq (.seq (rG [mV 20 0,mV 21 3,oP 22 (.idx 2 (.t 20) (.t 21)),oP 23 (.fld 1 1 (.t 22)),oP 24 (.load false 1 (.t 23)),oP 25 (.bin .leq (.t 24) (.c (.int .i64 0)))]) (.cond (.t 25) (.seq (rG [oP 2 (.mov (.c (.int .i64 1)))]) .ret) .skip)) (.seq (.region [mV 26 3,⟨some 27,.bin .gtr (.t 26) (.c (.int .i64 0)),none,[0]⟩,⟨some 28,.mov (.t 27),none,[0,1]⟩,⟨some 29,.mov (.t 0),some (28,true),[1,0,2]⟩,⟨some 30,.mov (.t 3),some (28,true),[1,0,2]⟩,⟨some 31,.idx 2 (.t 29) (.t 30),some (28,true),[4,2,0,1,3]⟩,⟨some 32,.fld 0 1 (.t 31),some (28,true),[3,1,0,2,4,5]⟩,⟨some 33,.load false 1 (.t 32),some (28,true),[5,4,2,0,1,3,6]⟩,⟨some 34,.mov (.t 0),some (28,true),[1,0,2]⟩,⟨some 35,.mov (.t 3),some (28,true),[1,0,2]⟩,⟨some 36,.bin .sub (.t 35) (.c (.int .i64 1)),some (28,true),[2,0,1,9]⟩,⟨some 37,.idx 2 (.t 34) (.t 36),some (28,true),[9,10,2,0,1,8]⟩,⟨some 38,.fld 0 1 (.t 37),some (28,true),[8,1,0,2,10,9,11]⟩,⟨some 39,.load false 1 (.t 38),some (28,true),[11,9,10,2,0,1,8,12]⟩,⟨some 40,.bin .leq (.t 33) (.t 39),some (28,true),[12,8,10,9,11,13,6,3,1,0,2,4,5,7]⟩,⟨some 41,.pick (.t 28) (.t 40) (.c (.bool false)),none,[7,5,4,3,6,13,11,9,10,8,12,14,1,0,2]⟩] true) (.cond (.t 41) (.seq (rG [oP 2 (.mov (.c (.int .i64 13)))]) .ret) .skip))))) (rG [mV 11 3,oP 12 (.bin .add (.t 11) (.c (.int .i64 1))),mV 3 12])))
def c16:ACode:=(.seq (rG [oP 2 (.mov (.c (.int .i64 0)))]) (.seq (.seq (rG [mV 4 0,oP 5 (.len false (.t 4)),oP 6 (.bin .gtr (.t 5) (.c (.int .i64 8)))]) (.cond (.t 6) (.seq (rG [oP 2 (.mov (.c (.int .i64 4)))]) .ret) .skip)) (.seq (.seq (rG [oP 3 (.mov (.c (.int .i64 0)))]) (.block 0 (.loop b16_0))) (.seq (rG [oP 2 (.mov (.c (.int .i64 0)))]) .ret))))
def a16:AFunc:={results:=[.tmp 2],body:=c16}
def c17:ACode:=(.seq (rG [oP 4 (.mov (.c (.bool false)))]) (.seq (rG [mV 5 0,mV 6 1,oP 7 (.call (.c (.func 52 [])) [(.t 5),(.t 6)]),mV 4 7]) .ret))
def a17:AFunc:={results:=[.tmp 4],body:=c17}
def b18_0:ACode:=(.seq (.seq (rG [mV 11 5,mV 12 0,oP 13 (.len false (.t 12)),oP 14 (.bin .lss (.t 11) (.t 13))]) (.cond (.t 14) .skip (.exit 0))) (.seq (.block 1 (.seq (.region [mV 17 0,mV 18 5,⟨some 19,.idx 2 (.t 17) (.t 18),none,[1,0]⟩,⟨some 20,.load true 2 (.t 19),none,[0,1,2]⟩,mV 21 1,mV 22 5,⟨some 23,.idx 2 (.t 21) (.t 22),none,[5,4]⟩,⟨some 24,.load true 2 (.t 23),none,[4,5,6]⟩,⟨some 25,.eqst true [.s,.i] (.t 20) (.t 24),none,[6,5,4,7,2,1,0,3]⟩] true) (.cond (.t 25) (.seq (rG [oP 4 (.mov (.c (.bool false)))]) .ret) .skip))) (rG [mV 15 5,oP 16 (.bin .add (.t 15) (.c (.int .i64 1))),mV 5 16])))
def c18:ACode:=(.seq (rG [oP 4 (.mov (.c (.bool false)))]) (.seq (.seq (rG [mV 6 0,oP 7 (.len false (.t 6)),mV 8 1,oP 9 (.len false (.t 8)),oP 10 (.bin .neq (.t 7) (.t 9))]) (.cond (.t 10) (.seq (rG [oP 4 (.mov (.c (.bool false)))]) .ret) .skip)) (.seq (.seq (rG [oP 5 (.mov (.c (.int .i64 0)))]) (.block 0 (.loop b18_0))) (.seq (rG [oP 4 (.mov (.c (.bool true)))]) .ret))))
def a18:AFunc:={results:=[.tmp 4],body:=c18}
def b19_0:ACode:=(.seq (rG [oP 12 (.bin .lss (.t 11) (.t 10))]) (.seq (.cond (.t 12) .skip (.exit 0)) (.seq (.block 1 (.seq (rG [oP 13 (.idx 2 (.t 9) (.t 11)),oP 14 (.load true 2 (.t 13)),oP 5 (.box (.c (.agg [(.str []),(.int .i64 0)]))),⟨none,.store 2 (.t 5) (.t 14),none,[]⟩]) (.region [mV 15 3,oP 16 (.fld 0 1 (.t 5)),⟨some 17,.load false 1 (.t 16),none,[1]⟩,⟨some 18,.bin .add (.t 17) (.c (.str [61])),none,[1,2]⟩,oP 19 (.fld 1 1 (.t 5)),⟨some 20,.load false 1 (.t 19),none,[4]⟩,⟨some 21,.call (.c (.func 53 [])) [(.t 20),(.c (.int .i64 10))],none,[4,5]⟩,⟨some 22,.bin .add (.t 18) (.t 21),none,[5,4,6,2,1,3]⟩,⟨some 23,.bslice 1 [(.t 22)],none,[3,1,2,6,4,5,7]⟩,⟨some 24,.append 1 16 (.t 15) (.t 23),none,[7,5,4,6,2,1,3,8,0]⟩,⟨some 3,.mov (.t 24),none,[0,8,3,1,2,6,4,5,7,9]⟩] true))) (rG [oP 25 (.bin .add (.t 11) (.c (.int .i64 1))),mV 11 25]))))
def c19:ACode:=(.seq (rG [oP 2 (.mov (.c (.str [])))]) (.seq (.seq (rG [mV 6 0,oP 7 (.len false (.t 6)),oP 8 (.bin .eql (.t 7) (.c (.int .i64 0)))]) (.cond (.t 8) (.seq (rG [oP 2 (.mov (.c (.str [45])))]) .ret) .skip)) (.seq (rG [oP 3 (.mov (.c (.sl .full [])))]) (.seq (.seq (rG [mV 9 0,oP 10 (.len false (.t 9)),oP 11 (.mov (.c (.int .i64 0)))]) (.block 0 (.loop b19_0))) (.seq (rG [mV 26 3,oP 27 (.call (.c (.func 54 [])) [(.t 26),(.c (.str [44]))]),mV 2 27]) .ret)))))
def a19:AFunc:={results:=[.tmp 2],body:=c19}
def c21:ACode:=(.seq (rG [oP 2 (.box (.t 0)),oP 3 (.box (.t 1)),oP 4 (.mov (.c (.sl .full []))),oP 5 (.mov (.c (.int .i64 0)))]) (.seq (rG [oP 6 (.mkfunc 57 [(.t 2),(.t 3)]),oP 7 (.load false 1 (.t 2)),oP 8 (.load false 1 (.t 3)),oP 9 (.bslice 1 [(.t 7),(.t 8)]),oP 10 (.call (.c (.func 56 [])) [(.t 6),(.t 9)]),oP 11 (.extract (.t 10) 0),oP 12 (.extract (.t 10) 1),mV 4 11,mV 5 12]) .ret))
def a21:AFunc:={results:=[.tmp 4,.tmp 5],body:=c21}
def c23:ACode:=(.seq (rG [oP 8 (.mov (.c (.bool false)))]) (.seq (rG [mV 9 1,mV 10 3,oP 11 (.bin .eql (.t 9) (.t 10)),mV 12 11,⟨some 13,.mov (.t 0),some (12,true),[]⟩,⟨some 14,.call (.c (.func 14 [])) [(.t 13)],some (12,true),[]⟩,⟨some 15,.mov (.t 2),some (12,true),[]⟩,⟨some 16,.call (.c (.func 18 [])) [(.t 14),(.t 15)],some (12,true),[]⟩,oP 17 (.pick (.t 12) (.t 16) (.c (.bool false))),mV 8 17]) .ret))
def a23:AFunc:={results:=[.tmp 8],body:=c23}
def c24:ACode:=(.seq (rG [oP 2 (.box (.t 0)),oP 3 (.box (.t 1)),oP 4 (.mov (.c (.sl .full []))),oP 5 (.mov (.c (.int .i64 0)))]) (.seq (rG [oP 6 (.mkfunc 63 [(.t 2),(.t 3)]),oP 7 (.load false 1 (.t 2)),oP 8 (.load false 1 (.t 3)),oP 9 (.bslice 1 [(.t 7),(.t 8)]),oP 10 (.call (.c (.func 56 [])) [(.t 6),(.t 9)]),oP 11 (.extract (.t 10) 0),oP 12 (.extract (.t 10) 1),mV 4 11,mV 5 12]) .ret))
def a24:AFunc:={results:=[.tmp 4,.tmp 5],body:=c24}
def c26:ACode:=(.seq (rG [oP 2 (.box (.t 0)),oP 3 (.box (.t 1)),oP 4 (.mov (.c (.sl .full []))),oP 5 (.mov (.c (.int .i64 0)))]) (.seq (rG [oP 6 (.mkfunc 66 [(.t 2),(.t 3)]),oP 7 (.load false 1 (.t 2)),oP 8 (.bslice 1 [(.t 7)]),oP 9 (.call (.c (.func 56 [])) [(.t 6),(.t 8)]),oP 10 (.extract (.t 9) 0),oP 11 (.extract (.t 9) 1),mV 4 10,mV 5 11]) .ret))
def a26:AFunc:={results:=[.tmp 4,.tmp 5],body:=c26}
def c28:ACode:=(.seq (rG [oP 2 (.box (.t 0)),oP 3 (.box (.t 1)),oP 4 (.mov (.c (.sl .full []))),oP 5 (.mov (.c (.int .i64 0)))]) (.seq (rG [oP 6 (.mkfunc 69 [(.t 2),(.t 3)]),oP 7 (.load false 1 (.t 2)),oP 8 (.bslice 1 [(.t 7)]),oP 9 (.call (.c (.func 56 [])) [(.t 6),(.t 8)]),oP 10 (.extract (.t 9) 0),oP 11 (.extract (.t 9) 1),mV 4 10,mV 5 11]) .ret))
def a28:AFunc:={results:=[.tmp 4,.tmp 5],body:=c28}
def c30:ACode:=(.seq (rG [oP 3 (.box (.t 1)),oP 4 (.mov (.c (.bool false)))]) (.seq (rG [mV 5 0,oP 6 (.mkfunc 73 [(.t 3)]),oP 7 (.call (.c (.func 72 [])) [(.t 5),(.t 6)]),oP 8 (.un .not (.t 7)),mV 4 8]) .ret))
def a30:AFunc:={results:=[.tmp 4],body:=c30}
def c32:ACode:=(.seq (rG [oP 1 (.box (.t 0)),oP 2 (.mov (.c (.sl .full []))),oP 3 (.mov (.c (.int .i64 0)))]) (.seq (.seq (rG [oP 6 (.load false 1 (.t 1)),oP 7 (.bin .eql (.t 6) (.c (.str [45])))]) (.cond (.t 7) (.seq (rG [oP 2 (.mov (.c (.sl .full []))),oP 3 (.mov (.c (.int .i64 0)))]) .ret) .skip)) (.seq (rG [oP 4 (.box (.c (.sl .full [])))]) (.seq (rG [oP 8 (.mkfunc 75 [(.t 1),(.t 4)]),oP 9 (.call (.c (.func 74 [])) [(.t 8)]),mV 5 9]) (.seq (.seq (rG [mV 10 5,oP 11 (.bin .neq (.t 10) (.c (.int .i64 0)))]) (.cond (.t 11) (.seq (rG [mV 12 5,oP 2 (.mov (.c (.sl .full []))),mV 3 12]) .ret) .skip)) (.seq (rG [oP 13 (.load false 1 (.t 4)),mV 2 13,oP 3 (.mov (.c (.int .i64 0)))]) .ret))))))
def a32:AFunc:={results:=[.tmp 2,.tmp 3],body:=c32}
def b33_0:ACode:=(.seq (.seq (rG [mV 17 6,mV 18 4,oP 19 (.len false (.t 18)),oP 20 (.bin .lss (.t 17) (.t 19))]) (.cond (.t 20) .skip (.exit 0))) (.seq (.block 1 (.seq (rG [mV 23 4,mV 24 6,oP 25 (.idx 1 (.t 23) (.t 24)),oP 26 (.load false 1 (.t 25)),oP 27 (.call (.c (.func 80 [])) [(.t 26),(.c (.int .u8 61))]),mV 7 27]) (.seq (.seq (rG [mV 28 7,oP 29 (.len false (.t 28)),oP 30 (.bin .neq (.t 29) (.c (.int .i64 2))),mV 31 30,⟨some 32,.mov (.t 7),some (31,false),[]⟩,⟨some 33,.idx 1 (.t 32) (.c (.int .i64 1)),some (31,false),[]⟩,⟨some 34,.load false 1 (.t 33),some (31,false),[]⟩,⟨some 35,.call (.c (.func 81 [])) [(.t 34)],some (31,false),[]⟩,⟨some 36,.un .not (.t 35),some (31,false),[]⟩,oP 37 (.pick (.t 31) (.c (.bool true)) (.t 36))]) (.cond (.t 37) (.seq (rG [oP 2 (.mov (.c (.sl .full []))),oP 3 (.mov (.c (.int .i64 2)))]) .ret) .skip)) (rG [mV 38 5,mV 39 7,oP 40 (.bslice 1 [(.t 39)]),oP 41 (.append 1 24 (.t 38) (.t 40)),mV 5 41])))) (rG [mV 21 6,oP 22 (.bin .add (.t 21) (.c (.int .i64 1))),mV 6 22])))
def b33_1:ACode:=(.seq (.seq (rG [mV 42 9,mV 43 5,oP 44 (.len false (.t 43)),oP 45 (.bin .lss (.t 42) (.t 44))]) (.cond (.t 45) .skip (.exit 2))) (.seq (.block 3 (.seq (rG [mV 49 5,mV 50 9,oP 51 (.idx 1 (.t 49) (.t 50)),oP 52 (.load false 1 (.t 51)),oP 53 (.idx 1 (.t 52) (.c (.int .i64 1))),oP 54 (.load false 1 (.t 53)),oP 55 (.call (.c (.func 82 [])) [(.t 54),(.c (.int .i64 9223372036854775807))]),mV 48 55,oP 56 (.extract (.t 48) 0),oP 57 (.extract (.t 48) 1),mV 10 56,mV 11 57]) (.seq (.seq (rG [mV 58 11,oP 59 (.un .not (.t 58))]) (.cond (.t 59) (.seq (rG [oP 2 (.mov (.c (.sl .full []))),oP 3 (.mov (.c (.int .i64 5)))]) .ret) .skip)) (rG [mV 60 8,mV 61 5,mV 62 9,oP 63 (.idx 1 (.t 61) (.t 62)),oP 64 (.load false 1 (.t 63)),oP 65 (.idx 1 (.t 64) (.c (.int .i64 0))),oP 66 (.load false 1 (.t 65)),mV 67 10,oP 68 (.build [(.str []),(.int .i64 0)] [(0,1,(.t 66)),(1,1,(.t 67))]),oP 69 (.bslice 2 [(.t 68)]),oP 70 (.append 2 24 (.t 60) (.t 69)),mV 8 70])))) (rG [mV 46 9,oP 47 (.bin .add (.t 46) (.c (.int .i64 1))),mV 9 47])))
def c33:ACode:=(.seq (rG [oP 2 (.mov (.c (.sl .full []))),oP 3 (.mov (.c (.int .i64 0)))]) (.seq (.seq (rG [mV 13 0,oP 14 (.bin .eql (.t 13) (.c (.str [45])))]) (.cond (.t 14) (.seq (rG [oP 2 (.mov (.c (.sl .full []))),oP 3 (.mov (.c (.int .i64 0)))]) .ret) .skip)) (.seq (rG [mV 15 0,oP 16 (.call (.c (.func 80 [])) [(.t 15),(.c (.int .u8 44))]),mV 4 16]) (.seq (rG [oP 5 (.mov (.c (.sl .full [])))]) (.seq (.seq (rG [oP 6 (.mov (.c (.int .i64 0)))]) (.block 0 (.loop b33_0))) (.seq (rG [oP 8 (.mov (.c (.sl .full [])))]) (.seq (.seq (rG [oP 9 (.mov (.c (.int .i64 0)))]) (.block 2 (.loop b33_1))) (.seq (rG [mV 71 8,oP 72 (.call (.c (.func 16 [])) [(.t 71)]),mV 12 72]) (.seq (.seq (rG [mV 73 12,oP 74 (.bin .neq (.t 73) (.c (.int .i64 0)))]) (.cond (.t 74) (.seq (rG [mV 75 12,oP 2 (.mov (.c (.sl .full []))),mV 3 75]) .ret) .skip)) (.seq (rG [mV 76 8,mV 2 76,oP 3 (.mov (.c (.int .i64 0)))]) .ret))))))))))
def a33:AFunc:={results:=[.tmp 2,.tmp 3],body:=c33}
def c34:ACode:=(.seq (rG [oP 2 (.mov (.c (.bool false)))]) (.seq (rG [mV 3 0,oP 4 (.len true (.t 3)),oP 5 (.bin .geq (.t 4) (.c (.int .i64 1))),mV 6 5,⟨some 7,.mov (.t 0),some (6,true),[]⟩,⟨some 8,.len true (.t 7),some (6,true),[]⟩,⟨some 9,.bin .leq (.t 8) (.c (.int .i64 12)),some (6,true),[]⟩,oP 10 (.pick (.t 6) (.t 9) (.c (.bool false))),mV 11 10,⟨some 12,.mov (.t 0),some (11,true),[]⟩,⟨some 13,.call (.c (.func 83 [])) [(.t 12),(.c (.str [97,98,99,100,101,102,103,104,105,106,107,108,109,110,111,112,113,114,115,116,117,118,119,120,121,122,48,49,50,51,52,53,54,55,56,57]))],some (11,true),[]⟩,⟨some 14,.bin .eql (.t 13) (.c (.str [])),some (11,true),[]⟩,oP 15 (.pick (.t 11) (.t 14) (.c (.bool false))),mV 2 15]) .ret))
def a34:AFunc:={results:=[.tmp 2],body:=c34}
def b35_0:ACode:=(.seq (.seq (rG [mV 12 3,mV 13 0,oP 14 (.len true (.t 13)),oP 15 (.bin .lss (.t 12) (.t 14))]) (.cond (.t 15) .skip (.exit 0))) (.seq (.block 1 (.seq (rG [mV 18 0,mV 19 3,oP 20 (.idxs (.t 18) (.t 19)),oP 21 (.bin .lss (.t 20) (.c (.int .u8 97))),mV 22 21,⟨some 23,.mov (.t 0),some (22,false),[]⟩,⟨some 24,.mov (.t 3),some (22,false),[]⟩,⟨some 25,.idxs (.t 23) (.t 24),some (22,false),[]⟩,⟨some 26,.bin .gtr (.t 25) (.c (.int .u8 122)),some (22,false),[]⟩,oP 27 (.pick (.t 22) (.c (.bool true)) (.t 26)),mV 28 27,⟨some 29,.mov (.t 0),some (28,true),[]⟩,⟨some 30,.mov (.t 3),some (28,true),[]⟩,⟨some 31,.idxs (.t 29) (.t 30),some (28,true),[]⟩,⟨some 32,.bin .lss (.t 31) (.c (.int .u8 48)),some (28,true),[]⟩,⟨some 33,.mov (.t 32),some (28,true),[]⟩,⟨some 34,.mov (.t 0),some (33,false),[]⟩,⟨some 35,.mov (.t 3),some (33,false),[]⟩,⟨some 36,.idxs (.t 34) (.t 35),some (33,false),[]⟩,⟨some 37,.bin .gtr (.t 36) (.c (.int .u8 57)),some (33,false),[]⟩,⟨some 38,.pick (.t 33) (.c (.bool true)) (.t 37),some (28,true),[]⟩,oP 39 (.pick (.t 28) (.t 38) (.c (.bool false)))]) (.cond (.t 39) (.seq (rG [oP 2 (.mov (.c (.bool false)))]) .ret) .skip))) (rG [mV 16 3,oP 17 (.bin .add (.t 16) (.c (.int .i64 1))),mV 3 17])))
def c35:ACode:=(.seq (rG [oP 2 (.mov (.c (.bool false)))]) (.seq (.seq (rG [mV 4 0,oP 5 (.len true (.t 4)),oP 6 (.bin .lss (.t 5) (.c (.int .i64 1))),mV 7 6,⟨some 8,.mov (.t 0),some (7,false),[]⟩,⟨some 9,.len true (.t 8),some (7,false),[]⟩,⟨some 10,.bin .gtr (.t 9) (.c (.int .i64 12)),some (7,false),[]⟩,oP 11 (.pick (.t 7) (.c (.bool true)) (.t 10))]) (.cond (.t 11) (.seq (rG [oP 2 (.mov (.c (.bool false)))]) .ret) .skip)) (.seq (.seq (rG [oP 3 (.mov (.c (.int .i64 0)))]) (.block 0 (.loop b35_0))) (.seq (rG [oP 2 (.mov (.c (.bool true)))]) .ret))))
def a35:AFunc:={results:=[.tmp 2],body:=c35}
def c36:ACode:=(.seq (rG [oP 3 (.box (.t 1)),oP 4 (.mov (.c (.int .i64 0)))]) (.seq (rG [mV 6 0,oP 7 (.mkfunc 85 [(.t 3)]),oP 8 (.call (.c (.func 84 [])) [(.t 6),(.t 7)]),mV 5 8]) (.seq (.seq (rG [mV 9 5,oP 10 (.bin .lss (.t 9) (.c (.int .i64 0)))]) (.cond (.t 10) (.seq (rG [oP 4 (.mov (.c (.int .i64 0)))]) .ret) .skip)) (.seq (rG [mV 11 0,mV 12 5,oP 13 (.idx 2 (.t 11) (.t 12)),oP 14 (.fld 1 1 (.t 13)),oP 15 (.load false 1 (.t 14)),mV 4 15]) .ret))))
def a36:AFunc:={results:=[.tmp 4],body:=c36}
def b37_0:ACode:=(.seq (.seq (rG [mV 6 5,mV 7 0,oP 8 (.len false (.t 7)),oP 9 (.bin .lss (.t 6) (.t 8))]) (.cond (.t 9) .skip (.exit 0))) (.seq (.block 1 (.seq (rG [mV 12 0,mV 13 5,oP 14 (.idx 2 (.t 12) (.t 13)),oP 15 (.fld 0 1 (.t 14)),oP 16 (.load false 1 (.t 15)),mV 17 1,oP 18 (.bin .eql (.t 16) (.t 17))]) (.cond (.t 18) (.seq (rG [mV 19 0,mV 20 5,oP 21 (.idx 2 (.t 19) (.t 20)),oP 22 (.fld 1 1 (.t 21)),oP 23 (.load false 1 (.t 22)),mV 4 23]) .ret) .skip))) (rG [mV 10 5,oP 11 (.bin .add (.t 10) (.c (.int .i64 1))),mV 5 11])))
def c37:ACode:=(.seq (rG [oP 4 (.mov (.c (.int .i64 0)))]) (.seq (.seq (rG [oP 5 (.mov (.c (.int .i64 0)))]) (.block 0 (.loop b37_0))) (.seq (rG [oP 4 (.mov (.c (.int .i64 0)))]) .ret)))
def a37:AFunc:={results:=[.tmp 4],body:=c37}
def c52:ACode:=(.seq (rG [oP 4 (.mov (.c (.bool false)))]) (.seq (.seq (rG [mV 6 0,oP 7 (.len false (.t 6)),mV 8 1,oP 9 (.len false (.t 8)),oP 10 (.bin .neq (.t 7) (.t 9))]) (.cond (.t 10) (.seq (rG [oP 4 (.mov (.c (.bool false)))]) .ret) .skip)) (.seq (.seq (rG [mV 11 0,oP 12 (.len false (.t 11)),oP 13 (.mov (.c (.int .i64 0)))]) (.block 0 (.loop (.seq (rG [oP 14 (.bin .lss (.t 13) (.t 12))]) (.seq (.cond (.t 14) .skip (.exit 0)) (.seq (.block 1 (.seq (rG [mV 15 13,mV 5 15]) (.seq (.region [mV 16 0,mV 17 5,⟨some 18,.idx 2 (.t 16) (.t 17),none,[1,0]⟩,⟨some 19,.load true 2 (.t 18),none,[0,1,2]⟩,mV 20 1,mV 21 5,⟨some 22,.idx 2 (.t 20) (.t 21),none,[5,4]⟩,⟨some 23,.load true 2 (.t 22),none,[4,5,6]⟩,⟨some 24,.eqst true [.s,.i] (.t 19) (.t 23),none,[6,5,4,7,2,1,0,3]⟩] true) (.cond (.t 24) (.seq (rG [oP 4 (.mov (.c (.bool false)))]) .ret) .skip)))) (rG [oP 25 (.bin .add (.t 13) (.c (.int .i64 1))),mV 13 25]))))))) (.seq (rG [oP 4 (.mov (.c (.bool true)))]) .ret))))
def a52:AFunc:={results:=[.tmp 4],body:=c52}
def c56:ACode:=(.seq (rG [oP 2 (.box (.t 0)),oP 3 (.box (.t 1)),oP 4 (.mov (.c (.sl .full []))),oP 5 (.mov (.c (.int .i64 0)))]) (.seq (rG [oP 6 (.box (.c (.sl .full [])))]) (.seq (rG [oP 8 (.mkfunc 98 [(.t 3),(.t 2),(.t 6)]),oP 9 (.call (.c (.func 74 [])) [(.t 8)]),mV 7 9]) (.seq (.seq (rG [mV 10 7,oP 11 (.bin .neq (.t 10) (.c (.int .i64 0)))]) (.cond (.t 11) (.seq (rG [mV 12 7,oP 4 (.mov (.c (.sl .full []))),mV 5 12]) .ret) .skip)) (.seq (rG [oP 13 (.load false 1 (.t 6)),mV 4 13,oP 5 (.mov (.c (.int .i64 0)))]) .ret)))))
def a56:AFunc:={results:=[.tmp 4,.tmp 5],body:=c56}
def c57:ACode:=(.seq (rG [oP 4 (.mov (.c (.int .i64 0))),oP 5 (.mov (.c (.int .i64 0)))]) (.seq (.region [oP 6 (.load false 1 (.t 1)),mV 7 0,⟨some 8,.call (.c (.func 36 [])) [(.t 6),(.t 7)],none,[1,0]⟩,oP 9 (.load false 1 (.t 2)),mV 10 0,⟨some 11,.call (.c (.func 36 [])) [(.t 9),(.t 10)],none,[0,1,2,4,3]⟩,⟨some 12,.call (.c (.func 58 [])) [(.t 8),(.t 11)],none,[3,4,5,0,1,2]⟩,⟨some 13,.extract (.t 12) 0,none,[2,1,0,5,4,3,6]⟩,⟨some 14,.extract (.t 12) 1,none,[2,1,0,5,4,3,6]⟩,⟨some 4,.mov (.t 13),none,[8,6,3,4,5,0,1,2,7]⟩,⟨some 5,.mov (.t 14),none,[7,9,6,3,4,5,0,1,2,8]⟩] true) .ret))
def a57:AFunc:={results:=[.tmp 4,.tmp 5],body:=c57}
def c58:ACode:=(.seq (rG [oP 4 (.mov (.c (.int .i64 0))),oP 5 (.mov (.c (.int .i64 0)))]) (.seq (.seq (rG [mV 7 0,mV 8 1,oP 9 (.call (.c (.func 100 [])) [(.t 7),(.t 8)]),mV 6 9]) (.seq (rG [mV 10 6,oP 11 (.bin .neq (.t 10) (.c (.int .i64 0)))]) (.cond (.t 11) (.seq (rG [mV 12 6,oP 4 (.mov (.c (.int .i64 0))),mV 5 12]) .ret) .skip))) (.seq (rG [mV 13 0,oP 14 (.conv (.int .u64) (.t 13)),mV 15 1,oP 16 (.conv (.int .u64) (.t 15)),oP 17 (.bin .add (.t 14) (.t 16)),oP 18 (.call (.c (.func 101 [])) [(.t 17),(.c (.bool false))]),oP 19 (.extract (.t 18) 0),oP 20 (.extract (.t 18) 1),mV 4 19,mV 5 20]) .ret)))
def a58:AFunc:={results:=[.tmp 4,.tmp 5],body:=c58}
def c63:ACode:=(.seq (rG [oP 4 (.mov (.c (.int .i64 0))),oP 5 (.mov (.c (.int .i64 0)))]) (.seq (.region [oP 6 (.load false 1 (.t 1)),mV 7 0,⟨some 8,.call (.c (.func 36 [])) [(.t 6),(.t 7)],none,[1,0]⟩,oP 9 (.load false 1 (.t 2)),mV 10 0,⟨some 11,.call (.c (.func 36 [])) [(.t 9),(.t 10)],none,[0,1,2,4,3]⟩,⟨some 12,.call (.c (.func 64 [])) [(.t 8),(.t 11)],none,[3,4,5,0,1,2]⟩,⟨some 13,.extract (.t 12) 0,none,[2,1,0,5,4,3,6]⟩,⟨some 14,.extract (.t 12) 1,none,[2,1,0,5,4,3,6]⟩,⟨some 4,.mov (.t 13),none,[8,6,3,4,5,0,1,2,7]⟩,⟨some 5,.mov (.t 14),none,[7,9,6,3,4,5,0,1,2,8]⟩] true) .ret))
def a63:AFunc:={results:=[.tmp 4,.tmp 5],body:=c63}
def c64:ACode:=(.seq (rG [oP 4 (.mov (.c (.int .i64 0))),oP 5 (.mov (.c (.int .i64 0)))]) (.seq (.seq (rG [mV 7 0,mV 8 1,oP 9 (.call (.c (.func 100 [])) [(.t 7),(.t 8)]),mV 6 9]) (.seq (rG [mV 10 6,oP 11 (.bin .neq (.t 10) (.c (.int .i64 0)))]) (.cond (.t 11) (.seq (rG [mV 12 6,oP 4 (.mov (.c (.int .i64 0))),mV 5 12]) .ret) .skip))) (.seq (rG [mV 13 0,mV 14 1,oP 15 (.bin .sub (.t 13) (.t 14)),oP 16 (.conv (.int .u64) (.t 15)),mV 17 0,mV 18 1,oP 19 (.bin .lss (.t 17) (.t 18)),oP 20 (.call (.c (.func 101 [])) [(.t 16),(.t 19)]),oP 21 (.extract (.t 20) 0),oP 22 (.extract (.t 20) 1),mV 4 21,mV 5 22]) .ret)))
def a64:AFunc:={results:=[.tmp 4,.tmp 5],body:=c64}
def c66:ACode:=(.seq (rG [oP 4 (.mov (.c (.int .i64 0))),oP 5 (.mov (.c (.int .i64 0)))]) (.seq (.region [oP 6 (.load false 1 (.t 1)),mV 7 0,⟨some 8,.call (.c (.func 36 [])) [(.t 6),(.t 7)],none,[1,0]⟩,oP 9 (.load false 1 (.t 2)),⟨some 10,.call (.c (.func 67 [])) [(.t 8),(.t 9)],none,[3,0,1,2]⟩,⟨some 11,.extract (.t 10) 0,none,[2,1,0,3,4]⟩,⟨some 12,.extract (.t 10) 1,none,[2,1,0,3,4]⟩,⟨some 4,.mov (.t 11),none,[6,4,3,0,1,2,5]⟩,⟨some 5,.mov (.t 12),none,[5,7,4,3,0,1,2,6]⟩] true) .ret))
def a66:AFunc:={results:=[.tmp 4,.tmp 5],body:=c66}
def c67:ACode:=(.seq (rG [oP 4 (.mov (.c (.int .i64 0))),oP 5 (.mov (.c (.int .i64 0)))]) (.seq (.seq (rG [mV 9 0,mV 10 1,oP 11 (.call (.c (.func 100 [])) [(.t 9),(.t 10)]),mV 6 11]) (.seq (rG [mV 12 6,oP 13 (.bin .neq (.t 12) (.c (.int .i64 0)))]) (.cond (.t 13) (.seq (rG [mV 14 6,oP 4 (.mov (.c (.int .i64 0))),mV 5 14]) .ret) .skip))) (.seq (rG [mV 16 0,oP 17 (.conv (.int .u64) (.t 16)),mV 18 1,oP 19 (.conv (.int .u64) (.t 18)),oP 20 (.call (.c (.func 102 [])) [(.t 17),(.t 19)]),mV 15 20,oP 21 (.extract (.t 15) 0),oP 22 (.extract (.t 15) 1),mV 7 21,mV 8 22]) (.seq (rG [mV 23 8,mV 24 7,oP 25 (.bin .gtr (.t 24) (.c (.int .u64 0))),oP 26 (.call (.c (.func 101 [])) [(.t 23),(.t 25)]),oP 27 (.extract (.t 26) 0),oP 28 (.extract (.t 26) 1),mV 4 27,mV 5 28]) .ret))))
def a67:AFunc:={results:=[.tmp 4,.tmp 5],body:=c67}
def c69:ACode:=(.seq (rG [oP 4 (.mov (.c (.int .i64 0))),oP 5 (.mov (.c (.int .i64 0)))]) (.seq (.region [oP 6 (.load false 1 (.t 1)),mV 7 0,⟨some 8,.call (.c (.func 36 [])) [(.t 6),(.t 7)],none,[1,0]⟩,oP 9 (.load false 1 (.t 2)),⟨some 10,.call (.c (.func 70 [])) [(.t 8),(.t 9)],none,[3,0,1,2]⟩,⟨some 11,.extract (.t 10) 0,none,[2,1,0,3,4]⟩,⟨some 12,.extract (.t 10) 1,none,[2,1,0,3,4]⟩,⟨some 4,.mov (.t 11),none,[6,4,3,0,1,2,5]⟩,⟨some 5,.mov (.t 12),none,[5,7,4,3,0,1,2,6]⟩] true) .ret))
def a69:AFunc:={results:=[.tmp 4,.tmp 5],body:=c69}
def c70:ACode:=(.seq (rG [oP 4 (.mov (.c (.int .i64 0))),oP 5 (.mov (.c (.int .i64 0)))]) (.seq (rG [mV 6 0,mV 7 1,oP 8 (.call (.c (.func 103 [])) [(.t 6),(.t 7),(.c (.int .u64 0))]),oP 9 (.extract (.t 8) 0),oP 10 (.extract (.t 8) 1),mV 4 9,mV 5 10]) .ret))
def a70:AFunc:={results:=[.tmp 4,.tmp 5],body:=c70}
def c72:ACode:=(.seq (rG [oP 4 (.mov (.c (.bool false)))]) (.seq (rG [mV 5 0,mV 6 1,oP 7 (.call (.c (.func 84 [])) [(.t 5),(.t 6)]),oP 8 (.bin .geq (.t 7) (.c (.int .i64 0))),mV 4 8]) .ret))
def a72:AFunc:={results:=[.tmp 4],body:=c72}
def c73:ACode:=(.seq (rG [oP 2 (.box (.t 0)),oP 3 (.mov (.c (.bool false)))]) (.seq (.region [oP 4 (.fld 1 1 (.t 2)),⟨some 5,.load false 1 (.t 4),none,[0]⟩,oP 6 (.load false 1 (.t 1)),oP 7 (.fld 0 1 (.t 2)),⟨some 8,.load false 1 (.t 7),none,[3]⟩,⟨some 9,.call (.c (.func 36 [])) [(.t 6),(.t 8)],none,[3,4,2]⟩,⟨some 10,.bin .gtr (.t 5) (.t 9),none,[2,4,3,5,0,1]⟩,⟨some 3,.mov (.t 10),none,[1,0,5,3,4,2,6]⟩] true) .ret))
def a73:AFunc:={results:=[.tmp 3],body:=c73}
def c75:ACode:=(.seq (rG [oP 2 (.box (.c (.int .i64 0))),⟨none,.store 1 (.t 2) (.c (.int .i64 0)),none,[]⟩]) (.seq (.seq (rG [oP 9 (.load false 1 (.t 0)),oP 10 (.call (.c (.func 76 [])) [(.t 9),(.c (.str [44]))])]) (.block 0 (.range (.t 10) [11] (rG [mV 3 11]) (.block 1 (.seq (rG [mV 13 3,oP 14 (.call (.c (.func 77 [])) [(.t 13),(.c (.str [61]))]),mV 12 14,oP 15 (.extract (.t 12) 0),oP 16 (.extract (.t 12) 1),oP 17 (.extract (.t 12) 2),mV 4 15,mV 5 16,mV 6 17]) (.seq (rG [mV 19 5,oP 20 (.call (.c (.func 78 [])) [(.t 19)]),mV 18 20,oP 21 (.extract (.t 18) 0),oP 22 (.extract (.t 18) 1),mV 7 21,mV 8 22]) (.seq (.seq (rG [mV 23 6,oP 24 (.un .not (.t 23)),mV 25 24,⟨some 26,.mov (.t 8),some (25,false),[]⟩,⟨some 27,.bin .eql (.t 26) (.c (.int .i64 2)),some (25,false),[]⟩,oP 28 (.pick (.t 25) (.c (.bool true)) (.t 27))]) (.cond (.t 28) (rG [oP 29 (.call (.c (.func 79 [])) [(.c (.int .i64 2))])]) .skip)) (.seq (rG [oP 30 (.load false 1 (.t 2)),mV 31 8,oP 32 (.mm true (.t 30) (.t 31)),⟨none,.store 1 (.t 2) (.t 32),none,[]⟩]) (rG [oP 33 (.load false 1 (.t 1)),mV 34 4,mV 35 7,oP 36 (.build [(.str []),(.int .i64 0)] [(0,1,(.t 34)),(1,1,(.t 35))]),oP 37 (.bslice 2 [(.t 36)]),oP 38 (.append 2 24 (.t 33) (.t 37)),⟨none,.store 1 (.t 1) (.t 38),none,[]⟩]))))))))) (.seq (rG [oP 39 (.load false 1 (.t 2)),oP 40 (.call (.c (.func 79 [])) [(.t 39)])]) (rG [oP 41 (.load false 1 (.t 1)),oP 42 (.call (.c (.func 15 [])) [(.t 41)]),oP 43 (.call (.c (.func 79 [])) [(.t 42)])]))))
def a75:AFunc:={results:=[],body:=c75}
def c76:ACode:=(.seq (rG [oP 4 (.mov (.c .nilFunc))]) (.seq (rG [mV 5 0,mV 6 1,oP 7 (.call (.c (.func 106 [])) [(.t 5),(.t 6),(.c (.int .i64 0))]),mV 4 7]) .ret))
def a76:AFunc:={results:=[.tmp 4],body:=c76}
def c77:ACode:=(.seq (rG [oP 4 (.mov (.c (.str []))),oP 5 (.mov (.c (.str []))),oP 6 (.mov (.c (.bool false)))]) (.seq (rG [mV 7 0,mV 8 1,oP 9 (.call (.c (.func 107 [])) [(.t 7),(.t 8)]),oP 10 (.extract (.t 9) 0),oP 11 (.extract (.t 9) 1),oP 12 (.extract (.t 9) 2),mV 4 10,mV 5 11,mV 6 12]) .ret))
def a77:AFunc:={results:=[.tmp 4,.tmp 5,.tmp 6],body:=c77}
def c78:ACode:=(.seq (rG [oP 2 (.mov (.c (.int .i64 0))),oP 3 (.mov (.c (.int .i64 0)))]) (.seq (.seq (rG [mV 6 0,oP 7 (.bin .eql (.t 6) (.c (.str []))),mV 8 7,⟨some 9,.mov (.t 0),some (8,false),[]⟩,⟨some 10,.call (.c (.func 83 [])) [(.t 9),(.c (.str [48,49,50,51,52,53,54,55,56,57]))],some (8,false),[]⟩,⟨some 11,.bin .neq (.t 10) (.c (.str [])),some (8,false),[]⟩,oP 12 (.pick (.t 8) (.c (.bool true)) (.t 11)),mV 13 12,⟨some 14,.mov (.t 0),some (13,false),[]⟩,⟨some 15,.idxs (.t 14) (.c (.int .i64 0)),some (13,false),[]⟩,⟨some 16,.bin .eql (.t 15) (.c (.int .u8 48)),some (13,false),[]⟩,⟨some 17,.mov (.t 16),some (13,false),[]⟩,⟨some 18,.mov (.t 0),some (17,true),[]⟩,⟨some 19,.bin .neq (.t 18) (.c (.str [48])),some (17,true),[]⟩,⟨some 20,.pick (.t 17) (.t 19) (.c (.bool false)),some (13,false),[]⟩,oP 21 (.pick (.t 13) (.c (.bool true)) (.t 20))]) (.cond (.t 21) (.seq (rG [oP 2 (.mov (.c (.int .i64 0))),oP 3 (.mov (.c (.int .i64 2)))]) .ret) .skip)) (.seq (rG [mV 23 0,oP 24 (.call (.c (.func 108 [])) [(.t 23),(.c (.int .i64 10)),(.c (.int .i64 64))]),mV 22 24,oP 25 (.extract (.t 22) 0),oP 26 (.extract (.t 22) 1),mV 4 25,mV 5 26]) (.seq (.seq (rG [mV 27 5,oP 28 (.eqnil true .ifc (.t 27))]) (.cond (.t 28) (.seq (rG [oP 2 (.mov (.c (.int .i64 0))),oP 3 (.mov (.c (.int .i64 5)))]) .ret) .skip)) (.seq (rG [mV 29 4,mV 2 29,oP 3 (.mov (.c (.int .i64 0)))]) .ret)))))
def a78:AFunc:={results:=[.tmp 2,.tmp 3],body:=c78}
def c79:ACode:=(.seq (rG [mV 2 0,oP 3 (.bin .neq (.t 2) (.c (.int .i64 0)))]) (.cond (.t 3) (rG [mV 4 0,oP 5 (.build [(.int .i64 0)] [(0,1,(.t 4))]),oP 6 (.mkiface 145 (.t 5)),⟨none,.panic (.t 6),none,[]⟩]) .skip))
def a79:AFunc:={results:=[],body:=c79}
def b80_0:ACode:=(.seq (.seq (rG [mV 8 6,mV 9 0,oP 10 (.len true (.t 9)),oP 11 (.bin .lss (.t 8) (.t 10))]) (.cond (.t 11) .skip (.exit 0))) (.seq (.block 1 (.seq (.seq (rG [mV 14 0,mV 15 6,oP 16 (.idxs (.t 14) (.t 15)),mV 17 1,oP 18 (.bin .eql (.t 16) (.t 17))]) (.cond (.t 18) (.seq (rG [mV 19 5,oP 20 (.bslice 1 [(.c (.str []))]),oP 21 (.appendM 1 16 (.t 19) (.t 20)),mV 5 21]) (.exit 1)) .skip)) (.region [mV 22 5,mV 23 5,⟨some 24,.len false (.t 23),none,[1]⟩,⟨some 25,.bin .sub (.t 24) (.c (.int .i64 1)),none,[1,2]⟩,mV 26 5,mV 27 5,⟨some 28,.len false (.t 27),none,[5]⟩,⟨some 29,.bin .sub (.t 28) (.c (.int .i64 1)),none,[5,6]⟩,⟨some 30,.idx 1 (.t 26) (.t 29),none,[6,5,7,4]⟩,⟨some 31,.load false 1 (.t 30),none,[4,7,5,6,8]⟩,mV 32 0,mV 33 6,mV 34 6,⟨some 35,.bin .add (.t 34) (.c (.int .i64 1)),none,[12]⟩,⟨some 36,.slice 0 (.t 32) (some (.t 33)) (some (.t 35)) none,none,[12,13,11,10]⟩,⟨some 37,.bin .add (.t 31) (.t 36),none,[10,11,13,12,14,8,6,5,7,4,9]⟩,⟨some 38,.idx 1 (.t 22) (.t 25),none,[15,14,13,12,11,10,9,8,7,6,5,4,2,1,3,0]⟩,⟨none,.store 1 (.t 38) (.t 37),none,[0,3,1,2,4,5,6,7,8,9,10,11,12,13,14,15,16]⟩] true))) (rG [mV 12 6,oP 13 (.bin .add (.t 12) (.c (.int .i64 1))),mV 6 13])))
def c80:ACode:=(.seq (rG [oP 4 (.mov (.c (.sl .full [])))]) (.seq (rG [oP 7 (.bsliceM 1 [(.c (.str []))]),mV 5 7]) (.seq (.seq (rG [oP 6 (.mov (.c (.int .i64 0)))]) (.block 0 (.loop b80_0))) (.seq (rG [mV 39 5,mV 4 39]) .ret))))
def a80:AFunc:={results:=[.tmp 4],body:=c80}
def b81_0:ACode:=(.seq (.seq (rG [mV 16 3,mV 17 0,oP 18 (.len true (.t 17)),oP 19 (.bin .lss (.t 16) (.t 18))]) (.cond (.t 19) .skip (.exit 0))) (.seq (.block 1 (.seq (rG [mV 22 0,mV 23 3,oP 24 (.idxs (.t 22) (.t 23)),oP 25 (.bin .lss (.t 24) (.c (.int .u8 48))),mV 26 25,⟨some 27,.mov (.t 0),some (26,false),[]⟩,⟨some 28,.mov (.t 3),some (26,false),[]⟩,⟨some 29,.idxs (.t 27) (.t 28),some (26,false),[]⟩,⟨some 30,.bin .gtr (.t 29) (.c (.int .u8 57)),some (26,false),[]⟩,oP 31 (.pick (.t 26) (.c (.bool true)) (.t 30))]) (.cond (.t 31) (.seq (rG [oP 2 (.mov (.c (.bool false)))]) .ret) .skip))) (rG [mV 20 3,oP 21 (.bin .add (.t 20) (.c (.int .i64 1))),mV 3 21])))
def c81:ACode:=(.seq (rG [oP 2 (.mov (.c (.bool false)))]) (.seq (.seq (rG [mV 4 0,oP 5 (.bin .eql (.t 4) (.c (.str []))),mV 6 5,⟨some 7,.mov (.t 0),some (6,false),[]⟩,⟨some 8,.idxs (.t 7) (.c (.int .i64 0)),some (6,false),[]⟩,⟨some 9,.bin .eql (.t 8) (.c (.int .u8 48)),some (6,false),[]⟩,⟨some 10,.mov (.t 9),some (6,false),[]⟩,⟨some 11,.mov (.t 0),some (10,true),[]⟩,⟨some 12,.len true (.t 11),some (10,true),[]⟩,⟨some 13,.bin .gtr (.t 12) (.c (.int .i64 1)),some (10,true),[]⟩,⟨some 14,.pick (.t 10) (.t 13) (.c (.bool false)),some (6,false),[]⟩,oP 15 (.pick (.t 6) (.c (.bool true)) (.t 14))]) (.cond (.t 15) (.seq (rG [oP 2 (.mov (.c (.bool false)))]) .ret) .skip)) (.seq (.seq (rG [oP 3 (.mov (.c (.int .i64 0)))]) (.block 0 (.loop b81_0))) (.seq (rG [oP 2 (.mov (.c (.bool true)))]) .ret))))
def a81:AFunc:={results:=[.tmp 2],body:=c81}
def b82_0:ACode:=(.seq (.seq (rG [mV 9 7,mV 10 0,oP 11 (.len true (.t 10)),oP 12 (.bin .lss (.t 9) (.t 11))]) (.cond (.t 12) .skip (.exit 0))) (.seq (.block 1 (.seq (rG [mV 15 0,mV 16 7,oP 17 (.idxs (.t 15) (.t 16)),oP 18 (.bin .sub (.t 17) (.c (.int .u8 48))),oP 19 (.conv (.int .i64) (.t 18)),mV 8 19]) (.seq (.seq (rG [mV 20 6,mV 21 1,mV 22 8,oP 23 (.bin .sub (.t 21) (.t 22)),oP 24 (.bin .quo (.t 23) (.c (.int .i64 10))),oP 25 (.bin .gtr (.t 20) (.t 24))]) (.cond (.t 25) (.seq (rG [oP 4 (.mov (.c (.int .i64 0))),oP 5 (.mov (.c (.bool false)))]) .ret) .skip)) (rG [mV 26 6,oP 27 (.bin .mul (.c (.int .i64 10)) (.t 26)),mV 28 8,oP 29 (.bin .add (.t 27) (.t 28)),mV 6 29])))) (rG [mV 13 7,oP 14 (.bin .add (.t 13) (.c (.int .i64 1))),mV 7 14])))
def c82:ACode:=(.seq (rG [oP 4 (.mov (.c (.int .i64 0))),oP 5 (.mov (.c (.bool false)))]) (.seq (rG [oP 6 (.mov (.c (.int .i64 0)))]) (.seq (.seq (rG [oP 7 (.mov (.c (.int .i64 0)))]) (.block 0 (.loop b82_0))) (.seq (rG [mV 30 6,mV 31 6,mV 32 1,oP 33 (.bin .leq (.t 31) (.t 32)),mV 4 30,mV 5 33]) .ret))))
def a82:AFunc:={results:=[.tmp 4,.tmp 5],body:=c82}
def b84_0:ACode:=(.seq (rG [oP 9 (.bin .lss (.t 8) (.t 7))]) (.seq (.cond (.t 9) .skip (.exit 0)) (.seq (.block 1 (.seq (rG [mV 10 8,mV 5 10]) (.seq (rG [mV 11 1,mV 12 0,mV 13 5,oP 14 (.idx 2 (.t 12) (.t 13)),oP 15 (.load true 2 (.t 14)),oP 16 (.call (.t 11) [(.t 15)])]) (.cond (.t 16) (.seq (rG [mV 17 5,mV 4 17]) .ret) .skip)))) (rG [oP 18 (.bin .add (.t 8) (.c (.int .i64 1))),mV 8 18]))))
def c84:ACode:=(.seq (rG [oP 4 (.mov (.c (.int .i64 0)))]) (.seq (.seq (rG [mV 6 0,oP 7 (.len false (.t 6)),oP 8 (.mov (.c (.int .i64 0)))]) (.block 0 (.loop b84_0))) (.seq (rG [oP 4 (.mov (.c (.int .i64 (-1))))]) .ret)))
def a84:AFunc:={results:=[.tmp 4],body:=c84}
def c85:ACode:=(.seq (rG [oP 2 (.box (.t 0)),oP 3 (.mov (.c (.bool false)))]) (.seq (rG [oP 4 (.fld 0 1 (.t 2)),oP 5 (.load false 1 (.t 4)),oP 6 (.load false 1 (.t 1)),oP 7 (.bin .eql (.t 5) (.t 6)),mV 3 7]) .ret))
def a85:AFunc:={results:=[.tmp 3],body:=c85}
def c98:ACode:=(.seq (.seq (rG [oP 9 (.load false 1 (.t 0)),oP 10 (.len false (.t 9)),oP 11 (.mov (.c (.int .i64 0)))]) (.block 0 (.loop (.seq (rG [oP 12 (.bin .lss (.t 11) (.t 10))]) (.seq (.cond (.t 12) .skip (.exit 0)) (.seq (.block 1 (.seq (rG [oP 13 (.idx 1 (.t 9) (.t 11)),oP 14 (.load false 1 (.t 13)),mV 4 14]) (rG [mV 15 4,oP 16 (.call (.c (.func 15 [])) [(.t 15)]),oP 17 (.call (.c (.func 79 [])) [(.t 16)])]))) (rG [oP 18 (.bin .add (.t 11) (.c (.int .i64 1))),mV 11 18]))))))) (.seq (.seq (rG [oP 19 (.load false 1 (.t 0)),oP 20 (.call (.c (.func 99 [])) [(.t 19)]),oP 21 (.len false (.t 20)),oP 22 (.mov (.c (.int .i64 0)))]) (.block 2 (.loop (.seq (rG [oP 23 (.bin .lss (.t 22) (.t 21))]) (.seq (.cond (.t 23) .skip (.exit 2)) (.seq (.block 3 (.seq (rG [oP 24 (.idx 1 (.t 20) (.t 22)),oP 25 (.load false 1 (.t 24)),mV 6 25]) (.seq (rG [oP 27 (.load false 1 (.t 1)),mV 28 6,oP 29 (.call (.t 27) [(.t 28)]),mV 26 29,oP 30 (.extract (.t 26) 0),oP 31 (.extract (.t 26) 1),mV 7 30,mV 8 31]) (.seq (rG [mV 32 8,oP 33 (.call (.c (.func 79 [])) [(.t 32)])]) (.seq (rG [mV 34 7,oP 35 (.bin .gtr (.t 34) (.c (.int .i64 0)))]) (.cond (.t 35) (rG [oP 36 (.load false 1 (.t 2)),mV 37 6,mV 38 7,oP 39 (.build [(.str []),(.int .i64 0)] [(0,1,(.t 37)),(1,1,(.t 38))]),oP 40 (.bslice 2 [(.t 39)]),oP 41 (.append 2 24 (.t 36) (.t 40)),⟨none,.store 1 (.t 2) (.t 41),none,[]⟩]) .skip)))))) (rG [oP 42 (.bin .add (.t 22) (.c (.int .i64 1))),mV 22 42]))))))) (.seq (rG [oP 43 (.load false 1 (.t 2)),oP 44 (.len false (.t 43)),oP 45 (.bin .gtr (.t 44) (.c (.int .i64 8)))]) (.cond (.t 45) (rG [oP 46 (.call (.c (.func 79 [])) [(.c (.int .i64 4))])]) .skip))))
def a98:AFunc:={results:=[],body:=c98}
def c99:ACode:=(.seq (rG [oP 2 (.mov (.c (.sl .full [])))]) (.seq (rG [oP 3 (.mov (.c (.sl .full [])))]) (.seq (.seq (rG [mV 8 0,oP 9 (.len false (.t 8)),oP 10 (.mov (.c (.int .i64 0)))]) (.block 0 (.loop (.seq (rG [oP 11 (.bin .lss (.t 10) (.t 9))]) (.seq (.cond (.t 11) .skip (.exit 0)) (.seq (.block 1 (.seq (rG [oP 12 (.idx 1 (.t 8) (.t 10)),oP 13 (.load false 1 (.t 12)),mV 5 13]) (.seq (rG [mV 14 5,oP 15 (.len false (.t 14)),oP 16 (.mov (.c (.int .i64 0)))]) (.block 2 (.loop (.seq (rG [oP 17 (.bin .lss (.t 16) (.t 15))]) (.seq (.cond (.t 17) .skip (.exit 2)) (.seq (.block 3 (.seq (rG [oP 18 (.idx 2 (.t 14) (.t 16)),oP 19 (.load true 2 (.t 18)),oP 7 (.box (.c (.agg [(.str []),(.int .i64 0)]))),⟨none,.store 2 (.t 7) (.t 19),none,[]⟩]) (rG [mV 20 3,oP 21 (.fld 0 1 (.t 7)),oP 22 (.load false 1 (.t 21)),oP 23 (.bslice 1 [(.t 22)]),oP 24 (.appendM 1 16 (.t 20) (.t 23)),mV 3 24]))) (rG [oP 25 (.bin .add (.t 16) (.c (.int .i64 1))),mV 16 25]))))))))) (rG [oP 26 (.bin .add (.t 10) (.c (.int .i64 1))),mV 10 26]))))))) (.seq (rG [mV 27 3,oP 28 (.callM (.c (.func 124 [])) [(.t 27)])]) (.seq (rG [mV 29 3,oP 30 (.callM (.c (.func 125 [])) [(.t 29)]),mV 2 30]) .ret)))))
def a99:AFunc:={results:=[.tmp 2],body:=c99}
def c100:ACode:=(.seq (rG [oP 4 (.mov (.c (.int .i64 0)))]) (.seq (.seq (rG [mV 5 0,oP 6 (.bin .lss (.t 5) (.c (.int .i64 0))),mV 7 6,⟨some 8,.mov (.t 1),some (7,false),[]⟩,⟨some 9,.bin .lss (.t 8) (.c (.int .i64 0)),some (7,false),[]⟩,oP 10 (.pick (.t 7) (.c (.bool true)) (.t 9))]) (.cond (.t 10) (.seq (rG [oP 4 (.mov (.c (.int .i64 1)))]) .ret) .skip)) (.seq (rG [oP 4 (.mov (.c (.int .i64 0)))]) .ret)))
def a100:AFunc:={results:=[.tmp 4],body:=c100}
def c101:ACode:=(.seq (rG [oP 4 (.mov (.c (.int .i64 0))),oP 5 (.mov (.c (.int .i64 0)))]) (.seq (.seq (rG [mV 6 1,mV 7 6,⟨some 8,.mov (.t 0),some (7,false),[]⟩,⟨some 9,.bin .gtr (.t 8) (.c (.int .u64 9223372036854775807)),some (7,false),[]⟩,oP 10 (.pick (.t 7) (.c (.bool true)) (.t 9))]) (.cond (.t 10) (.seq (rG [oP 4 (.mov (.c (.int .i64 0))),oP 5 (.mov (.c (.int .i64 5)))]) .ret) .skip)) (.seq (rG [mV 11 0,oP 12 (.conv (.int .i64) (.t 11)),mV 4 12,oP 5 (.mov (.c (.int .i64 0)))]) .ret)))
def a101:AFunc:={results:=[.tmp 4,.tmp 5],body:=c101}
def c102:ACode:=(.seq (rG [oP 4 (.mov (.c (.int .u64 0))),oP 5 (.mov (.c (.int .u64 0)))]) (.seq (rG [mV 14 0,oP 15 (.bin .and (.t 14) (.c (.int .u64 4294967295))),mV 6 15]) (.seq (rG [mV 16 0,oP 17 (.bin .shr (.t 16) (.c (.int .u64 32))),mV 7 17]) (.seq (rG [mV 18 1,oP 19 (.bin .and (.t 18) (.c (.int .u64 4294967295))),mV 8 19]) (.seq (rG [mV 20 1,oP 21 (.bin .shr (.t 20) (.c (.int .u64 32))),mV 9 21]) (.seq (rG [mV 22 6,mV 23 8,oP 24 (.bin .mul (.t 22) (.t 23)),mV 10 24]) (.seq (rG [mV 25 7,mV 26 8,oP 27 (.bin .mul (.t 25) (.t 26)),mV 28 10,oP 29 (.bin .shr (.t 28) (.c (.int .u64 32))),oP 30 (.bin .add (.t 27) (.t 29)),mV 11 30]) (.seq (rG [mV 31 11,oP 32 (.bin .and (.t 31) (.c (.int .u64 4294967295))),mV 12 32]) (.seq (rG [mV 33 11,oP 34 (.bin .shr (.t 33) (.c (.int .u64 32))),mV 13 34]) (.seq (rG [mV 35 12,mV 36 6,mV 37 9,oP 38 (.bin .mul (.t 36) (.t 37)),oP 39 (.bin .add (.t 35) (.t 38)),mV 12 39]) (.seq (rG [mV 40 7,mV 41 9,oP 42 (.bin .mul (.t 40) (.t 41)),mV 43 13,oP 44 (.bin .add (.t 42) (.t 43)),mV 45 12,oP 46 (.bin .shr (.t 45) (.c (.int .u64 32))),oP 47 (.bin .add (.t 44) (.t 46)),mV 4 47]) (.seq (rG [mV 48 0,mV 49 1,oP 50 (.bin .mul (.t 48) (.t 49)),mV 5 50]) .ret))))))))))))
def a102:AFunc:={results:=[.tmp 4,.tmp 5],body:=c102}
def c103:ACode:=(.seq (rG [oP 6 (.mov (.c (.int .i64 0))),oP 7 (.mov (.c (.int .i64 0)))]) (.seq (.seq (rG [mV 14 0,mV 15 1,oP 16 (.call (.c (.func 100 [])) [(.t 14),(.t 15)]),mV 8 16]) (.seq (rG [mV 17 8,oP 18 (.bin .neq (.t 17) (.c (.int .i64 0)))]) (.cond (.t 18) (.seq (rG [mV 19 8,oP 6 (.mov (.c (.int .i64 0))),mV 7 19]) .ret) .skip))) (.seq (rG [mV 21 0,oP 22 (.conv (.int .u64) (.t 21)),mV 23 1,oP 24 (.conv (.int .u64) (.t 23)),oP 25 (.call (.c (.func 102 [])) [(.t 22),(.t 24)]),mV 20 25,oP 26 (.extract (.t 20) 0),oP 27 (.extract (.t 20) 1),mV 9 26,mV 10 27]) (.seq (rG [mV 29 10,mV 30 2,oP 31 (.call (.c (.func 126 [])) [(.t 29),(.t 30),(.c (.int .u64 0))]),mV 28 31,oP 32 (.extract (.t 28) 0),oP 33 (.extract (.t 28) 1),mV 10 32,mV 11 33]) (.seq (.seq (rG [mV 34 9,mV 35 11,oP 36 (.bin .add (.t 34) (.t 35)),mV 9 36]) (.seq (rG [mV 37 9,oP 38 (.bin .geq (.t 37) (.c (.int .u64 1000)))]) (.cond (.t 38) (.seq (rG [oP 6 (.mov (.c (.int .i64 0))),oP 7 (.mov (.c (.int .i64 5)))]) .ret) .skip))) (.seq (rG [mV 40 9,mV 41 10,oP 42 (.call (.c (.func 127 [])) [(.t 40),(.t 41),(.c (.int .u64 1000))]),mV 39 42,oP 43 (.extract (.t 39) 0),oP 44 (.extract (.t 39) 1),mV 12 43,mV 13 44]) (.seq (rG [mV 45 12,oP 46 (.call (.c (.func 101 [])) [(.t 45),(.c (.bool false))]),oP 47 (.extract (.t 46) 0),oP 48 (.extract (.t 46) 1),mV 6 47,mV 7 48]) .ret)))))))
def a103:AFunc:={results:=[.tmp 6,.tmp 7],body:=c103}
def c106:ACode:=(.seq (rG [oP 3 (.box (.t 0)),oP 4 (.box (.t 1)),oP 5 (.box (.t 2)),oP 6 (.mov (.c .nilFunc))]) (.seq (rG [oP 7 (.mkfunc 128 [(.t 4),(.t 3),(.t 5)]),mV 6 7]) .ret))
def a106:AFunc:={results:=[.tmp 6],body:=c106}
def c107:ACode:=(.seq (rG [oP 4 (.mov (.c (.str []))),oP 5 (.mov (.c (.str []))),oP 6 (.mov (.c (.bool false)))]) (.seq (.seq (rG [mV 8 0,mV 9 1,oP 10 (.call (.c (.func 131 [])) [(.t 8),(.t 9)]),mV 7 10]) (.seq (rG [mV 11 7,oP 12 (.bin .geq (.t 11) (.c (.int .i64 0)))]) (.cond (.t 12) (.seq (.region [mV 13 0,mV 14 7,⟨some 15,.slice 0 (.t 13) none (some (.t 14)) none,none,[1,0]⟩,mV 16 0,mV 17 7,mV 18 1,⟨some 19,.len true (.t 18),none,[5]⟩,⟨some 20,.bin .add (.t 17) (.t 19),none,[5,6,4]⟩,⟨some 21,.slice 0 (.t 16) (some (.t 20)) none none,none,[4,6,5,7,3]⟩,⟨some 4,.mov (.t 15),none,[0,1,2]⟩,⟨some 5,.mov (.t 21),none,[2,1,0,9,3,7,5,6,4,8]⟩,⟨some 6,.mov (.c (.bool true)),none,[8,4,6,5,7,3,9,0,1,2,10]⟩] true) .ret) .skip))) (.seq (rG [mV 22 0,mV 4 22,oP 5 (.mov (.c (.str []))),oP 6 (.mov (.c (.bool false)))]) .ret)))
def a107:AFunc:={results:=[.tmp 4,.tmp 5,.tmp 6],body:=c107}
def c125:ACode:=(.seq (rG [oP 2 (.mov (.c (.sl .full [])))]) (.seq (.seq (rG [mV 6 0,oP 7 (.len false (.t 6)),oP 8 (.bin .lss (.t 7) (.c (.int .i64 2)))]) (.cond (.t 8) (.seq (rG [mV 9 0,mV 2 9]) .ret) .skip)) (.seq (.seq (rG [oP 3 (.mov (.c (.int .i64 1)))]) (.block 0 (.loop (.seq (.seq (rG [mV 10 3,mV 11 0,oP 12 (.len false (.t 11)),oP 13 (.bin .lss (.t 10) (.t 12))]) (.cond (.t 13) .skip (.exit 0))) (.seq (.block 1 (.seq (.region [mV 16 0,mV 17 3,⟨some 18,.idx 1 (.t 16) (.t 17),none,[1,0]⟩,⟨some 19,.load false 1 (.t 18),none,[0,1,2]⟩,mV 20 0,mV 21 3,⟨some 22,.bin .sub (.t 21) (.c (.int .i64 1)),none,[5]⟩,⟨some 23,.idx 1 (.t 20) (.t 22),none,[5,6,4]⟩,⟨some 24,.load false 1 (.t 23),none,[4,6,5,7]⟩,⟨some 25,.bin .eql (.t 19) (.t 24),none,[7,5,6,4,8,2,1,0,3]⟩] true) (.cond (.t 25) (.seq (rG [mV 26 0,mV 27 3,oP 28 (.slice 1 (.t 26) (some (.t 27)) none none),mV 4 28]) (.seq (.seq (rG [oP 5 (.mov (.c (.int .i64 1)))]) (.block 2 (.loop (.seq (.seq (rG [mV 29 5,mV 30 4,oP 31 (.len false (.t 30)),oP 32 (.bin .lss (.t 29) (.t 31))]) (.cond (.t 32) .skip (.exit 2))) (.seq (.block 3 (.seq (.region [mV 35 4,mV 36 5,⟨some 37,.idx 1 (.t 35) (.t 36),none,[1,0]⟩,⟨some 38,.load false 1 (.t 37),none,[0,1,2]⟩,mV 39 4,mV 40 5,⟨some 41,.bin .sub (.t 40) (.c (.int .i64 1)),none,[5]⟩,⟨some 42,.idx 1 (.t 39) (.t 41),none,[5,6,4]⟩,⟨some 43,.load false 1 (.t 42),none,[4,6,5,7]⟩,⟨some 44,.bin .neq (.t 38) (.t 43),none,[7,5,6,4,8,2,1,0,3]⟩] true) (.cond (.t 44) (.seq (rG [mV 45 0,mV 46 3,mV 47 4,mV 48 5,oP 49 (.idx 1 (.t 47) (.t 48)),oP 50 (.load false 1 (.t 49)),oP 51 (.idx 1 (.t 45) (.t 46)),⟨none,.store 1 (.t 51) (.t 50),none,[]⟩]) (rG [mV 52 3,oP 53 (.bin .add (.t 52) (.c (.int .i64 1))),mV 3 53])) .skip))) (rG [mV 33 5,oP 34 (.bin .add (.t 33) (.c (.int .i64 1))),mV 5 34])))))) (.seq (rG [mV 54 0,mV 55 3,oP 56 (.slice 1 (.t 54) (some (.t 55)) none none),⟨none,.clearM [(.str [])] (.t 56),none,[]⟩]) (.seq (rG [mV 57 0,mV 58 3,oP 59 (.slice 1 (.t 57) none (some (.t 58)) none),mV 2 59]) .ret)))) .skip))) (rG [mV 14 3,oP 15 (.bin .add (.t 14) (.c (.int .i64 1))),mV 3 15])))))) (.seq (rG [mV 60 0,mV 2 60]) .ret))))
def a125:AFunc:={results:=[.tmp 2],body:=c125}
def c127:ACode:=(.seq (rG [oP 6 (.mov (.c (.int .u64 0))),oP 7 (.mov (.c (.int .u64 0)))]) (.seq (.seq (rG [mV 19 2,oP 20 (.bin .eql (.t 19) (.c (.int .u64 0)))]) (.cond (.t 20) (rG [oP 21 (.load false 1 (.c .undef)),⟨none,.panic (.t 21),none,[]⟩]) .skip)) (.seq (.seq (rG [mV 22 2,mV 23 0,oP 24 (.bin .leq (.t 22) (.t 23))]) (.cond (.t 24) (rG [oP 25 (.load false 1 (.c .undef)),⟨none,.panic (.t 25),none,[]⟩]) .skip)) (.seq (.seq (rG [mV 26 0,oP 27 (.bin .eql (.t 26) (.c (.int .u64 0)))]) (.cond (.t 27) (.seq (.region [mV 28 1,mV 29 2,⟨some 30,.bin .quo (.t 28) (.t 29),none,[1,0]⟩,mV 31 1,mV 32 2,⟨some 33,.bin .rem (.t 31) (.t 32),none,[4,3]⟩,⟨some 6,.mov (.t 30),none,[0,1,2]⟩,⟨some 7,.mov (.t 33),none,[2,1,0,6,3,4,5]⟩] true) .ret) .skip)) (.seq (rG [mV 34 2,oP 35 (.call (.c (.func 148 [])) [(.t 34)]),oP 36 (.conv (.int .u64) (.t 35)),mV 8 36]) (.seq (rG [mV 37 2,mV 38 8,oP 39 (.bin .shl (.t 37) (.t 38)),mV 2 39]) (.seq (rG [mV 40 2,oP 41 (.bin .shr (.t 40) (.c (.int .u64 32))),mV 9 41]) (.seq (rG [mV 42 2,oP 43 (.bin .and (.t 42) (.c (.int .u64 4294967295))),mV 10 43]) (.seq (rG [mV 44 0,mV 45 8,oP 46 (.bin .shl (.t 44) (.t 45)),mV 47 1,mV 48 8,oP 49 (.bin .sub (.c (.int .u64 64)) (.t 48)),oP 50 (.bin .shr (.t 47) (.t 49)),oP 51 (.bin .or (.t 46) (.t 50)),mV 11 51]) (.seq (rG [mV 52 1,mV 53 8,oP 54 (.bin .shl (.t 52) (.t 53)),mV 12 54]) (.seq (rG [mV 55 12,oP 56 (.bin .shr (.t 55) (.c (.int .u64 32))),mV 13 56]) (.seq (rG [mV 57 12,oP 58 (.bin .and (.t 57) (.c (.int .u64 4294967295))),mV 14 58]) (.seq (rG [mV 59 11,mV 60 9,oP 61 (.bin .quo (.t 59) (.t 60)),mV 15 61]) (.seq (rG [mV 62 11,mV 63 15,mV 64 9,oP 65 (.bin .mul (.t 63) (.t 64)),oP 66 (.bin .sub (.t 62) (.t 65)),mV 16 66]) (.seq (.block 0 (.loop (.seq (.seq (rG [mV 67 15,oP 68 (.bin .geq (.t 67) (.c (.int .u64 4294967296))),mV 69 68,⟨some 70,.mov (.t 15),some (69,false),[]⟩,⟨some 71,.mov (.t 10),some (69,false),[]⟩,⟨some 72,.bin .mul (.t 70) (.t 71),some (69,false),[]⟩,⟨some 73,.mov (.t 16),some (69,false),[]⟩,⟨some 74,.bin .mul (.c (.int .u64 4294967296)) (.t 73),some (69,false),[]⟩,⟨some 75,.mov (.t 13),some (69,false),[]⟩,⟨some 76,.bin .add (.t 74) (.t 75),some (69,false),[]⟩,⟨some 77,.bin .gtr (.t 72) (.t 76),some (69,false),[]⟩,oP 78 (.pick (.t 69) (.c (.bool true)) (.t 77))]) (.cond (.t 78) .skip (.exit 0))) (.block 1 (.seq (rG [mV 79 15,oP 80 (.bin .sub (.t 79) (.c (.int .u64 1))),mV 15 80]) (.seq (rG [mV 81 16,mV 82 9,oP 83 (.bin .add (.t 81) (.t 82)),mV 16 83]) (.seq (rG [mV 84 16,oP 85 (.bin .geq (.t 84) (.c (.int .u64 4294967296)))]) (.cond (.t 85) (.exit 0) .skip)))))))) (.seq (rG [mV 86 11,oP 87 (.bin .mul (.t 86) (.c (.int .u64 4294967296))),mV 88 13,oP 89 (.bin .add (.t 87) (.t 88)),mV 90 15,mV 91 2,oP 92 (.bin .mul (.t 90) (.t 91)),oP 93 (.bin .sub (.t 89) (.t 92)),mV 17 93]) (.seq (rG [mV 94 17,mV 95 9,oP 96 (.bin .quo (.t 94) (.t 95)),mV 18 96]) (.seq (rG [mV 97 17,mV 98 18,mV 99 9,oP 100 (.bin .mul (.t 98) (.t 99)),oP 101 (.bin .sub (.t 97) (.t 100)),mV 16 101]) (.seq (.block 2 (.loop (.seq (.seq (rG [mV 102 18,oP 103 (.bin .geq (.t 102) (.c (.int .u64 4294967296))),mV 104 103,⟨some 105,.mov (.t 18),some (104,false),[]⟩,⟨some 106,.mov (.t 10),some (104,false),[]⟩,⟨some 107,.bin .mul (.t 105) (.t 106),some (104,false),[]⟩,⟨some 108,.mov (.t 16),some (104,false),[]⟩,⟨some 109,.bin .mul (.c (.int .u64 4294967296)) (.t 108),some (104,false),[]⟩,⟨some 110,.mov (.t 14),some (104,false),[]⟩,⟨some 111,.bin .add (.t 109) (.t 110),some (104,false),[]⟩,⟨some 112,.bin .gtr (.t 107) (.t 111),some (104,false),[]⟩,oP 113 (.pick (.t 104) (.c (.bool true)) (.t 112))]) (.cond (.t 113) .skip (.exit 2))) (.block 3 (.seq (rG [mV 114 18,oP 115 (.bin .sub (.t 114) (.c (.int .u64 1))),mV 18 115]) (.seq (rG [mV 116 16,mV 117 9,oP 118 (.bin .add (.t 116) (.t 117)),mV 16 118]) (.seq (rG [mV 119 16,oP 120 (.bin .geq (.t 119) (.c (.int .u64 4294967296)))]) (.cond (.t 120) (.exit 2) .skip)))))))) (.seq (rG [mV 121 15,oP 122 (.bin .mul (.t 121) (.c (.int .u64 4294967296))),mV 123 18,oP 124 (.bin .add (.t 122) (.t 123)),mV 125 17,oP 126 (.bin .mul (.t 125) (.c (.int .u64 4294967296))),mV 127 14,oP 128 (.bin .add (.t 126) (.t 127)),mV 129 18,mV 130 2,oP 131 (.bin .mul (.t 129) (.t 130)),oP 132 (.bin .sub (.t 128) (.t 131)),mV 133 8,oP 134 (.bin .shr (.t 132) (.t 133)),mV 6 124,mV 7 134]) .ret))))))))))))))))))))
def a127:AFunc:={results:=[.tmp 6,.tmp 7],body:=c127}
def b128_1:ACode:=(.block 3 (.seq (rG [oP 29 (.load false 1 (.t 2)),oP 30 (.load false 1 (.t 1)),oP 31 (.call (.c (.func 130 [])) [(.t 29),(.t 30)]),mV 7 31]) (.seq (.seq (rG [mV 32 7,oP 33 (.bin .lss (.t 32) (.c (.int .i64 0)))]) (.cond (.t 33) (.exit 2) .skip)) (.seq (rG [oP 34 (.load false 1 (.t 2)),mV 35 7,oP 36 (.load false 1 (.t 3)),oP 37 (.bin .add (.t 35) (.t 36)),oP 38 (.slice 0 (.t 34) none (some (.t 37)) none),mV 8 38]) (.seq (.seq (rG [mV 39 0,mV 40 8,oP 41 (.call (.t 39) [(.t 40)]),oP 42 (.un .not (.t 41))]) (.cond (.t 42) .ret .skip)) (rG [oP 43 (.load false 1 (.t 2)),mV 44 7,oP 45 (.load false 1 (.t 1)),oP 46 (.len true (.t 45)),oP 47 (.bin .add (.t 44) (.t 46)),oP 48 (.slice 0 (.t 43) (some (.t 47)) none none),⟨none,.store 1 (.t 2) (.t 48),none,[]⟩]))))))
def c128:ACode:=(.seq (.seq (rG [oP 9 (.load false 1 (.t 1)),oP 10 (.len true (.t 9)),oP 11 (.bin .eql (.t 10) (.c (.int .i64 0)))]) (.cond (.t 11) (.seq (.block 0 (.loop (.seq (.seq (rG [oP 12 (.load false 1 (.t 2)),oP 13 (.len true (.t 12)),oP 14 (.bin .gtr (.t 13) (.c (.int .i64 0)))]) (.cond (.t 14) .skip (.exit 0))) (.block 1 (.seq (rG [oP 16 (.load false 1 (.t 2)),oP 17 (.call (.c (.func 129 [])) [(.t 16)]),mV 15 17,oP 18 (.extract (.t 15) 0),oP 19 (.extract (.t 15) 1),mV 5 18,mV 6 19]) (.seq (.seq (rG [mV 20 0,oP 21 (.load false 1 (.t 2)),mV 22 6,oP 23 (.slice 0 (.t 21) none (some (.t 22)) none),oP 24 (.call (.t 20) [(.t 23)]),oP 25 (.un .not (.t 24))]) (.cond (.t 25) .ret .skip)) (rG [oP 26 (.load false 1 (.t 2)),mV 27 6,oP 28 (.slice 0 (.t 26) (some (.t 27)) none none),⟨none,.store 1 (.t 2) (.t 28),none,[]⟩]))))))) .ret) .skip)) (.seq (.block 2 (.loop b128_1)) (rG [mV 49 0,oP 50 (.load false 1 (.t 2)),oP 51 (.call (.t 49) [(.t 50)])])))
def a128:AFunc:={results:=[],body:=c128}
def c129:ACode:=(.seq (rG [oP 2 (.mov (.c (.int .i32 0))),oP 3 (.mov (.c (.int .i64 0)))]) (.seq (.seq (rG [mV 4 0,oP 5 (.bin .neq (.t 4) (.c (.str []))),mV 6 5,⟨some 7,.mov (.t 0),some (6,true),[]⟩,⟨some 8,.idxs (.t 7) (.c (.int .i64 0)),some (6,true),[]⟩,⟨some 9,.bin .lss (.t 8) (.c (.int .u8 128)),some (6,true),[]⟩,oP 10 (.pick (.t 6) (.t 9) (.c (.bool false)))]) (.cond (.t 10) (.seq (rG [mV 11 0,oP 12 (.idxs (.t 11) (.c (.int .i64 0))),oP 13 (.conv (.int .i32) (.t 12)),mV 2 13,oP 3 (.mov (.c (.int .i64 1)))]) .ret) (rG [mV 15 0,oP 16 (.call (.c (.func 149 [])) [(.t 15)]),mV 14 16,oP 17 (.extract (.t 14) 0),oP 18 (.extract (.t 14) 1),mV 2 17,mV 3 18]))) .ret))
def a129:AFunc:={results:=[.tmp 2,.tmp 3],body:=c129}
def c140:ACode:=(.seq (rG [oP 2 (.mov (.c (.int .i64 0)))]) (.seq (.seq (rG [mV 3 0,oP 4 (.bin .geq (.t 3) (.c (.int .u64 4294967296)))]) (.cond (.t 4) (.seq (rG [mV 5 0,oP 6 (.bin .shr (.t 5) (.c (.int .u64 32))),mV 0 6]) (rG [oP 2 (.mov (.c (.int .i64 32)))])) .skip)) (.seq (.seq (rG [mV 7 0,oP 8 (.bin .geq (.t 7) (.c (.int .u64 65536)))]) (.cond (.t 8) (.seq (rG [mV 9 0,oP 10 (.bin .shr (.t 9) (.c (.int .u64 16))),mV 0 10]) (rG [mV 11 2,oP 12 (.bin .add (.t 11) (.c (.int .i64 16))),mV 2 12])) .skip)) (.seq (.seq (rG [mV 13 0,oP 14 (.bin .geq (.t 13) (.c (.int .u64 256)))]) (.cond (.t 14) (.seq (rG [mV 15 0,oP 16 (.bin .shr (.t 15) (.c (.int .u64 8))),mV 0 16]) (rG [mV 17 2,oP 18 (.bin .add (.t 17) (.c (.int .i64 8))),mV 2 18])) .skip)) (.seq (rG [mV 19 2,mV 20 0,oP 21 (.conv (.int .u8) (.t 20)),oP 22 (.idxs (.c (.str [0,1,2,2,3,3,3,3,4,4,4,4,4,4,4,4,5,5,5,5,5,5,5,5,5,5,5,5,5,5,5,5,6,6,6,6,6,6,6,6,6,6,6,6,6,6,6,6,6,6,6,6,6,6,6,6,6,6,6,6,6,6,6,6,7,7,7,7,7,7,7,7,7,7,7,7,7,7,7,7,7,7,7,7,7,7,7,7,7,7,7,7,7,7,7,7,7,7,7,7,7,7,7,7,7,7,7,7,7,7,7,7,7,7,7,7,7,7,7,7,7,7,7,7,7,7,7,7,8,8,8,8,8,8,8,8,8,8,8,8,8,8,8,8,8,8,8,8,8,8,8,8,8,8,8,8,8,8,8,8,8,8,8,8,8,8,8,8,8,8,8,8,8,8,8,8,8,8,8,8,8,8,8,8,8,8,8,8,8,8,8,8,8,8,8,8,8,8,8,8,8,8,8,8,8,8,8,8,8,8,8,8,8,8,8,8,8,8,8,8,8,8,8,8,8,8,8,8,8,8,8,8,8,8,8,8,8,8,8,8,8,8,8,8,8,8,8,8,8,8,8,8,8,8,8,8])) (.t 21)),oP 23 (.conv (.int .i64) (.t 22)),oP 24 (.bin .add (.t 19) (.t 23)),mV 2 24]) .ret)))))
def a140:AFunc:={results:=[.tmp 2],body:=c140}
def c148:ACode:=(.seq (rG [oP 2 (.mov (.c (.int .i64 0)))]) (.seq (rG [mV 3 0,oP 4 (.call (.c (.func 140 [])) [(.t 3)]),oP 5 (.bin .sub (.c (.int .i64 64)) (.t 4)),mV 2 5]) .ret))
def a148:AFunc:={results:=[.tmp 2],body:=c148}
def muF(f:Nat):Bool:=[99,125,80].contains f
def tab:List (Nat×AFunc):=[(4,a4),(12,a12),(13,a13),(14,a14),(15,a15),(16,a16),(17,a17),(18,a18),(19,a19),(21,a21),(23,a23),(24,a24),(26,a26),(28,a28),(30,a30),(32,a32),(33,a33),(34,a34),(35,a35),(36,a36),(37,a37),(52,a52),(56,a56),(57,a57),(58,a58),(63,a63),(64,a64),(66,a66),(67,a67),(69,a69),(70,a70),(72,a72),(73,a73),(75,a75),(76,a76),(77,a77),(78,a78),(79,a79),(80,a80),(81,a81),(82,a82),(84,a84),(85,a85),(98,a98),(99,a99),(100,a100),(101,a101),(102,a102),(103,a103),(106,a106),(107,a107),(125,a125),(127,a127),(128,a128),(129,a129),(140,a140),(148,a148)]
def tabG:Nat→Option AFunc
 |4=>some a4
 |12=>some a12
 |13=>some a13
 |14=>some a14
 |15=>some a15
 |16=>some a16
 |17=>some a17
 |18=>some a18
 |19=>some a19
 |21=>some a21
 |23=>some a23
 |24=>some a24
 |26=>some a26
 |28=>some a28
 |30=>some a30
 |32=>some a32
 |33=>some a33
 |34=>some a34
 |35=>some a35
 |36=>some a36
 |37=>some a37
 |52=>some a52
 |56=>some a56
 |57=>some a57
 |58=>some a58
 |63=>some a63
 |64=>some a64
 |66=>some a66
 |67=>some a67
 |69=>some a69
 |70=>some a70
 |72=>some a72
 |73=>some a73
 |75=>some a75
 |76=>some a76
 |77=>some a77
 |78=>some a78
 |79=>some a79
 |80=>some a80
 |81=>some a81
 |82=>some a82
 |84=>some a84
 |85=>some a85
 |98=>some a98
 |99=>some a99
 |100=>some a100
 |101=>some a101
 |102=>some a102
 |103=>some a103
 |106=>some a106
 |107=>some a107
 |125=>some a125
 |127=>some a127
 |128=>some a128
 |129=>some a129
 |140=>some a140
 |148=>some a148
 |_=>none
def tabF(f:Nat):Option AFunc:=bif Nat.blt f 149 then tabG f else none
theorem tab_eq:tab.map (fun p=>(Go.Proofs.Tryz.prog.funcs[p.1]?).bind (cFunc Go.Proofs.Tryz.prog (muF p.1)))=tab.map (fun p=>some p.2):=by kernel_rfl
theorem tab_look:(List.range 149).map tabF=(List.range 149).map (fun f=>tab.lookup f):=by kernel_rfl
theorem look_mem{α:Type}{f:Nat}{A:α}:∀{l:List (Nat×α)},l.lookup f=some A→(f,A)∈l
 |[],h=>by cases h
 |(g,B)::l,h=>by
  simp only[List.lookup_cons]at h
  split at h
  ·rename_i e
   have e:f=g:=by simpa using e
   cases h
   rw[e]
   exact List.mem_cons_self ..
  ·exact List.mem_cons_of_mem _ (look_mem h)
theorem tab_mem{f:Nat}{A:AFunc}(h:tabF f=some A):(f,A)∈tab:=by
 have hlt:f<149:=by
  cases hb:Nat.blt f 149 with
  |true=>exact Nat.le_of_ble_eq_true hb
  |false=>unfold tabF at h;rw[hb]at h;cases h
 have:=List.map_inj_left.1 tab_look f (List.mem_range.2 hlt)
 rw[h]at this
 exact look_mem this.symm
theorem tab_fn{f:Nat}{A:AFunc}(h:tabF f=some A):∃fn mu,Go.Proofs.Tryz.prog.funcs[f]?=some fn∧cFunc Go.Proofs.Tryz.prog mu fn=some A:=by
 have:=List.map_inj_left.1 tab_eq _ (tab_mem h)
 simp only[Option.bind_eq_some_iff]at this
 obtain⟨fn,h1,h2⟩:=this
 exact⟨fn,_,h1,h2⟩
end Go.Aa.T
set_option linter.unusedVariables false
set_option linter.unusedSimpArgs false
namespace Go.Aa
open Go.RowKit
open Classical in
noncomputable def limOpt{α:Type}(p:Nat→Option α):Option α:=if h:∃r n,p n=some r then some (Classical.choose h)else none
theorem limOpt_iff{α:Type}{p:Nat→Option α}(hm:∀n m r,n≤m→p n=some r→p m=some r){r:α}:limOpt p=some r↔∃n,p n=some r:=by
 unfold limOpt
 constructor
 ·intro h
  split at h
  ·rename_i hex
   simp only[Option.some.injEq]at h
   rw[←h]
   exact Classical.choose_spec hex
  ·cases h
 ·rintro⟨n,h⟩
  have hex:∃r n,p n=some r:=⟨r,n,h⟩
  rw[dif_pos hex]
  obtain⟨m,hs⟩:=Classical.choose_spec hex
  have h1:=hm n (max n m) _ (Nat.le_max_left _ _) h
  have h2:=hm m (max n m) _ (Nat.le_max_right _ _) hs
  rw[h1]at h2
  exact h2.symm
noncomputable def lim(cfg:Cfg):CallF:=fun k xs H=>limOpt fun n=>callN cfg n k xs H
theorem lim_iff{cfg:Cfg}{k:Key}{xs:List AV}{H:Heap}{r:ARes×Heap}:lim cfg k xs H=some r↔∃n,callN cfg n k xs H=some r:=
 limOpt_iff fun n m r hnm h=>callN_le cfg hnm _ _ _ _ h
theorem le_lim(cfg:Cfg)(n:Nat):Le (callN cfg n) (lim cfg):=fun k xs H r h=>lim_iff.2 ⟨n,h⟩
noncomputable def runL(cfg:Cfg)(A:AFunc)(k:List AIt)(T:Env)(H:Heap):Option (ARes×Heap):=limOpt fun n=>run (lim cfg) A n k T H
theorem runL_iff{cfg:Cfg}{A:AFunc}{k:List AIt}{T:Env}{H:Heap}{r:ARes×Heap}:runL cfg A k T H=some r↔∃n,run (lim cfg) A n k T H=some r:=
 limOpt_iff fun n m r hnm h=>run_mono (.refl _) A n m k T H r hnm h
section
variable{cfg:Cfg}
theorem callE_lim{g:FuncId}{xs:List AV}{H:Heap}{out:Out}(h:callE (lim cfg) g xs H=some out):∃n,callE (callN cfg n) g xs H=some out:=by
 unfold callE at h
 split at h
 ·rename_i v H' hc;obtain⟨n,hn⟩:=lim_iff.1 hc;exact⟨n,by unfold callE;rw[hn];exact h⟩
 ·rename_i v H' hc;obtain⟨n,hn⟩:=lim_iff.1 hc;exact⟨n,by unfold callE;rw[hn];exact h⟩
 ·cases h
theorem callV_lim{fv:AV}{xs:List AV}{H:Heap}{out:Out}(h:callV (lim cfg) fv xs H=some out):∃n,callV (callN cfg n) fv xs H=some out:=by
 unfold callV at h
 split at h
 ·rename_i g caps
  split at h
  ·rename_i hd
   split at h
   ·rename_i v _ hc
    obtain⟨n,hn⟩:=lim_iff.1 hc
    split at h
    ·rename_i hdd;exact⟨n,by unfold callV;simp only[hd,if_true,hn,hdd];exact h⟩
    ·rename_i hdd
     obtain⟨m,hm⟩:=callE_lim h
     refine⟨max n m,?_⟩
     unfold callV
     simp only[hd,if_true,callN_le cfg (Nat.le_max_left n m) _ _ _ _ hn]
     rw[hdd]
     exact callE_mono (callN_le cfg (Nat.le_max_right n m)) hm
   ·rename_i v _ hc
    obtain⟨n,hn⟩:=lim_iff.1 hc
    exact⟨n,by unfold callV;simp only[hd,if_true,hn];exact h⟩
   ·cases h
  ·rename_i hd
   obtain⟨m,hm⟩:=callE_lim h
   exact⟨m,by unfold callV;simp only[hd,if_false];exact hm⟩
 ·split at h
  ·rename_i v H' hc;obtain⟨n,hn⟩:=lim_iff.1 hc;exact⟨n,by unfold callV;simp only[hn];exact h⟩
  ·rename_i v H' hc;obtain⟨n,hn⟩:=lim_iff.1 hc;exact⟨n,by unfold callV;simp only[hn];exact h⟩
  ·cases h
 ·cases h
theorem callW_lim{fv:AV}{xs:List AV}{H:Heap}{out:Out}(h:callW (lim cfg) fv xs H=some out):∃n,callW (callN cfg n) fv xs H=some out:=by
 unfold callW at h
 split at h
 ·rename_i g caps
  split at h
  ·rename_i hd
   split at h
   ·rename_i v _ hc
    obtain⟨n,hn⟩:=lim_iff.1 hc
    split at h
    ·rename_i hdd;exact⟨n,by unfold callW;simp only[hd,if_true,hn,hdd];exact h⟩
    ·rename_i hdd
     obtain⟨m,hm⟩:=callE_lim h
     refine⟨max n m,?_⟩
     unfold callW
     simp only[hd,if_true,callN_le cfg (Nat.le_max_left n m) _ _ _ _ hn]
     rw[if_neg hdd]
     exact callE_mono (callN_le cfg (Nat.le_max_right n m)) hm
   ·rename_i v _ hc
    obtain⟨n,hn⟩:=lim_iff.1 hc
    exact⟨n,by unfold callW;simp only[hd,if_true,hn];exact h⟩
   ·cases h
  ·rename_i hd
   obtain⟨m,hm⟩:=callE_lim h
   exact⟨m,by unfold callW;simp only[hd,if_false];exact hm⟩
 ·cases h
theorem opStep_lim{op:AOp}{T:Env}{H:Heap}{out:Out}(h:opStep (lim cfg) op T H=some out):∃n,opStep (callN cfg n) op T H=some out:=by
 cases op with
 |call f xs=>exact callV_lim h
 |callM f xs=>exact callW_lim h
 |_=>exact⟨0,h⟩
theorem runOps_lim:∀{ops:List AOper}{T:Env}{H:Heap}{out:OutE},runOps (lim cfg) ops T H=some out→∃n,runOps (callN cfg n) ops T H=some out
 |[],T,H,out,h=>⟨0,h⟩
 |o::ops,T,H,out,h=>by
  simp only[runOps]at h
  split at h
  ·rename_i hw
   split at h
   ·rename_i v H' ho
    obtain⟨n,hn⟩:=opStep_lim ho
    obtain⟨m,hm⟩:=runOps_lim h
    refine⟨max n m,?_⟩
    simp only[runOps,hw,opStep_mono (callN_le cfg (Nat.le_max_left n m)) hn]
    exact runOps_mono (callN_le cfg (Nat.le_max_right n m)) hm
   ·rename_i v H' ho
    obtain⟨n,hn⟩:=opStep_lim ho
    exact⟨n,by simp only[runOps,hw,hn];exact h⟩
   ·cases h
  ·rename_i hw
   obtain⟨m,hm⟩:=runOps_lim h
   exact⟨m,by simp only[runOps,hw];exact hm⟩
  ·cases h
theorem callD_lim{fv:AV}{xs:List AV}{H:Heap}{out:Out}(h:callD (lim cfg) fv xs H=some out):∃n,callD (callN cfg n) fv xs H=some out:=by
 unfold callD at h
 split at h
 ·split at h
  ·rename_i hd
   split at h
   ·rename_i v _ hc;obtain⟨n,hn⟩:=lim_iff.1 hc;exact⟨n,by unfold callD;simp only[hd,if_true,hn];exact h⟩
   ·rename_i v _ hc;obtain⟨n,hn⟩:=lim_iff.1 hc;exact⟨n,by unfold callD;simp only[hd,if_true,hn];exact h⟩
   ·cases h
  ·rename_i hd
   obtain⟨v,h1,rfl⟩:=calm_some h
   obtain⟨n,hn⟩:=callE_lim h1
   exact⟨n,by unfold callD;simp only[hd,if_false,hn];exact calm_val⟩
 ·cases h
theorem callDW_lim{fv:AV}{xs:List AV}{H:Heap}{out:Out}(h:callDW (lim cfg) fv xs H=some out):∃n,callDW (callN cfg n) fv xs H=some out:=by
 unfold callDW at h
 split at h
 ·split at h
  ·rename_i hd
   split at h
   ·rename_i v _ hc;obtain⟨n,hn⟩:=lim_iff.1 hc;exact⟨n,by unfold callDW;simp only[hd,if_true,hn];exact h⟩
   ·rename_i v _ hc;obtain⟨n,hn⟩:=lim_iff.1 hc;exact⟨n,by unfold callDW;simp only[hd,if_true,hn];exact h⟩
   ·cases h
  ·rename_i hd
   obtain⟨v,h1,rfl⟩:=calm_some h
   obtain⟨n,hn⟩:=callE_lim h1
   exact⟨n,by unfold callDW;simp only[hd,if_false,hn];exact calm_val⟩
 ·cases h
theorem opStepD_lim{op:AOp}{T:Env}{H:Heap}{out:Out}(h:opStepD (lim cfg) op T H=some out):∃n,opStepD (callN cfg n) op T H=some out:=by
 cases op with
 |call f xs=>exact callD_lim h
 |callM f xs=>exact callDW_lim h
 |_=>exact⟨0,h⟩
theorem runD_lim:∀{ops:List AOper}{i:Nat}{p:Option (Nat×AV)}{T:Env}{H:Heap}{out:OutE},runD (lim cfg) i ops p T H=some out→∃n,runD (callN cfg n) i ops p T H=some out
 |[],i,none,T,H,out,h=>⟨0,h⟩
 |[],i,some _,T,H,out,h=>⟨0,h⟩
 |o::ops,i,none,T,H,out,h=>by
  simp only[runD]at h
  split at h
  ·rename_i hw
   split at h
   ·rename_i v H' ho
    obtain⟨n,hn⟩:=opStepD_lim ho
    obtain⟨m,hm⟩:=runD_lim h
    refine⟨max n m,?_⟩
    simp only[runD,hw,opStepD_mono (callN_le cfg (Nat.le_max_left n m)) hn]
    exact runD_mono (callN_le cfg (Nat.le_max_right n m)) hm
   ·rename_i v H' ho
    obtain⟨n,hn⟩:=opStepD_lim ho
    obtain⟨m,hm⟩:=runD_lim h
    refine⟨max n m,?_⟩
    simp only[runD,hw,opStepD_mono (callN_le cfg (Nat.le_max_left n m)) hn]
    exact runD_mono (callN_le cfg (Nat.le_max_right n m)) hm
   ·cases h
  ·rename_i hw
   obtain⟨m,hm⟩:=runD_lim h
   exact⟨m,by simp only[runD,hw];exact hm⟩
  ·cases h
 |o::ops,i,some (p,x),T,H,out,h=>by
  simp only[runD]at h
  split at h
  ·rename_i hd
   obtain⟨m,hm⟩:=runD_lim h
   exact⟨m,by simp only[runD,hd,if_true];exact hm⟩
  ·rename_i hd
   split at h
   ·rename_i hw
    split at h
    ·rename_i v H' ho
     obtain⟨n,hn⟩:=opStepD_lim ho
     obtain⟨m,hm⟩:=runD_lim h
     refine⟨max n m,?_⟩
     simp only[runD,hd,if_false,hw,opStepD_mono (callN_le cfg (Nat.le_max_left n m)) hn]
     exact runD_mono (callN_le cfg (Nat.le_max_right n m)) hm
    ·cases h
   ·rename_i hw
    obtain⟨m,hm⟩:=runD_lim h
    exact⟨m,by simp only[runD,hd,if_false,hw];exact hm⟩
   ·cases h
theorem regionA_lim{d:Bool}{ops:List AOper}{T:Env}{H:Heap}{out:OutE}(h:regionA (lim cfg) d ops T H=some out):∃n,regionA (callN cfg n) d ops T H=some out:=by
 cases d with
 |true=>exact runD_lim h
 |false=>exact runOps_lim h
theorem rangeA_lim{fv A T ps a b H r}(h:rangeA (lim cfg) fv A T ps a b H=some r):∃n,rangeA (callN cfg n) fv A T ps a b H=some r:=by
 obtain⟨g,caps,rfl,⟨v,H3,H4,h1,h2,rfl⟩|⟨v,H3,H4,h1,h2,h3,rfl⟩⟩:=rangeA_inv h
 ·obtain⟨n,hn⟩:=callV_lim h1;exact⟨n,rangeA_val hn h2⟩
 ·obtain⟨n,hn⟩:=callV_lim h1;exact⟨n,rangeA_pan hn h2 h3⟩
theorem run_lim {A : AFunc} : ∀ (n : Nat) (k : List AIt) (T : Env) (H : Heap) (r : ARes × Heap), run (lim cfg) A n k T H = some r → ∃ m, run (callN cfg m) A m k T H = some r := by
  intro n
  induction n with
  | zero => intro k T H r e; cases k <;> simp [run] at e
  | succ n ih =>
    intro k T H r e
    -- one step, and what is behind it
    have step : ∀ k' T' H', run (lim cfg) A n k' T' H' = some r → (∀ m, run (callN cfg m) A m k' T' H' = some r → ∃ j, m ≤ j ∧ run (callN cfg j) A (j + 1) k T H = some r) → ∃ m, run (callN cfg m) A m k T H = some r := by
      intro k' T' H' h1 h2
      obtain ⟨m, hm⟩ := ih _ _ _ _ h1
      obtain ⟨j, _, hj⟩ := h2 m hm
      exact ⟨j + 1, run_mono (callN_mono cfg j) A _ _ _ _ _ _ (Nat.le_refl _) hj⟩
    cases k with
    | nil => exact ⟨1, e⟩
    | cons it k =>
      cases it with
      | blk id => exact step _ _ _ e fun m hm => ⟨m, Nat.le_refl _, hm⟩
      | lp b => exact step _ _ _ e fun m hm => ⟨m, Nat.le_refl _, hm⟩
      | beg l =>
        simp only [run] at e
        split at e
        · rename_i r0 hr0
          split at e
          · cases e
          · rename_i hb
            exact step _ _ _ e fun m hm => ⟨m, Nat.le_refl _, by simp only [run, hr0, hb, Bool.false_eq_true, if_false]; exact hm⟩
        · cases e
      | c c0 =>
        cases c0 with
        | skip => exact step _ _ _ e fun m hm => ⟨m, Nat.le_refl _, hm⟩
        | seq a b => exact step _ _ _ e fun m hm => ⟨m, Nat.le_refl _, hm⟩
        | cond x a b =>
          simp only [run] at e
          split at e
          · rename_i t ht
            exact step _ _ _ e fun m hm => ⟨m, Nat.le_refl _, by simp only [run, ht]; exact hm⟩
          · cases e
        | block id b => exact step _ _ _ e fun m hm => ⟨m, Nat.le_refl _, hm⟩
        | loop b => exact step _ _ _ e fun m hm => ⟨m, Nat.le_refl _, hm⟩
        | exit id =>
          simp only [run] at e
          split at e
          · rename_i k' hk'
            exact step _ _ _ e fun m hm => ⟨m, Nat.le_refl _, by simp only [run, hk']; exact hm⟩
          · cases e
        | ret => exact ⟨1, e⟩
        | region ops d =>
          simp only [run] at e
          split at e
          · rename_i T' H' hr
            obtain ⟨q, hq⟩ := regionA_lim hr
            refine step _ _ _ e fun m hm => ⟨max m q, Nat.le_max_left _ _, ?_⟩
            simp only [run, regionA_mono (callN_le cfg (Nat.le_max_right m q)) hq]
            exact run_mono (callN_le cfg (Nat.le_max_left m q)) A _ _ _ _ _ _ (Nat.le_max_left m q) hm
          · rename_i v H' hr
            obtain ⟨q, hq⟩ := regionA_lim hr
            refine ⟨q + 1, ?_⟩
            simp only [run, regionA_mono (callN_mono cfg q) hq]
            exact e
          · cases e
        | range f ps a b =>
          simp only [run] at e
          split at e
          · cases e
          · rename_i hro
            split at e
            · rename_i H' hr
              obtain ⟨q, hq⟩ := rangeA_lim hr
              refine step _ _ _ e fun m hm => ⟨max m q, Nat.le_max_left _ _, ?_⟩
              simp only [run, hro, rangeA_mono (callN_le cfg (Nat.le_max_right m q)) hq]
              exact run_mono (callN_le cfg (Nat.le_max_left m q)) A _ _ _ _ _ _ (Nat.le_max_left m q) hm
            · rename_i v H' hr
              obtain ⟨q, hq⟩ := rangeA_lim hr
              refine ⟨q + 1, ?_⟩
              simp only [run, hro, rangeA_mono (callN_mono cfg q) hq]
              exact e
            · cases e

theorem opt_ext{α:Type}{x y:Option α}(h:∀r,x=some r↔y=some r):x=y:=by
 cases x with
 |some a=>exact((h a).1 rfl).symm
 |none=>
  cases y with
  |none=>rfl
  |some b=>exact(h b).2 rfl
theorem lim_fn{f:FuncId}{A:AFunc}(ht:cfg.tryF f=false)(hx:cfg.ext f=none)(hA:cfg.F f=some A)(xs:List AV)(H:Heap):lim cfg (.fn f) xs H=runL cfg A [.c A.body] (initEnv xs) H:=by
 refine opt_ext fun r=> ?_
 rw[lim_iff,runL_iff]
 constructor
 ·rintro⟨n,h⟩
  cases n with
  |zero=>simp[callN]at h
  |succ n=>
   rw[callN]at h
   simp only[ht,Bool.false_eq_true,if_false,hx,hA]at h
   exact⟨n,run_mono (le_lim cfg n) A _ _ _ _ _ _ (Nat.le_refl _) h⟩
 ·rintro⟨n,h⟩
  obtain⟨m,hm⟩:=run_lim _ _ _ _ _ h
  refine⟨m+1,?_⟩
  rw[callN]
  simp only[ht,Bool.false_eq_true,if_false,hx,hA]
  exact hm
theorem lim_ext{f:FuncId}{g:List AV→Heap→Option (AV×Heap)}(ht:cfg.tryF f=false)(hx:cfg.ext f=some g)(xs:List AV)(H:Heap):lim cfg (.fn f) xs H=(g xs H).map fun r=>(.ret r.1,r.2):=by
 refine opt_ext fun r=> ?_
 rw[lim_iff]
 constructor
 ·rintro⟨n,h⟩
  cases n with
  |zero=>simp[callN]at h
  |succ n=>
   rw[callN]at h
   simp only[ht,Bool.false_eq_true,if_false,hx]at h
   cases hg:g xs H with
   |none=>rw[hg]at h;cases h
   |some x=>rw[hg]at h;simpa using h
 ·intro h
  refine⟨1,?_⟩
  rw[callN]
  simp only[ht,Bool.false_eq_true,if_false,hx]
  cases hg:g xs H with
  |none=>rw[hg]at h;cases h
  |some x=>rw[hg]at h;simpa using h
theorem lim_of{n:Nat}{k:Key}{xs:List AV}{H:Heap}{r:ARes×Heap}(h:callN cfg n k xs H=some r):lim cfg k xs H=some r:=lim_iff.2 ⟨n,h⟩
variable{A:AFunc}{k:List AIt}{T:Env}{H:Heap}
theorem runL_step{it:AIt}{k':List AIt}{T':Env}{H':Heap}(h:∀n,run (lim cfg) A (n+1) (it::k) T H=run (lim cfg) A n k' T' H'):runL cfg A (it::k) T H=runL cfg A k' T' H':=by
 refine opt_ext fun r=> ?_
 rw[runL_iff,runL_iff]
 constructor
 ·rintro⟨n,e⟩
  cases n with
  |zero=>simp[run]at e
  |succ n=>exact⟨n,by rw[←h];exact e⟩
 ·rintro⟨n,e⟩
  exact⟨n+1,by rw[h];exact e⟩
theorem runL_now{ks:List AIt}{x:Option (ARes×Heap)}(h:∀n,run (lim cfg) A (n+1) ks T H=x):runL cfg A ks T H=x:=by
 refine opt_ext fun r=> ?_
 rw[runL_iff]
 constructor
 ·rintro⟨n,e⟩
  cases n with
  |zero=>cases ks<;>simp[run]at e
  |succ n=>rw[h]at e;exact e
 ·intro e;exact⟨1,by rw[h];exact e⟩
theorem runL_nil:runL cfg A [] T H=retA A T H:=runL_now fun n=>rfl
theorem runL_blk{id:Nat}:runL cfg A (.blk id::k) T H=runL cfg A k T H:=runL_step fun n=>rfl
theorem runL_lp{b:ACode}:runL cfg A (.lp b::k) T H=runL cfg A (.c b::.lp b::k) T H:=runL_step fun n=>rfl
theorem runL_skip:runL cfg A (.c .skip::k) T H=runL cfg A k T H:=runL_step fun n=>rfl
theorem runL_seq{a b:ACode}:runL cfg A (.c (.seq a b)::k) T H=runL cfg A (.c a::.c b::k) T H:=runL_step fun n=>rfl
theorem runL_block{id:Nat}{b:ACode}:runL cfg A (.c (.block id b)::k) T H=runL cfg A (.c b::.blk id::k) T H:=runL_step fun n=>rfl
theorem runL_loop{b:ACode}:runL cfg A (.c (.loop b)::k) T H=runL cfg A (.lp b::k) T H:=by
 rw[runL_lp];exact runL_step fun n=>rfl
theorem runL_ret:runL cfg A (.c .ret::k) T H=if A.round then none else retA A T H:=runL_now fun n=>rfl
theorem runL_cond{x:Opd}{a b:ACode}:runL cfg A (.c (.cond x a b)::k) T H=match ev T x with|.bool t=>runL cfg A (.c (if t then a else b)::k) T H|_=>none:=by
 cases hx:ev T x with
 |bool t=>exact runL_step fun n=>by simp only[run,hx]
 |_=>exact runL_now fun n=>by simp only[run,hx]
theorem runL_exit{id:Nat}:runL cfg A (.c (.exit id)::k) T H=match exitA id k with|some k'=>runL cfg A k' T H|none=>none:=by
 cases hx:exitA id k with
 |some k'=>exact runL_step fun n=>by simp only[run,hx]
 |none=>exact runL_now fun n=>by simp only[run,hx]
theorem runL_region{ops:List AOper}{d:Bool}:runL cfg A (.c (.region ops d)::k) T H=match regionA (lim cfg) d ops T H with|some (.env T' H')=>runL cfg A k T' H'|some (.pan v H')=>some (.pan v,H')|none=>none:=by
 cases hx:regionA (lim cfg) d ops T H with
 |none=>exact runL_now fun n=>by simp only[run,hx]
 |some o=>
  cases o with
  |env T' H'=>exact runL_step fun n=>by simp only[run,hx]
  |pan v H'=>exact runL_now fun n=>by simp only[run,hx]
end
theorem callV_func{call:CallF}{g:FuncId}{caps args:List AV}{H:Heap}:callV call (.func g caps) args H=bif(args.all isData&&caps.all data0)then(match call (.fn g) (args++caps) Heap.nil with
 |some (.ret v,H1)=>match dataOut H1 v with
  |some u=>some (.val u H)
  |none=>callE call g (args++caps) H
 |some (.pan v,_)=>bif isData v then some (.pan v H)else none
 |none=>none)else callE call g (args++caps) H:=by
 simp only[callV]
 cases(args.all isData&&caps.all data0)with
 |false=>rfl
 |true=>
  simp only[if_true,cond_true]
  cases call (.fn g) (args++caps) Heap.nil with
  |none=>rfl
  |some r=>
   obtain⟨r1,r2⟩:=r
   cases r1 with
   |ret v=>rfl
   |pan v=>simp only;cases isData v<;>rfl
theorem callD_func{call:CallF}{g:FuncId}{caps args:List AV}{H:Heap}:callD call (.func g caps) args H=bif(args.all isData&&caps.all data0)then(match call (.fn g) (args++caps) Heap.nil with
 |some (.ret v,H1)=>match dataOut H1 v with
  |some u=>some (.val u H)
  |none=>none
 |some (.pan v,_)=>bif isData v then some (.pan v H)else none
 |none=>none)else calm H (callE call g (args++caps) H):=by
 simp only[callD]
 cases(args.all isData&&caps.all data0)with
 |false=>rfl
 |true=>
  simp only[if_true,cond_true]
  cases call (.fn g) (args++caps) Heap.nil with
  |none=>rfl
  |some r=>
   obtain⟨r1,r2⟩:=r
   cases r1 with
   |ret v=>rfl
   |pan v=>simp only;cases isData v<;>rfl
theorem dataOut_of{H:Heap}{v w:AV}(h:shutA v=w∧isData w=true):dataOut H v=some w:=by
 unfold dataOut
 rw[h.1,if_pos h.2]
end Go.Aa
set_option linter.unusedVariables false
set_option linter.unusedSimpArgs false
namespace Go.Aa
def worth(r:Nat):Nat:=if r<4503599627370496 then r else(4503599627370496+r%4503599627370496)*2^(r/4503599627370496-1)
inductive Reads(b:Nat):Prop
 |number(m k:Nat)(h:FloatKind.f64.format.read b=.number (decide (b/9223372036854775808%2=1)) m (-1074+(k:Int)))(hw:m*2^k=worth (b%9223372036854775808))(hlt:b%9223372036854775808<9218868437227405312)
 |inf(h:FloatKind.f64.format.read b=.infinity (decide (b/9223372036854775808%2=1)))(he:b%9223372036854775808=9218868437227405312)
 |nan(s:Bool)(x:Nat)(h:FloatKind.f64.format.read b=.nan s x)(hgt:9218868437227405312<b%9223372036854775808)
theorem reads(b:Nat):Reads b:=by
 have e1:FloatKind.f64.format.signWeight=9223372036854775808:=rfl
 have e2:FloatKind.f64.format.binade=4503599627370496:=rfl
 have e3:FloatKind.f64.format.infRung=9218868437227405312:=rfl
 have e4:FloatKind.f64.format.leastPlace= -1074:=rfl
 have es:(b/9223372036854775808%2==1)=decide (b/9223372036854775808%2=1):=by
  by_cases h:b/9223372036854775808%2=1<;>simp[h]
 by_cases h1:b%9223372036854775808<4503599627370496
 ·refine .number (b%9223372036854775808) 0 ?_ ?_ (by omega)
  ·unfold Ieee.Format.read
   simp only[e1,e2,e3,e4,es]
   rw[if_pos h1]
   simp
  ·unfold worth;rw[if_pos h1];simp
 ·by_cases h2:b%9223372036854775808<9218868437227405312
  ·refine .number (4503599627370496+b%9223372036854775808%4503599627370496) (b%9223372036854775808/4503599627370496-1) ?_ ?_ h2
   ·unfold Ieee.Format.read
    simp only[e1,e2,e3,e4,es]
    rw[if_neg h1,if_pos h2]
   ·unfold worth;rw[if_neg h1]
  ·by_cases h3:b%9223372036854775808=9218868437227405312
   ·refine .inf ?_ h3
    unfold Ieee.Format.read
    simp only[e1,e2,e3,e4,es]
    rw[if_neg h1,if_neg h2,if_pos h3]
   ·refine .nan (decide (b/9223372036854775808%2=1)) (b%9223372036854775808-9218868437227405312) ?_ (by omega)
    unfold Ieee.Format.read
    simp only[e1,e2,e3,e4,es]
    rw[if_neg h1,if_neg h2,if_neg h3]
end Go.Aa
set_option linter.unusedVariables false
set_option linter.unusedSimpArgs false
namespace Go.Aa
inductive Sc where
 |ret(v:AV)
 |dec(b:Bool)
 |op(v:AV)(H:Heap)
 |cut
theorem upd_self{T:Env}{g:Nat}{v:AV}(h:T g=v):upd T g v=T:=by
 funext i
 rw[upd_eq]
 split
 ·rename_i e;rw[e,h]
 ·rfl
end Go.Aa
set_option linter.unusedVariables false
set_option linter.unusedSimpArgs false
namespace Go.Aa
def cl(T:Env)(x:Opd):Opd:=.c (ev T x)
def clOp(T:Env):AOp→AOp
 |.mov x=>.mov (cl T x)
 |.pick c a b=>.pick (cl T c) (cl T a) (cl T b)
 |.box x=>.box (cl T x)
 |.build z ps=>.build z (ps.map fun p=>(p.1,p.2.1,cl T p.2.2))
 |.bslice es xs=>.bslice es (xs.map (cl T))
 |.bsliceM es xs=>.bsliceM es (xs.map (cl T))
 |.makeM es b z x=>.makeM es b z (cl T x)
 |.clearM z x=>.clearM z (cl T x)
 |.callM f az=>.callM (cl T f) (az.map (cl T))
 |.appendM es b x y=>.appendM es b (cl T x) (cl T y)
 |.load a n x=>.load a n (cl T x)
 |.store n x v=>.store n (cl T x) (cl T v)
 |.nilchk x=>.nilchk (cl T x)
 |.bin o x y=>.bin o (cl T x) (cl T y)
 |.eqst g ks x y=>.eqst g ks (cl T x) (cl T y)
 |.eqb g x y=>.eqb g (cl T x) (cl T y)
 |.eqnil g k x=>.eqnil g k (cl T x)
 |.un o x=>.un o (cl T x)
 |.conv c x=>.conv c (cl T x)
 |.mkiface t x=>.mkiface t (cl T x)
 |.mkfunc f caps=>.mkfunc f (caps.map (cl T))
 |.slice es x lo hi mx=>.slice es (cl T x) (lo.map (cl T)) (hi.map (cl T)) (mx.map (cl T))
 |.fld a b x=>.fld a b (cl T x)
 |.fldv g a b x=>.fldv g a b (cl T x)
 |.idx es x i=>.idx es (cl T x) (cl T i)
 |.idxs x i=>.idxs (cl T x) (cl T i)
 |.extract x i=>.extract (cl T x) i
 |.call f az=>.call (cl T f) (az.map (cl T))
 |.len s x=>.len s (cl T x)
 |.append es b x y=>.append es b (cl T x) (cl T y)
 |.mm m x y=>.mm m (cl T x) (cl T y)
 |.panic x=>.panic (cl T x)
theorem ev_cl(T T':Env)(x:Opd):ev T' (cl T x)=ev T x:=rfl
theorem evs_cl(T T':Env)(xs:List Opd):(xs.map (cl T)).map (ev T')=xs.map (ev T):=by
 rw[List.map_map];exact List.map_congr_left fun a _=>rfl
theorem evo_cl(T T':Env)(x:Option Opd):(x.map (cl T)).map (ev T')=x.map (ev T):=by cases x<;>rfl
theorem cl_pure(T T':Env)(op:AOp):pureOp (clOp T op) T'=pureOp op T:=by
 cases op with
 |build z ps=>simp only[clOp,pureOp,List.map_map,Function.comp_def,ev_cl]
 |bslice es xs=>simp only[clOp,pureOp,List.map_map,Function.comp_def,ev_cl]
 |mkfunc f caps=>simp only[clOp,pureOp,evs_cl]
 |slice es x lo hi mx=>simp only[clOp,pureOp,evo_cl,ev_cl]
 |_=>rfl
theorem cl_step(call:CallF)(T T':Env)(op:AOp)(H:Heap):opStep call (clOp T op) T' H=opStep call op T H:=by
 cases op with
 |build z ps=>exact congrArg (fun x=>match x with|some v=>some (Out.val v H)|none=>none) (cl_pure T T' (.build z ps))
 |bslice es xs=>exact congrArg (fun x=>match x with|some v=>some (Out.val v H)|none=>none) (cl_pure T T' (.bslice es xs))
 |mkfunc f caps=>exact congrArg (fun x=>match x with|some v=>some (Out.val v H)|none=>none) (cl_pure T T' (.mkfunc f caps))
 |slice es x lo hi mx=>exact congrArg (fun x=>match x with|some v=>some (Out.val v H)|none=>none) (cl_pure T T' (.slice es x lo hi mx))
 |call f az=>
  simp only[clOp,opStep,ev_cl,List.map_map]
  congr 1
 |callM f az=>
  simp only[clOp,opStep,ev_cl,List.map_map]
  congr 1
 |bsliceM es xs=>
  simp only[clOp,opStep,List.map_map]
  rfl
 |_=>rfl
theorem cl_stepD(call:CallF)(T T':Env)(op:AOp)(H:Heap):opStepD call (clOp T op) T' H=opStepD call op T H:=by
 cases op with
 |call f az=>
  simp only[clOp,opStepD,ev_cl,List.map_map]
  congr 1
 |callM f az=>
  simp only[clOp,opStepD,ev_cl,List.map_map]
  congr 1
 |bsliceM es xs=>exact cl_step call T T' (.bsliceM es xs) H
 |mov x=>exact cl_step call T T' (.mov x) H
 |pick a b c=>exact cl_step call T T' (.pick a b c) H
 |box x=>exact cl_step call T T' (.box x) H
 |build z ps=>exact cl_step call T T' (.build z ps) H
 |bslice es xs=>exact cl_step call T T' (.bslice es xs) H
 |mkfunc f caps=>exact cl_step call T T' (.mkfunc f caps) H
 |slice es x lo hi mx=>exact cl_step call T T' (.slice es x lo hi mx) H
 |_=>rfl
def binNo:BinOp→Nat
 |.add=>1|.sub=>2|.mul=>3|.quo=>4|.rem=>5|.eql=>6|.neq=>7|.lss=>8|.leq=>9|.gtr=>10|.geq=>11|_=>12
def tag:AOp→Nat
 |.mov _=>1|.pick .. =>2|.box _=>3|.build .. =>4|.bslice .. =>5|.load .. =>6|.store .. =>7|.nilchk _=>8|.eqst .. =>9|.eqb .. =>10|.eqnil .. =>11
 |.un .. =>12|.conv .. =>13|.mkiface .. =>14|.mkfunc .. =>15|.slice .. =>16|.fld .. =>17|.fldv .. =>18|.idx .. =>19|.idxs .. =>20|.extract .. =>21
 |.call .. =>22|.len .. =>23|.append .. =>24|.mm .. =>25|.panic _=>26
 |.bsliceM .. =>27|.appendM .. =>28|.makeM .. =>29|.clearM .. =>30|.callM .. =>31
 |.bin o _ _=>100+binNo o
def isMust(o:AOp):Bool:=match o with
 |.call .. |.idx .. |.idxs .. |.slice .. |.append .. |.panic _|.appendM .. |.makeM .. |.clearM .. |.callM .. =>true
 |_=>false
def isCall(o:AOp):Bool:=match o with
 |.call .. =>true
 |.callM .. =>true
 |_=>false
theorem stepD_of{call:CallF}{o:AOp}(h:isCall o=false)(T:Env)(H:Heap):opStepD call o T H=opStep call o T H:=by
 cases o<;>first|rfl|cases h
def Has(T:Env):List (Nat×AV)→Prop
 |[]=>True
 |(i,v)::r=>T i=v∧Has T r
def updL(T:Env):List (Nat×AV)→Env
 |[]=>T
 |(i,v)::r=>upd (updL T r) i v
theorem updL_self{T:Env}:∀{vs:List (Nat×AV)},Has T vs→updL T vs=T
 |[],_=>rfl
 |(i,v)::r,h=>by rw[updL,updL_self h.2];exact upd_self h.1
theorem has_of{T:Env}:∀{vs:List (Nat×AV)},vs.map (fun p=>T p.1)=vs.map (fun p=>p.2)→Has T vs
 |[],_=>trivial
 |(i,v)::r,h=>by
  simp only[List.map_cons,List.cons.injEq]at h
  exact⟨h.1,has_of h.2⟩
inductive ScrQ(cfg:Cfg)(A:AFunc)(R:ARes×Heap→Prop)where
 |fin(r:ARes×Heap)(h:R r)
 |dec(b p:Bool)(h:p=b)(s:ScrQ cfg A R)
 |op(o:AOp)(v:AV)(h:∀T H,opStepD (lim cfg) o T H=some (.val v H))(s:ScrQ cfg A R)
 |eff(o:AOp)(H:Heap)(v:AV)(H':Heap)(h:∀T,opStep (lim cfg) o T H=some (.val v H'))(s:ScrQ cfg A R)
 |pan(o:AOp)(H:Heap)(v:AV)(H':Heap)(h:∀T,opStepD (lim cfg) o T H=some (.pan v H'))(hq:R (.pan v,H'))
 |panE(o:AOp)(H:Heap)(v:AV)(H':Heap)(h:∀T,opStep (lim cfg) o T H=some (.pan v H'))(hq:R (.pan v,H'))
 |cutQ(k:List AIt)(vs:List (Nat×AV))(H:Heap)(h:∀T,Has T vs→∃r,runL cfg A k T H=some r∧R r)
 |split(p:Prop)(s1:p→ScrQ cfg A R)(s2:¬p→ScrQ cfg A R)
 |effS(o:AOp)(H:Heap)(v:AV)(h:∀T,opStepD (lim cfg) o T H=some (.val v H))(s:ScrQ cfg A R)
abbrev Scr(cfg:Cfg)(A:AFunc)(r:ARes×Heap):=ScrQ cfg A (fun x=>x=r)
inductive Chk where
 |av(x:AV)(c:Chk)
 |op(o:AOp)(c:Chk)
 |eff(o:AOp)(H:Heap)(c:Chk)
 |pan(o:AOp)(H:Heap)
 |cut(k:List AIt)(vs:List AV)(H:Heap)
 |res(r:Option (ARes×Heap))
 |want(o:AOp)(H:Heap)
 |wantB(x:AV)
 |stuck
 |split(p:Prop)(f:p→Chk)(g:¬p→Chk)
section
variable{cfg:Cfg}{A:AFunc}{R:ARes×Heap→Prop}
def claims:ScrQ cfg A R→Chk
 |.fin r h=>.res (some r)
 |.dec b p h s=>.av (.bool p) (claims s)
 |.op o v h s=>.op o (claims s)
 |.eff o H v H' h s=>.eff o H (claims s)
 |.effS o H v h s=>.eff o H (claims s)
 |.pan o H v H' h hq=>.pan o H
 |.panE o H v H' h hq=>.pan o H
 |.cutQ k vs H h=>.cut k (vs.map fun p=>p.2) H
 |.split p s1 s2=>.split p (fun h=>claims (s1 h)) (fun h=>claims (s2 h))
theorem claims_want(s:ScrQ cfg A R){o:AOp}{H:Heap}:claims s≠.want o H:=by cases s<;>simp[claims]
theorem claims_wantB(s:ScrQ cfg A R){x:AV}:claims s≠.wantB x:=by cases s<;>simp[claims]
theorem claims_stuck(s:ScrQ cfg A R):claims s≠.stuck:=by cases s<;>simp[claims]
def uns:ScrQ cfg A R→(ScrQ cfg A R→Chk)→Chk
 |.split p s1 s2,K=>.split p (fun h=>uns (s1 h) K) (fun h=>uns (s2 h) K)
 |.fin r h,K=>K (.fin r h)
 |.dec b p h s,K=>K (.dec b p h s)
 |.op o v h s,K=>K (.op o v h s)
 |.eff o H v H' h s,K=>K (.eff o H v H' h s)
 |.effS o H v h s,K=>K (.effS o H v h s)
 |.pan o H v H' h hq,K=>K (.pan o H v H' h hq)
 |.panE o H v H' h hq,K=>K (.panE o H v H' h hq)
 |.cutQ k vs H h,K=>K (.cutQ k vs H h)
theorem uns_sound{K:ScrQ cfg A R→Chk}:∀{s:ScrQ cfg A R},uns s K=claims s→∃s',K s'=claims s':=by
 intro s
 induction s with
 |split p s1 s2 h1 h2=>
  intro h
  simp only[uns,claims,Chk.split.injEq,heq_eq_eq,true_and]at h
  by_cases hp:p
  ·exact h1 hp (congrFun h.1 hp)
  ·exact h2 hp (congrFun h.2 hp)
 |_=>exact fun h=>⟨_,h⟩
noncomputable def auto(cfg:Cfg)(K:Env→Heap→Chk)(d:Option Nat)(o:AOp)(T:Env)(H:Heap):Chk:=
 bif isMust o then .want (clOp T o) H else match opStepD (lim cfg) o T H with
 |some (.val v H')=>K (setD T d v) H'
 |_=>.want (clOp T o) H
noncomputable def actOp(draw:Bool)(last:Heap→Bool)(K:ScrQ cfg A R→Env→Heap→Chk)(s:ScrQ cfg A R)(d:Option Nat)(o:AOp)(T:Env)(H:Heap):Chk:=
 match s with
 |.op o' v h s'=>bif tag o'==tag o then .op (clOp T o) (uns s' fun s'=>K s' (setD T d v) H)else auto cfg (K s) d o T H
 |.eff o' H0 v H' h s'=>bif tag o'==tag o then(bif draw&&isCall o then .stuck else .eff (clOp T o) H (uns s' fun s'=>K s' (setD T d v) H'))else auto cfg (K s) d o T H
 |.effS o' H0 v h s'=>bif tag o'==tag o then .eff (clOp T o) H (uns s' fun s'=>K s' (setD T d v) H)else auto cfg (K s) d o T H
 |.pan o' H0 v H' h hq=>bif tag o'==tag o then(bif draw&& !last H' then .stuck else .pan (clOp T o) H)else auto cfg (K s) d o T H
 |.panE o' H0 v H' h hq=>bif tag o'==tag o then(bif draw then .stuck else .pan (clOp T o) H)else auto cfg (K s) d o T H
 |s=>auto cfg (K s) d o T H
def quietVal(o:AOp)(T:Env)(H:Heap):Option AV:=match o with
 |.mov x=>some (ev T x)
 |.idx es x i=>idxA es (ev T x) (ev T i)
 |.idxs x i=>idxsA (ev T x) (ev T i)
 |.fld a b x=>fldA a b (ev T x)
 |.len s x=>lenA s (ev T x)
 |.bin b x y=>binA b (ev T x) (ev T y)
 |.load a n x=>loadA a n H (ev T x)
 |_=>none
theorem quiet_step{o:AOp}{T:Env}{H:Heap}{v:AV}(h:quietVal o T H=some v)(call:CallF):opStepD call o T H=some (.val v H):=by
 cases o<;>simp only[quietVal,reduceCtorEq]at h<;>simp only[opStepD,opStep,pureOp,h]
def quiet(p:Nat):List AOper→Env→Heap→Bool
 |[],_,_=>true
 |o::r,T,H=>bif o.deps.contains p then quiet p r T H else match o.guard with
  |some _=>false
  |none=>match quietVal o.op T H with
   |some v=>quiet p r (setD T o.dst v) H
   |none=>false
theorem runD_quiet{call:CallF}{p:Nat}{v:AV}:∀{ops:List AOper}(i:Nat){T:Env}{H:Heap},quiet p ops T H=true→runD call i ops (some (p,v)) T H=some (.pan v H)
 |[],_,_,_,_=>rfl
 |o::ops,i,T,H,h=>by
  unfold quiet at h
  cases hd:o.deps.contains p with
  |true=>
   rw[hd]at h
   simp only[runD,hd,if_true]
   exact runD_quiet _ h
  |false=>
   rw[hd]at h
   simp only[cond_false]at h
   split at h
   ·cases h
   ·rename_i hg
    split at h
    ·rename_i u hu
     have hw:wantedA o T=some true:=by unfold wantedA;rw[hg]
     simp only[runD,hd,hw,quiet_step hu,Bool.false_eq_true,if_false]
     exact runD_quiet _ h
    ·cases h
def lastB(i:Nat)(ops:List AOper)(T:Env)(H:Heap):Bool:=(ops.all fun o=>o.deps.contains i)||quiet i ops T H
noncomputable def actOps(draw:Bool)(Q:ScrQ cfg A R→Env→Heap→Chk):Nat→List Nat→List AOper→ScrQ cfg A R→Env→Heap→Chk
 |_,_,[],s,T,H=>Q s T H
 |i,kn,o::ops,s,T,H=>
  match o.guard with
  |none=>actOp draw (fun H'=>lastB i ops T H') (fun s T H=>actOps draw Q (i+1) kn ops s T H) s o.dst o.op T H
  |some (g,w)=>
   match T g with
   |.tuple []=>actOps draw Q (i+1) kn ops s (setD T o.dst (.tuple [])) H
   |.bool p'=>
    bif kn.contains g then bif p'==w then actOp draw (fun H'=>lastB i ops T H') (fun s T H=>actOps draw Q (i+1) kn ops s T H) s o.dst o.op T H else actOps draw Q (i+1) kn ops s (setD T o.dst (.tuple [])) H
    else
    match s with
    |.dec b p h s=>.av (.bool p') (uns s fun s=>bif b==w then actOp draw (fun H'=>lastB i ops T H') (fun s T H=>actOps draw Q (i+1) (g::kn) ops s T H) s o.dst o.op (upd T g (.bool b)) H
      else actOps draw Q (i+1) (g::kn) ops s (setD (upd T g (.bool b)) o.dst (.tuple [])) H)
    |_=>.wantB (.bool p')
   |_=>.stuck
noncomputable def acts:Nat→List AIt→ScrQ cfg A R→Env→Heap→Chk
 |0,_,_,_,_=>.stuck
 |n+1,k,s,T,H=>
  match k with
  |[]=>match s with
   |.fin _ _=>.res (retA A T H)
   |_=>.stuck
  |.blk _::k=>acts n k s T H
  |.lp b::k=>match s with
   |.cutQ k' vs H' h=>.cut (.lp b::k) (vs.map fun p=>T p.1) H
   |s=>acts n (.c b::.lp b::k) s T H
  |.beg _::k=>.stuck
  |.c c::k=>
   match c with
   |.skip=>acts n k s T H
   |.seq a b=>acts n (.c a::.c b::k) s T H
   |.cond x a b=>match s with
    |.dec t p h s=>.av (ev T x) (uns s fun s=>acts n (.c (bif t then a else b)::k) s T H)
    |_=>.wantB (ev T x)
   |.block id b=>acts n (.c b::.blk id::k) s T H
   |.loop b=>acts n (.lp b::k) s T H
   |.exit id=>match exitA id k with
    |some k'=>acts n k' s T H
    |none=>.stuck
   |.ret=>match s with
    |.fin _ _=>bif A.round then .stuck else .res (retA A T H)
    |_=>.stuck
   |.region ops draw=>bif draw then actOps true (fun s T H=>acts n k s T H) 0 [] (resv H.boxes.length ops) s T (roomH H (resvCells ops))else actOps false (fun s T H=>acts n k s T H) 0 [] ops s T H
   |.range f ps a b=>match s with
    |.cutQ k' vs H' h=>.cut (.c (.range f ps a b)::k) (vs.map fun p=>T p.1) H
    |_=>.stuck
theorem auto_sound{K:Env→Heap→Chk}{s:ScrQ cfg A R}{d:Option Nat}{o:AOp}{T:Env}{H:Heap}(h:auto cfg K d o T H=claims s):∃v H',opStepD (lim cfg) o T H=some (.val v H')∧K (setD T d v) H'=claims s:=by
 unfold auto at h
 cases hm:isMust o with
 |true=>rw[hm]at h;exact absurd h.symm (claims_want s)
 |false=>
  rw[hm]at h
  simp only[cond_false]at h
  split at h
  ·rename_i v H' ho;exact⟨v,H',ho,h⟩
  ·exact absurd h.symm (claims_want s)
def OneA(cfg:Cfg)(A:AFunc)(R:ARes×Heap→Prop)(draw:Bool)(last:Heap→Bool)(K:ScrQ cfg A R→Env→Heap→Chk)(d:Option Nat)(o:AOp)(T:Env)(H:Heap):Prop:=
 (∃v H' s',opStep (lim cfg) o T H=some (.val v H')∧(draw=true→opStepD (lim cfg) o T H=some (.val v H'))∧K s' (setD T d v) H'=claims s')∨
 (∃v H',opStep (lim cfg) o T H=some (.pan v H')∧(draw=true→opStepD (lim cfg) o T H=some (.pan v H')∧last H'=true)∧R (.pan v,H'))
theorem actOp_sound{draw:Bool}{last:Heap→Bool}{K:ScrQ cfg A R→Env→Heap→Chk}{s:ScrQ cfg A R}{d:Option Nat}{o:AOp}{T:Env}{H:Heap}(h:actOp draw last K s d o T H=claims s):OneA cfg A R draw last K d o T H:=by
 have au:auto cfg (K s) d o T H=claims s→OneA cfg A R draw last K d o T H:=fun h=>by
  obtain⟨v,H',h1,h2⟩:=auto_sound h
  exact .inl ⟨v,H',s,stepD_step h1,fun _=>h1,h2⟩
 unfold actOp at h
 split at h
 ·rename_i o' v hp s'
  cases ht:tag o'==tag o with
  |false=>rw[ht]at h;exact au h
  |true=>
   rw[ht]at h
   simp only[cond_true,claims,Chk.op.injEq]at h
   have e:opStepD (lim cfg) o T H=some (.val v H):=by
    have hh:=hp T H
    rw[←hh,←h.1,cl_stepD]
   obtain⟨s2,h2⟩:=uns_sound h.2
   exact .inl ⟨v,H,s2,stepD_step e,fun _=>e,h2⟩
 ·rename_i o' H0 v H' hp s'
  cases ht:tag o'==tag o with
  |false=>rw[ht]at h;exact au h
  |true=>
   rw[ht]at h
   simp only[cond_true]at h
   cases hd:draw&&isCall o with
   |true=>rw[hd]at h;exact absurd h.symm (claims_stuck _)
   |false=>
    rw[hd]at h
    simp only[cond_false,claims,Chk.eff.injEq]at h
    have e:opStep (lim cfg) o T H=some (.val v H'):=by
     have hh:=hp T
     rw[←hh,←h.1,h.2.1,cl_step]
    obtain⟨s2,h2⟩:=uns_sound h.2.2
    refine .inl ⟨v,H',s2,e,fun hdr=> ?_,h2⟩
    rw[hdr,Bool.true_and]at hd
    rw[stepD_of hd];exact e
 ·rename_i o' H0 v hp s'
  cases ht:tag o'==tag o with
  |false=>rw[ht]at h;exact au h
  |true=>
   rw[ht]at h
   simp only[cond_true,claims,Chk.eff.injEq]at h
   have e:opStepD (lim cfg) o T H=some (.val v H):=by
    have hh:=hp T
    rw[←h.1,←h.2.1,cl_stepD]at hh
    exact hh
   obtain⟨s2,h2⟩:=uns_sound h.2.2
   exact .inl ⟨v,H,s2,stepD_step e,fun _=>e,h2⟩
 ·rename_i o' H0 v H' hp hq
  cases ht:tag o'==tag o with
  |false=>rw[ht]at h;exact au h
  |true=>
   rw[ht]at h
   simp only[cond_true]at h
   cases hd:draw&& !last H' with
   |true=>rw[hd]at h;exact absurd h.symm (claims_stuck _)
   |false=>
    rw[hd]at h
    simp only[cond_false,claims,Chk.pan.injEq]at h
    obtain⟨hc,hc2⟩:=h
    have e:opStepD (lim cfg) o T H=some (.pan v H'):=by
     have hh:=hp T
     rw[←hh,←hc,hc2,cl_stepD]
    refine .inr ⟨v,H',stepD_step e,fun hdr=>⟨e,?_⟩,hq⟩
    rw[hdr]at hd;simpa using hd
 ·rename_i o' H0 v H' hp hq
  cases ht:tag o'==tag o with
  |false=>rw[ht]at h;exact au h
  |true=>
   rw[ht]at h
   simp only[cond_true]at h
   cases draw with
   |true=>exact absurd h.symm (claims_stuck _)
   |false=>
    simp only[cond_false,claims,Chk.pan.injEq]at h
    obtain⟨hc,hc2⟩:=h
    have e:opStep (lim cfg) o T H=some (.pan v H'):=by
     have hh:=hp T
     rw[←hh,←hc,hc2,cl_step]
    exact .inr ⟨v,H',e,(fun hdr=>by cases hdr),hq⟩
 ·exact au h
noncomputable def regI(cfg:Cfg)(draw:Bool)(i:Nat)(ops:List AOper)(T:Env)(H:Heap):Option OutE:=if draw then runD (lim cfg) i ops none T H else runOps (lim cfg) ops T H
def Comes(cfg:Cfg)(A:AFunc)(R:ARes×Heap→Prop)(draw:Bool)(Q:ScrQ cfg A R→Env→Heap→Chk)(i:Nat)(ops:List AOper)(T:Env)(H:Heap):Prop:=
 (∃s' T' H',Q s' T' H'=claims s'∧regI cfg draw i ops T H=some (.env T' H'))∨(∃v H',regI cfg draw i ops T H=some (.pan v H')∧R (.pan v,H'))
theorem runD_last0{call:CallF}{p:Nat}{v:AV}:∀{ops:List AOper}(i:Nat){T:Env}{H:Heap},(ops.all fun o=>o.deps.contains p)=true→runD call i ops (some (p,v)) T H=some (.pan v H)
 |[],_,_,_,_=>rfl
 |o::ops,i,T,H,h=>by
  rw[List.all_cons,Bool.and_eq_true]at h
  simp only[runD,h.1,if_true]
  exact runD_last0 _ h.2
theorem runD_last{call:CallF}{i:Nat}{v:AV}{ops:List AOper}{T:Env}{H:Heap}(h:lastB i ops T H=true):runD call (i+1) ops (some (i,v)) T H=some (.pan v H):=by
 unfold lastB at h
 rw[Bool.or_eq_true]at h
 rcases h with h|h
 ·exact runD_last0 _ h
 ·exact runD_quiet _ h
theorem actOps_sound{draw:Bool}{Q:ScrQ cfg A R→Env→Heap→Chk}:∀{ops:List AOper}{i:Nat}{kn:List Nat}{s:ScrQ cfg A R}{T:Env}{H:Heap},actOps draw Q i kn ops s T H=claims s→Comes cfg A R draw Q i ops T H
 |[],i,kn,s,T,H,h=>.inl ⟨s,T,H,h,by cases draw<;>rfl⟩
 |o::ops,i,kn,s,T,H,h=>by
  have key:∀kn s,wantedA o T=some true→actOp draw (fun H'=>lastB i ops T H') (fun s T H=>actOps draw Q (i+1) kn ops s T H) s o.dst o.op T H=claims s→Comes cfg A R draw Q i (o::ops) T H:=by
   intro kn s hw h
   rcases actOp_sound h with⟨v,H',s',h1,h2,h3⟩|⟨v,H',h1,h2,h3⟩
   ·rcases actOps_sound h3 with⟨s2,T2,H2,q,e⟩|⟨v2,H2,e,q⟩
    ·refine .inl ⟨s2,T2,H2,q,?_⟩
     cases draw with
     |false=>simp only[regI,runOps,hw,h1,Bool.false_eq_true,if_false]at e⊢;exact e
     |true=>simp only[regI,runD,hw,h2 rfl,if_true]at e⊢;exact e
    ·refine .inr ⟨v2,H2,?_,q⟩
     cases draw with
     |false=>simp only[regI,runOps,hw,h1,Bool.false_eq_true,if_false]at e⊢;exact e
     |true=>simp only[regI,runD,hw,h2 rfl,if_true]at e⊢;exact e
   ·refine .inr ⟨v,H',?_,h3⟩
    cases draw with
    |false=>simp only[regI,runOps,hw,h1,Bool.false_eq_true,if_false]
    |true=>
     simp only[regI,runD,hw,(h2 rfl).1,if_true]
     exact runD_last (h2 rfl).2
  have skip:∀kn s,wantedA o T=some false→actOps draw Q (i+1) kn ops s (setD T o.dst (.tuple [])) H=claims s→Comes cfg A R draw Q i (o::ops) T H:=by
   intro kn s hw h
   rcases actOps_sound h with⟨s2,T2,H2,q,e⟩|⟨v2,H2,e,q⟩
   ·refine .inl ⟨s2,T2,H2,q,?_⟩
    cases draw with
    |false=>simp only[regI,runOps,hw,Bool.false_eq_true,if_false]at e⊢;exact e
    |true=>simp only[regI,runD,hw,if_true]at e⊢;exact e
   ·refine .inr ⟨v2,H2,?_,q⟩
    cases draw with
    |false=>simp only[regI,runOps,hw,Bool.false_eq_true,if_false]at e⊢;exact e
    |true=>simp only[regI,runD,hw,if_true]at e⊢;exact e
  simp only[actOps]at h
  split at h
  ·rename_i hg
   exact key _ s (by unfold wantedA;rw[hg]) h
  ·rename_i g w hg
   have fin:∀b kn s,T g=.bool b→(bif b==w then actOp draw (fun H'=>lastB i ops T H') (fun s T H=>actOps draw Q (i+1) kn ops s T H) s o.dst o.op T H else actOps draw Q (i+1) kn ops s (setD T o.dst (.tuple [])) H)=claims s→
    Comes cfg A R draw Q i (o::ops) T H:=by
    intro b kn s h1 h2
    have hw:wantedA o T=some (b==w):=by unfold wantedA;rw[hg];simp only[h1]
    cases hb:(b==w)with
    |true=>rw[hb]at hw h2;exact key _ _ hw h2
    |false=>rw[hb]at hw h2;exact skip _ _ hw h2
   split at h
   ·rename_i hb
    exact skip kn s (by unfold wantedA;rw[hg];simp only[hb]) h
   ·rename_i p' hb
    cases hkn:kn.contains g with
    |true=>
     rw[hkn]at h
     simp only[cond_true]at h
     exact fin _ _ _ hb h
    |false=>
     rw[hkn]at h
     simp only[cond_false]at h
     split at h
     ·rename_i b p hp s'
      simp only[claims,Chk.av.injEq,AV.bool.injEq]at h
      have h1:T g=.bool b:=by rw[hb,h.1,hp]
      obtain⟨s2,h2⟩:=uns_sound h.2
      rw[upd_self h1]at h2
      exact fin _ _ _ h1 h2
     ·exact absurd h.symm (claims_wantB _)
   ·exact absurd h.symm (claims_stuck _)
theorem acts_sound:∀(n:Nat){k:List AIt}{s:ScrQ cfg A R}{T:Env}{H:Heap},acts n k s T H=claims s→∃r,runL cfg A k T H=some r∧R r:=by
 intro n
 induction n with
 |zero=>intro k s T H h;exact absurd h.symm (claims_stuck s)
 |succ n ih=>
  intro k s T H h
  simp only[acts]at h
  ·split at h
   ·split at h
    ·rename_i r hr
     simp only[claims,Chk.res.injEq]at h
     rw[runL_nil];exact⟨r,h,hr⟩
    ·exact absurd h.symm (claims_stuck _)
   ·rw[runL_blk];exact ih h
   ·split at h
    ·rename_i k' vs H' hc
     simp only[claims,Chk.cut.injEq]at h
     obtain⟨e1,e2,e3⟩:=h
     rw[e1,e3]
     exact hc T (has_of e2)
    ·rw[runL_lp];exact ih h
   ·exact absurd h.symm (claims_stuck _)
   ·split at h
    ·rw[runL_skip];exact ih h
    ·rw[runL_seq];exact ih h
    ·rename_i x a b
     split at h
     ·rename_i t p hp s'
      simp only[claims,Chk.av.injEq]at h
      obtain⟨h1,h2⟩:=h
      obtain⟨s2,h2⟩:=uns_sound h2
      rw[runL_cond,h1,hp]
      cases t<;>exact ih h2
     ·exact absurd h.symm (claims_wantB _)
    ·rw[runL_block];exact ih h
    ·rw[runL_loop];exact ih h
    ·split at h
     ·rename_i k' hk;rw[runL_exit,hk];exact ih h
     ·exact absurd h.symm (claims_stuck _)
    ·split at h
     ·rename_i r hr
      cases hro:A.round with
      |true=>rw[hro]at h;exact absurd h.symm (claims_stuck _)
      |false=>
       rw[hro]at h
       simp only[cond_false,claims,Chk.res.injEq]at h
       rw[runL_ret,hro];exact⟨_,h,hr⟩
     ·exact absurd h.symm (claims_stuck _)
    ·rename_i ops d
     rw[runL_region]
     cases d with
     |false=>
      have hreg:regionA (lim cfg) false ops T H=regI cfg false 0 ops T H:=rfl
      rw[hreg]
      rcases actOps_sound h with⟨s',T',H',q,e⟩|⟨v,H',e,q⟩
      ·rw[e];exact ih q
      ·rw[e];exact⟨_,rfl,q⟩
     |true=>
      have hreg:regionA (lim cfg) true ops T H=regI cfg true 0 (resv H.boxes.length ops) T (roomH H (resvCells ops)):=rfl
      rw[hreg]
      rcases actOps_sound h with⟨s',T',H',q,e⟩|⟨v,H',e,q⟩
      ·rw[e];exact ih q
      ·rw[e];exact⟨_,rfl,q⟩
    ·split at h
     ·rename_i k' vs H' hc
      simp only[claims,Chk.cut.injEq]at h
      obtain⟨e1,e2,e3⟩:=h
      rw[e1,e3]
      exact hc T (has_of e2)
     ·exact absurd h.symm (claims_stuck _)
theorem goQ{T:Env}{k:List AIt}{H:Heap}(n:Nat)(vs:List (Nat×AV))(hT:Has T vs)(s:ScrQ cfg A R)(e:uns s (fun s=>acts n k s (updL T vs) H)=claims s):∃r,runL cfg A k T H=some r∧R r:=by
 rw[updL_self hT]at e
 obtain⟨s',e⟩:=uns_sound e
 exact acts_sound n e
theorem go{r:ARes×Heap}{T:Env}{k:List AIt}{H:Heap}(n:Nat)(vs:List (Nat×AV))(hT:Has T vs)(s:Scr cfg A r)(e:uns s (fun s=>acts n k s (updL T vs) H)=claims s):runL cfg A k T H=some r:=by
 obtain⟨x,h,rfl⟩:=goQ n vs hT s e
 exact h
def ScrQ.done{r:ARes×Heap}:ScrQ cfg A (fun x=>x=r):=.fin r rfl
def ScrQ.cut{r:ARes×Heap}(k:List AIt)(vs:List (Nat×AV))(H:Heap)(h:∀T,Has T vs→runL cfg A k T H=some r):ScrQ cfg A (fun x=>x=r):=.cutQ k vs H fun T hT=>⟨r,h T hT,rfl⟩
class Shut(v:AV)(w:outParam AV):Prop where
 p:shut2 v=w∧data2 w=true
class Dat(x:AV):Prop where
 p:shut2 x=x∧data2 x=true
instance(v:AV) [h:Dat v]:Shut v v:=⟨h.p⟩
instance(t:Nat)(l:List AV):Shut (.sl (.own t) l) (.sl .sh l):=⟨rfl,rfl⟩
instance(l:List AV):Shut (.sl .full l) (.sl .sh l):=⟨rfl,rfl⟩
instance(k:IntKind)(n:Int):Dat (.int k n):=⟨rfl,rfl⟩
instance(b:Bool):Dat (.bool b):=⟨rfl,rfl⟩
instance(s:List UInt8):Dat (.str s):=⟨rfl,rfl⟩
instance(b:Nat):Dat (.flt b):=⟨rfl,rfl⟩
instance:Dat .nan:=⟨rfl,rfl⟩
instance(l:List AV):Dat (.sl .sh l):=⟨rfl,rfl⟩
instance:Dat .nilptr:=⟨rfl,rfl⟩
instance:Dat .nilIface:=⟨rfl,rfl⟩
instance:Dat .nilFunc:=⟨rfl,rfl⟩
class Shuts(xs:List AV)(ys:outParam (List AV)):Prop where
 p:xs.map shut2=ys∧ys.all data2=true
instance:Shuts [] []:=⟨rfl,rfl⟩
instance(x y:AV)(xs ys:List AV) [h:Shut x y] [hs:Shuts xs ys]:Shuts (x::xs) (y::ys):=⟨by
 obtain⟨a,b⟩:=h.p
 obtain⟨c,d⟩:=hs.p
 simp[a,b,c,d]⟩
class Dats(xs:List AV):Prop where
 p:xs.map shut2=xs∧xs.all data2=true
instance:Dats []:=⟨rfl,rfl⟩
instance(x:AV)(xs:List AV) [h:Dat x] [hs:Dats xs]:Dats (x::xs):=⟨by
 obtain⟨a,b⟩:=h.p
 obtain⟨c,d⟩:=hs.p
 simp[a,b,c,d]⟩
class Res(v:AV)(w:outParam AV):Prop where
 p:shutA v=w∧isData w=true
theorem shut_res{v w:AV}(h:shut2 v=w∧data2 w=true):shutA v=w∧isData w=true:=by
 obtain⟨a,b⟩:=h
 have hv:∀cs,w≠.tuple cs:=fun cs e=>by subst e;cases b
 have e1:shutA v=shut2 v:=by
  cases v with
  |tuple cs=>exact absurd a.symm (hv cs)
  |_=>rfl
 refine⟨e1.trans a,?_⟩
 have:isData w=data2 w:=by
  cases w with
  |tuple cs=>exact absurd rfl (hv cs)
  |_=>rfl
 rw[this];exact b
instance(v w:AV) [h:Shut v w]:Res v w:=⟨shut_res h.p⟩
instance(vs ws:List AV) [h:Shuts vs ws]:Res (.tuple vs) (.tuple ws):=⟨by
 obtain⟨a,b⟩:=h.p
 exact⟨by rw[←a];rfl,b⟩⟩
theorem shuts_args{xs ys:List AV}(h:xs.map shut2=ys∧ys.all data2=true):xs.map shutA=ys∧ys.all isData=true:=by
 obtain⟨a,b⟩:=h
 subst a
 rw[List.all_eq_true]at b
 have e:∀x∈xs,shutA x=shut2 x∧isData (shut2 x)=true:=fun x hx=>by
  obtain⟨p,q⟩:=shut_res (v:=x) (w:=shut2 x) ⟨rfl,b _ (List.mem_map_of_mem hx)⟩
  exact⟨p,q⟩
 refine⟨List.map_congr_left fun x hx=>(e x hx).1,List.all_eq_true.2 fun y hy=> ?_⟩
 obtain⟨x,hx,rfl⟩:=List.mem_map.1 hy
 exact(e x hx).2
theorem callD_ret{xs ys:List AV}{g:FuncId}{v w:AV}{H':Heap}(h:lim cfg (.fn g) ys Heap.nil=some (.ret v,H'))(hx:xs.map shut2=ys∧ys.all data2=true)(hv:shutA v=w∧isData w=true)(T:Env)(H:Heap):
 opStepD (lim cfg) (.call (.c (.func g [])) (xs.map fun x=>.c x)) T H=some (.val w H):=by
 obtain⟨a,b⟩:=shuts_args hx
 simp only[opStepD,List.map_map]
 have e:(List.map ((fun x=>shutA (ev T x))∘fun x=>Opd.c x) xs)=ys:=a
 rw[e,show ev T (.c (.func g []))=.func g []from rfl,callD_func]
 simp only[b,List.all_nil,Bool.and_self,cond_true,List.append_nil,h,dataOut_of hv]
theorem callD_pan{xs ys:List AV}{g:FuncId}{v:AV}{H':Heap}(h:lim cfg (.fn g) ys Heap.nil=some (.pan v,H'))(hx:xs.map shut2=ys∧ys.all data2=true)(hv:isData v=true)(H:Heap)(T:Env):
 opStepD (lim cfg) (.call (.c (.func g [])) (xs.map fun x=>.c x)) T H=some (.pan v H):=by
 obtain⟨a,b⟩:=shuts_args hx
 simp only[opStepD,List.map_map]
 have e:(List.map ((fun x=>shutA (ev T x))∘fun x=>Opd.c x) xs)=ys:=a
 rw[e,show ev T (.c (.func g []))=.func g []from rfl,callD_func]
 simp only[b,List.all_nil,Bool.and_self,cond_true,List.append_nil,h,hv]
def ScrQ.call{xs:List AV}{g:FuncId}{v w:AV}{H':Heap}(h:lim cfg (.fn g) xs Heap.nil=some (.ret v,H')) [hx:Dats xs] [hv:Res v w](s:ScrQ cfg A R):ScrQ cfg A R:=.op (.call (.c (.func g [])) (xs.map fun x=>.c x)) w (callD_ret h hx.p hv.p) s
def ScrQ.callW(xs:List AV){ys:List AV}{g:FuncId}{v w:AV}{H':Heap} [hx:Shuts xs ys](h:lim cfg (.fn g) ys Heap.nil=some (.ret v,H')) [hv:Res v w](s:ScrQ cfg A R):ScrQ cfg A R:=.op (.call (.c (.func g [])) (xs.map fun x=>.c x)) w (callD_ret h hx.p hv.p) s
def ScrQ.yes{p:Bool}(h:p=true)(s:ScrQ cfg A R):ScrQ cfg A R:=.dec true p h s
def ScrQ.no{p:Bool}(h:p=false)(s:ScrQ cfg A R):ScrQ cfg A R:=.dec false p h s
def ScrQ.tt(s:ScrQ cfg A R):ScrQ cfg A R:=.dec true true rfl s
def ScrQ.ff(s:ScrQ cfg A R):ScrQ cfg A R:=.dec false false rfl s
theorem pure_step{o:AOp}{v:AV}(hc:∀T,pureOp o T=some v)(h:∀call T H,opStepD call o T H=match pureOp o T with|some v=>some (.val v H)|none=>none)(T:Env)(H:Heap):opStepD (lim cfg) o T H=some (.val v H):=by rw[h,hc]
def ScrQ.idx{es:Nat}{x i v:AV}(h:idxA es x i=some v)(s:ScrQ cfg A R):ScrQ cfg A R:=.op (.idx es (.c x) (.c i)) v (pure_step (fun _=>h) fun _ _ _=>rfl) s
def ScrQ.idxs{x i v:AV}(h:idxsA x i=some v)(s:ScrQ cfg A R):ScrQ cfg A R:=.op (.idxs (.c x) (.c i)) v (pure_step (fun _=>h) fun _ _ _=>rfl) s
def ScrQ.bin{b:BinOp}{x y v:AV}(h:binA b x y=some v)(s:ScrQ cfg A R):ScrQ cfg A R:=.op (.bin b (.c x) (.c y)) v (pure_step (fun _=>h) fun _ _ _=>rfl) s
def ScrQ.len{b:Bool}{x v:AV}(h:lenA b x=some v)(s:ScrQ cfg A R):ScrQ cfg A R:=.op (.len b (.c x)) v (pure_step (fun _=>h) fun _ _ _=>rfl) s
def ScrQ.conv{b:CV}{x v:AV}(h:convA b x=some v)(s:ScrQ cfg A R):ScrQ cfg A R:=.op (.conv b (.c x)) v (pure_step (fun _=>h) fun _ _ _=>rfl) s
def ScrQ.eqnil{b:Bool}{k:NK}{x v:AV}(h:eqnilA b k x=some v)(s:ScrQ cfg A R):ScrQ cfg A R:=.op (.eqnil b k (.c x)) v (pure_step (fun _=>h) fun _ _ _=>rfl) s
def ScrQ.eqst{b:Bool}{ks:List FK}{x y v:AV}(h:eqstA b ks x y=some v)(s:ScrQ cfg A R):ScrQ cfg A R:=.op (.eqst b ks (.c x) (.c y)) v (pure_step (fun _=>h) fun _ _ _=>rfl) s
def ScrQ.slice{es:Nat}{x v:AV}{lo hi mx:Option AV}(h:sliceA es x lo hi mx=some v)(s:ScrQ cfg A R):ScrQ cfg A R:=.op (.slice es (.c x) (lo.map .c) (hi.map .c) (mx.map .c)) v
 (pure_step (fun T=>by simp only[pureOp,ev,Option.map_map,Function.comp_def];simpa using h) fun _ _ _=>rfl) s
theorem append_step{es b:Nat}{H H':Heap}{x y v:AV}(h:appendA es b H x y=some (v,H'))(T:Env):opStep (lim cfg) (.append es b (.c x) (.c y)) T H=some (.val v H'):=by
 simp only[opStep,ev,h]
def ScrQ.append{es b:Nat}{H H':Heap}{x y v:AV}(h:appendA es b H x y=some (v,H'))(s:ScrQ cfg A R):ScrQ cfg A R:=.eff (.append es b (.c x) (.c y)) H v H' (append_step h) s
theorem load_step{agg:Bool}{n:Nat}{H:Heap}{x v:AV}(h:loadA agg n H x=some v)(T:Env):opStep (lim cfg) (.load agg n (.c x)) T H=some (.val v H):=by
 simp only[opStep,ev,h]
def ScrQ.load{agg:Bool}{n:Nat}{H:Heap}{x v:AV}(h:loadA agg n H x=some v)(s:ScrQ cfg A R):ScrQ cfg A R:=.eff (.load agg n (.c x)) H v H (load_step h) s
theorem store_step{n:Nat}{H H':Heap}{x v:AV}(h:storeA n H x v=some H')(T:Env):opStep (lim cfg) (.store n (.c x) (.c v)) T H=some (.val .undef H'):=by
 simp only[opStep,ev,h]
def ScrQ.store{n:Nat}{H H':Heap}{x v:AV}(h:storeA n H x v=some H')(s:ScrQ cfg A R):ScrQ cfg A R:=.eff (.store n (.c x) (.c v)) H .undef H' (store_step h) s
variable{k:IntKind}{a b:Int}
theorem neqT(h:a≠b):binA .neq (.int k a) (.int k b)=some (.bool true):=by simp[binA,intBin,h]
theorem wrap_i64{x:Int}(h1: -9223372036854775808≤x)(h2:x<9223372036854775808):IntKind.i64.wrap x=x:=by
 have e:(x%18446744073709551616)=if 0≤x then x else x+18446744073709551616:=by split<;>omega
 simp only[IntKind.wrap,IntKind.bits,IntKind.signed,Bool.true_and,show(2:Int)^64=18446744073709551616 from rfl,show(2:Int)^(64-1)=9223372036854775808 from rfl,e,decide_eq_true_eq]
 split<;>split<;>omega
theorem addI(h1: -9223372036854775808≤a+b)(h2:a+b<9223372036854775808):binA .add (.int .i64 a) (.int .i64 b)=some (.int .i64 (a+b)):=by
 simp[binA,intBin,wrap_i64 h1 h2]
theorem subI(h1: -9223372036854775808≤a-b)(h2:a-b<9223372036854775808):binA .sub (.int .i64 a) (.int .i64 b)=some (.int .i64 (a-b)):=by
 simp[binA,intBin,wrap_i64 h1 h2]
theorem mulI(h1: -9223372036854775808≤a*b)(h2:a*b<9223372036854775808):binA .mul (.int .i64 a) (.int .i64 b)=some (.int .i64 (a*b)):=by
 simp[binA,intBin,wrap_i64 h1 h2]
def ScrQ.add(h: -9223372036854775808≤a+b∧a+b<9223372036854775808)(s:ScrQ cfg A R):ScrQ cfg A R:=.bin (addI h.1 h.2) s
def ScrQ.sub(h: -9223372036854775808≤a-b∧a-b<9223372036854775808)(s:ScrQ cfg A R):ScrQ cfg A R:=.bin (subI h.1 h.2) s
def ScrQ.mul(h: -9223372036854775808≤a*b∧a*b<9223372036854775808)(s:ScrQ cfg A R):ScrQ cfg A R:=.bin (mulI h.1 h.2) s
theorem idx_at{es i:Nat}{k:SK}{q:IntKind}{l:List AV}{x:AV}(h:l[i]?=some x)(hc:cellsN es x=true):idxA es (.sl k l) (.int q (i:Int))=some (.ref x.cells):=by
 simp[idxA,h,hc]
theorem bslice_step{es:Nat}{xs:List AV}(h1:xs.map shut2=xs)(h2:lenOk es xs=true)(h3:dataOk xs=true)(T:Env)(H:Heap):opStepD (lim cfg) (.bslice es (xs.map .c)) T H=some (.val (.sl .full xs) H):=by
 simp only[opStepD,opStep,pureOp,List.map_map]
 have e:(List.map ((fun x=>shut2 (ev T x))∘Opd.c) xs)=xs:=h1
 rw[e,if_pos ⟨h2,h3⟩]
def ScrQ.bslice{es:Nat}{xs:List AV}(h1:xs.map shut2=xs)(h2:lenOk es xs=true)(h3:dataOk xs=true)(s:ScrQ cfg A R):ScrQ cfg A R:=.op (.bslice es (xs.map .c)) (.sl .full xs) (bslice_step h1 h2 h3) s
def rowS(H:Heap):List AV→AV
 |[]=>.sl .full []
 |y::ys=>.sl (.own H.toks.length) (y::ys)
def rowH(H:Heap):List AV→Heap
 |[]=>H
 |y::ys=>{H with toks:=H.toks++[(y::ys).length]}
instance(H:Heap)(ys:List AV):Shut (rowS H ys) (.sl .sh ys):=⟨by cases ys<;>exact⟨rfl,rfl⟩⟩
theorem row_append{es bytes:Nat}{H:Heap}{ys:List AV}{v:AV}(h:(ys.length+1)*bytes≤140737488355328)(hl:lenOk es ys=true)(hv:cellsN es v=true)(hd:dataOk [v]=true):
 appendA es bytes (rowH H ys) (rowS H ys) (.sl .full [v])=some (rowS H (ys++[v]),rowH H (ys++[v])):=by
 have hv':lenOk es [v]=true:=by simp[lenOk,hv]
 cases ys with
 |nil=>
  have h':bytes≤140737488355328:=by simpa using h
  have e:(([]:List AV).length+([v]:List AV).length)*bytes≤140737488355328:=by simpa using h'
  have e2:lenOk es ([]:List AV)=true:=rfl
  simp only[appendA,rowS,rowH,hv',hd,e2,List.nil_append]
  rw[if_pos ⟨e,trivial,trivial,trivial⟩]
  rfl
 |cons y ys=>
  simp only[appendA,rowS,rowH,hl,hv',hd,List.length_cons,List.length_nil,List.cons_append]at h⊢
  simp[h]
theorem callH_step{xs caps:List AV}{g:FuncId}{v:AV}{H H2:Heap}(h:lim cfg (.fn g) (xs++caps) H=some (.ret v,H2))(hx:xs.map shutA=xs)(hd:(xs.all isData&&caps.all data0)=false)(T:Env):
 opStep (lim cfg) (.call (.c (.func g caps)) (xs.map .c)) T H=some (.val (shutA v) (trunc H.boxes.length H.toks.length (shutA v) H2)):=by
 have e:(xs.map Opd.c).map (fun x=>shutA (ev T x))=xs:=by rw[List.map_map];exact hx
 simp only[opStep,e]
 rw[show ev T (.c (.func g caps))=.func g caps from rfl,callV_func,hd]
 simp only[cond_false,callE,h]
def IsRet(v:AV)(r:ARes×Heap):Prop:=r.1=.ret v
def Gives(cfg:Cfg)(g:FuncId)(xs:List AV)(v:AV):Prop:=∃r,lim cfg (.fn g) xs Heap.nil=some r∧IsRet v r
def Goes(cfg:Cfg)(A:AFunc)(k:List AIt)(T:Env)(H:Heap)(R:ARes×Heap→Prop):Prop:=∃r,runL cfg A k T H=some r∧R r
theorem Gives.ret{g:FuncId}{xs:List AV}{v:AV}(h:Gives cfg g xs v):∃H',lim cfg (.fn g) xs Heap.nil=some (.ret v,H'):=by
 obtain⟨⟨a,H'⟩,h,e⟩:=h
 simp only[IsRet]at e
 subst e
 exact⟨H',h⟩
theorem Gives.of{g:FuncId}{xs:List AV}{v:AV}{H':Heap}(h:lim cfg (.fn g) xs Heap.nil=some (.ret v,H')):Gives cfg g xs v:=⟨_,h,rfl⟩
theorem Gives.to{g:FuncId}{xs:List AV}{v w:AV}(h:Gives cfg g xs v)(e:v=w):Gives cfg g xs w:=e▸h
theorem Gives.run{g:FuncId}{xs:List AV}{v:AV}{k:List AIt}{T:Env}(e:lim cfg (.fn g) xs Heap.nil=runL cfg A k T Heap.nil)(h:Goes cfg A k T Heap.nil (IsRet v)):Gives cfg g xs v:=by
 unfold Gives;rw[e];exact h
theorem givesD{xs ys:List AV}{g:FuncId}{v w:AV}(h:Gives cfg g ys v)(hx:xs.map shut2=ys∧ys.all data2=true)(hv:shutA v=w∧isData w=true)(T:Env)(H:Heap):
 opStepD (lim cfg) (.call (.c (.func g [])) (xs.map fun x=>.c x)) T H=some (.val w H):=by
 obtain⟨H',h⟩:=h.ret
 exact callD_ret h hx hv T H
def ScrQ.callG(xs:List AV){ys:List AV}{g:FuncId}{v:AV}(w:AV)(h:Gives cfg g ys v)(hx:xs.map shut2=ys∧ys.all data2=true)(hv:shutA v=w∧isData w=true)(s:ScrQ cfg A R):ScrQ cfg A R:=.op (.call (.c (.func g [])) (xs.map fun x=>.c x)) w (givesD h hx hv) s
theorem Goes.to{k:List AIt}{T:Env}{H:Heap}{v w:AV}(h:Goes cfg A k T H (IsRet v))(e:v=w):Goes cfg A k T H (IsRet w):=e▸h
class D0(x:AV):Prop where
 p:shut1 x=x∧data0 x=true
instance(k:IntKind)(n:Int):D0 (.int k n):=⟨rfl,rfl⟩
instance(b:Bool):D0 (.bool b):=⟨rfl,rfl⟩
instance(s:List UInt8):D0 (.str s):=⟨rfl,rfl⟩
instance(b:Nat):D0 (.flt b):=⟨rfl,rfl⟩
instance:D0 .nan:=⟨rfl,rfl⟩
instance(l:List AV):D0 (.sl .sh l):=⟨rfl,rfl⟩
end
end Go.Aa
set_option linter.unusedVariables false
set_option linter.unusedSimpArgs false
namespace Go.Aa
theorem goG{cfg:Cfg}{A:AFunc}{R:ARes×Heap→Prop}{T:Env}{k:List AIt}{H:Heap}(n:Nat)(vs:List (Nat×AV))(hT:Has T vs)(s:ScrQ cfg A R)(e:uns s (fun s=>acts n k s (updL T vs) H)=claims s):Goes cfg A k T H R:=goQ n vs hT s e
class D0s(xs:List AV):Prop where
 p:xs.map shut1=xs∧xs.all data0=true
instance:D0s []:=⟨rfl,rfl⟩
instance(x:AV)(xs:List AV) [h:D0 x] [hs:D0s xs]:D0s (x::xs):=⟨by
 obtain⟨a,b⟩:=h.p
 obtain⟨c,d⟩:=hs.p
 simp[a,b,c,d]⟩
instance(xs:List AV) [h:D0s xs]:Dat (.agg xs):=⟨by
 obtain⟨a,b⟩:=h.p
 exact⟨by simp[shut2,a],b⟩⟩
variable{α:Type}{f:α→AV}{l:List α}{x:α}{post:List α}{i:Nat}
theorem drop_lt(h:l.drop i=x::post):i<l.length:=by
 have:0<(l.drop i).length:=by rw[h];simp
 simp at this;omega
theorem drop_ge(h:l.drop i=[]):l.length≤i:=by simpa using h
theorem drop_next(h:l.drop i=x::post):l.drop (i+1)=post:=by
 rw[←List.tail_drop,h];rfl
theorem drop_at(h:l.drop i=x::post):l[i]?=some x:=by
 have:=congrArg List.head? h
 simpa[List.head?_drop]using this
theorem drop_take(h:l.drop i=x::post):l.take (i+1)=l.take i++[x]:=by
 rw[List.take_add_one,drop_at h];rfl
theorem drop_mem(h:l.drop i=x::post):x∈l:=by
 have:x∈l.drop i:=by rw[h];simp
 exact List.mem_of_mem_drop this
theorem len_map(k:SK):lenA false (.sl k (l.map f))=some (.int .i64 l.length):=by simp[lenA]
theorem len_sl(k:SK)(l:List AV):lenA false (.sl k l)=some (.int .i64 l.length):=rfl
theorem len_str(s:List UInt8):lenA true (.str s)=some (.int .i64 s.length):=rfl
theorem idx_row{es:Nat}{k:SK}{q:IntKind}(h:l.drop i=x::post)(hc:cellsN es (f x)=true):idxA es (.sl k (l.map f)) (.int q (i:Int))=some (.ref (f x).cells):=
 idx_at (by simp[drop_at h]) hc
theorem idx_get{es:Nat}{k:SK}{q:IntKind}(h:l[i]?=some x)(hc:cellsN es (f x)=true):idxA es (.sl k (l.map f)) (.int q (i:Int))=some (.ref (f x).cells):=
 idx_at (by simp[h]) hc
theorem idx_str{q:IntKind}{s post:List UInt8}{c:UInt8}(h:s.drop i=c::post):idxsA (.str s) (.int q (i:Int))=some (.int .u8 c.toNat):=by
 simp[idxsA,drop_at h]
theorem inc_i(h:i<9223372036854775807):binA .add (.int .i64 (i:Int)) (.int .i64 1)=some (.int .i64 ((i+1:Nat):Int)):=by
 rw[addI (by omega) (by omega)];rfl
theorem load_box{agg:Bool}{n k off:Nat}{H:Heap}{cs:List AV}{v:AV}(h:H.boxes[k]?=some cs)(e:loadA agg n ⟨[cs],[],[]⟩ (.ptr 0 off)=some v):loadA agg n H (.ptr k off)=some v:=by
 simp only[loadA,h,List.getElem?_cons_zero]at e⊢
 exact e
theorem store_box{n k off:Nat}{H:Heap}{cs cs':List AV}{v:AV}(h:H.boxes[k]?=some cs)(e:storeA n ⟨[cs],[],[]⟩ (.ptr 0 off) v=some ⟨[cs'],[],[]⟩):storeA n H (.ptr k off) v=some {H with boxes:=H.boxes.set k cs'}:=by
 simp only[storeA,h,List.getElem?_cons_zero]at e⊢
 split at e
 ·rename_i hc
  simp only[Option.some.injEq,Heap.mk.injEq,List.set_cons_zero,List.cons.injEq]at e
  rw[if_pos hc,e.1.1]
 ·cases e
theorem sstr_from{s:List UInt8}{k:Nat}{q:IntKind}(hk:k≤s.length):sliceA 0 (.str s) (some (.int q (k:Int))) none none=some (.str (s.drop k)):=by
 simp[sliceA,sliceStr,boundA,hk]
theorem sstr_to{s:List UInt8}{k:Nat}{q:IntKind}(hk:k≤s.length):sliceA 0 (.str s) none (some (.int q (k:Int))) none=some (.str (s.take k)):=by
 simp[sliceA,sliceStr,boundA,hk]
theorem sstr_in{s:List UInt8}{j k:Nat}{q q':IntKind}(hj:j≤k)(hk:k≤s.length):sliceA 0 (.str s) (some (.int q (j:Int))) (some (.int q' (k:Int))) none=some (.str ((s.take k).drop j)):=by
 simp[sliceA,sliceStr,boundA,hk,hj]
@[simp]theorem rowH_boxes(H:Heap)(ys:List AV):(rowH H ys).boxes=H.boxes:=by cases ys<;>rfl
@[simp]theorem rowH_loops(H:Heap)(ys:List AV):(rowH H ys).loops=H.loops:=by cases ys<;>rfl
theorem row_append_map{es bytes:Nat}{H:Heap}{ys:List α}(h:((ys.map f).length+1)*bytes≤140737488355328)(hl:lenOk es (ys.map f)=true)(hv:cellsN es (f x)=true)(hd:dataOk [f x]=true):
 appendA es bytes (rowH H (ys.map f)) (rowS H (ys.map f)) (.sl .full [f x])=some (rowS H ((ys++[x]).map f),rowH H ((ys++[x]).map f)):=by
 rw[row_append h hl hv hd,List.map_append];rfl
theorem lenOk_snoc{n:Nat}{l:List AV}{x:AV}(h:lenOk n l=true)(hx:cellsN n x=true):lenOk n (l++[x])=true:=by
 simp only[lenOk,List.all_append,List.all_cons,List.all_nil,Bool.and_true,Bool.and_eq_true]at h⊢
 exact⟨h,hx⟩
theorem lenOk_map{n:Nat}(h:∀x,cellsN n (f x)=true):lenOk n (l.map f)=true:=by
 simp only[lenOk,List.all_eq_true,List.mem_map]
 rintro _⟨x,-,rfl⟩
 exact h x
theorem conv_i64{k:IntKind}{n:Int}(h: -9223372036854775808≤n∧n<9223372036854775808):convA (.int .i64) (.int k n)=some (.int .i64 n):=by
 simp[convA,wrap_i64 h.1 h.2]
theorem store_box2{n k off:Nat}{H:Heap}{cs cs':List AV}{bs':List (List AV)}{v:AV}(h:H.boxes[k]?=some cs)(e:storeA n ⟨[cs],[],[]⟩ (.ptr 0 off) v=some ⟨[cs'],[],[]⟩)(hs:H.boxes.set k cs'=bs'):storeA n H (.ptr k off) v=some {H with boxes:=bs'}:=by
 rw[←hs];exact store_box h e
end Go.Aa
set_option linter.unusedVariables false
set_option linter.unusedSimpArgs false
namespace Go.Aa
section
variable{cfg:Cfg}
theorem lim_try{f:FuncId}(ht:cfg.tryF f=true)(g:FuncId)(caps:List AV)(H:Heap):lim cfg (.fn f) [.func g caps] H=tryA (lim cfg (.fn g) caps H) cfg.stopT:=by
 refine opt_ext fun r=> ?_
 rw[lim_iff]
 constructor
 ·rintro⟨n,h⟩
  cases n with
  |zero=>simp[callN]at h
  |succ n=>
   rw[callN]at h
   simp only[ht,if_true]at h
   cases hc:callN cfg n (.fn g) caps H with
   |none=>rw[hc]at h;simp[tryA]at h
   |some x=>rw[hc]at h;rw[lim_of hc];exact h
 ·intro h
  cases hc:lim cfg (.fn g) caps H with
  |none=>rw[hc]at h;simp[tryA]at h
  |some x=>
   rw[hc]at h
   obtain⟨n,hn⟩:=lim_iff.1 hc
   refine⟨n+1,?_⟩
   rw[callN]
   simp only[ht,if_true,hn]
   exact h
def roundA:AFunc:={results:=[],body:=.skip,round:=true}
theorem yl_ret{l:Nat}{args:List AV}{H H':Heap}{r r':LRec}{v:AV}(h:H.loops[l]?=some r)(hp:args.length=r.ps.length)
 (hr:runL cfg roundA [.c r.assign,.beg l,.c r.body] (psetA r.T r.ps args) H=some (.ret v,H'))(h':H'.loops[l]?=some r'):
 lim cfg (.yl l) args H=some (.ret (.bool true),{H' with loops:=H'.loops.set l {r' with busy:=false}}):=by
 obtain⟨n,hn⟩:=runL_iff.1 hr
 obtain⟨m,hm⟩:=run_lim _ _ _ _ _ hn
 refine lim_of (n:=m+1) ?_
 rw[callN]
 simp only[h,hp,ne_eq,not_true_eq_false,if_false]
 simp only[roundA]at hm
 rw[hm]
 simp only[h']
theorem yl_pan{l:Nat}{args:List AV}{H H':Heap}{r:LRec}{v:AV}(h:H.loops[l]?=some r)(hp:args.length=r.ps.length)
 (hr:runL cfg roundA [.c r.assign,.beg l,.c r.body] (psetA r.T r.ps args) H=some (.pan v,H')):
 lim cfg (.yl l) args H=some (.pan v,H'):=by
 obtain⟨n,hn⟩:=runL_iff.1 hr
 obtain⟨m,hm⟩:=run_lim _ _ _ _ _ hn
 refine lim_of (n:=m+1) ?_
 rw[callN]
 simp only[h,hp,ne_eq,not_true_eq_false,if_false]
 simp only[roundA]at hm
 rw[hm]
variable{A:AFunc}{k:List AIt}{T:Env}{H:Heap}
theorem runL_beg{l:Nat}{r:LRec}(h:H.loops[l]?=some r)(hb:r.busy=false):runL cfg A (.beg l::k) T H=runL cfg A k T {H with loops:=H.loops.set l {r with busy:=true}}:=
 runL_step fun n=>by simp only[run,h,hb,Bool.false_eq_true,if_false]
theorem runL_range{f:Opd}{ps:List Nat}{a b:ACode}{v:AV}{H':Heap}(hro:A.round=false)(h:rangeA (lim cfg) (ev T f) A T ps a b H=some (.val v H')):runL cfg A (.c (.range f ps a b)::k) T H=runL cfg A k T H':=
 runL_step fun n=>by simp only[run,hro,h,Bool.false_eq_true,if_false]
theorem runL_rangeP{f:Opd}{ps:List Nat}{a b:ACode}{v:AV}{H':Heap}(hro:A.round=false)(h:rangeA (lim cfg) (ev T f) A T ps a b H=some (.pan v H')):runL cfg A (.c (.range f ps a b)::k) T H=some (.pan v,H'):=
 runL_now fun n=>by simp only[run,hro,h,Bool.false_eq_true,if_false]
theorem callN_step{xs:List AV}{g:FuncId}{v v0:AV}{H H2 H0:Heap}(h0:lim cfg (.fn g) xs Heap.nil=some (.ret v0,H0))(hn:dataOut H0 v0=none)(h:lim cfg (.fn g) xs H=some (.ret v,H2))(hx:xs.map shutA=xs)(hd:xs.all isData=true)(T:Env):
 opStep (lim cfg) (.call (.c (.func g [])) (xs.map .c)) T H=some (.val (shutA v) (trunc H.boxes.length H.toks.length (shutA v) H2)):=by
 have e:(xs.map Opd.c).map (fun x=>shutA (ev T x))=xs:=by rw[List.map_map];exact hx
 simp only[opStep,e]
 rw[show ev T (.c (.func g []))=.func g []from rfl]
 unfold callV
 simp only[hd,List.all_nil,Bool.and_self,if_true,List.append_nil,h0,hn,Bool.false_eq_true,if_false,callE,h]
def ScrQ.callN{R:ARes×Heap→Prop}{xs:List AV}{g:FuncId}{v v0:AV}{H H2 H0:Heap}(h0:lim cfg (.fn g) xs Heap.nil=some (.ret v0,H0))(hn:dataOut H0 v0=none)(h:lim cfg (.fn g) xs H=some (.ret v,H2))(hx:xs.map shutA=xs)(hd:xs.all isData=true)(s:ScrQ cfg A R):ScrQ cfg A R:=
 .eff (.call (.c (.func g [])) (xs.map .c)) H (shutA v) (trunc H.boxes.length H.toks.length (shutA v) H2) (callN_step h0 hn h hx hd) s
def Pans(cfg:Cfg)(g:FuncId)(xs:List AV)(v:AV):Prop:=∃r,lim cfg (.fn g) xs Heap.nil=some r∧r.1=.pan v
def IsPan(v:AV)(r:ARes×Heap):Prop:=r.1=.pan v
theorem Pans.pan{g:FuncId}{xs:List AV}{v:AV}(h:Pans cfg g xs v):∃H',lim cfg (.fn g) xs Heap.nil=some (.pan v,H'):=by
 obtain⟨⟨a,H'⟩,h,e⟩:=h
 simp only at e
 subst e
 exact⟨H',h⟩
theorem Pans.run{g:FuncId}{xs:List AV}{v:AV}(e:lim cfg (.fn g) xs Heap.nil=runL cfg A k T Heap.nil)(h:Goes cfg A k T Heap.nil (IsPan v)):Pans cfg g xs v:=by
 unfold Pans;rw[e];exact h
theorem pansD{xs ys:List AV}{g:FuncId}{v:AV}(h:Pans cfg g ys v)(hx:xs.map shut2=ys∧ys.all data2=true)(hv:isData v=true)(H:Heap)(T:Env):
 opStepD (lim cfg) (.call (.c (.func g [])) (xs.map fun x=>.c x)) T H=some (.pan v H):=by
 obtain⟨H',h⟩:=h.pan
 exact callD_pan h hx hv H T
def ScrQ.callP{R:ARes×Heap→Prop}(xs:List AV){ys:List AV}{g:FuncId}{v:AV}(H:Heap)(h:Pans cfg g ys v)(hx:xs.map shut2=ys∧ys.all data2=true)(hv:isData v=true)(hq:R (.pan v,H)):ScrQ cfg A R:=
 .pan (.call (.c (.func g [])) (xs.map fun x=>.c x)) H v H (pansD h hx hv H) hq
theorem panic_step{t:TypeId}{v:AV}(H:Heap)(T:Env):opStepD (lim cfg) (.panic (.c (.iface t v))) T H=some (.pan (.iface t v) H):=rfl
def ScrQ.panicI{R:ARes×Heap→Prop}(t:TypeId)(v:AV)(H:Heap)(hq:R (.pan (.iface t v),H)):ScrQ cfg A R:=.pan (.panic (.c (.iface t v))) H (.iface t v) H (panic_step H) hq
theorem str_add{a b:List UInt8}(h:a.length+b.length≤4611686018427387904):binA .add (.str a) (.str b)=some (.str (a++b)):=if_pos h
def Does(cfg:Cfg)(o:AOp)(H:Heap)(v:AV)(H':Heap):Prop:=∀T,opStep (lim cfg) o T H=some (.val v H')
def DoesP(cfg:Cfg)(o:AOp)(H:Heap)(v:AV)(H':Heap):Prop:=∀T,opStep (lim cfg) o T H=some (.pan v H')
def ScrQ.effY{R:ARes×Heap→Prop}{o:AOp}{H H':Heap}{v:AV}(h:Does cfg o H v H')(s:ScrQ cfg A R):ScrQ cfg A R:=.eff o H v H' h s
def ScrQ.panY{R:ARes×Heap→Prop}{o:AOp}{H H':Heap}{v:AV}(h:DoesP cfg o H v H')(hq:R (.pan v,H')):ScrQ cfg A R:=.panE o H v H' h hq
theorem does_yield{l:Nat}{xs:List AV}{H H2:Heap}{v:AV}(h:lim cfg (.yl l) xs H=some (.ret v,H2))(hx:xs.map shutA=xs):Does cfg (.call (.c (.yield l)) (xs.map .c)) H v (trunc H.boxes.length H.toks.length v H2):=fun T=>by
 have e:(xs.map Opd.c).map (fun x=>shutA (ev T x))=xs:=by rw[List.map_map];exact hx
 simp only[opStep,e]
 rw[show ev T (.c (.yield l))=.yield l from rfl]
 simp only[callV,h]
theorem does_yieldP{l:Nat}{xs:List AV}{H H2:Heap}{v:AV}(h:lim cfg (.yl l) xs H=some (.pan v,H2))(hx:xs.map shutA=xs):DoesP cfg (.call (.c (.yield l)) (xs.map .c)) H v (trunc H.boxes.length H.toks.length v H2):=fun T=>by
 have e:(xs.map Opd.c).map (fun x=>shutA (ev T x))=xs:=by rw[List.map_map];exact hx
 simp only[opStep,e]
 rw[show ev T (.c (.yield l))=.yield l from rfl]
 simp only[callV,h]
theorem does_callN{xs:List AV}{g:FuncId}{v v0:AV}{H H2 H0:Heap}(h0:lim cfg (.fn g) xs Heap.nil=some (.ret v0,H0))(hn:dataOut H0 v0=none)(h:lim cfg (.fn g) xs H=some (.ret v,H2))(hx:xs.map shutA=xs)(hd:xs.all isData=true):
 Does cfg (.call (.c (.func g [])) (xs.map .c)) H (shutA v) (trunc H.boxes.length H.toks.length (shutA v) H2):=callN_step h0 hn h hx hd
theorem runL_assign{d s:Nat}:runL cfg A (.c (.region [⟨some d,.mov (.t s),none,[]⟩] false)::k) T H=runL cfg A k (upd T d (T s)) H:=by
 rw[runL_region];rfl
theorem dropL_of{nl:Nat}{H:Heap}{r:LRec}(h:H.loops[nl]?=some r)(h1:r.busy=false)(h2:(H.loops.take nl).all (fun r=>decide (r.nl≤nl))=true)(h3:H.boxes.all (·.all (in2 H.boxes.length H.toks.length))=true):dropL nl H=some {H with loops:=H.loops.take nl}:=by
 unfold dropL
 rw[h]
 exact if_pos ⟨h1,h2,h3⟩
theorem dropP_of{nl:Nat}{H:Heap}(h1:nl<H.loops.length)(h2:(H.loops.take nl).all (fun r=>decide (r.nl≤nl))=true)(h3:H.boxes.all (·.all (in2 H.boxes.length H.toks.length))=true):dropP nl H=some {H with loops:=H.loops.take nl}:=by
 unfold dropP
 exact if_pos ⟨h1,h2,h3⟩
theorem does_callE{xs caps:List AV}{g:FuncId}{v:AV}{H H2:Heap}(h:lim cfg (.fn g) (xs++caps) H=some (.ret v,H2))(hx:xs.map shutA=xs)(hd:(xs.all isData&&caps.all data0)=false):
 Does cfg (.call (.c (.func g caps)) (xs.map .c)) H (shutA v) (trunc H.boxes.length H.toks.length (shutA v) H2):=callH_step h hx hd
end
end Go.Aa
set_option linter.unusedVariables false
set_option linter.unusedSimpArgs false
namespace Go.Aa
section
variable{cfg:Cfg}
def GivesF(cfg:Cfg)(g:FuncId)(xs:List AV)(u:AV):Prop:=∃v H,lim cfg (.fn g) xs Heap.nil=some (.ret v,H)∧dataOut H v=some u
theorem does_callF{xs:List AV}{g:FuncId}{u:AV}(h:GivesF cfg g xs u)(hx:xs.map shutA=xs)(hd:xs.all isData=true)(H:Heap):Does cfg (.call (.c (.func g [])) (xs.map .c)) H u H:=by
 obtain⟨v,H1,h1,h2⟩:=h
 intro T
 have e:(xs.map Opd.c).map (fun x=>shutA (ev T x))=xs:=by rw[List.map_map];exact hx
 simp only[opStep,e]
 rw[show ev T (.c (.func g []))=.func g []from rfl]
 simp only[callV,hd,List.all_nil,Bool.and_self,if_true,List.append_nil,h1,h2]
theorem Gives.f{g:FuncId}{xs:List AV}{v:AV}(h:Gives cfg g xs v)(hd:shutA v=v)(h2:isData v=true):GivesF cfg g xs v:=by
 obtain⟨H,h⟩:=h.ret
 exact⟨v,H,h,dataOut_of ⟨hd,h2⟩⟩
def IsOut(u:AV)(r:ARes×Heap):Prop:=∃v,r.1=.ret v∧dataOut r.2 v=some u
theorem GivesF.run{A:AFunc}{g:FuncId}{xs:List AV}{u:AV}{k:List AIt}{T:Env}(e:lim cfg (.fn g) xs Heap.nil=runL cfg A k T Heap.nil)(h:Goes cfg A k T Heap.nil (IsOut u)):GivesF cfg g xs u:=by
 obtain⟨⟨r,H⟩,h1,v,h2,h3⟩:=h
 simp only at h2 h3
 subst h2
 exact⟨v,H,e.trans h1,h3⟩
theorem idx_msl{k off n es:Nat}{q:IntKind}{i:Nat}(h:i<n):idxA es (.msl k off n es) (.int q (i:Nat))=some (.ptr k (off+i*es)):=by
 simp only[idxA]
 rw[if_pos ⟨⟨Int.natCast_nonneg i,by exact_mod_cast h⟩,trivial⟩];simp
def elOk(es:Nat):AV→Bool
 |.agg cs=>es !=1&&cs.length==es
 |.undef|.tuple _=>false
 |_=>es==1
theorem el_cells{es:Nat}{x:AV}(h:elOk es x=true):x.cells.length=es∧cellsN es x=true:=by
 cases x<;>simp_all[elOk,AV.cells,cellsN]
theorem el_back{es:Nat}{x:AV}(h:elOk es x=true)(r:List AV):(if es=1 then(x.cells++r).headD .undef else .agg ((x.cells++r).take es))=x:=by
 have h2:=(el_cells h).1
 cases x<;>simp_all[elOk,AV.cells]
theorem el_len{es:Nat}{l:List AV}(h:l.all (elOk es)=true):(rowCells l).length=l.length*es∧lenOk es l=true:=by
 induction l with
 |nil=>simp[rowCells,lenOk]
 |cons x l ih=>
  simp only[List.all_cons,Bool.and_eq_true]at h
  obtain⟨i1,i2⟩:=ih h.2
  obtain⟨a,b⟩:=el_cells h.1
  refine⟨?_,by simp only[lenOk,List.all_cons,Bool.and_eq_true];exact⟨b,i2⟩⟩
  simp only[rowCells,List.flatMap_cons,List.length_append,List.length_cons,Nat.add_mul]at i1⊢
  omega
theorem unrow_back{es:Nat}{l:List AV}(h:l.all (elOk es)=true):unrow es l.length (rowCells l)=l:=by
 induction l with
 |nil=>rfl
 |cons x l ih=>
  simp only[List.all_cons,Bool.and_eq_true]at h
  have e:rowCells (x::l)=x.cells++rowCells l:=by simp[rowCells]
  rw[List.length_cons,e]
  simp only[unrow]
  rw[el_back h.1,List.drop_append_of_le_length (by rw[(el_cells h.1).1];omega)]
  rw[show x.cells.drop es=[]from List.drop_eq_nil_of_le (by rw[(el_cells h.1).1];omega),List.nil_append,ih h.2]
theorem cells_data{l:List AV}(h:dataOk l=true):(rowCells l).all data0=true:=by
 induction l with
 |nil=>rfl
 |cons x l ih=>
  simp only[dataOk,List.all_cons,Bool.and_eq_true]at h
  simp only[rowCells,List.flatMap_cons,List.all_append,Bool.and_eq_true]
  exact⟨h.1,ih h.2⟩
def hM(k:Nat)(l:List AV):Heap:=⟨List.replicate k []++[rowCells l],[],[]⟩
theorem hM_at(k:Nat)(l:List AV):(hM k l).boxes[k]?=some (rowCells l):=by simp[hM]
theorem out_hM{es k:Nat}{l:List AV}(hl:l≠[])(h:l.all (elOk es)=true)(he:0<es)(hd:dataOk l=true):dataOut (hM k l) (.msl k 0 l.length es)=some (.sl .sh l):=by
 have h1:frzA (hM k l) (.msl k 0 l.length es)=some (.sl .sh l):=by
  simp only[frzA,frz2,frz1,hM_at,Nat.zero_add,List.drop_zero]
  rw[if_pos ⟨by rw[(el_len h).1];exact Nat.le_refl _,by cases l with|nil=>exact absurd rfl hl|cons=>simp,he,cells_data hd⟩,unrow_back h]
 unfold dataOut
 rw[if_neg (by simp[shutA,shut2,shut1,isData,data2,data1,data0]),h1]
 rfl
theorem grow_hM{es b k:Nat}{l:List AV}{v:AV}{sk:SK}(hl:l≠[])(h:l.all (elOk es)=true)(hd:dataOk l=true)(hv:elOk es v=true)(hvd:dataOk [v]=true)(hb:(l.length+1)*b≤140737488355328):
 appendMA es b (hM k l) (.msl k 0 l.length es) (.sl sk [v])=some (.msl (k+1) 0 (l.length+1) es,hM (k+1) (l++[v])):=by
 simp only[appendMA,hM_at]
 rw[if_pos ⟨trivial,trivial,by cases l with|nil=>exact absurd rfl hl|cons=>simp,(el_len h).1,cells_data hd,hb,by simp only[lenOk,List.all_cons,List.all_nil,Bool.and_true];exact(el_cells hv).2,hvd⟩]
 simp only[hM,List.length_append,List.length_replicate,List.length_cons,List.length_nil,Option.some.injEq,Prod.mk.injEq,Heap.mk.injEq,and_true,true_and]
 rw[List.set_append,if_neg (by simp)]
 simp[rowCells,List.replicate_succ',List.flatMap_append]
theorem does_grow{es b k:Nat}{l:List AV}{v:AV}{sk:SK}(hl:l≠[])(h:l.all (elOk es)=true)(hd:dataOk l=true)(hv:elOk es v=true)(hvd:dataOk [v]=true)(hb:(l.length+1)*b≤140737488355328):
 Does cfg (.appendM es b (.c (.msl k 0 l.length es)) (.c (.sl sk [v]))) (hM k l) (.msl (k+1) 0 (l.length+1) es) (hM (k+1) (l++[v])):=fun T=>by
 simp only[opStep,ev,grow_hM hl h hd hv hvd hb]
theorem paste_spec:∀(vs cells:List AV)(off:Nat),off+vs.length≤cells.length→paste cells off vs=cells.take off++vs++cells.drop (off+vs.length)
 |[],cells,off,h=>by simp[paste]
 |v::vs,cells,off,h=>by
  simp only[List.length_cons]at h
  rw[paste,paste_spec vs (cells.set off v) (off+1) (by simp;omega)]
  have h1:(cells.set off v).take (off+1)=cells.take off++[v]:=by
   rw[List.take_add_one,List.getElem?_set_self (by omega)]
   simp[List.take_set_of_le]
  have h2:(cells.set off v).drop (off+1+vs.length)=cells.drop (off+(v::vs).length):=by
   rw[List.drop_set_of_lt (by omega)]
   congr 1
   simp only[List.length_cons];omega
  rw[h1,h2];simp
end
end Go.Aa


