import Derived.Test.YthlhlfiklmmenaaGreatDoorYsanf
import Derived.Test.YthlhlfiklmmenaaGreatDoorChecked
import Derived.Tactics
import Derived.Tactics2
import Derived.Defers
import Derived.Recover
set_option linter.unusedVariables false
set_option maxRecDepth 100000
namespace Go.Aa.T
open Go.Aa
def Nk:List c7:=[.lp O5,.blk 0,.c (.seq (.region [oP 10 (.aE (.c (.bool true)))] false) .ret)]
def A8:List c7:=[.lp KP,.blk 0,.c (.seq (.seq (.region [mV 41 8] false) (.cond (.t 41) (.seq (.region [oP 6 (.aE (.c (.int .i64 0)))] false) .ret) .skip)) (.seq (.region [oP 6 (.aE (.c (.int .i64 1)))] false) .ret))]
def A9:List c7:=[.lp Ey,.blk 0,.c (.seq (.region [oP 2 (.aE (.c (.int .i64 0)))] false) .ret)]
def F3:List c7:=[.lp KQ,.blk 2,.blk 1,.c (.region [mV 14 3,oP 15 (.bin .add (.t 14) (.c (.int .i64 1))),mV 3 15] false),.lp Ey,.blk 0,.c (.seq (.region [oP 2 (.aE (.c (.int .i64 0)))] false) .ret)]
def F4:List c7:=[.lp KR,.blk 0,.c (.seq (.region [oP 4 (.aE (.c (.bool true)))] false) .ret)]
def tK:List c7:=[.lp KS,.blk 0,.c (.seq (.region [mV 41 8,mV 6 41] false) .ret)]
def iz:List c7:=[.lp KT,.blk 0,.c (.seq (.region [mV 94 7,mV 6 94] false) .ret)]
def A':List c7:=[.lp Ez,.blk 0,.c (.seq (.region [mV 39 5,mV 4 39] false) .ret)]
def Bb:List c7:=[.lp KU,.blk 2,.blk 1,.c (.region [oP 38 (.bin .add (.t 13) (.c (.int .i64 1))),mV 13 38] false),.lp Ez,.blk 0,.c (.seq (.region [mV 39 5,mV 4 39] false) .ret)]
def Bc:List c7:=[.lp EA,.blk 0,.c (.seq (.region [mV 59 5,mV 4 59] false) .ret)]
def xo:List c7:=[.lp KV,.blk 2,.blk 1,.c (.region [mV 15 7,oP 16 (.bin .add (.t 15) (.c (.int .i64 1))),mV 7 16] false),.lp EA,.blk 0,.c (.seq (.region [mV 59 5,mV 4 59] false) .ret)]
def xp:List c7:=[.lp KW,.blk 0,.c (.seq (.region [mV 28 5,mV 4 28] false) .ret)]
def F5:List c7:=[.lp KX,.blk 0,.c (.seq (.region [mV 19 3,mV 2 19] false) .ret)]
def F6:List c7:=[.lp KY,.blk 0,.c (.seq (.seq (.region [oP 4 (.aE (.c (.int .i64 0)))] false) (.block 2 (.loop (.seq (.seq (.region [mV 35 4,oP 36 (.bn 1 1 (.t 1)),oP 37 (.load false 1 (.t 36)),oP 38 (.len false (.t 37)),oP 39 (.bin .lss (.t 35) (.t 38))] false) (.cond (.t 39) .skip (.exit 2))) (.seq (.block 3 (.seq (.region [oP 42 (.bn 1 1 (.t 1)),oP 43 (.load false 1 (.t 42)),mV 44 4,oP 45 (.idx 11 (.t 43) (.t 44)),oP 46 (.load true 11 (.t 45)),oP 47 (.call (.c (.func 117 [])) [(.t 46)]),oP 48 (.un .not (.t 47))] false) (.cond (.t 48) (.seq (.region [oP 2 (.aE (.c (.bool false)))] false) .ret) .skip))) (.region [mV 40 4,oP 41 (.bin .add (.t 40) (.c (.int .i64 1))),mV 4 41] false)))))) (.seq (.region [oP 2 (.aE (.c (.bool true)))] false) .ret))]
def F7:List c7:=[.lp KZ,.blk 2,.c (.seq (.region [oP 2 (.aE (.c (.bool true)))] false) .ret)]
def Bd:List c7:=[.lp K1,.blk 0,.c (.seq (.seq (.region [oP 7 (.aE (.c (.int .i64 0)))] false) (.block 2 (.loop (.seq (.seq (.region [mV 56 7,oP 57 (.bn 0 1 (.t 1)),oP 58 (.load false 1 (.t 57)),oP 59 (.len false (.t 58)),oP 60 (.bin .lss (.t 56) (.t 59))] false) (.cond (.t 60) .skip (.exit 2))) (.seq (.block 3 (.seq (.region [oP 64 (.load true 3 (.t 1)),oP 65 (.bn 0 1 (.t 1)),⟨some 66,.load false 1 (.t 65),none,[1]⟩,mV 67 7,⟨some 68,.idx 5 (.t 66) (.t 67),none,[3,1,2]⟩,⟨some 69,.bn 0 1 (.t 68),none,[2,1,3,4]⟩,⟨some 70,.load false 1 (.t 69),none,[4,3,1,2,5]⟩,⟨some 71,.call (.c (.func 121 [])) [(.t 64),(.t 70)],none,[5,2,1,3,4,6,0]⟩,⟨some 63,.aE (.t 71),none,[0,6,4,3,1,2,5,7]⟩,⟨some 72,.extract (.t 63) 0,none,[7,5,2,1,3,4,6,0,8]⟩,⟨some 73,.extract (.t 63) 1,none,[7,5,2,1,3,4,6,0,8]⟩,⟨some 8,.aE (.t 72),none,[8,0,6,4,3,1,2,5,7,9]⟩,⟨some 9,.aE (.t 73),none,[9,11,8,0,6,4,3,1,2,5,7,10]⟩] true) (.seq (.seq (.region [mV 74 9,oP 75 (.bin .neq (.t 74) (.c (.int .i64 0)))] false) (.cond (.t 75) (.seq (.region [mV 76 9,mV 2 76] false) .ret) .skip)) (.seq (.region [mV 77 8,oP 78 (.bn 0 1 (.t 1)),oP 79 (.load false 1 (.t 78)),mV 80 7,oP 81 (.idx 5 (.t 79) (.t 80)),oP 82 (.bn 1 1 (.t 81)),oP 83 (.load false 1 (.t 82)),oP 84 (.call (.c (.func 122 [])) [(.t 77),(.t 83)]),oP 85 (.un .not (.t 84))] false) (.cond (.t 85) (.seq (.region [oP 2 (.aE (.c (.int .i64 7)))] false) .ret) .skip))))) (.region [mV 61 7,oP 62 (.bin .add (.t 61) (.c (.int .i64 1))),mV 7 62] false)))))) (.seq (.region [oP 87 (.load true 3 (.t 1)),oP 88 (.call (.c (.func 123 [])) [(.t 87)]),mV 86 88,oP 89 (.extract (.t 86) 0),oP 90 (.extract (.t 86) 1),mV 3 90] false) (.seq (.region [mV 91 3,mV 2 91] false) .ret)))]
def F8:List c7:=[.lp K0,.blk 2,.c (.seq (.region [oP 87 (.load true 3 (.t 1)),oP 88 (.call (.c (.func 123 [])) [(.t 87)]),mV 86 88,oP 89 (.extract (.t 86) 0),oP 90 (.extract (.t 86) 1),mV 3 90] false) (.seq (.region [mV 91 3,mV 2 91] false) .ret))]
def F9:List c7:=[.lp K2,.blk 0,.c (.seq (.region [mV 19 3,mV 2 19] false) .ret)]
def Gc:List c7:=[.lp K3,.blk 0,.c (.seq (.region [mV 19 3,mV 2 19] false) .ret)]
def Be:List c7:=[.lp K4,.blk 0,.c (.seq (.region [mV 33 7,mV 4 33] false) .ret)]
def Bf:List c7:=[.lp K5,.blk 0,.c (.seq (.region [mV 35 7,mV 4 35] false) .ret)]
def Gd:List c7:=[.lp K6,.blk 0]
def ri:List c7:=[.lp K7,.blk 0,.c (.seq (.region [mV 49 3,mV 2 49] false) .ret)]
def Bg:List c7:=[.lp K8,.blk 0,.c (.seq (.region [oP 4 (.aE (.c (.bool false)))] false) .ret)]
def Ge:List c7:=[.lp K9,.blk 0,.c (.seq (.region [oP 24 (.build [(.str []),(.sl .full []),(.sl .full []),(.sl .full []),(.bool false)] []),⟨none,.store 5 (.t 4) (.t 24),none,[]⟩,oP 5 (.aE (.c (.bool false)))] false) .ret)]
def Bh:List c7:=[.lp La,.blk 0,.c (.seq (.region [oP 31 (.build [(.str []),(.str []),(.bool false)] []),⟨none,.store 3 (.t 4) (.t 31),none,[]⟩,oP 5 (.aE (.c (.bool false)))] false) .ret)]
def Gf:List c7:=[.lp Lb,.blk 0,.c (.seq (.region [oP 4 (.aE (.c (.bool false)))] false) .ret)]
def pe:List c7:=[.lp Lc,.blk 0,.c (.seq (.region [oP 4 (.aE (.c (.bool false)))] false) .ret)]
def Gg:List c7:=[.lp Ld,.blk 0,.c (.seq (.region [oP 20 (.build [(.str []),(.sl .full []),(.sl .full []),(.sl .full []),(.bool false)] []),⟨none,.store 5 (.t 4) (.t 20),none,[]⟩,oP 5 (.aE (.c (.bool false)))] false) .ret)]
def Bj:List c7:=[.lp Lf,.blk 0,.c (.seq (.region [oP 24 (.build [(.str []),(.str []),(.bool false)] []),⟨none,.store 3 (.t 4) (.t 24),none,[]⟩,oP 5 (.aE (.c (.bool false)))] false) .ret)]
def zA:List c7:=[.lp EB,.blk 0,.c (.seq (.region [oP 2 (.aE (.c (.bool true)))] false) .ret)]
def uM:List c7:=[.lp EC,.blk 0,.c (.seq (.region [oP 2 (.aE (.c (.int .i64 0)))] false) .ret)]
def uN:List c7:=[.lp ED,.blk 0,.c (.seq (.region [oP 2 (.aE (.c (.int .i64 0)))] false) .ret)]
def uO:List c7:=[.lp EE,.blk 0,.c (.seq (.region [oP 2 (.aE (.c (.int .i64 0)))] false) .ret)]
def uP:List c7:=[.lp EF,.blk 0,.c (.seq (.region [mV 51 8,mV 4 51,oP 5 (.aE (.c (.int .i64 0)))] false) .ret)]
def zB:List c7:=[.lp EG,.blk 0,.c (.seq (.region [oP 4 (.aE (.c (.bool true)))] false) .ret)]
def zC:List c7:=[.lp EH,.blk 0,.c (.seq (.region [mV 30 4,mV 2 30,oP 3 (.aE (.c (.int .i64 0)))] false) .ret)]
def zD:List c7:=[.lp EI,.blk 0,.c (.seq (.region [oP 4 (.aE (.c (.int .i64 (-1))))] false) .ret)]
def zE:List c7:=[.lp EJ,.blk 0,.c (.seq (.region [oP 4 (.aE (.c (.int .i64 (-1))))] false) .ret)]
def mQ:List c7:=[.lp EL,.blk 0,.c (.seq (.region [mV 45 3,mV 2 45] false) .ret)]
def rj:List c7:=[.lp EM,.blk 0,.c (.seq (.region [mV 76 12,mV 77 13,oP 78 (.bin .sub (.t 76) (.t 77)),mV 6 78,oP 7 (.aE (.c (.bool true)))] false) .ret)]
def rq:List c7:=[.lp EN,.blk 0,.c (.seq (.region [oP 4 (.aE (.c (.bool false)))] false) .ret)]
def zF:List c7:=[.lp EO,.blk 0,.c (.seq (.region [oP 4 (.aE (.c (.int .i64 (-1))))] false) .ret)]
def uQ:List c7:=[.lp ER,.blk 0,.c (.region [mV 39 5,mV 40 6,oP 41 (.bin .sub (.t 39) (.t 40)),⟨none,.store 1 (.t 3) (.t 41),none,[]⟩] false)]
def kr:List c7:=[.lp ES,.blk 0,.c (.seq (.region [mV 49 7,mV 6 49] false) .ret)]
def mR:List c7:=[.lp ET,.blk 0,.c (.seq (.region [mV 30 5,oP 31 (.c6 (.c (.func 227 [])) [(.t 30)])] false) (.seq (.region [mV 32 5,oP 33 (.c6 (.c (.func 228 [])) [(.t 32)]),mV 4 33] false) .ret))]
def zG:List c7:=[.lp EU,.blk 0,.c (.seq (.region [mV 25 3,mV 2 25] false) .ret)]
def zH:List c7:=[.lp EV,.blk 0,.c (.seq (.region [mV 25 3,mV 2 25] false) .ret)]
def zI:List c7:=[.lp EW,.blk 0,.c (.seq (.region [mV 30 3,mV 2 30] false) .ret)]
def zJ:List c7:=[.lp EX,.blk 0,.c (.seq (.region [mV 30 3,mV 2 30] false) .ret)]
def zK:List c7:=[.lp EY,.blk 0,.c (.seq (.region [oP 2 (.aE (.c (.bool true)))] false) .ret)]
def zL:List c7:=[.lp EZ,.blk 0,.c (.seq (.region [oP 2 (.aE (.c (.bool true)))] false) .ret)]
def zM:List c7:=[.lp E0,.blk 0,.c (.seq (.region [oP 2 (.aE (.c (.bool true)))] false) .ret)]
def zN:List c7:=[.lp E1,.blk 0,.c (.seq (.region [oP 2 (.aE (.c (.bool true)))] false) .ret)]
def zO:List c7:=[.lp E2,.blk 0,.c (.seq (.region [oP 2 (.aE (.c (.bool true)))] false) .ret)]
def zP:List c7:=[.lp E3,.blk 0,.c (.seq (.region [mV 55 8,oP 56 (.call (.c (.func 268 [])) [(.t 55)]),oP 57 (.extract (.t 56) 0),oP 58 (.extract (.t 56) 1),mV 4 57,mV 5 58] false) .ret)]
def zQ:List c7:=[.lp E4,.blk 0,.c (.seq (.region [oP 4 (.aE (.c (.int .i64 0)))] false) .ret)]
def zR:List c7:=[.lp E5,.blk 0,.c (.seq (.region [mV 30 3,mV 2 30] false) .ret)]
def zS:List c7:=[.lp E6,.blk 0,.c (.seq (.region [oP 4 (.aE (.c (.int .i64 (-1))))] false) .ret)]
def zT:List c7:=[.lp E7,.blk 0,.c (.seq (.region [oP 4 (.aE (.c (.int .i64 (-1))))] false) .ret)]
def zU:List c7:=[.lp E9,.blk 0,.c (.seq (.region [oP 4 (.aE (.c (.int .i64 (-1))))] false) .ret)]
def zV:List c7:=[.lp Fa,.blk 0,.c (.seq (.region [oP 4 (.aE (.c (.str []))),oP 5 (.aE (.c (.bool false)))] false) .ret)]
def ij:List c7:=[.lp Fb,.blk 0,.c (.seq (.region [mV 79 7,mV 6 79] false) .ret)]
def lF:List c7:=[.lp y7,.blk 0,.c (.seq (.region [mV 70 5,mV 4 70] false) .ret)]
def zW:List c7:=[.lp Fe,.blk 2,.c (.seq (.seq (.region [mV 45 9,mV 46 5,oP 47 (.len false (.t 46)),oP 48 (.bin .lss (.t 45) (.t 47)),mV 49 48,⟨some 50,.aE (.t 5),some (49,true),[]⟩,⟨some 51,.aE (.t 9),some (49,true),[]⟩,⟨some 52,.idx 1 (.t 50) (.t 51),some (49,true),[]⟩,⟨some 53,.load false 1 (.t 52),some (49,true),[]⟩,⟨some 54,.aE (.t 7),some (49,true),[]⟩,⟨some 55,.bin .eql (.t 53) (.t 54),some (49,true),[]⟩,oP 56 (.pick (.t 49) (.t 55) (.c (.bool false)))] false) (.cond (.t 56) (.exit 1) .skip)) (.seq (.region [oP 57 (.bO 1 []),mV 58 5,mV 59 9,oP 60 (.slice 1 (.t 58) none (some (.t 59)) none),oP 61 (.append 1 16 (.t 57) (.t 60)),mV 62 7,oP 63 (.bO 1 [(.t 62)]),oP 64 (.append 1 16 (.t 61) (.t 63)),mV 10 64] false) (.region [mV 65 10,mV 66 5,mV 67 9,oP 68 (.slice 1 (.t 66) (some (.t 67)) none none),oP 69 (.append 1 16 (.t 65) (.t 68)),mV 5 69] false))),.blk 1,.c (.region [mV 16 6,oP 17 (.bin .add (.t 16) (.c (.int .i64 1))),mV 6 17] false),.lp y7,.blk 0,.c (.seq (.region [mV 70 5,mV 4 70] false) .ret)]
def zX:List c7:=[.lp Ff,.blk 0,.c (.seq (.region [oP 4 (.aE (.c (.str []))),oP 5 (.aE (.c (.bool false)))] false) .ret)]
def zY:List c7:=[.lp y8,.blk 0,.c (.seq (.region [mV 60 0,mV 2 60] false) .ret)]
def uR:List c7:=[.lp Fg,.blk 2,.c (.seq (.region [mV 54 0,mV 55 3,oP 56 (.slice 1 (.t 54) (some (.t 55)) none none),⟨none,.fE [(.str [])] (.t 56),none,[]⟩] false) (.seq (.region [mV 57 0,mV 58 3,oP 59 (.slice 1 (.t 57) none (some (.t 58)) none),mV 2 59] false) .ret)),.blk 1,.c (.region [mV 14 3,oP 15 (.bin .add (.t 14) (.c (.int .i64 1))),mV 3 15] false),.lp y8,.blk 0,.c (.seq (.region [mV 60 0,mV 2 60] false) .ret)]
def zZ:List c7:=[.lp Fh,.blk 0,.c (.seq (.region [oP 4 (.aE (.c (.int .i64 (-1))))] false) .ret)]
def uS:List c7:=[.lp Fi,.blk 0,.c (.seq (.region [oP 2 (.aE (.c (.int .i64 0)))] false) .ret)]
def z6:List c7:=[.lp Fj,.blk 0]
def uT:List c7:=[.lp Fm,.blk 0,.c (.seq (.region [oP 2 (.aE (.c (.bool true)))] false) .ret)]
def uU:List c7:=[.lp Fo,.blk 0,.c (.seq (.region [oP 2 (.aE (.c (.int .i64 0)))] false) .ret)]
def uV:List c7:=[.lp Fp,.blk 0,.c (.seq (.region [oP 2 (.aE (.c (.int .i64 0)))] false) .ret)]
def z7:List c7:=[.lp y9,.blk 0,.c (.seq (.region [oP 2 (.aE (.c (.int .i64 0)))] false) .ret)]
def uW:List c7:=[.lp Fq,.blk 2,.blk 1,.c (.region [mV 12 3,oP 13 (.bin .add (.t 12) (.c (.int .i64 1))),mV 3 13] false),.lp y9,.blk 0,.c (.seq (.region [oP 2 (.aE (.c (.int .i64 0)))] false) .ret)]
def uX:List c7:=[.lp Ft,.blk 0,.c (.seq (.region [oP 2 (.aE (.c (.int .i64 0)))] false) .ret)]
def oC:List c7:=[.lp Fu,.blk 0,.c (.seq (.region [oP 2 (.aE (.c (.int .i64 0)))] false) .ret)]
def mS:List c7:=[.lp Fv,.blk 0,.c (.seq (.region [mV 92 5,mV 4 92] false) .ret)]
def z8:List c7:=[.lp Fw,.blk 0,.c (.seq (.region [oP 4 (.aE (.c (.int .i64 (-1))))] false) .ret)]
def Ab:List c7:=[.lp Fy,.blk 0,.c (.seq (.seq (.region [oP 19 (.load false 1 (.t 0)),oP 20 (.call (.c (.func 273 [])) [(.t 19)]),oP 21 (.len false (.t 20)),oP 22 (.aE (.c (.int .i64 0)))] false) (.block 2 (.loop (.seq (.region [oP 23 (.bin .lss (.t 22) (.t 21))] false) (.seq (.cond (.t 23) .skip (.exit 2)) (.seq (.block 3 (.seq (.region [oP 24 (.idx 1 (.t 20) (.t 22)),oP 25 (.load false 1 (.t 24)),mV 6 25] false) (.seq (.region [oP 27 (.load false 1 (.t 1)),mV 28 6,oP 29 (.call (.t 27) [(.t 28)]),mV 26 29,oP 30 (.extract (.t 26) 0),oP 31 (.extract (.t 26) 1),mV 7 30,mV 8 31] false) (.seq (.region [mV 32 8,oP 33 (.call (.c (.func 68 [])) [(.t 32)])] false) (.seq (.region [mV 34 7,oP 35 (.bin .gtr (.t 34) (.c (.int .i64 0)))] false) (.cond (.t 35) (.region [oP 36 (.load false 1 (.t 2)),mV 37 6,mV 38 7,oP 39 (.build [(.str []),(.int .i64 0)] [(0,1,(.t 37)),(1,1,(.t 38))]),oP 40 (.bO 2 [(.t 39)]),oP 41 (.append 2 24 (.t 36) (.t 40)),⟨none,.store 1 (.t 2) (.t 41),none,[]⟩] false) .skip)))))) (.region [oP 42 (.bin .add (.t 22) (.c (.int .i64 1))),mV 22 42] false))))))) (.seq (.region [oP 43 (.load false 1 (.t 2)),oP 44 (.len false (.t 43)),oP 45 (.bin .gtr (.t 44) (.c (.int .i64 8)))] false) (.cond (.t 45) (.region [oP 46 (.call (.c (.func 68 [])) [(.c (.int .i64 4))])] false) .skip)))]
def uY:List c7:=[.lp Fz,.blk 2,.c (.seq (.region [oP 43 (.load false 1 (.t 2)),oP 44 (.len false (.t 43)),oP 45 (.bin .gtr (.t 44) (.c (.int .i64 8)))] false) (.cond (.t 45) (.region [oP 46 (.call (.c (.func 68 [])) [(.c (.int .i64 4))])] false) .skip))]
def uZ:List c7:=[.lp za,.blk 0,.c (.seq (.region [mV 27 3,oP 28 (.c6 (.c (.func 227 [])) [(.t 27)])] false) (.seq (.region [mV 29 3,oP 30 (.c6 (.c (.func 228 [])) [(.t 29)]),mV 2 30] false) .ret))]
def u5:List c7:=[.lp FA,.blk 2,.blk 1,.c (.region [oP 26 (.bin .add (.t 10) (.c (.int .i64 1))),mV 10 26] false),.lp za,.blk 0,.c (.seq (.region [mV 27 3,oP 28 (.c6 (.c (.func 227 [])) [(.t 27)])] false) (.seq (.region [mV 29 3,oP 30 (.c6 (.c (.func 228 [])) [(.t 29)]),mV 2 30] false) .ret))]
end Go.Aa.T
set_option linter.unusedSimpArgs false
namespace Go.Proofs.YthlhlfiklmmenaaGreatDoor
open Go.RowKit
open Go.Aa
theorem T.rz(p:Addr)(w:World):
 CallsD Tryz.prog 134 #[.pointer (some p)] .returning w fun e u' w'=>e=.returned (.tuple #[])∧u'=.returning∧w'=w:=by
 refine callsD_of_wpS Tryz.func134 rfl fun c₀ cs hu=> ?_
 apply wpS_seq
 apply wpS_region
 simp[wpOpsS,go_sem,recoverD,hu,Tryz.ntmps134,Exit.thenS]
 refine wpS_of_wp ?_
 go_wp2
 cases c₀
 simp_all[bodyPostS,results,Tryz.results134]
theorem T.WL(v:Value)(w:World):(Instr.typeAssert (.iface 211 v) 20 211 true).run Tryz.prog w=.ok (.tuple #[v,.bool true]) w:=by kernel_rfl
set_option maxHeartbeats 4000000 in
theorem T.Ac(b:Nat)(x:Int)(n:Int)(older:List PanicEntry)(w:World)(hlt:b<w.heap.size)(hne:¬w.heap.size=b)(Yt:¬b=w.heap.size)(hc:w.cell? ⟨b,0,none⟩=some (.int .i64 x))(hz:w.frozen? ⟨b,0,none⟩=false):
 CallsD Tryz.prog 134 #[.pointer (some ⟨b,0,none⟩)] (.panicking ({v:=.iface 211 (.agg #[.int .i64 n]),recovered:=false}::older)) w fun e u' w'=>
  e=.returned (.tuple #[])∧u'=.panicking ({v:=.iface 211 (.agg #[.int .i64 n]),recovered:=true}::older)∧w'=(w.setCell ⟨b,0,none⟩ (.int .i64 n)).alloc (.cells #[.int .i64 n] 211):=by
 have WL:=T.WL
 have OC:∀w:World,(zeroValue 211).run Tryz.prog w=.ok (.agg #[.int .i64 0]) w:=fun _=>by kernel_rfl
 have hsz:Tryz.prog.cellsOf 211=1:=by kernel_rfl
 have hag:∀w:World,(isAgg 211).run Tryz.prog w=.ok true w:=fun _=>by kernel_rfl
 refine callsD_of_wpS Tryz.func134 rfl fun c₀ cs hu=> ?_
 apply wpS_seq
 apply wpS_region
 simp[wpOpsS,go_sem,recoverD,hu,Tryz.ntmps134,Exit.thenS]
 refine wpS_of_wp ?_
 go_wp2
 cases c₀
 simp_all[bodyPostS,results,Tryz.results134]
theorem T.Nl{call:bL}(hcs:cX Tryz.prog call){g:FuncId}{caps:List AV}{H H':Heap}{r:cZ}(hr:ug (call (.fn g) caps H) 211=some (r,H')){G:aF}{w:World}{us:Array Value}(hH:bB Tryz.prog G w H)(hargs:fk G w us caps):
 Calls Tryz.prog 66 #[.func (.func g) #[] us] w (gD Tryz.prog G w r H'):=by
 have Y2:∀(fn:Fn)(first cap:Array Value)(w:World),(Instr.makeFunc fn first cap).run Tryz.prog w=.ok (.func fn first cap) w:=fun _ _ _ _=>rfl
 obtain⟨Ou,WM⟩:=xg hH (.cells #[.int .i64 0] 63)
 have hlt:=Ng WM
 have hfree:=FU hH
 have hsz:(w.alloc (.cells #[.int .i64 0] 63)).heap.size=w.heap.size+1:=by simp
 have hb0:(w.alloc (.cells #[.int .i64 0] 63)).heap[w.heap.size]?=some (.cells #[.int .i64 0] 63 (0,0)):=World.alloc_heap_new w _
 have dh:∃r1 H1,call (.fn g) caps H=some (r1,H1)∧((∃v,r1=.ret v∧r=.ret (.int .i64 0)∧H1=H')∨(∃n,r1=.cS (.iface 211 (.agg [.int .i64 n]))∧r=.ret (.int .i64 n)∧H1=H')):=by
  cases kL:call (.fn g) caps H with
  |none=>rw[kL]at hr;cases hr
  |some x=>
   obtain⟨r1,H1⟩:=x
   rw[kL]at hr
   cases r1 with
   |ret v=>
    simp only[ug,Option.some.injEq,Prod.mk.injEq]at hr
    exact⟨_,_,rfl,.inl ⟨v,rfl,hr.1.symm,hr.2⟩⟩
   |cS v=>
    unfold ug at hr
    split at hr
    ·rename_i h;cases h
    ·rename_i h
     split at hr
     ·rename_i ht
      subst ht
      simp only[Option.some.injEq,Prod.mk.injEq]at hr
      simp only[Option.some.injEq,Prod.mk.injEq,cZ.cS.injEq]at h
      obtain⟨rfl,rfl⟩:=h
      exact⟨_,_,rfl,.inr ⟨_,rfl,hr.1.symm,hr.2⟩⟩
     ·cases hr
    ·cases hr
 obtain⟨r1,H1,hc,hend⟩:=dh
 have r6:=hcs.fn g caps H r1 H1 hc G _ us WM (hargs.step Ou)
 go_enter_defers Tryz.func66,Tryz.ntmps66
 go_wp2
 rcases r6 with⟨_,hrun,Nn,_⟩|⟨u,w',hrun,hpost⟩
 ·rw[hrun]
  simp only[Oper.upon]
  refine Nn.mono ?_
  rintro e w2⟨G2,Li,tH,xq⟩
  obtain⟨Ad,hb2⟩:=tG hfree (by rw[hsz];omega) Li hlt
  rw[hb0]at hb2
  have qy:w2.cell? ⟨w.heap.size,0,none⟩=some (.int .i64 0):=by simp[World.cell?,hb2]
  have WN:w2.frozen? ⟨w.heap.size,0,none⟩=false:=by simp[World.frozen?,hb2]
  have pk:∀n:Int,Step G w G2 (w2.setCell ⟨w.heap.size,0,none⟩ (.int .i64 n))∧bB Tryz.prog G2 (w2.setCell ⟨w.heap.size,0,none⟩ (.int .i64 n)) H1:=fun n=>
   QB Ad hH.base (Nat.le_refl _) (Ou.trans Li) tH (fun k hk=>Below.heap_setCell _ _ _ k hk) (by simp) hH.j5 rfl rfl rfl
  rcases hend with⟨v,rfl,rfl,rfl⟩|⟨n,rfl,rfl,rfl⟩
  ·obtain⟨u,rfl,hu⟩:=xq
   simp only
   apply ‹∀(a:Act)(w:World),wpList _ _ _ _ a w→_›
   go_wp2
   refine leaves_cons (f:=134) (args:= #[.pointer (some ⟨w.heap.size,0,none⟩)]) (by simp) (by simp[go_sem]) ?_
   refine(T.rz _ _).mono ?_
   rintro e u' w''⟨rfl,rfl,rfl⟩
   have QV:(w2.setCell ⟨w.heap.size,0,none⟩ (.int .i64 0)).cell? ⟨w.heap.size,0,none⟩=some (.int .i64 0):=by first|exact World.cell?_setCell_same _ qy|exact World.cell?_setCell_same _ _ qy|exact World.cell?_setCell_same _ _ _ qy
   simp[Leaves,settle,results,Tryz.results66,go_sem,QV]
   exact⟨G2,(pk 0).1,(pk 0).2,_,rfl,.int _ _⟩
  ·obtain⟨u,rfl,hu⟩:=xq
   have vT:u=.iface 211 (.agg #[.int .i64 n]):=by
    cases hu with
    |iface _ v _ hv=>
     cases hv with
     |agg us _ hn hv=>
      have h0:us.size=1:=hn
      have h1:=hv 0 (by omega) (by simp)
      have e:us= #[us[0]]:=Array.ext (by simpa using h0) (fun i i1 i2=>by
       have:i=0:=by omega
       subst this;rfl)
      rw[List.getElem_cons_zero]at h1
      generalize us[0]=y at h1 e
      cases h1
      rw[e]
   subst vT
   have hb3:w.heap.size<w2.heap.size:=(Array.getElem?_eq_some_iff.1 hb2).1
   simp only[Exit.then]
   refine leaves_cons (f:=134) (args:= #[.pointer (some ⟨w.heap.size,0,none⟩)]) (by simp) (by simp[go_sem]) ?_
   refine(T.Ac w.heap.size 0 n [] w2 hb3 (by omega) (by omega) qy WN).mono ?_
   rintro e u' w''⟨rfl,rfl,rfl⟩
   have QV:((w2.setCell ⟨w.heap.size,0,none⟩ (.int .i64 n)).alloc (.cells #[.int .i64 n] 211)).cell? ⟨w.heap.size,0,none⟩=some (.int .i64 n):=by
    have e1:=Below.heap_alloc (w2.setCell ⟨w.heap.size,0,none⟩ (.int .i64 n)) (.cells #[.int .i64 n] 211) w.heap.size (by simpa using hb3)
    have c:(w2.setCell ⟨w.heap.size,0,none⟩ (.int .i64 n)).cell? ⟨w.heap.size,0,none⟩=some (.int .i64 n):=by first|exact World.cell?_setCell_same _ qy|exact World.cell?_setCell_same _ _ qy|exact World.cell?_setCell_same _ _ _ qy
    unfold World.cell? at c⊢
    rw[e1];exact c
   simp[Leaves,settle,results,Tryz.results66,go_sem,QV]
   obtain⟨s3,h3⟩:=pk n
   obtain⟨s4,h4⟩:=xg h3 (.cells #[.int .i64 n] 211)
   exact⟨G2,s3.trans s4,h4,_,rfl,.int _ _⟩
 ·rw[hrun]
  simp only[Oper.upon]
  obtain⟨G2,Li,tH,xq⟩:=hpost
  obtain⟨Ad,hb2⟩:=tG hfree (by rw[hsz];omega) Li hlt
  rw[hb0]at hb2
  have qy:w'.cell? ⟨w.heap.size,0,none⟩=some (.int .i64 0):=by simp[World.cell?,hb2]
  have WN:w'.frozen? ⟨w.heap.size,0,none⟩=false:=by simp[World.frozen?,hb2]
  have pk:∀n:Int,Step G w G2 (w'.setCell ⟨w.heap.size,0,none⟩ (.int .i64 n))∧bB Tryz.prog G2 (w'.setCell ⟨w.heap.size,0,none⟩ (.int .i64 n)) H1:=fun n=>
   QB Ad hH.base (Nat.le_refl _) (Ou.trans Li) tH (fun k hk=>Below.heap_setCell _ _ _ k hk) (by simp) hH.j5 rfl rfl rfl
  rcases hend with⟨v,rfl,rfl,rfl⟩|⟨n,rfl,rfl,rfl⟩
  ·obtain⟨u',vT,hu⟩:=xq
   apply ‹∀(a:Act)(w:World),wpList _ _ _ _ a w→_›
   go_wp2
   refine leaves_cons (f:=134) (args:= #[.pointer (some ⟨w.heap.size,0,none⟩)]) (by simp) (by simp[go_sem]) ?_
   refine(T.rz _ _).mono ?_
   rintro e u' w''⟨rfl,rfl,rfl⟩
   have QV:(w'.setCell ⟨w.heap.size,0,none⟩ (.int .i64 0)).cell? ⟨w.heap.size,0,none⟩=some (.int .i64 0):=by first|exact World.cell?_setCell_same _ qy|exact World.cell?_setCell_same _ _ qy|exact World.cell?_setCell_same _ _ _ qy
   simp[Leaves,settle,results,Tryz.results66,go_sem,QV]
   exact⟨G2,(pk 0).1,(pk 0).2,_,rfl,.int _ _⟩
  ·obtain⟨u',vT,hu⟩:=xq
   cases vT
theorem T.Lj:KO Tryz.prog 66 211:=by
 intro call hcs g caps H r H' hr G w vs hH hargs
 obtain⟨h1,h2⟩:=hargs
 have hs:vs.size=1:=h1
 have e:vs= #[vs[0]]:=Array.ext (by simpa using hs) (fun i i1 i2=>by
  have:i=0:=by omega
  subst this;rfl)
 have hv:=h2 0 (by omega) (by simp)
 rw[List.getElem_cons_zero]at hv
 generalize vs[0]=y at hv e
 subst e
 cases hv with
 |func _ us _ hn hu=>exact .inl ⟨w,by kernel_rfl,T.Nl hcs hr hH ⟨hn,hu⟩,rfl⟩
#print axioms T.Lj
end Go.Proofs.YthlhlfiklmmenaaGreatDoor
namespace Go.Aa.T
open Go.Aa Go.Proofs
variable{H:Heap}
structure cR where
 key:List UInt8
 val:List UInt8
 dB:Bool
structure je where
 key:List UInt8
 val:List UInt8
 any:Bool
def cR.cells(t:cR):List AV:=[.str t.key,.str t.val,.bool t.dB]
def je.cells(t:je):List AV:=[.str t.key,.str t.val,.bool t.any]
def bu(t:cR):AV:=.agg t.cells
def aQ(t:je):AV:=.agg t.cells
instance(t:cR):qO (bu t):=⟨rfl,rfl⟩
instance(t:je):qO (aQ t):=⟨rfl,rfl⟩
end Go.Aa.T
namespace Go.Aa.T
open Go.Aa Go.Proofs
theorem _root_.Go.Aa.dT(p:Prop)[Decidable p](h:p:=by omega):decide p=true:=decide_eq_true h
theorem _root_.Go.Aa.dF(p:Prop)[Decidable p](h:¬p:=by omega):decide p=false:=decide_eq_false h
theorem _root_.Go.Aa.lM{X:Type}(k:SK)(f:X→AV)(l:List X):dA false (.sl k (l.map f))=some (.int .i64 (l.length:Int)):=Jr _
theorem _root_.Go.Aa.iR{X:Type}{l post:List X}{x:X}{i:Nat}(es:Nat)(f:X→AV)(hd:l.drop i=x::post)(hc:cF es (f x)=true:=by rfl):cc es (.sl .sh (l.map f)) (.int .i64 (i:Int))=some (.ref (f x).cells):=bx hd hc
theorem _root_.Go.Aa.iI(i:Nat)(h:i<9223372036854775807:=by omega):cG .add (.int .i64 (i:Int)) (.int .i64 1)=some (.int .i64 ((i+1:Nat):Int)):=fK h
theorem _root_.Go.Aa.lB(b:Bool)(n:Nat)(H:Heap)(k o:Nat)(v:AV)(cs:List AV)(h:H.boxes[k]?=some cs:=by simp+zetaDelta)(e:ak b n ⟨[cs],[],[]⟩ (.ptr 0 o)=some v:=by rfl):ak b n H (.ptr k o)=some v:=ah h e
theorem _root_.Go.Aa.gG{cfg:mj}{A:aO}{R:cZ×Heap→Prop}{T:Env}{k:List c7}{H:Heap}(n:Nat)(vs:List (Nat×AV))(hT:Has T vs)(s:bN cfg A R)(e:Ct s (fun s=>mg n k s (bJ T vs) H)=cD s:=by kernel_rfl):bA cfg A k T H R:=XG n vs hT s e
def rW{α:Type}(f:α→List UInt8×List UInt8)(l:List α):Bool:=l.all fun x=>decide ((f x).1.length≤50)&&decide ((f x).2.length≤50)
def u6(l:List cR):Bool:=decide (l.length≤20)&&rW (fun t=>(t.key,t.val)) l
def su(l:List je):Bool:=decide (l.length≤20)&&rW (fun t=>(t.key,t.val)) l
theorem CJ(l:List cR)(hn:l.length≤20):∀(post:List cR)(i:Nat)(hd:l.drop i=post)(T:Env)(hT:Has T [(0,.sl .sh (l.map bu)),(3,.int .i64 i)]),
 bA cfg I5 zN T Heap.nil (aJ (.bool (rW (fun t=>(t.key,t.val)) post))):=by
 intro post
 induction post with
 |nil=>
  intro i hd T hT
  have hge:=bf hd
  exact gG 60 _ hT (.len (lM .sh bu l)<|.no (dF ((↑i:Int)<(↑l.length:Int)))<|.fin ((.ret (.bool true),{boxes:=[],toks:=[],loops:=[]:Heap})) rfl)
 |cons x post ih=>
  intro i hd T hT
  have hlt:=bg hd
  have cq:=aL hd
  exact let ag:Heap:={boxes:=[],toks:=[],loops:=[]:Heap};gG 60 _ hT (.len (lM .sh bu l)<|.yes (dT ((↑i:Int)<(↑l.length:Int)))<|.idx (iR 3 bu hd)<|.len (show dA true (.str x.key)=some (.int .i64 (↑x.key.length))from dw _)<|.split ((50:Int)<(↑x.key.length:Int)) (fun h1=>.yes (dT ((50:Int)<(↑x.key.length:Int)) h1)<|.tt<|.fin ((.ret (.bool false),ag)) (by simp only[aJ];grind[rW])) (fun h1=>.no (dF ((50:Int)<(↑x.key.length:Int)) h1)<|.idx (iR 3 bu hd)<|.len (show dA true (.str x.val)=some (.int .i64 (↑x.val.length))from dw _)<|.split ((50:Int)<(↑x.val.length:Int)) (fun h2=>.yes (dT ((50:Int)<(↑x.val.length:Int)) h2)<|.fin ((.ret (.bool false),ag)) (by simp only[aJ];grind[rW])) (fun h2=>.no (dF ((50:Int)<(↑x.val.length:Int)) h2)<|.bin (iI i)<|.aT zN [(0,.sl .sh (l.map bu)),(3,.int .i64 (↑(i+1)))] (ag) (fun T hT=>(ih (i+1) cq T hT).to (by grind[rW])))))
theorem CK(l:List je)(hn:l.length≤20):∀(post:List je)(i:Nat)(hd:l.drop i=post)(T:Env)(hT:Has T [(0,.sl .sh (l.map aQ)),(3,.int .i64 i)]),
 bA cfg a206 zO T Heap.nil (aJ (.bool (rW (fun t=>(t.key,t.val)) post))):=by
 intro post
 induction post with
 |nil=>
  intro i hd T hT
  have hge:=bf hd
  exact gG 60 _ hT (.len (lM .sh aQ l)<|.no (dF ((↑i:Int)<(↑l.length:Int)))<|.fin ((.ret (.bool true),{boxes:=[],toks:=[],loops:=[]:Heap})) rfl)
 |cons x post ih=>
  intro i hd T hT
  have hlt:=bg hd
  have cq:=aL hd
  exact let ag:Heap:={boxes:=[],toks:=[],loops:=[]:Heap};gG 60 _ hT (.len (lM .sh aQ l)<|.yes (dT ((↑i:Int)<(↑l.length:Int)))<|.idx (iR 3 aQ hd)<|.len (show dA true (.str x.key)=some (.int .i64 (↑x.key.length))from dw _)<|.split ((50:Int)<(↑x.key.length:Int)) (fun h1=>.yes (dT ((50:Int)<(↑x.key.length:Int)) h1)<|.tt<|.fin ((.ret (.bool false),ag)) (by simp only[aJ];grind[rW])) (fun h1=>.no (dF ((50:Int)<(↑x.key.length:Int)) h1)<|.idx (iR 3 aQ hd)<|.len (show dA true (.str x.val)=some (.int .i64 (↑x.val.length))from dw _)<|.split ((50:Int)<(↑x.val.length:Int)) (fun h2=>.yes (dT ((50:Int)<(↑x.val.length:Int)) h2)<|.fin ((.ret (.bool false),ag)) (by simp only[aJ];grind[rW])) (fun h2=>.no (dF ((50:Int)<(↑x.val.length:Int)) h2)<|.bin (iI i)<|.aT zO [(0,.sl .sh (l.map aQ)),(3,.int .i64 (↑(i+1)))] (ag) (fun T hT=>(ih (i+1) cq T hT).to (by grind[rW])))))
theorem Gh(l:List cR):aq cfg 205 [.sl .sh (l.map bu)] (.bool (u6 l)):=by
 refine aq.run (Ut _ _) ?_
 have h:=fun hn=>CJ l hn l 0 rfl
 exact let ag:Heap:={boxes:=[],toks:=[],loops:=[]:Heap};gG 60 [] trivial (.len (lM .sh bu l)<|.split ((20:Int)<(↑l.length:Int)) (fun h1=>.yes (dT ((20:Int)<(↑l.length:Int)) h1)<|.fin ((.ret (.bool false),ag)) (by simp only[aJ];grind[u6])) (fun h1=>.no (dF ((20:Int)<(↑l.length:Int)) h1)<|.aT zN [(0,.sl .sh (l.map bu)),(3,.int .i64 0)] (ag) (fun T hT=>(h (by omega) T hT).to (by grind[u6]))))
theorem Gi(l:List je):aq cfg 206 [.sl .sh (l.map aQ)] (.bool (su l)):=by
 refine aq.run (Uu _ _) ?_
 have h:=fun hn=>CK l hn l 0 rfl
 exact let ag:Heap:={boxes:=[],toks:=[],loops:=[]:Heap};gG 60 [] trivial (.len (lM .sh aQ l)<|.split ((20:Int)<(↑l.length:Int)) (fun h1=>.yes (dT ((20:Int)<(↑l.length:Int)) h1)<|.fin ((.ret (.bool false),ag)) (by simp only[aJ];grind[su])) (fun h1=>.no (dF ((20:Int)<(↑l.length:Int)) h1)<|.aT zO [(0,.sl .sh (l.map aQ)),(3,.int .i64 0)] (ag) (fun T hT=>(h (by omega) T hT).to (by grind[su]))))
theorem Gj(l:List cR)(hn:l.length≤20):∀(post:List cR)(i:Nat)(acc:List AV)(hd:l.drop i=post)(ha:acc.length=i)(hl:cE 3 acc=true)(T:Env)(hT:Has T [(0,.sl .sh (l.map bu)),(3,aZ Heap.nil acc),(4,.int .i64 i)]),
 bA cfg a212 zR T (cu Heap.nil acc) (aJ (aZ Heap.nil (acc++post.map bu))):=by
 intro post
 induction post with
 |nil=>
  intro i acc hd ha hl T hT
  have hge:=bf hd
  exact gG 60 _ hT (.len (lM .sh bu l)<|.no (dF ((↑i:Int)<(↑l.length:Int)))<|.fin ((.ret (aU (aU (aU (aU (aU (aU (bJ T [(0,.sl .sh (l.map bu)),(3,aZ Heap.nil acc),(4,.int .i64 ↑i)]) (some 5) (ev (bJ T [(0,.sl .sh (l.map bu)),(3,aZ Heap.nil acc),(4,.int .i64 ↑i)]) (.t 4))) (some 6) (ev (aU (bJ T [(0,.sl .sh (l.map bu)),(3,aZ Heap.nil acc),(4,.int .i64 ↑i)]) (some 5) (ev (bJ T [(0,.sl .sh (l.map bu)),(3,aZ Heap.nil acc),(4,.int .i64 ↑i)]) (.t 4))) (.t 0))) (some 7) (.int .i64 (↑l.length))) (some 8) (.bool (decide ((↑i:Int)<(↑l.length:Int))))) (some 30) (ev (aU (aU (aU (aU (bJ T [(0,.sl .sh (l.map bu)),(3,aZ Heap.nil acc),(4,.int .i64 ↑i)]) (some 5) (ev (bJ T [(0,.sl .sh (l.map bu)),(3,aZ Heap.nil acc),(4,.int .i64 ↑i)]) (.t 4))) (some 6) (ev (aU (bJ T [(0,.sl .sh (l.map bu)),(3,aZ Heap.nil acc),(4,.int .i64 ↑i)]) (some 5) (ev (bJ T [(0,.sl .sh (l.map bu)),(3,aZ Heap.nil acc),(4,.int .i64 ↑i)]) (.t 4))) (.t 0))) (some 7) (.int .i64 (↑l.length))) (some 8) (.bool (decide ((↑i:Int)<(↑l.length:Int))))) (.t 3))) (some 2) (ev (aU (aU (aU (aU (aU (bJ T [(0,.sl .sh (l.map bu)),(3,aZ Heap.nil acc),(4,.int .i64 ↑i)]) (some 5) (ev (bJ T [(0,.sl .sh (l.map bu)),(3,aZ Heap.nil acc),(4,.int .i64 ↑i)]) (.t 4))) (some 6) (ev (aU (bJ T [(0,.sl .sh (l.map bu)),(3,aZ Heap.nil acc),(4,.int .i64 ↑i)]) (some 5) (ev (bJ T [(0,.sl .sh (l.map bu)),(3,aZ Heap.nil acc),(4,.int .i64 ↑i)]) (.t 4))) (.t 0))) (some 7) (.int .i64 (↑l.length))) (some 8) (.bool (decide ((↑i:Int)<(↑l.length:Int))))) (some 30) (ev (aU (aU (aU (aU (bJ T [(0,.sl .sh (l.map bu)),(3,aZ Heap.nil acc),(4,.int .i64 ↑i)]) (some 5) (ev (bJ T [(0,.sl .sh (l.map bu)),(3,aZ Heap.nil acc),(4,.int .i64 ↑i)]) (.t 4))) (some 6) (ev (aU (bJ T [(0,.sl .sh (l.map bu)),(3,aZ Heap.nil acc),(4,.int .i64 ↑i)]) (some 5) (ev (bJ T [(0,.sl .sh (l.map bu)),(3,aZ Heap.nil acc),(4,.int .i64 ↑i)]) (.t 4))) (.t 0))) (some 7) (.int .i64 (↑l.length))) (some 8) (.bool (decide ((↑i:Int)<(↑l.length:Int))))) (.t 3))) (.t 30)) 2),cu Heap.nil acc)) (by simp only[aJ,List.map_nil,List.append_nil];rfl))
 |cons x post ih=>
  intro i acc hd ha hl T hT
  have hlt:=bg hd
  have cq:=aL hd
  exact gG 60 _ hT (.len (lM .sh bu l)<|.yes (dT ((↑i:Int)<(↑l.length:Int)) (by simp;omega))<|.idx (iR 3 bu hd)<|.load (rfl:ak false 1 (cu Heap.nil acc) (.ref [.str x.key])=some (.str x.key))<|.idx (iR 3 bu hd)<|.load (rfl:ak false 1 (cu Heap.nil acc) (.ref [.str x.val])=some (.str x.val))<|.idx (iR 3 bu hd)<|.load (rfl:ak false 1 (cu Heap.nil acc) (.ref [.bool x.dB])=some (.bool x.dB))<|.append (show bw 3 40 (cu Heap.nil acc) (aZ Heap.nil acc) (.sl .full [.agg [.str x.key,.str x.val,.bool x.dB]])=some ((aZ Heap.nil (acc++[AV.agg [.str x.key,.str x.val,.bool x.dB]]),cu Heap.nil (acc++[AV.agg [.str x.key,.str x.val,.bool x.dB]])))from eF (by omega) hl (by rfl) (by rfl))<|.bin (iI i)<|.aT zR [(0,.sl .sh (l.map bu)),(3,aZ Heap.nil (acc++[AV.agg [.str x.key,.str x.val,.bool x.dB]])),(4,.int .i64 (↑(i+1)))] (cu Heap.nil (acc++[AV.agg [.str x.key,.str x.val,.bool x.dB]])) (fun T hT=>(ih (i+1) (acc++[AV.agg [.str x.key,.str x.val,.bool x.dB]]) cq (by simp;omega) (by exact e9 (by assumption) rfl) T hT).to (by simp[bu,cR.cells])))
theorem Gk(l:List je)(hn:l.length≤20):∀(post:List je)(i:Nat)(acc:List AV)(hd:l.drop i=post)(ha:acc.length=i)(hl:cE 3 acc=true)(T:Env)(hT:Has T [(0,.sl .sh (l.map aQ)),(3,aZ Heap.nil acc),(4,.int .i64 i)]),
 bA cfg I2 zJ T (cu Heap.nil acc) (aJ (aZ Heap.nil (acc++post.map aQ))):=by
 intro post
 induction post with
 |nil=>
  intro i acc hd ha hl T hT
  have hge:=bf hd
  exact gG 60 _ hT (.len (lM .sh aQ l)<|.no (dF ((↑i:Int)<(↑l.length:Int)))<|.fin ((.ret (aU (aU (aU (aU (aU (aU (bJ T [(0,.sl .sh (l.map aQ)),(3,aZ Heap.nil acc),(4,.int .i64 ↑i)]) (some 5) (ev (bJ T [(0,.sl .sh (l.map aQ)),(3,aZ Heap.nil acc),(4,.int .i64 ↑i)]) (.t 4))) (some 6) (ev (aU (bJ T [(0,.sl .sh (l.map aQ)),(3,aZ Heap.nil acc),(4,.int .i64 ↑i)]) (some 5) (ev (bJ T [(0,.sl .sh (l.map aQ)),(3,aZ Heap.nil acc),(4,.int .i64 ↑i)]) (.t 4))) (.t 0))) (some 7) (.int .i64 (↑l.length))) (some 8) (.bool (decide ((↑i:Int)<(↑l.length:Int))))) (some 30) (ev (aU (aU (aU (aU (bJ T [(0,.sl .sh (l.map aQ)),(3,aZ Heap.nil acc),(4,.int .i64 ↑i)]) (some 5) (ev (bJ T [(0,.sl .sh (l.map aQ)),(3,aZ Heap.nil acc),(4,.int .i64 ↑i)]) (.t 4))) (some 6) (ev (aU (bJ T [(0,.sl .sh (l.map aQ)),(3,aZ Heap.nil acc),(4,.int .i64 ↑i)]) (some 5) (ev (bJ T [(0,.sl .sh (l.map aQ)),(3,aZ Heap.nil acc),(4,.int .i64 ↑i)]) (.t 4))) (.t 0))) (some 7) (.int .i64 (↑l.length))) (some 8) (.bool (decide ((↑i:Int)<(↑l.length:Int))))) (.t 3))) (some 2) (ev (aU (aU (aU (aU (aU (bJ T [(0,.sl .sh (l.map aQ)),(3,aZ Heap.nil acc),(4,.int .i64 ↑i)]) (some 5) (ev (bJ T [(0,.sl .sh (l.map aQ)),(3,aZ Heap.nil acc),(4,.int .i64 ↑i)]) (.t 4))) (some 6) (ev (aU (bJ T [(0,.sl .sh (l.map aQ)),(3,aZ Heap.nil acc),(4,.int .i64 ↑i)]) (some 5) (ev (bJ T [(0,.sl .sh (l.map aQ)),(3,aZ Heap.nil acc),(4,.int .i64 ↑i)]) (.t 4))) (.t 0))) (some 7) (.int .i64 (↑l.length))) (some 8) (.bool (decide ((↑i:Int)<(↑l.length:Int))))) (some 30) (ev (aU (aU (aU (aU (bJ T [(0,.sl .sh (l.map aQ)),(3,aZ Heap.nil acc),(4,.int .i64 ↑i)]) (some 5) (ev (bJ T [(0,.sl .sh (l.map aQ)),(3,aZ Heap.nil acc),(4,.int .i64 ↑i)]) (.t 4))) (some 6) (ev (aU (bJ T [(0,.sl .sh (l.map aQ)),(3,aZ Heap.nil acc),(4,.int .i64 ↑i)]) (some 5) (ev (bJ T [(0,.sl .sh (l.map aQ)),(3,aZ Heap.nil acc),(4,.int .i64 ↑i)]) (.t 4))) (.t 0))) (some 7) (.int .i64 (↑l.length))) (some 8) (.bool (decide ((↑i:Int)<(↑l.length:Int))))) (.t 3))) (.t 30)) 2),cu Heap.nil acc)) (by simp only[aJ,List.map_nil,List.append_nil];rfl))
 |cons x post ih=>
  intro i acc hd ha hl T hT
  have hlt:=bg hd
  have cq:=aL hd
  exact gG 60 _ hT (.len (lM .sh aQ l)<|.yes (dT ((↑i:Int)<(↑l.length:Int)) (by simp;omega))<|.idx (iR 3 aQ hd)<|.load (rfl:ak false 1 (cu Heap.nil acc) (.ref [.str x.key])=some (.str x.key))<|.idx (iR 3 aQ hd)<|.load (rfl:ak false 1 (cu Heap.nil acc) (.ref [.str x.val])=some (.str x.val))<|.idx (iR 3 aQ hd)<|.load (rfl:ak false 1 (cu Heap.nil acc) (.ref [.bool x.any])=some (.bool x.any))<|.append (show bw 3 40 (cu Heap.nil acc) (aZ Heap.nil acc) (.sl .full [.agg [.str x.key,.str x.val,.bool x.any]])=some ((aZ Heap.nil (acc++[AV.agg [.str x.key,.str x.val,.bool x.any]]),cu Heap.nil (acc++[AV.agg [.str x.key,.str x.val,.bool x.any]])))from eF (by omega) hl (by rfl) (by rfl))<|.bin (iI i)<|.aT zJ [(0,.sl .sh (l.map aQ)),(3,aZ Heap.nil (acc++[AV.agg [.str x.key,.str x.val,.bool x.any]])),(4,.int .i64 (↑(i+1)))] (cu Heap.nil (acc++[AV.agg [.str x.key,.str x.val,.bool x.any]])) (fun T hT=>(ih (i+1) (acc++[AV.agg [.str x.key,.str x.val,.bool x.any]]) cq (by simp;omega) (by exact e9 (by assumption) rfl) T hT).to (by simp[aQ,je.cells])))
theorem JA(l:List cR)(hn:l.length≤20):aq cfg 212 [.sl .sh (l.map bu)] (aZ Heap.nil (l.map bu)):=by
 refine aq.run (UA _ _) ?_
 have h:=Gj l hn l 0 [] rfl rfl rfl
 exact gG 60 [] trivial (.aT zR [(0,.sl .sh (l.map bu)),(3,.sl .full []),(4,.int .i64 0)] ({boxes:=[],toks:=[],loops:=[]:Heap}) (fun T hT=>(h T hT)))
theorem JB(l:List je)(hn:l.length≤20):aq cfg 199 [.sl .sh (l.map aQ)] (aZ Heap.nil (l.map aQ)):=by
 refine aq.run (Uo _ _) ?_
 have h:=Gk l hn l 0 [] rfl rfl rfl
 exact gG 60 [] trivial (.aT zJ [(0,.sl .sh (l.map aQ)),(3,.sl .full []),(4,.int .i64 0)] ({boxes:=[],toks:=[],loops:=[]:Heap}) (fun T hT=>(h T hT)))
def gh(c:UInt8):Bool:=(decide (97≤c.toNat)&&decide (c.toNat≤122))||(decide (48≤c.toNat)&&decide (c.toNat≤57))
def isName(s:List UInt8):Bool:=decide (1≤s.length)&&decide (s.length≤12)&&s.all gh
theorem CL(s:List UInt8)(hn:s.length≤12):∀(post:List UInt8)(i:Nat)(hd:s.drop i=post)(T:Env)(hT:Has T [(0,.str s),(3,.int .i64 i)]),
 bA cfg Je uT T Heap.nil (aJ (.bool (post.all gh))):=by
 intro post
 induction post with
 |nil=>
  intro i hd T hT
  have hge:=bf hd
  exact gG 60 _ hT (.len (show dA true (.str s)=some (.int .i64 (↑s.length))from dw _)<|.no (dF ((↑i:Int)<(↑s.length:Int)))<|.fin ((.ret (.bool true),{boxes:=[],toks:=[],loops:=[]:Heap})) rfl)
 |cons x post ih=>
  intro i hd T hT
  have hlt:=bg hd
  have cq:=aL hd
  exact let ag:Heap:={boxes:=[],toks:=[],loops:=[]:Heap};gG 60 _ hT (.len (show dA true (.str s)=some (.int .i64 (↑s.length))from dw _)<|.yes (dT ((↑i:Int)<(↑s.length:Int)))<|.idxs (show jK (.str s) (.int .i64 ↑i)=some (.int .u8 (↑x.toNat))from lW hd)<|.split ((↑x.toNat:Int)<(97:Int)) (fun h1=>.yes (dT ((↑x.toNat:Int)<(97:Int)) h1)<|.tt<|.idxs (show jK (.str s) (.int .i64 ↑i)=some (.int .u8 (↑x.toNat))from lW hd)<|.split ((↑x.toNat:Int)<(48:Int)) (fun h2=>.yes (dT ((↑x.toNat:Int)<(48:Int)) h2)<|.tt<|.fin ((.ret (.bool false),ag)) (by simp only[aJ];grind[gh])) (fun h2=>.no (dF ((↑x.toNat:Int)<(48:Int)) h2)<|.idxs (show jK (.str s) (.int .i64 ↑i)=some (.int .u8 (↑x.toNat))from lW hd)<|.split ((57:Int)<(↑x.toNat:Int)) (fun h3=>.yes (dT ((57:Int)<(↑x.toNat:Int)) h3)<|.fin ((.ret (.bool false),ag)) (by simp only[aJ];grind[gh])) (fun h3=>.no (dF ((57:Int)<(↑x.toNat:Int)) h3)<|.bin (iI i)<|.aT uT [(0,.str s),(3,.int .i64 (↑(i+1)))] (ag) (fun T hT=>(ih (i+1) cq T hT).to (by grind[gh]))))) (fun h1=>.no (dF ((↑x.toNat:Int)<(97:Int)) h1)<|.idxs (show jK (.str s) (.int .i64 ↑i)=some (.int .u8 (↑x.toNat))from lW hd)<|.split ((122:Int)<(↑x.toNat:Int)) (fun h2=>.yes (dT ((122:Int)<(↑x.toNat:Int)) h2)<|.idxs (show jK (.str s) (.int .i64 ↑i)=some (.int .u8 (↑x.toNat))from lW hd)<|.no (dF ((↑x.toNat:Int)<(48:Int)))<|.idxs (show jK (.str s) (.int .i64 ↑i)=some (.int .u8 (↑x.toNat))from lW hd)<|.yes (dT ((57:Int)<(↑x.toNat:Int)))<|.fin ((.ret (.bool false),ag)) (by simp only[aJ];grind[gh])) (fun h2=>.no (dF ((122:Int)<(↑x.toNat:Int)) h2)<|.ff<|.bin (iI i)<|.aT uT [(0,.str s),(3,.int .i64 (↑(i+1)))] (ag) (fun T hT=>(ih (i+1) cq T hT).to (by grind[gh])))))
theorem cM(s:List UInt8):aq cfg 259 [.str s] (.bool (isName s)):=by
 refine aq.run (UT _ _) ?_
 have h:=fun hn=>CL s hn s 0 rfl
 exact let ag:Heap:={boxes:=[],toks:=[],loops:=[]:Heap};gG 60 [] trivial (.len (show dA true (.str s)=some (.int .i64 (↑s.length))from dw _)<|.split ((↑s.length:Int)<(1:Int)) (fun h1=>.yes (dT ((↑s.length:Int)<(1:Int)) h1)<|.tt<|.fin ((.ret (.bool false),ag)) (by simp only[aJ];grind[isName])) (fun h1=>.no (dF ((↑s.length:Int)<(1:Int)) h1)<|.len (show dA true (.str s)=some (.int .i64 (↑s.length))from dw _)<|.split ((12:Int)<(↑s.length:Int)) (fun h2=>.yes (dT ((12:Int)<(↑s.length:Int)) h2)<|.fin ((.ret (.bool false),ag)) (by simp only[aJ];grind[isName])) (fun h2=>.no (dF ((12:Int)<(↑s.length:Int)) h2)<|.aT uT [(0,.str s),(3,.int .i64 0)] (ag) (fun T hT=>(h (by omega) T hT).to (by grind[isName])))))
def CM:cR:=⟨[],[],false⟩
def lG(o:Option cR):AV:=.tuple [bu (o.getD CM),.bool o.isSome]
end Go.Aa.T

