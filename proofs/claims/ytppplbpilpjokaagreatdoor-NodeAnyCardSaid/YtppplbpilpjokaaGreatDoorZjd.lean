/-
  WHAT THE LAW LEANS ON, part 4 of 8: a machine of values and its soundness; the functions of the law upon it; what they come to.
-/
import Derived.Test.YtppplbpilpjokaaGreatDoorZjc
import Derived.Test.YtppplbpilpjokaaGreatDoorProg

set_option linter.unusedVariables false
set_option maxRecDepth 100000
namespace Go.Aa.T
open Go.Aa
def c6 : ACode :=
  (.seq (.region [⟨some 2, .box (.t 0), none, []⟩, ⟨some 3, .box (.t 1), none, []⟩, ⟨some 4, .mov (.c (.bool false)), none, []⟩] false) (.seq (.seq (.region [⟨some 10, .call (.c (.func 30 [])) [], none, []⟩, ⟨some 11, .un .not (.t 10), none, []⟩] false) (.cond (.t 11) (.seq (.region [⟨some 4, .mov (.c (.bool false)), none, []⟩] false) .ret) .skip)) (.seq (.seq (.region [⟨some 12, .load true 5 (.t 2), none, []⟩, ⟨some 13, .call (.c (.func 31 [])) [(.t 12)], none, []⟩, ⟨some 14, .un .not (.t 13), none, []⟩, ⟨some 15, .mov (.t 14), none, []⟩, ⟨some 16, .load true 5 (.t 3), some (15, false), []⟩, ⟨some 17, .call (.c (.func 31 [])) [(.t 16)], some (15, false), []⟩, ⟨some 18, .un .not (.t 17), some (15, false), []⟩, ⟨some 19, .pick (.t 15) (.c (.bool true)) (.t 18), none, []⟩] false) (.cond (.t 19) (.seq (.region [⟨some 4, .mov (.c (.bool true)), none, []⟩] false) .ret) .skip)) (.seq (.region [⟨some 20, .load true 5 (.t 2), none, []⟩, ⟨some 21, .call (.c (.func 32 [])) [(.t 20)], none, [0]⟩, ⟨some 22, .load true 5 (.t 3), none, []⟩, ⟨some 23, .call (.c (.func 32 [])) [(.t 22)], none, [0, 1, 2]⟩, ⟨some 5, .box (.c (.agg [(.str []), (.sl .full []), (.sl .full []), (.sl .full []), (.bool false)])), none, []⟩, ⟨some 6, .box (.c (.agg [(.str []), (.sl .full []), (.sl .full []), (.sl .full []), (.bool false)])), none, []⟩, ⟨none, .store 5 (.t 5) (.t 21), none, [5, 2, 3, 0, 1, 4]⟩, ⟨none, .store 5 (.t 6) (.t 23), none, [4, 6, 2, 1, 0, 3, 5]⟩] true) (.seq (.region [⟨some 24, .load true 5 (.t 5), none, []⟩, ⟨some 25, .call (.c (.func 33 [])) [(.t 24)], none, []⟩, ⟨some 7, .mov (.t 25), none, []⟩] false) (.seq (.seq (.region [⟨some 26, .load true 5 (.t 2), none, []⟩, ⟨some 27, .call (.c (.func 34 [])) [(.t 26)], none, [0]⟩, ⟨some 28, .mov (.t 7), none, []⟩, ⟨some 29, .bin .neq (.t 27) (.t 28), none, [2, 0, 1]⟩, ⟨some 30, .mov (.t 29), none, [1, 0, 2, 3]⟩, ⟨some 31, .load true 5 (.t 2), some (30, false), [3, 2, 0, 1, 4]⟩, ⟨some 32, .load true 5 (.t 3), some (30, false), [3, 2, 0, 1, 4]⟩, ⟨some 33, .call (.c (.func 35 [])) [(.t 31), (.t 32)], some (30, false), [6, 4, 1, 0, 2, 3, 5]⟩, ⟨some 34, .load true 5 (.t 5), some (30, false), [3, 2, 0, 1, 4]⟩, ⟨some 35, .load true 5 (.t 6), some (30, false), [3, 2, 0, 1, 4]⟩, ⟨some 36, .call (.c (.func 36 [])) [(.t 34), (.t 35)], some (30, false), [5, 6, 7, 9, 4, 1, 0, 2, 3, 8]⟩, ⟨some 37, .eqb true (.t 33) (.t 36), some (30, false), [8, 9, 10, 5, 3, 2, 0, 1, 4, 6, 7]⟩, ⟨some 38, .pick (.t 30) (.c (.bool true)) (.t 37), none, [7, 6, 5, 10, 9, 8, 11, 3, 2, 0, 1, 4]⟩] true) (.cond (.t 38) (.seq (.region [⟨some 4, .mov (.c (.bool false)), none, []⟩] false) .ret) .skip)) (.seq (.seq (.region [⟨some 39, .mov (.t 7), none, []⟩, ⟨some 40, .bin .neq (.t 39) (.c (.int .i64 0)), none, []⟩] false) (.cond (.t 40) (.seq (.region [⟨some 4, .mov (.c (.bool true)), none, []⟩] false) .ret) .skip)) (.seq (.region [⟨some 42, .load true 5 (.t 2), none, []⟩, ⟨some 43, .call (.c (.func 38 [])) [(.t 42)], none, []⟩, ⟨some 44, .call (.c (.func 37 [])) [(.t 43)], none, []⟩, ⟨some 41, .mov (.t 44), none, []⟩, ⟨some 45, .extract (.t 41) 0, none, []⟩, ⟨some 46, .extract (.t 41) 1, none, []⟩, ⟨some 8, .box (.c (.agg [(.str []), (.sl .full []), (.sl .full []), (.sl .full []), (.bool false)])), none, []⟩, ⟨none, .store 5 (.t 8) (.t 45), none, []⟩, ⟨some 9, .mov (.t 46), none, []⟩] false) (.seq (.region [⟨some 47, .load true 5 (.t 2), none, []⟩, ⟨some 48, .call (.c (.func 38 [])) [(.t 47)], none, [0]⟩, ⟨some 49, .load true 5 (.t 5), none, []⟩, ⟨some 50, .call (.c (.func 39 [])) [(.t 49)], none, [0, 1, 2]⟩, ⟨some 51, .bin .eql (.t 48) (.t 50), none, [2, 3, 0, 1]⟩, ⟨some 52, .mov (.t 51), none, [1, 0, 3, 2, 4]⟩, ⟨some 53, .mov (.t 9), some (52, true), [4, 2, 3, 0, 1, 5]⟩, ⟨some 54, .bin .eql (.t 53) (.c (.int .i64 0)), some (52, true), [5, 1, 0, 3, 2, 4, 6]⟩, ⟨some 55, .pick (.t 52) (.t 54) (.c (.bool false)), none, [6, 7, 4, 2, 3, 0, 1, 5]⟩, ⟨some 56, .mov (.t 55), none, [5, 1, 0, 3, 2, 4, 7, 6, 8]⟩, ⟨some 57, .load true 5 (.t 8), some (56, true), [8, 6, 7, 4, 2, 3, 0, 1, 5, 9]⟩, ⟨some 58, .load true 5 (.t 2), some (56, true), [8, 6, 7, 4, 2, 3, 0, 1, 5, 9]⟩, ⟨some 59, .call (.c (.func 35 [])) [(.t 57), (.t 58)], some (56, true), [11, 9, 5, 1, 0, 3, 2, 4, 7, 6, 8, 10]⟩, ⟨some 60, .pick (.t 56) (.t 59) (.c (.bool false)), none, [10, 11, 12, 8, 6, 7, 4, 2, 3, 0, 1, 5, 9]⟩, ⟨some 4, .mov (.t 60), none, [9, 5, 1, 0, 3, 2, 4, 7, 6, 8, 12, 11, 10, 13]⟩] true) .ret)))))))))
def a6 : AFunc := { results := [.tmp 4], body := c6 }
def c30 : ACode :=
  (.seq (.region [⟨some 0, .mov (.c (.bool false)), none, []⟩] false) (.seq (.region [⟨some 16, .call (.c (.func 37 [])) [(.c (.str [110, 49, 32, 99, 112, 117, 61, 49, 48, 48, 44, 109, 101, 109, 61, 56, 32, 122, 111, 110, 101, 58, 97, 32, 103, 112, 117, 58, 121, 101, 115, 33, 32, 117, 112]))], none, []⟩, ⟨some 15, .mov (.t 16), none, []⟩, ⟨some 17, .extract (.t 15) 0, none, []⟩, ⟨some 18, .extract (.t 15) 1, none, []⟩, ⟨some 1, .box (.c (.agg [(.str []), (.sl .full []), (.sl .full []), (.sl .full []), (.bool false)])), none, []⟩, ⟨none, .store 5 (.t 1) (.t 17), none, []⟩, ⟨some 2, .mov (.t 18), none, []⟩] false) (.seq (.region [⟨some 20, .call (.c (.func 37 [])) [(.c (.str [110, 50, 32, 45, 32, 45, 32, 45, 32, 99, 111, 114, 100, 111, 110]))], none, []⟩, ⟨some 19, .mov (.t 20), none, []⟩, ⟨some 21, .extract (.t 19) 0, none, []⟩, ⟨some 22, .extract (.t 19) 1, none, []⟩, ⟨some 3, .box (.c (.agg [(.str []), (.sl .full []), (.sl .full []), (.sl .full []), (.bool false)])), none, []⟩, ⟨none, .store 5 (.t 3) (.t 21), none, []⟩, ⟨some 4, .mov (.t 22), none, []⟩] false) (.seq (.region [⟨some 24, .call (.c (.func 37 [])) [(.c (.str [110, 49, 32, 45, 32, 45, 32, 45, 32, 100, 111, 119, 110]))], none, []⟩, ⟨some 23, .mov (.t 24), none, []⟩, ⟨some 25, .extract (.t 23) 0, none, []⟩, ⟨some 26, .extract (.t 23) 1, none, []⟩, ⟨some 5, .box (.c (.agg [(.str []), (.sl .full []), (.sl .full []), (.sl .full []), (.bool false)])), none, []⟩, ⟨none, .store 5 (.t 5) (.t 25), none, []⟩, ⟨some 6, .mov (.t 26), none, []⟩] false) (.seq (.region [⟨some 28, .call (.c (.func 37 [])) [(.c (.str [110, 49, 32, 99, 112, 117, 61, 48, 32, 45, 32, 45, 32, 117, 112]))], none, []⟩, ⟨some 27, .mov (.t 28), none, []⟩, ⟨some 29, .extract (.t 27) 0, none, []⟩, ⟨some 30, .extract (.t 27) 1, none, []⟩, ⟨some 7, .box (.c (.agg [(.str []), (.sl .full []), (.sl .full []), (.sl .full []), (.bool false)])), none, []⟩, ⟨none, .store 5 (.t 7) (.t 29), none, []⟩, ⟨some 8, .mov (.t 30), none, []⟩] false) (.seq (.region [⟨some 32, .call (.c (.func 37 [])) [(.c (.str [78, 49, 32, 45, 32, 45, 32, 45, 32, 117, 112]))], none, []⟩, ⟨some 31, .mov (.t 32), none, []⟩, ⟨some 33, .extract (.t 31) 0, none, []⟩, ⟨some 34, .extract (.t 31) 1, none, []⟩, ⟨some 9, .box (.c (.agg [(.str []), (.sl .full []), (.sl .full []), (.sl .full []), (.bool false)])), none, []⟩, ⟨none, .store 5 (.t 9) (.t 33), none, []⟩, ⟨some 10, .mov (.t 34), none, []⟩] false) (.seq (.region [⟨some 36, .load true 5 (.t 1), none, []⟩, ⟨some 37, .load true 5 (.t 3), none, []⟩, ⟨some 38, .bslice 5 [(.t 36), (.t 37)], none, []⟩, ⟨some 39, .call (.c (.func 44 [])) [(.t 38), (.c (.str [110, 50]))], none, []⟩, ⟨some 35, .mov (.t 39), none, []⟩, ⟨some 40, .extract (.t 35) 0, none, []⟩, ⟨some 41, .extract (.t 35) 1, none, []⟩, ⟨some 11, .box (.c (.agg [(.str []), (.sl .full []), (.sl .full []), (.sl .full []), (.bool false)])), none, []⟩, ⟨none, .store 5 (.t 11) (.t 40), none, []⟩, ⟨some 12, .mov (.t 41), none, []⟩] false) (.seq (.region [⟨some 43, .load true 5 (.t 1), none, []⟩, ⟨some 44, .load true 5 (.t 3), none, []⟩, ⟨some 45, .bslice 5 [(.t 43), (.t 44)], none, []⟩, ⟨some 46, .call (.c (.func 44 [])) [(.t 45), (.c (.str [110, 51]))], none, []⟩, ⟨some 42, .mov (.t 46), none, []⟩, ⟨some 47, .extract (.t 42) 0, none, []⟩, ⟨some 48, .extract (.t 42) 1, none, []⟩, ⟨some 13, .box (.c (.agg [(.str []), (.sl .full []), (.sl .full []), (.sl .full []), (.bool false)])), none, []⟩, ⟨none, .store 5 (.t 13) (.t 47), none, []⟩, ⟨some 14, .mov (.t 48), none, []⟩] false) (.seq (.region [⟨some 49, .mov (.t 2), none, []⟩, ⟨some 50, .mov (.t 4), none, []⟩, ⟨some 51, .bin .add (.t 49) (.t 50), none, []⟩, ⟨some 52, .bin .eql (.t 51) (.c (.int .i64 0)), none, []⟩, ⟨some 53, .mov (.t 52), none, []⟩, ⟨some 54, .load true 5 (.t 1), some (53, true), []⟩, ⟨some 55, .call (.c (.func 38 [])) [(.t 54)], some (53, true), []⟩, ⟨some 56, .bin .eql (.t 55) (.c (.str [110, 49, 32, 99, 112, 117, 61, 49, 48, 48, 44, 109, 101, 109, 61, 56, 32, 122, 111, 110, 101, 58, 97, 32, 103, 112, 117, 58, 121, 101, 115, 33, 32, 117, 112])), some (53, true), []⟩, ⟨some 57, .pick (.t 53) (.t 56) (.c (.bool false)), none, []⟩, ⟨some 58, .mov (.t 57), none, []⟩, ⟨some 59, .fld 4 1 (.t 3), some (58, true), []⟩, ⟨some 60, .load false 1 (.t 59), some (58, true), []⟩, ⟨some 61, .pick (.t 58) (.t 60) (.c (.bool false)), none, []⟩, ⟨some 62, .mov (.t 61), none, []⟩, ⟨some 63, .load true 5 (.t 11), some (62, true), []⟩, ⟨some 64, .load true 5 (.t 3), some (62, true), []⟩, ⟨some 65, .call (.c (.func 35 [])) [(.t 63), (.t 64)], some (62, true), []⟩, ⟨some 66, .pick (.t 62) (.t 65) (.c (.bool false)), none, []⟩, ⟨some 67, .mov (.t 66), none, []⟩, ⟨some 68, .load true 5 (.t 1), some (67, true), []⟩, ⟨some 69, .load true 5 (.t 3), some (67, true), []⟩, ⟨some 70, .call (.c (.func 35 [])) [(.t 68), (.t 69)], some (67, true), []⟩, ⟨some 71, .un .not (.t 70), some (67, true), []⟩, ⟨some 72, .pick (.t 67) (.t 71) (.c (.bool false)), none, []⟩, ⟨some 73, .mov (.t 72), none, []⟩, ⟨some 74, .mov (.t 12), some (73, true), []⟩, ⟨some 75, .pick (.t 73) (.t 74) (.c (.bool false)), none, []⟩, ⟨some 76, .mov (.t 75), none, []⟩, ⟨some 77, .mov (.t 14), some (76, true), []⟩, ⟨some 78, .un .not (.t 77), some (76, true), []⟩, ⟨some 79, .pick (.t 76) (.t 78) (.c (.bool false)), none, []⟩, ⟨some 80, .mov (.t 79), none, []⟩, ⟨some 81, .mov (.t 6), some (80, true), []⟩, ⟨some 82, .bin .eql (.t 81) (.c (.int .i64 2)), some (80, true), []⟩, ⟨some 83, .pick (.t 80) (.t 82) (.c (.bool false)), none, []⟩, ⟨some 84, .mov (.t 83), none, []⟩, ⟨some 85, .mov (.t 8), some (84, true), []⟩, ⟨some 86, .bin .eql (.t 85) (.c (.int .i64 1)), some (84, true), []⟩, ⟨some 87, .pick (.t 84) (.t 86) (.c (.bool false)), none, []⟩, ⟨some 88, .mov (.t 87), none, []⟩, ⟨some 89, .mov (.t 10), some (88, true), []⟩, ⟨some 90, .bin .eql (.t 89) (.c (.int .i64 3)), some (88, true), []⟩, ⟨some 91, .pick (.t 88) (.t 90) (.c (.bool false)), none, []⟩, ⟨some 92, .mov (.t 91), none, []⟩, ⟨some 93, .load true 5 (.t 1), some (92, true), []⟩, ⟨some 94, .call (.c (.func 34 [])) [(.t 93)], some (92, true), []⟩, ⟨some 95, .bin .eql (.t 94) (.c (.int .i64 0)), some (92, true), []⟩, ⟨some 96, .pick (.t 92) (.t 95) (.c (.bool false)), none, []⟩, ⟨some 97, .mov (.t 96), none, []⟩, ⟨some 98, .load true 5 (.t 1), some (97, true), []⟩, ⟨some 99, .load true 5 (.t 3), some (97, true), []⟩, ⟨some 100, .bslice 5 [(.t 98), (.t 99)], some (97, true), []⟩, ⟨some 101, .call (.c (.func 43 [])) [(.t 100)], some (97, true), []⟩, ⟨some 102, .bin .eql (.t 101) (.c (.int .i64 0)), some (97, true), []⟩, ⟨some 103, .pick (.t 97) (.t 102) (.c (.bool false)), none, []⟩, ⟨some 104, .mov (.t 103), none, []⟩, ⟨some 105, .load true 5 (.t 3), some (104, true), []⟩, ⟨some 106, .load true 5 (.t 1), some (104, true), []⟩, ⟨some 107, .bslice 5 [(.t 105), (.t 106)], some (104, true), []⟩, ⟨some 108, .call (.c (.func 43 [])) [(.t 107)], some (104, true), []⟩, ⟨some 109, .bin .eql (.t 108) (.c (.int .i64 13)), some (104, true), []⟩, ⟨some 110, .pick (.t 104) (.t 109) (.c (.bool false)), none, []⟩, ⟨some 0, .mov (.t 110), none, []⟩] false) .ret)))))))))
def a30 : AFunc := { results := [.tmp 0], body := c30 }
def c31 : ACode :=
  (.seq (.region [⟨some 1, .box (.t 0), none, []⟩, ⟨some 2, .mov (.c (.bool false)), none, []⟩] false) (.seq (.region [⟨some 3, .fld 0 1 (.t 1), none, []⟩, ⟨some 4, .load false 1 (.t 3), none, []⟩, ⟨some 5, .len true (.t 4), none, []⟩, ⟨some 6, .bin .leq (.t 5) (.c (.int .i64 50)), none, []⟩, ⟨some 7, .mov (.t 6), none, []⟩, ⟨some 8, .fld 1 1 (.t 1), some (7, true), []⟩, ⟨some 9, .load false 1 (.t 8), some (7, true), []⟩, ⟨some 10, .call (.c (.func 59 [])) [(.t 9)], some (7, true), []⟩, ⟨some 11, .pick (.t 7) (.t 10) (.c (.bool false)), none, []⟩, ⟨some 12, .mov (.t 11), none, []⟩, ⟨some 13, .fld 2 1 (.t 1), some (12, true), []⟩, ⟨some 14, .load false 1 (.t 13), some (12, true), []⟩, ⟨some 15, .call (.c (.func 60 [])) [(.t 14)], some (12, true), []⟩, ⟨some 16, .pick (.t 12) (.t 15) (.c (.bool false)), none, []⟩, ⟨some 17, .mov (.t 16), none, []⟩, ⟨some 18, .fld 3 1 (.t 1), some (17, true), []⟩, ⟨some 19, .load false 1 (.t 18), some (17, true), []⟩, ⟨some 20, .call (.c (.func 72 [])) [(.t 19)], some (17, true), []⟩, ⟨some 21, .pick (.t 17) (.t 20) (.c (.bool false)), none, []⟩, ⟨some 2, .mov (.t 21), none, []⟩] false) .ret))
def a31 : AFunc := { results := [.tmp 2], body := c31 }
def c32 : ACode :=
  (.seq (.region [⟨some 1, .box (.t 0), none, []⟩, ⟨some 2, .box (.c (.agg [(.str []), (.sl .full []), (.sl .full []), (.sl .full []), (.bool false)])), none, []⟩] false) (.seq (.region [⟨some 3, .fld 0 1 (.t 1), none, []⟩, ⟨some 4, .load false 1 (.t 3), none, [0]⟩, ⟨some 5, .fld 1 1 (.t 1), none, []⟩, ⟨some 6, .load false 1 (.t 5), none, [2]⟩, ⟨some 7, .call (.c (.func 73 [])) [(.t 6)], none, [2, 3]⟩, ⟨some 8, .fld 2 1 (.t 1), none, []⟩, ⟨some 9, .load false 1 (.t 8), none, [5]⟩, ⟨some 10, .call (.c (.func 74 [])) [(.t 9)], none, [3, 2, 4, 5, 6]⟩, ⟨some 11, .fld 3 1 (.t 1), none, []⟩, ⟨some 12, .load false 1 (.t 11), none, [8]⟩, ⟨some 13, .call (.c (.func 75 [])) [(.t 12)], none, [6, 5, 4, 2, 3, 7, 8, 9]⟩, ⟨some 14, .fld 4 1 (.t 1), none, []⟩, ⟨some 15, .load false 1 (.t 14), none, [11]⟩, ⟨some 16, .build [(.str []), (.sl .full []), (.sl .full []), (.sl .full []), (.bool false)] [(0, 1, (.t 4)), (1, 1, (.t 7)), (2, 1, (.t 10)), (3, 1, (.t 13)), (4, 1, (.t 15))], none, [11, 12, 9, 8, 10, 6, 5, 7, 3, 2, 4, 0, 1]⟩, ⟨none, .store 5 (.t 2) (.t 16), none, [1, 0, 4, 2, 3, 7, 5, 6, 10, 8, 9, 12, 11, 13]⟩] true) .ret))
def a32 : AFunc := { results := [.cell 2 true 5], body := c32 }
def c33 : ACode :=
  (.seq (.region [⟨some 1, .box (.t 0), none, []⟩, ⟨some 2, .mov (.c (.int .i64 0)), none, []⟩] false) (.seq (.seq (.region [⟨some 4, .fld 0 1 (.t 1), none, []⟩, ⟨some 5, .load false 1 (.t 4), none, []⟩, ⟨some 6, .call (.c (.func 76 [])) [(.t 5)], none, []⟩, ⟨some 7, .un .not (.t 6), none, []⟩] false) (.cond (.t 7) (.seq (.region [⟨some 2, .mov (.c (.int .i64 3)), none, []⟩] false) .ret) .skip)) (.seq (.region [⟨some 8, .fld 1 1 (.t 1), none, []⟩, ⟨some 9, .load false 1 (.t 8), none, []⟩, ⟨some 10, .call (.c (.func 77 [])) [(.t 9)], none, []⟩, ⟨some 3, .mov (.t 10), none, []⟩] false) (.seq (.seq (.region [⟨some 11, .mov (.t 3), none, []⟩, ⟨some 12, .bin .neq (.t 11) (.c (.int .i64 0)), none, []⟩] false) (.cond (.t 12) (.seq (.region [⟨some 13, .mov (.t 3), none, []⟩, ⟨some 2, .mov (.t 13), none, []⟩] false) .ret) .skip)) (.seq (.region [⟨some 14, .fld 2 1 (.t 1), none, []⟩, ⟨some 15, .load false 1 (.t 14), none, []⟩, ⟨some 16, .call (.c (.func 78 [])) [(.t 15)], none, []⟩, ⟨some 3, .mov (.t 16), none, []⟩] false) (.seq (.seq (.region [⟨some 17, .mov (.t 3), none, []⟩, ⟨some 18, .bin .neq (.t 17) (.c (.int .i64 0)), none, []⟩] false) (.cond (.t 18) (.seq (.region [⟨some 19, .mov (.t 3), none, []⟩, ⟨some 2, .mov (.t 19), none, []⟩] false) .ret) .skip)) (.seq (.region [⟨some 20, .fld 3 1 (.t 1), none, []⟩, ⟨some 21, .load false 1 (.t 20), none, []⟩, ⟨some 22, .call (.c (.func 79 [])) [(.t 21)], none, []⟩, ⟨some 2, .mov (.t 22), none, []⟩] false) .ret)))))))
def a33 : AFunc := { results := [.tmp 2], body := c33 }
def c34 : ACode :=
  (.seq (.region [⟨some 1, .box (.t 0), none, []⟩, ⟨some 2, .mov (.c (.int .i64 0)), none, []⟩] false) (.seq (.region [⟨some 3, .fld 0 1 (.t 1), none, []⟩, ⟨some 4, .load false 1 (.t 3), none, [0]⟩, ⟨some 5, .call (.c (.func 81 [])) [(.t 4)], none, [0, 1]⟩, ⟨some 6, .fld 1 1 (.t 1), none, []⟩, ⟨some 7, .load false 1 (.t 6), none, [3]⟩, ⟨some 8, .call (.c (.func 82 [])) [(.t 7)], none, [1, 0, 2, 3, 4]⟩, ⟨some 9, .fld 2 1 (.t 1), none, []⟩, ⟨some 10, .load false 1 (.t 9), none, [6]⟩, ⟨some 11, .call (.c (.func 83 [])) [(.t 10)], none, [4, 3, 2, 0, 1, 5, 6, 7]⟩, ⟨some 12, .fld 3 1 (.t 1), none, []⟩, ⟨some 13, .load false 1 (.t 12), none, [9]⟩, ⟨some 14, .call (.c (.func 84 [])) [(.t 13)], none, [7, 6, 5, 1, 0, 2, 3, 4, 8, 9, 10]⟩, ⟨some 15, .bslice 1 [(.t 5), (.t 8), (.t 11), (.t 14)], none, [10, 9, 11, 7, 6, 8, 4, 3, 5, 1, 0, 2]⟩, ⟨some 16, .call (.c (.func 80 [])) [(.t 15)], none, [2, 0, 1, 5, 3, 4, 8, 6, 7, 11, 9, 10, 12]⟩, ⟨some 2, .mov (.t 16), none, [12, 10, 9, 11, 7, 6, 8, 4, 3, 5, 1, 0, 2, 13]⟩] true) .ret))
def a34 : AFunc := { results := [.tmp 2], body := c34 }
def c35 : ACode :=
  (.seq (.region [⟨some 2, .box (.t 0), none, []⟩, ⟨some 3, .box (.t 1), none, []⟩, ⟨some 4, .mov (.c (.bool false)), none, []⟩] false) (.seq (.region [⟨some 5, .fld 0 1 (.t 2), none, []⟩, ⟨some 6, .load false 1 (.t 5), none, []⟩, ⟨some 7, .fld 0 1 (.t 3), none, []⟩, ⟨some 8, .load false 1 (.t 7), none, []⟩, ⟨some 9, .bin .eql (.t 6) (.t 8), none, []⟩, ⟨some 10, .mov (.t 9), none, []⟩, ⟨some 11, .fld 4 1 (.t 2), some (10, true), []⟩, ⟨some 12, .load false 1 (.t 11), some (10, true), []⟩, ⟨some 13, .fld 4 1 (.t 3), some (10, true), []⟩, ⟨some 14, .load false 1 (.t 13), some (10, true), []⟩, ⟨some 15, .eqb false (.t 12) (.t 14), some (10, true), []⟩, ⟨some 16, .pick (.t 10) (.t 15) (.c (.bool false)), none, []⟩, ⟨some 17, .mov (.t 16), none, []⟩, ⟨some 18, .fld 1 1 (.t 2), some (17, true), []⟩, ⟨some 19, .load false 1 (.t 18), some (17, true), []⟩, ⟨some 20, .fld 1 1 (.t 3), some (17, true), []⟩, ⟨some 21, .load false 1 (.t 20), some (17, true), []⟩, ⟨some 22, .call (.c (.func 85 [])) [(.t 19), (.t 21)], some (17, true), []⟩, ⟨some 23, .pick (.t 17) (.t 22) (.c (.bool false)), none, []⟩, ⟨some 24, .mov (.t 23), none, []⟩, ⟨some 25, .fld 2 1 (.t 2), some (24, true), []⟩, ⟨some 26, .load false 1 (.t 25), some (24, true), []⟩, ⟨some 27, .fld 2 1 (.t 3), some (24, true), []⟩, ⟨some 28, .load false 1 (.t 27), some (24, true), []⟩, ⟨some 29, .call (.c (.func 86 [])) [(.t 26), (.t 28)], some (24, true), []⟩, ⟨some 30, .pick (.t 24) (.t 29) (.c (.bool false)), none, []⟩, ⟨some 31, .mov (.t 30), none, []⟩, ⟨some 32, .fld 3 1 (.t 2), some (31, true), []⟩, ⟨some 33, .load false 1 (.t 32), some (31, true), []⟩, ⟨some 34, .fld 3 1 (.t 3), some (31, true), []⟩, ⟨some 35, .load false 1 (.t 34), some (31, true), []⟩, ⟨some 36, .call (.c (.func 87 [])) [(.t 33), (.t 35)], some (31, true), []⟩, ⟨some 37, .pick (.t 31) (.t 36) (.c (.bool false)), none, []⟩, ⟨some 4, .mov (.t 37), none, []⟩] false) .ret))
def a35 : AFunc := { results := [.tmp 4], body := c35 }
def c36 : ACode :=
  (.seq (.region [⟨some 2, .box (.t 0), none, []⟩, ⟨some 3, .box (.t 1), none, []⟩, ⟨some 4, .mov (.c (.bool false)), none, []⟩] false) (.seq (.region [⟨some 5, .fld 0 1 (.t 2), none, []⟩, ⟨some 6, .load false 1 (.t 5), none, []⟩, ⟨some 7, .fld 0 1 (.t 3), none, []⟩, ⟨some 8, .load false 1 (.t 7), none, []⟩, ⟨some 9, .bin .eql (.t 6) (.t 8), none, []⟩, ⟨some 10, .mov (.t 9), none, []⟩, ⟨some 11, .fld 4 1 (.t 2), some (10, true), []⟩, ⟨some 12, .load false 1 (.t 11), some (10, true), []⟩, ⟨some 13, .fld 4 1 (.t 3), some (10, true), []⟩, ⟨some 14, .load false 1 (.t 13), some (10, true), []⟩, ⟨some 15, .eqb false (.t 12) (.t 14), some (10, true), []⟩, ⟨some 16, .pick (.t 10) (.t 15) (.c (.bool false)), none, []⟩, ⟨some 17, .mov (.t 16), none, []⟩, ⟨some 18, .fld 1 1 (.t 2), some (17, true), []⟩, ⟨some 19, .load false 1 (.t 18), some (17, true), []⟩, ⟨some 20, .fld 1 1 (.t 3), some (17, true), []⟩, ⟨some 21, .load false 1 (.t 20), some (17, true), []⟩, ⟨some 22, .call (.c (.func 88 [])) [(.t 19), (.t 21)], some (17, true), []⟩, ⟨some 23, .pick (.t 17) (.t 22) (.c (.bool false)), none, []⟩, ⟨some 24, .mov (.t 23), none, []⟩, ⟨some 25, .fld 2 1 (.t 2), some (24, true), []⟩, ⟨some 26, .load false 1 (.t 25), some (24, true), []⟩, ⟨some 27, .fld 2 1 (.t 3), some (24, true), []⟩, ⟨some 28, .load false 1 (.t 27), some (24, true), []⟩, ⟨some 29, .call (.c (.func 89 [])) [(.t 26), (.t 28)], some (24, true), []⟩, ⟨some 30, .pick (.t 24) (.t 29) (.c (.bool false)), none, []⟩, ⟨some 31, .mov (.t 30), none, []⟩, ⟨some 32, .fld 3 1 (.t 2), some (31, true), []⟩, ⟨some 33, .load false 1 (.t 32), some (31, true), []⟩, ⟨some 34, .fld 3 1 (.t 3), some (31, true), []⟩, ⟨some 35, .load false 1 (.t 34), some (31, true), []⟩, ⟨some 36, .call (.c (.func 90 [])) [(.t 33), (.t 35)], some (31, true), []⟩, ⟨some 37, .pick (.t 31) (.t 36) (.c (.bool false)), none, []⟩, ⟨some 4, .mov (.t 37), none, []⟩] false) .ret))
def a36 : AFunc := { results := [.tmp 4], body := c36 }
def c37 : ACode :=
  (.seq (.region [⟨some 1, .box (.t 0), none, []⟩, ⟨some 2, .box (.c (.agg [(.str []), (.sl .full []), (.sl .full []), (.sl .full []), (.bool false)])), none, []⟩, ⟨some 3, .mov (.c (.int .i64 0)), none, []⟩] false) (.seq (.region [⟨some 4, .box (.c (.agg [(.str []), (.sl .full []), (.sl .full []), (.sl .full []), (.bool false)])), none, []⟩] false) (.seq (.region [⟨some 6, .mkfunc 92 [(.t 1), (.t 4)], none, []⟩, ⟨some 7, .call (.c (.func 91 [])) [(.t 6)], none, []⟩, ⟨some 5, .mov (.t 7), none, []⟩] false) (.seq (.seq (.region [⟨some 8, .mov (.t 5), none, []⟩, ⟨some 9, .bin .neq (.t 8) (.c (.int .i64 0)), none, []⟩] false) (.cond (.t 9) (.seq (.region [⟨some 10, .build [(.str []), (.sl .full []), (.sl .full []), (.sl .full []), (.bool false)] [], none, []⟩, ⟨some 11, .mov (.t 5), none, []⟩, ⟨none, .store 5 (.t 2) (.t 10), none, []⟩, ⟨some 3, .mov (.t 11), none, []⟩] false) .ret) .skip)) (.seq (.region [⟨some 12, .load true 5 (.t 4), none, []⟩, ⟨none, .store 5 (.t 2) (.t 12), none, []⟩, ⟨some 3, .mov (.c (.int .i64 0)), none, []⟩] false) .ret)))))
def a37 : AFunc := { results := [.cell 2 true 5, .tmp 3], body := c37 }
def c38 : ACode :=
  (.seq (.region [⟨some 1, .box (.t 0), none, []⟩, ⟨some 2, .mov (.c (.str [])), none, []⟩] false) (.seq (.region [⟨some 3, .mov (.c (.str [117, 112])), none, []⟩] false) (.seq (.seq (.region [⟨some 4, .fld 4 1 (.t 1), none, []⟩, ⟨some 5, .load false 1 (.t 4), none, []⟩] false) (.cond (.t 5) (.region [⟨some 3, .mov (.c (.str [99, 111, 114, 100, 111, 110])), none, []⟩] false) .skip)) (.seq (.region [⟨some 6, .fld 0 1 (.t 1), none, []⟩, ⟨some 7, .load false 1 (.t 6), none, [0]⟩, ⟨some 8, .fld 1 1 (.t 1), none, []⟩, ⟨some 9, .load false 1 (.t 8), none, [2]⟩, ⟨some 10, .call (.c (.func 102 [])) [(.t 9)], none, [2, 3]⟩, ⟨some 11, .fld 2 1 (.t 1), none, []⟩, ⟨some 12, .load false 1 (.t 11), none, [5]⟩, ⟨some 13, .call (.c (.func 103 [])) [(.t 12)], none, [3, 2, 4, 5, 6]⟩, ⟨some 14, .fld 3 1 (.t 1), none, []⟩, ⟨some 15, .load false 1 (.t 14), none, [8]⟩, ⟨some 16, .call (.c (.func 104 [])) [(.t 15)], none, [6, 5, 4, 2, 3, 7, 8, 9]⟩, ⟨some 17, .mov (.t 3), none, []⟩, ⟨some 18, .bslice 1 [(.t 7), (.t 10), (.t 13), (.t 16), (.t 17)], none, [11, 9, 8, 10, 6, 5, 7, 3, 2, 4, 0, 1]⟩, ⟨some 19, .call (.c (.func 101 [])) [(.t 18), (.c (.str [32]))], none, [1, 0, 4, 2, 3, 7, 5, 6, 10, 8, 9, 11, 12]⟩, ⟨some 2, .mov (.t 19), none, [12, 11, 9, 8, 10, 6, 5, 7, 3, 2, 4, 0, 1, 13]⟩] true) .ret))))
def a38 : AFunc := { results := [.tmp 2], body := c38 }
def c39 : ACode :=
  (.seq (.region [⟨some 1, .box (.t 0), none, []⟩, ⟨some 2, .mov (.c (.str [])), none, []⟩] false) (.seq (.region [⟨some 4, .fld 0 1 (.t 1), none, []⟩, ⟨some 5, .load false 1 (.t 4), none, [0]⟩, ⟨some 6, .bin .add (.t 5) (.c (.str [32])), none, [0, 1]⟩, ⟨some 7, .fld 1 1 (.t 1), none, []⟩, ⟨some 8, .load false 1 (.t 7), none, [3]⟩, ⟨some 9, .call (.c (.func 105 [])) [(.t 8)], none, [3, 4]⟩, ⟨some 10, .bin .add (.t 6) (.t 9), none, [4, 3, 5, 1, 0, 2]⟩, ⟨some 11, .bin .add (.t 10) (.c (.str [32])), none, [2, 0, 1, 5, 3, 4, 6]⟩, ⟨some 12, .fld 2 1 (.t 1), none, []⟩, ⟨some 13, .load false 1 (.t 12), none, [8]⟩, ⟨some 14, .call (.c (.func 106 [])) [(.t 13)], none, [4, 3, 5, 8, 9]⟩, ⟨some 15, .bin .add (.t 11) (.t 14), none, [9, 8, 10, 6, 4, 3, 5, 1, 0, 2, 7]⟩, ⟨some 16, .bin .add (.t 15) (.c (.str [32])), none, [7, 2, 0, 1, 5, 3, 4, 6, 10, 8, 9, 11]⟩, ⟨some 17, .fld 3 1 (.t 1), none, []⟩, ⟨some 18, .load false 1 (.t 17), none, [13]⟩, ⟨some 19, .call (.c (.func 107 [])) [(.t 18)], none, [9, 8, 5, 3, 4, 10, 13, 14]⟩, ⟨some 20, .bin .add (.t 16) (.t 19), none, [14, 13, 15, 11, 9, 8, 10, 6, 4, 3, 5, 1, 0, 2, 7, 12]⟩, ⟨some 3, .mov (.t 20), none, [12, 7, 2, 0, 1, 5, 3, 4, 6, 10, 8, 9, 11, 15, 13, 14, 16]⟩] true) (.seq (.seq (.region [⟨some 21, .fld 4 1 (.t 1), none, []⟩, ⟨some 22, .load false 1 (.t 21), none, []⟩] false) (.cond (.t 22) (.seq (.region [⟨some 23, .mov (.t 3), none, []⟩, ⟨some 24, .bin .add (.t 23) (.c (.str [32, 99, 111, 114, 100, 111, 110])), none, []⟩, ⟨some 2, .mov (.t 24), none, []⟩] false) .ret) .skip)) (.seq (.region [⟨some 25, .mov (.t 3), none, []⟩, ⟨some 26, .bin .add (.t 25) (.c (.str [32, 117, 112])), none, []⟩, ⟨some 2, .mov (.t 26), none, []⟩] false) .ret))))
def a39 : AFunc := { results := [.tmp 2], body := c39 }
def c43 : ACode :=
  (.seq (.region [⟨some 2, .mov (.c (.int .i64 0)), none, []⟩] false) (.seq (.region [⟨some 3, .mov (.t 0), none, []⟩, ⟨some 4, .call (.c (.func 112 [])) [(.t 3), (.c (.int .i64 32)), (.c (.func 113 [])), (.c (.func 34 []))], none, []⟩, ⟨some 2, .mov (.t 4), none, []⟩] false) .ret))
def a43 : AFunc := { results := [.tmp 2], body := c43 }
def c44 : ACode :=
  (.seq (.region [⟨some 4, .box (.c (.agg [(.str []), (.sl .full []), (.sl .full []), (.sl .full []), (.bool false)])), none, []⟩, ⟨some 5, .mov (.c (.bool false)), none, []⟩] false) (.seq (.seq (.region [⟨some 8, .mov (.t 0), none, []⟩, ⟨some 9, .len false (.t 8), none, []⟩, ⟨some 10, .mov (.c (.int .i64 0)), none, []⟩] false) (.block 0 (.loop (.seq (.region [⟨some 11, .bin .lss (.t 10) (.t 9), none, []⟩] false) (.seq (.cond (.t 11) .skip (.exit 0)) (.seq (.block 1 (.seq (.region [⟨some 12, .idx 5 (.t 8) (.t 10), none, []⟩, ⟨some 13, .load true 5 (.t 12), none, []⟩, ⟨some 7, .box (.c (.agg [(.str []), (.sl .full []), (.sl .full []), (.sl .full []), (.bool false)])), none, []⟩, ⟨none, .store 5 (.t 7) (.t 13), none, []⟩] false) (.seq (.region [⟨some 14, .fld 0 1 (.t 7), none, []⟩, ⟨some 15, .load false 1 (.t 14), none, []⟩, ⟨some 16, .mov (.t 1), none, []⟩, ⟨some 17, .bin .eql (.t 15) (.t 16), none, []⟩] false) (.cond (.t 17) (.seq (.region [⟨some 18, .load true 5 (.t 7), none, []⟩, ⟨none, .store 5 (.t 4) (.t 18), none, []⟩, ⟨some 5, .mov (.c (.bool true)), none, []⟩] false) .ret) .skip)))) (.region [⟨some 19, .bin .add (.t 10) (.c (.int .i64 1)), none, []⟩, ⟨some 10, .mov (.t 19), none, []⟩] false))))))) (.seq (.region [⟨some 20, .build [(.str []), (.sl .full []), (.sl .full []), (.sl .full []), (.bool false)] [], none, []⟩, ⟨none, .store 5 (.t 4) (.t 20), none, []⟩, ⟨some 5, .mov (.c (.bool false)), none, []⟩] false) .ret)))
def a44 : AFunc := { results := [.cell 4 true 5, .tmp 5], body := c44 }
def c59 : ACode :=
  (.seq (.region [⟨some 2, .mov (.c (.bool false)), none, []⟩] false) (.seq (.seq (.region [⟨some 4, .mov (.t 0), none, []⟩, ⟨some 5, .len false (.t 4), none, []⟩, ⟨some 6, .bin .gtr (.t 5) (.c (.int .i64 20)), none, []⟩] false) (.cond (.t 6) (.seq (.region [⟨some 2, .mov (.c (.bool false)), none, []⟩] false) .ret) .skip)) (.seq (.seq (.region [⟨some 3, .mov (.c (.int .i64 0)), none, []⟩] false) (.block 0 (.loop (.seq (.seq (.region [⟨some 7, .mov (.t 3), none, []⟩, ⟨some 8, .mov (.t 0), none, []⟩, ⟨some 9, .len false (.t 8), none, []⟩, ⟨some 10, .bin .lss (.t 7) (.t 9), none, []⟩] false) (.cond (.t 10) .skip (.exit 0))) (.seq (.block 1 (.seq (.region [⟨some 13, .mov (.t 0), none, []⟩, ⟨some 14, .mov (.t 3), none, []⟩, ⟨some 15, .idx 2 (.t 13) (.t 14), none, []⟩, ⟨some 16, .fld 0 1 (.t 15), none, []⟩, ⟨some 17, .load false 1 (.t 16), none, []⟩, ⟨some 18, .len true (.t 17), none, []⟩, ⟨some 19, .bin .gtr (.t 18) (.c (.int .i64 50)), none, []⟩] false) (.cond (.t 19) (.seq (.region [⟨some 2, .mov (.c (.bool false)), none, []⟩] false) .ret) .skip))) (.region [⟨some 11, .mov (.t 3), none, []⟩, ⟨some 12, .bin .add (.t 11) (.c (.int .i64 1)), none, []⟩, ⟨some 3, .mov (.t 12), none, []⟩] false)))))) (.seq (.region [⟨some 2, .mov (.c (.bool true)), none, []⟩] false) .ret))))
def a59 : AFunc := { results := [.tmp 2], body := c59 }
def c60 : ACode :=
  (.seq (.region [⟨some 2, .mov (.c (.bool false)), none, []⟩] false) (.seq (.seq (.region [⟨some 4, .mov (.t 0), none, []⟩, ⟨some 5, .len false (.t 4), none, []⟩, ⟨some 6, .bin .gtr (.t 5) (.c (.int .i64 20)), none, []⟩] false) (.cond (.t 6) (.seq (.region [⟨some 2, .mov (.c (.bool false)), none, []⟩] false) .ret) .skip)) (.seq (.seq (.region [⟨some 3, .mov (.c (.int .i64 0)), none, []⟩] false) (.block 0 (.loop (.seq (.seq (.region [⟨some 7, .mov (.t 3), none, []⟩, ⟨some 8, .mov (.t 0), none, []⟩, ⟨some 9, .len false (.t 8), none, []⟩, ⟨some 10, .bin .lss (.t 7) (.t 9), none, []⟩] false) (.cond (.t 10) .skip (.exit 0))) (.seq (.block 1 (.seq (.region [⟨some 13, .mov (.t 0), none, []⟩, ⟨some 14, .mov (.t 3), none, []⟩, ⟨some 15, .idx 2 (.t 13) (.t 14), none, []⟩, ⟨some 16, .fld 0 1 (.t 15), none, []⟩, ⟨some 17, .load false 1 (.t 16), none, []⟩, ⟨some 18, .len true (.t 17), none, []⟩, ⟨some 19, .bin .gtr (.t 18) (.c (.int .i64 50)), none, []⟩, ⟨some 20, .mov (.t 19), none, []⟩, ⟨some 21, .mov (.t 0), some (20, false), []⟩, ⟨some 22, .mov (.t 3), some (20, false), []⟩, ⟨some 23, .idx 2 (.t 21) (.t 22), some (20, false), []⟩, ⟨some 24, .fld 1 1 (.t 23), some (20, false), []⟩, ⟨some 25, .load false 1 (.t 24), some (20, false), []⟩, ⟨some 26, .len true (.t 25), some (20, false), []⟩, ⟨some 27, .bin .gtr (.t 26) (.c (.int .i64 50)), some (20, false), []⟩, ⟨some 28, .pick (.t 20) (.c (.bool true)) (.t 27), none, []⟩] false) (.cond (.t 28) (.seq (.region [⟨some 2, .mov (.c (.bool false)), none, []⟩] false) .ret) .skip))) (.region [⟨some 11, .mov (.t 3), none, []⟩, ⟨some 12, .bin .add (.t 11) (.c (.int .i64 1)), none, []⟩, ⟨some 3, .mov (.t 12), none, []⟩] false)))))) (.seq (.region [⟨some 2, .mov (.c (.bool true)), none, []⟩] false) .ret))))
def a60 : AFunc := { results := [.tmp 2], body := c60 }
def c71 : ACode :=
  (.seq (.region [⟨some 2, .mov (.c (.str [])), none, []⟩] false) (.seq (.seq (.region [⟨some 4, .mov (.t 0), none, []⟩, ⟨some 5, .bin .lss (.t 4) (.c (.int .i64 0)), none, []⟩] false) (.cond (.t 5) (.seq (.seq (.region [⟨some 6, .mov (.t 0), none, []⟩, ⟨some 7, .bin .eql (.t 6) (.c (.int .i64 (-9223372036854775808))), none, []⟩] false) (.cond (.t 7) (.seq (.region [⟨some 2, .mov (.c (.str [45, 57, 50, 50, 51, 51, 55, 50, 48, 51, 54, 56, 53, 52, 55, 55, 53, 56, 48, 56])), none, []⟩] false) .ret) .skip)) (.seq (.region [⟨some 8, .mov (.t 0), none, []⟩, ⟨some 9, .bin .sub (.c (.int .i64 0)) (.t 8), none, []⟩, ⟨some 10, .call (.c (.func 71 [])) [(.t 9)], none, []⟩, ⟨some 11, .bin .add (.c (.str [45])) (.t 10), none, []⟩, ⟨some 2, .mov (.t 11), none, []⟩] false) .ret)) .skip)) (.seq (.region [⟨some 12, .mov (.t 0), none, []⟩, ⟨some 13, .bin .rem (.t 12) (.c (.int .i64 10)), none, []⟩, ⟨some 14, .bin .add (.c (.int .i64 48)) (.t 13), none, []⟩, ⟨some 15, .conv (.int .u8) (.t 14), none, []⟩, ⟨some 16, .bslice 1 [(.t 15)], none, []⟩, ⟨some 17, .conv .bytes (.t 16), none, []⟩, ⟨some 3, .mov (.t 17), none, []⟩] false) (.seq (.block 0 (.loop (.seq (.seq (.region [⟨some 18, .mov (.t 0), none, []⟩, ⟨some 19, .bin .geq (.t 18) (.c (.int .i64 10)), none, []⟩] false) (.cond (.t 19) .skip (.exit 0))) (.block 1 (.seq (.region [⟨some 20, .mov (.t 0), none, []⟩, ⟨some 21, .bin .quo (.t 20) (.c (.int .i64 10)), none, []⟩, ⟨some 0, .mov (.t 21), none, []⟩] false) (.region [⟨some 22, .mov (.t 0), none, []⟩, ⟨some 23, .bin .rem (.t 22) (.c (.int .i64 10)), none, []⟩, ⟨some 24, .bin .add (.c (.int .i64 48)) (.t 23), none, []⟩, ⟨some 25, .conv (.int .u8) (.t 24), none, []⟩, ⟨some 26, .bslice 1 [(.t 25)], none, []⟩, ⟨some 27, .conv .bytes (.t 26), none, []⟩, ⟨some 28, .mov (.t 3), none, []⟩, ⟨some 29, .bin .add (.t 27) (.t 28), none, []⟩, ⟨some 3, .mov (.t 29), none, []⟩] false)))))) (.seq (.region [⟨some 30, .mov (.t 3), none, []⟩, ⟨some 2, .mov (.t 30), none, []⟩] false) .ret)))))
def a71 : AFunc := { results := [.tmp 2], body := c71 }
def c72 : ACode :=
  (.seq (.region [⟨some 2, .mov (.c (.bool false)), none, []⟩] false) (.seq (.seq (.region [⟨some 4, .mov (.t 0), none, []⟩, ⟨some 5, .len false (.t 4), none, []⟩, ⟨some 6, .bin .gtr (.t 5) (.c (.int .i64 20)), none, []⟩] false) (.cond (.t 6) (.seq (.region [⟨some 2, .mov (.c (.bool false)), none, []⟩] false) .ret) .skip)) (.seq (.seq (.region [⟨some 3, .mov (.c (.int .i64 0)), none, []⟩] false) (.block 0 (.loop (.seq (.seq (.region [⟨some 7, .mov (.t 3), none, []⟩, ⟨some 8, .mov (.t 0), none, []⟩, ⟨some 9, .len false (.t 8), none, []⟩, ⟨some 10, .bin .lss (.t 7) (.t 9), none, []⟩] false) (.cond (.t 10) .skip (.exit 0))) (.seq (.block 1 (.seq (.region [⟨some 13, .mov (.t 0), none, []⟩, ⟨some 14, .mov (.t 3), none, []⟩, ⟨some 15, .idx 3 (.t 13) (.t 14), none, []⟩, ⟨some 16, .fld 0 1 (.t 15), none, []⟩, ⟨some 17, .load false 1 (.t 16), none, []⟩, ⟨some 18, .len true (.t 17), none, []⟩, ⟨some 19, .bin .gtr (.t 18) (.c (.int .i64 50)), none, []⟩, ⟨some 20, .mov (.t 19), none, []⟩, ⟨some 21, .mov (.t 0), some (20, false), []⟩, ⟨some 22, .mov (.t 3), some (20, false), []⟩, ⟨some 23, .idx 3 (.t 21) (.t 22), some (20, false), []⟩, ⟨some 24, .fld 1 1 (.t 23), some (20, false), []⟩, ⟨some 25, .load false 1 (.t 24), some (20, false), []⟩, ⟨some 26, .len true (.t 25), some (20, false), []⟩, ⟨some 27, .bin .gtr (.t 26) (.c (.int .i64 50)), some (20, false), []⟩, ⟨some 28, .pick (.t 20) (.c (.bool true)) (.t 27), none, []⟩] false) (.cond (.t 28) (.seq (.region [⟨some 2, .mov (.c (.bool false)), none, []⟩] false) .ret) .skip))) (.region [⟨some 11, .mov (.t 3), none, []⟩, ⟨some 12, .bin .add (.t 11) (.c (.int .i64 1)), none, []⟩, ⟨some 3, .mov (.t 12), none, []⟩] false)))))) (.seq (.region [⟨some 2, .mov (.c (.bool true)), none, []⟩] false) .ret))))
def a72 : AFunc := { results := [.tmp 2], body := c72 }
def c73 : ACode :=
  (.seq (.region [⟨some 2, .mov (.c (.sl .full [])), none, []⟩] false) (.seq (.region [⟨some 3, .mov (.c (.sl .full [])), none, []⟩] false) (.seq (.seq (.region [⟨some 4, .mov (.c (.int .i64 0)), none, []⟩] false) (.block 0 (.loop (.seq (.seq (.region [⟨some 5, .mov (.t 4), none, []⟩, ⟨some 6, .mov (.t 0), none, []⟩, ⟨some 7, .len false (.t 6), none, []⟩, ⟨some 8, .bin .lss (.t 5) (.t 7), none, []⟩] false) (.cond (.t 8) .skip (.exit 0))) (.seq (.block 1 (.region [⟨some 11, .mov (.t 3), none, []⟩, ⟨some 12, .mov (.t 0), none, []⟩, ⟨some 13, .mov (.t 4), none, []⟩, ⟨some 14, .idx 2 (.t 12) (.t 13), none, [2, 1]⟩, ⟨some 15, .fld 0 1 (.t 14), none, [1, 2, 3]⟩, ⟨some 16, .load false 1 (.t 15), none, [3, 2, 1, 4]⟩, ⟨some 17, .mov (.t 0), none, []⟩, ⟨some 18, .mov (.t 4), none, []⟩, ⟨some 19, .idx 2 (.t 17) (.t 18), none, [7, 6]⟩, ⟨some 20, .fld 1 1 (.t 19), none, [6, 7, 8]⟩, ⟨some 21, .load false 1 (.t 20), none, [8, 7, 6, 9]⟩, ⟨some 22, .build [(.str []), (.int .i64 0)] [(0, 1, (.t 16)), (1, 1, (.t 21))], none, [9, 6, 7, 8, 10, 4, 1, 2, 3, 5]⟩, ⟨some 23, .bslice 2 [(.t 22)], none, [5, 3, 2, 1, 4, 10, 8, 7, 6, 9, 11]⟩, ⟨some 24, .append 2 24 (.t 11) (.t 23), none, [11, 9, 6, 7, 8, 10, 4, 1, 2, 3, 5, 12, 0]⟩, ⟨some 3, .mov (.t 24), none, [0, 12, 5, 3, 2, 1, 4, 10, 8, 7, 6, 9, 11, 13]⟩] true)) (.region [⟨some 9, .mov (.t 4), none, []⟩, ⟨some 10, .bin .add (.t 9) (.c (.int .i64 1)), none, []⟩, ⟨some 4, .mov (.t 10), none, []⟩] false)))))) (.seq (.region [⟨some 25, .mov (.t 3), none, []⟩, ⟨some 2, .mov (.t 25), none, []⟩] false) .ret))))
def a73 : AFunc := { results := [.tmp 2], body := c73 }
def c74 : ACode :=
  (.seq (.region [⟨some 2, .mov (.c (.sl .full [])), none, []⟩] false) (.seq (.region [⟨some 3, .mov (.c (.sl .full [])), none, []⟩] false) (.seq (.seq (.region [⟨some 4, .mov (.c (.int .i64 0)), none, []⟩] false) (.block 0 (.loop (.seq (.seq (.region [⟨some 5, .mov (.t 4), none, []⟩, ⟨some 6, .mov (.t 0), none, []⟩, ⟨some 7, .len false (.t 6), none, []⟩, ⟨some 8, .bin .lss (.t 5) (.t 7), none, []⟩] false) (.cond (.t 8) .skip (.exit 0))) (.seq (.block 1 (.region [⟨some 11, .mov (.t 3), none, []⟩, ⟨some 12, .mov (.t 0), none, []⟩, ⟨some 13, .mov (.t 4), none, []⟩, ⟨some 14, .idx 2 (.t 12) (.t 13), none, [2, 1]⟩, ⟨some 15, .fld 0 1 (.t 14), none, [1, 2, 3]⟩, ⟨some 16, .load false 1 (.t 15), none, [3, 2, 1, 4]⟩, ⟨some 17, .mov (.t 0), none, []⟩, ⟨some 18, .mov (.t 4), none, []⟩, ⟨some 19, .idx 2 (.t 17) (.t 18), none, [7, 6]⟩, ⟨some 20, .fld 1 1 (.t 19), none, [6, 7, 8]⟩, ⟨some 21, .load false 1 (.t 20), none, [8, 7, 6, 9]⟩, ⟨some 22, .build [(.str []), (.str [])] [(0, 1, (.t 16)), (1, 1, (.t 21))], none, [9, 6, 7, 8, 10, 4, 1, 2, 3, 5]⟩, ⟨some 23, .bslice 2 [(.t 22)], none, [5, 3, 2, 1, 4, 10, 8, 7, 6, 9, 11]⟩, ⟨some 24, .append 2 32 (.t 11) (.t 23), none, [11, 9, 6, 7, 8, 10, 4, 1, 2, 3, 5, 12, 0]⟩, ⟨some 3, .mov (.t 24), none, [0, 12, 5, 3, 2, 1, 4, 10, 8, 7, 6, 9, 11, 13]⟩] true)) (.region [⟨some 9, .mov (.t 4), none, []⟩, ⟨some 10, .bin .add (.t 9) (.c (.int .i64 1)), none, []⟩, ⟨some 4, .mov (.t 10), none, []⟩] false)))))) (.seq (.region [⟨some 25, .mov (.t 3), none, []⟩, ⟨some 2, .mov (.t 25), none, []⟩] false) .ret))))
def a74 : AFunc := { results := [.tmp 2], body := c74 }
def c75 : ACode :=
  (.seq (.region [⟨some 2, .mov (.c (.sl .full [])), none, []⟩] false) (.seq (.region [⟨some 3, .mov (.c (.sl .full [])), none, []⟩] false) (.seq (.seq (.region [⟨some 4, .mov (.c (.int .i64 0)), none, []⟩] false) (.block 0 (.loop (.seq (.seq (.region [⟨some 5, .mov (.t 4), none, []⟩, ⟨some 6, .mov (.t 0), none, []⟩, ⟨some 7, .len false (.t 6), none, []⟩, ⟨some 8, .bin .lss (.t 5) (.t 7), none, []⟩] false) (.cond (.t 8) .skip (.exit 0))) (.seq (.block 1 (.region [⟨some 11, .mov (.t 3), none, []⟩, ⟨some 12, .mov (.t 0), none, []⟩, ⟨some 13, .mov (.t 4), none, []⟩, ⟨some 14, .idx 3 (.t 12) (.t 13), none, [2, 1]⟩, ⟨some 15, .fld 0 1 (.t 14), none, [1, 2, 3]⟩, ⟨some 16, .load false 1 (.t 15), none, [3, 2, 1, 4]⟩, ⟨some 17, .mov (.t 0), none, []⟩, ⟨some 18, .mov (.t 4), none, []⟩, ⟨some 19, .idx 3 (.t 17) (.t 18), none, [7, 6]⟩, ⟨some 20, .fld 1 1 (.t 19), none, [6, 7, 8]⟩, ⟨some 21, .load false 1 (.t 20), none, [8, 7, 6, 9]⟩, ⟨some 22, .mov (.t 0), none, []⟩, ⟨some 23, .mov (.t 4), none, []⟩, ⟨some 24, .idx 3 (.t 22) (.t 23), none, [12, 11]⟩, ⟨some 25, .fld 2 1 (.t 24), none, [11, 12, 13]⟩, ⟨some 26, .load false 1 (.t 25), none, [13, 12, 11, 14]⟩, ⟨some 27, .build [(.str []), (.str []), (.bool false)] [(0, 1, (.t 16)), (1, 1, (.t 21)), (2, 1, (.t 26))], none, [14, 11, 12, 13, 15, 9, 6, 7, 8, 10, 4, 1, 2, 3, 5]⟩, ⟨some 28, .bslice 3 [(.t 27)], none, [5, 3, 2, 1, 4, 10, 8, 7, 6, 9, 15, 13, 12, 11, 14, 16]⟩, ⟨some 29, .append 3 40 (.t 11) (.t 28), none, [16, 14, 11, 12, 13, 15, 9, 6, 7, 8, 10, 4, 1, 2, 3, 5, 17, 0]⟩, ⟨some 3, .mov (.t 29), none, [0, 17, 5, 3, 2, 1, 4, 10, 8, 7, 6, 9, 15, 13, 12, 11, 14, 16, 18]⟩] true)) (.region [⟨some 9, .mov (.t 4), none, []⟩, ⟨some 10, .bin .add (.t 9) (.c (.int .i64 1)), none, []⟩, ⟨some 4, .mov (.t 10), none, []⟩] false)))))) (.seq (.region [⟨some 30, .mov (.t 3), none, []⟩, ⟨some 2, .mov (.t 30), none, []⟩] false) .ret))))
def a75 : AFunc := { results := [.tmp 2], body := c75 }
def c76 : ACode :=
  (.seq (.region [⟨some 2, .mov (.c (.bool false)), none, []⟩] false) (.seq (.seq (.region [⟨some 4, .mov (.t 0), none, []⟩, ⟨some 5, .len true (.t 4), none, []⟩, ⟨some 6, .bin .lss (.t 5) (.c (.int .i64 1)), none, []⟩, ⟨some 7, .mov (.t 6), none, []⟩, ⟨some 8, .mov (.t 0), some (7, false), []⟩, ⟨some 9, .len true (.t 8), some (7, false), []⟩, ⟨some 10, .bin .gtr (.t 9) (.c (.int .i64 12)), some (7, false), []⟩, ⟨some 11, .pick (.t 7) (.c (.bool true)) (.t 10), none, []⟩] false) (.cond (.t 11) (.seq (.region [⟨some 2, .mov (.c (.bool false)), none, []⟩] false) .ret) .skip)) (.seq (.seq (.region [⟨some 3, .mov (.c (.int .i64 0)), none, []⟩] false) (.block 0 (.loop (.seq (.seq (.region [⟨some 12, .mov (.t 3), none, []⟩, ⟨some 13, .mov (.t 0), none, []⟩, ⟨some 14, .len true (.t 13), none, []⟩, ⟨some 15, .bin .lss (.t 12) (.t 14), none, []⟩] false) (.cond (.t 15) .skip (.exit 0))) (.seq (.block 1 (.seq (.region [⟨some 18, .mov (.t 0), none, []⟩, ⟨some 19, .mov (.t 3), none, []⟩, ⟨some 20, .idxs (.t 18) (.t 19), none, []⟩, ⟨some 21, .bin .lss (.t 20) (.c (.int .u8 97)), none, []⟩, ⟨some 22, .mov (.t 21), none, []⟩, ⟨some 23, .mov (.t 0), some (22, false), []⟩, ⟨some 24, .mov (.t 3), some (22, false), []⟩, ⟨some 25, .idxs (.t 23) (.t 24), some (22, false), []⟩, ⟨some 26, .bin .gtr (.t 25) (.c (.int .u8 122)), some (22, false), []⟩, ⟨some 27, .pick (.t 22) (.c (.bool true)) (.t 26), none, []⟩, ⟨some 28, .mov (.t 27), none, []⟩, ⟨some 29, .mov (.t 0), some (28, true), []⟩, ⟨some 30, .mov (.t 3), some (28, true), []⟩, ⟨some 31, .idxs (.t 29) (.t 30), some (28, true), []⟩, ⟨some 32, .bin .lss (.t 31) (.c (.int .u8 48)), some (28, true), []⟩, ⟨some 33, .mov (.t 32), some (28, true), []⟩, ⟨some 34, .mov (.t 0), some (33, false), []⟩, ⟨some 35, .mov (.t 3), some (33, false), []⟩, ⟨some 36, .idxs (.t 34) (.t 35), some (33, false), []⟩, ⟨some 37, .bin .gtr (.t 36) (.c (.int .u8 57)), some (33, false), []⟩, ⟨some 38, .pick (.t 33) (.c (.bool true)) (.t 37), some (28, true), []⟩, ⟨some 39, .pick (.t 28) (.t 38) (.c (.bool false)), none, []⟩] false) (.cond (.t 39) (.seq (.region [⟨some 2, .mov (.c (.bool false)), none, []⟩] false) .ret) .skip))) (.region [⟨some 16, .mov (.t 3), none, []⟩, ⟨some 17, .bin .add (.t 16) (.c (.int .i64 1)), none, []⟩, ⟨some 3, .mov (.t 17), none, []⟩] false)))))) (.seq (.region [⟨some 2, .mov (.c (.bool true)), none, []⟩] false) .ret))))
def a76 : AFunc := { results := [.tmp 2], body := c76 }
def c77 : ACode :=
  (.seq (.region [⟨some 2, .mov (.c (.int .i64 0)), none, []⟩] false) (.seq (.seq (.region [⟨some 4, .mov (.t 0), none, []⟩, ⟨some 5, .len false (.t 4), none, []⟩, ⟨some 6, .bin .gtr (.t 5) (.c (.int .i64 8)), none, []⟩] false) (.cond (.t 6) (.seq (.region [⟨some 2, .mov (.c (.int .i64 4)), none, []⟩] false) .ret) .skip)) (.seq (.seq (.region [⟨some 3, .mov (.c (.int .i64 0)), none, []⟩] false) (.block 0 (.loop (.seq (.seq (.region [⟨some 7, .mov (.t 3), none, []⟩, ⟨some 8, .mov (.t 0), none, []⟩, ⟨some 9, .len false (.t 8), none, []⟩, ⟨some 10, .bin .lss (.t 7) (.t 9), none, []⟩] false) (.cond (.t 10) .skip (.exit 0))) (.seq (.block 1 (.seq (.seq (.region [⟨some 13, .mov (.t 0), none, []⟩, ⟨some 14, .mov (.t 3), none, []⟩, ⟨some 15, .idx 2 (.t 13) (.t 14), none, []⟩, ⟨some 16, .fld 0 1 (.t 15), none, []⟩, ⟨some 17, .load false 1 (.t 16), none, []⟩, ⟨some 18, .call (.c (.func 76 [])) [(.t 17)], none, []⟩, ⟨some 19, .un .not (.t 18), none, []⟩] false) (.cond (.t 19) (.seq (.region [⟨some 2, .mov (.c (.int .i64 3)), none, []⟩] false) .ret) .skip)) (.seq (.seq (.region [⟨some 20, .mov (.t 0), none, []⟩, ⟨some 21, .mov (.t 3), none, []⟩, ⟨some 22, .idx 2 (.t 20) (.t 21), none, []⟩, ⟨some 23, .fld 1 1 (.t 22), none, []⟩, ⟨some 24, .load false 1 (.t 23), none, []⟩, ⟨some 25, .bin .leq (.t 24) (.c (.int .i64 0)), none, []⟩] false) (.cond (.t 25) (.seq (.region [⟨some 2, .mov (.c (.int .i64 1)), none, []⟩] false) .ret) .skip)) (.seq (.region [⟨some 26, .mov (.t 3), none, []⟩, ⟨some 27, .bin .gtr (.t 26) (.c (.int .i64 0)), none, [0]⟩, ⟨some 28, .mov (.t 27), none, [0, 1]⟩, ⟨some 29, .mov (.t 0), some (28, true), [1, 0, 2]⟩, ⟨some 30, .mov (.t 3), some (28, true), [1, 0, 2]⟩, ⟨some 31, .idx 2 (.t 29) (.t 30), some (28, true), [4, 2, 0, 1, 3]⟩, ⟨some 32, .fld 0 1 (.t 31), some (28, true), [3, 1, 0, 2, 4, 5]⟩, ⟨some 33, .load false 1 (.t 32), some (28, true), [5, 4, 2, 0, 1, 3, 6]⟩, ⟨some 34, .mov (.t 0), some (28, true), [1, 0, 2]⟩, ⟨some 35, .mov (.t 3), some (28, true), [1, 0, 2]⟩, ⟨some 36, .bin .sub (.t 35) (.c (.int .i64 1)), some (28, true), [2, 0, 1, 9]⟩, ⟨some 37, .idx 2 (.t 34) (.t 36), some (28, true), [9, 10, 2, 0, 1, 8]⟩, ⟨some 38, .fld 0 1 (.t 37), some (28, true), [8, 1, 0, 2, 10, 9, 11]⟩, ⟨some 39, .load false 1 (.t 38), some (28, true), [11, 9, 10, 2, 0, 1, 8, 12]⟩, ⟨some 40, .bin .leq (.t 33) (.t 39), some (28, true), [12, 8, 10, 9, 11, 13, 6, 3, 1, 0, 2, 4, 5, 7]⟩, ⟨some 41, .pick (.t 28) (.t 40) (.c (.bool false)), none, [7, 5, 4, 3, 6, 13, 11, 9, 10, 8, 12, 14, 1, 0, 2]⟩] true) (.cond (.t 41) (.seq (.region [⟨some 2, .mov (.c (.int .i64 13)), none, []⟩] false) .ret) .skip))))) (.region [⟨some 11, .mov (.t 3), none, []⟩, ⟨some 12, .bin .add (.t 11) (.c (.int .i64 1)), none, []⟩, ⟨some 3, .mov (.t 12), none, []⟩] false)))))) (.seq (.region [⟨some 2, .mov (.c (.int .i64 0)), none, []⟩] false) .ret))))
def a77 : AFunc := { results := [.tmp 2], body := c77 }
def c78 : ACode :=
  (.seq (.region [⟨some 2, .mov (.c (.int .i64 0)), none, []⟩] false) (.seq (.seq (.region [⟨some 4, .mov (.t 0), none, []⟩, ⟨some 5, .len false (.t 4), none, []⟩, ⟨some 6, .bin .gtr (.t 5) (.c (.int .i64 8)), none, []⟩] false) (.cond (.t 6) (.seq (.region [⟨some 2, .mov (.c (.int .i64 4)), none, []⟩] false) .ret) .skip)) (.seq (.seq (.region [⟨some 3, .mov (.c (.int .i64 0)), none, []⟩] false) (.block 0 (.loop (.seq (.seq (.region [⟨some 7, .mov (.t 3), none, []⟩, ⟨some 8, .mov (.t 0), none, []⟩, ⟨some 9, .len false (.t 8), none, []⟩, ⟨some 10, .bin .lss (.t 7) (.t 9), none, []⟩] false) (.cond (.t 10) .skip (.exit 0))) (.seq (.block 1 (.seq (.seq (.region [⟨some 13, .mov (.t 0), none, []⟩, ⟨some 14, .mov (.t 3), none, []⟩, ⟨some 15, .idx 2 (.t 13) (.t 14), none, []⟩, ⟨some 16, .fld 0 1 (.t 15), none, []⟩, ⟨some 17, .load false 1 (.t 16), none, []⟩, ⟨some 18, .call (.c (.func 76 [])) [(.t 17)], none, []⟩, ⟨some 19, .un .not (.t 18), none, []⟩, ⟨some 20, .mov (.t 19), none, []⟩, ⟨some 21, .mov (.t 0), some (20, false), []⟩, ⟨some 22, .mov (.t 3), some (20, false), []⟩, ⟨some 23, .idx 2 (.t 21) (.t 22), some (20, false), []⟩, ⟨some 24, .fld 1 1 (.t 23), some (20, false), []⟩, ⟨some 25, .load false 1 (.t 24), some (20, false), []⟩, ⟨some 26, .call (.c (.func 76 [])) [(.t 25)], some (20, false), []⟩, ⟨some 27, .un .not (.t 26), some (20, false), []⟩, ⟨some 28, .pick (.t 20) (.c (.bool true)) (.t 27), none, []⟩] false) (.cond (.t 28) (.seq (.region [⟨some 2, .mov (.c (.int .i64 3)), none, []⟩] false) .ret) .skip)) (.seq (.region [⟨some 29, .mov (.t 3), none, []⟩, ⟨some 30, .bin .gtr (.t 29) (.c (.int .i64 0)), none, [0]⟩, ⟨some 31, .mov (.t 30), none, [0, 1]⟩, ⟨some 32, .mov (.t 0), some (31, true), [1, 0, 2]⟩, ⟨some 33, .mov (.t 3), some (31, true), [1, 0, 2]⟩, ⟨some 34, .idx 2 (.t 32) (.t 33), some (31, true), [4, 2, 0, 1, 3]⟩, ⟨some 35, .fld 0 1 (.t 34), some (31, true), [3, 1, 0, 2, 4, 5]⟩, ⟨some 36, .load false 1 (.t 35), some (31, true), [5, 4, 2, 0, 1, 3, 6]⟩, ⟨some 37, .mov (.t 0), some (31, true), [1, 0, 2]⟩, ⟨some 38, .mov (.t 3), some (31, true), [1, 0, 2]⟩, ⟨some 39, .bin .sub (.t 38) (.c (.int .i64 1)), some (31, true), [2, 0, 1, 9]⟩, ⟨some 40, .idx 2 (.t 37) (.t 39), some (31, true), [9, 10, 2, 0, 1, 8]⟩, ⟨some 41, .fld 0 1 (.t 40), some (31, true), [8, 1, 0, 2, 10, 9, 11]⟩, ⟨some 42, .load false 1 (.t 41), some (31, true), [11, 9, 10, 2, 0, 1, 8, 12]⟩, ⟨some 43, .bin .leq (.t 36) (.t 42), some (31, true), [12, 8, 10, 9, 11, 13, 6, 3, 1, 0, 2, 4, 5, 7]⟩, ⟨some 44, .pick (.t 31) (.t 43) (.c (.bool false)), none, [7, 5, 4, 3, 6, 13, 11, 9, 10, 8, 12, 14, 1, 0, 2]⟩] true) (.cond (.t 44) (.seq (.region [⟨some 2, .mov (.c (.int .i64 13)), none, []⟩] false) .ret) .skip)))) (.region [⟨some 11, .mov (.t 3), none, []⟩, ⟨some 12, .bin .add (.t 11) (.c (.int .i64 1)), none, []⟩, ⟨some 3, .mov (.t 12), none, []⟩] false)))))) (.seq (.region [⟨some 2, .mov (.c (.int .i64 0)), none, []⟩] false) .ret))))
def a78 : AFunc := { results := [.tmp 2], body := c78 }
def c79 : ACode :=
  (.seq (.region [⟨some 2, .mov (.c (.int .i64 0)), none, []⟩] false) (.seq (.seq (.region [⟨some 5, .mov (.t 0), none, []⟩, ⟨some 6, .len false (.t 5), none, []⟩, ⟨some 7, .bin .gtr (.t 6) (.c (.int .i64 8)), none, []⟩] false) (.cond (.t 7) (.seq (.region [⟨some 2, .mov (.c (.int .i64 4)), none, []⟩] false) .ret) .skip)) (.seq (.seq (.region [⟨some 3, .mov (.c (.int .i64 0)), none, []⟩] false) (.block 0 (.loop (.seq (.seq (.region [⟨some 8, .mov (.t 3), none, []⟩, ⟨some 9, .mov (.t 0), none, []⟩, ⟨some 10, .len false (.t 9), none, []⟩, ⟨some 11, .bin .lss (.t 8) (.t 10), none, []⟩] false) (.cond (.t 11) .skip (.exit 0))) (.seq (.block 1 (.seq (.seq (.region [⟨some 14, .mov (.t 0), none, []⟩, ⟨some 15, .mov (.t 3), none, []⟩, ⟨some 16, .idx 3 (.t 14) (.t 15), none, []⟩, ⟨some 17, .fld 0 1 (.t 16), none, []⟩, ⟨some 18, .load false 1 (.t 17), none, []⟩, ⟨some 19, .call (.c (.func 76 [])) [(.t 18)], none, []⟩, ⟨some 20, .un .not (.t 19), none, []⟩, ⟨some 21, .mov (.t 20), none, []⟩, ⟨some 22, .mov (.t 0), some (21, false), []⟩, ⟨some 23, .mov (.t 3), some (21, false), []⟩, ⟨some 24, .idx 3 (.t 22) (.t 23), some (21, false), []⟩, ⟨some 25, .fld 1 1 (.t 24), some (21, false), []⟩, ⟨some 26, .load false 1 (.t 25), some (21, false), []⟩, ⟨some 27, .call (.c (.func 76 [])) [(.t 26)], some (21, false), []⟩, ⟨some 28, .un .not (.t 27), some (21, false), []⟩, ⟨some 29, .pick (.t 21) (.c (.bool true)) (.t 28), none, []⟩] false) (.cond (.t 29) (.seq (.region [⟨some 2, .mov (.c (.int .i64 3)), none, []⟩] false) .ret) .skip)) (.seq (.region [⟨some 4, .mov (.c (.int .i64 0)), none, []⟩] false) (.block 2 (.loop (.seq (.seq (.region [⟨some 30, .mov (.t 4), none, []⟩, ⟨some 31, .mov (.t 3), none, []⟩, ⟨some 32, .bin .lss (.t 30) (.t 31), none, []⟩] false) (.cond (.t 32) .skip (.exit 2))) (.seq (.block 3 (.seq (.region [⟨some 35, .mov (.t 0), none, []⟩, ⟨some 36, .mov (.t 4), none, []⟩, ⟨some 37, .idx 3 (.t 35) (.t 36), none, [1, 0]⟩, ⟨some 38, .fld 0 1 (.t 37), none, [0, 1, 2]⟩, ⟨some 39, .load false 1 (.t 38), none, [2, 1, 0, 3]⟩, ⟨some 40, .mov (.t 0), none, []⟩, ⟨some 41, .mov (.t 3), none, []⟩, ⟨some 42, .idx 3 (.t 40) (.t 41), none, [6, 5]⟩, ⟨some 43, .fld 0 1 (.t 42), none, [5, 6, 7]⟩, ⟨some 44, .load false 1 (.t 43), none, [7, 6, 5, 8]⟩, ⟨some 45, .bin .eql (.t 39) (.t 44), none, [8, 5, 6, 7, 9, 3, 0, 1, 2, 4]⟩, ⟨some 46, .mov (.t 45), none, [4, 2, 1, 0, 3, 9, 7, 6, 5, 8, 10]⟩, ⟨some 47, .mov (.t 0), some (46, true), [10, 8, 5, 6, 7, 9, 3, 0, 1, 2, 4, 11]⟩, ⟨some 48, .mov (.t 4), some (46, true), [10, 8, 5, 6, 7, 9, 3, 0, 1, 2, 4, 11]⟩, ⟨some 49, .idx 3 (.t 47) (.t 48), some (46, true), [13, 11, 4, 2, 1, 0, 3, 9, 7, 6, 5, 8, 10, 12]⟩, ⟨some 50, .fld 1 1 (.t 49), some (46, true), [12, 10, 8, 5, 6, 7, 9, 3, 0, 1, 2, 4, 11, 13, 14]⟩, ⟨some 51, .load false 1 (.t 50), some (46, true), [14, 13, 11, 4, 2, 1, 0, 3, 9, 7, 6, 5, 8, 10, 12, 15]⟩, ⟨some 52, .mov (.t 0), some (46, true), [10, 8, 5, 6, 7, 9, 3, 0, 1, 2, 4, 11]⟩, ⟨some 53, .mov (.t 3), some (46, true), [10, 8, 5, 6, 7, 9, 3, 0, 1, 2, 4, 11]⟩, ⟨some 54, .idx 3 (.t 52) (.t 53), some (46, true), [18, 11, 4, 2, 1, 0, 3, 9, 7, 6, 5, 8, 10, 17]⟩, ⟨some 55, .fld 1 1 (.t 54), some (46, true), [17, 10, 8, 5, 6, 7, 9, 3, 0, 1, 2, 4, 11, 18, 19]⟩, ⟨some 56, .load false 1 (.t 55), some (46, true), [19, 18, 11, 4, 2, 1, 0, 3, 9, 7, 6, 5, 8, 10, 17, 20]⟩, ⟨some 57, .bin .eql (.t 51) (.t 56), some (46, true), [20, 17, 18, 19, 21, 15, 12, 10, 8, 5, 6, 7, 9, 3, 0, 1, 2, 4, 11, 13, 14, 16]⟩, ⟨some 58, .pick (.t 46) (.t 57) (.c (.bool false)), none, [16, 14, 13, 12, 15, 21, 19, 18, 17, 20, 22, 10, 8, 5, 6, 7, 9, 3, 0, 1, 2, 4, 11]⟩] true) (.cond (.t 58) (.seq (.region [⟨some 2, .mov (.c (.int .i64 6)), none, []⟩] false) .ret) .skip))) (.region [⟨some 33, .mov (.t 4), none, []⟩, ⟨some 34, .bin .add (.t 33) (.c (.int .i64 1)), none, []⟩, ⟨some 4, .mov (.t 34), none, []⟩] false)))))))) (.region [⟨some 12, .mov (.t 3), none, []⟩, ⟨some 13, .bin .add (.t 12) (.c (.int .i64 1)), none, []⟩, ⟨some 3, .mov (.t 13), none, []⟩] false)))))) (.seq (.region [⟨some 2, .mov (.c (.int .i64 0)), none, []⟩] false) .ret))))
def a79 : AFunc := { results := [.tmp 2], body := c79 }
def c80 : ACode :=
  (.seq (.region [⟨some 2, .mov (.c (.int .i64 0)), none, []⟩] false) (.seq (.seq (.region [⟨some 5, .mov (.t 0), none, []⟩, ⟨some 6, .len false (.t 5), none, []⟩, ⟨some 7, .mov (.c (.int .i64 0)), none, []⟩] false) (.block 0 (.loop (.seq (.region [⟨some 8, .bin .lss (.t 7) (.t 6), none, []⟩] false) (.seq (.cond (.t 8) .skip (.exit 0)) (.seq (.block 1 (.seq (.region [⟨some 9, .idx 1 (.t 5) (.t 7), none, []⟩, ⟨some 10, .load false 1 (.t 9), none, []⟩, ⟨some 4, .mov (.t 10), none, []⟩] false) (.seq (.region [⟨some 11, .mov (.t 4), none, []⟩, ⟨some 12, .bin .neq (.t 11) (.c (.int .i64 0)), none, []⟩] false) (.cond (.t 12) (.seq (.region [⟨some 13, .mov (.t 4), none, []⟩, ⟨some 2, .mov (.t 13), none, []⟩] false) .ret) .skip)))) (.region [⟨some 14, .bin .add (.t 7) (.c (.int .i64 1)), none, []⟩, ⟨some 7, .mov (.t 14), none, []⟩] false))))))) (.seq (.region [⟨some 2, .mov (.c (.int .i64 0)), none, []⟩] false) .ret)))
def a80 : AFunc := { results := [.tmp 2], body := c80 }
def c81 : ACode :=
  (.seq (.region [⟨some 2, .mov (.c (.int .i64 0)), none, []⟩] false) (.seq (.seq (.region [⟨some 3, .mov (.t 0), none, []⟩, ⟨some 4, .call (.c (.func 143 [])) [(.t 3)], none, []⟩, ⟨some 5, .un .not (.t 4), none, []⟩] false) (.cond (.t 5) (.seq (.region [⟨some 2, .mov (.c (.int .i64 3)), none, []⟩] false) .ret) .skip)) (.seq (.region [⟨some 2, .mov (.c (.int .i64 0)), none, []⟩] false) .ret)))
def a81 : AFunc := { results := [.tmp 2], body := c81 }
def c82 : ACode :=
  (.seq (.region [⟨some 2, .mov (.c (.int .i64 0)), none, []⟩] false) (.seq (.seq (.region [⟨some 5, .mov (.t 0), none, []⟩, ⟨some 6, .len false (.t 5), none, []⟩, ⟨some 7, .bin .gtr (.t 6) (.c (.int .i64 8)), none, []⟩] false) (.cond (.t 7) (.seq (.region [⟨some 2, .mov (.c (.int .i64 4)), none, []⟩] false) .ret) .skip)) (.seq (.seq (.region [⟨some 8, .mov (.t 0), none, []⟩, ⟨some 9, .len false (.t 8), none, []⟩, ⟨some 10, .mov (.c (.int .i64 0)), none, []⟩] false) (.block 0 (.loop (.seq (.region [⟨some 11, .bin .lss (.t 10) (.t 9), none, []⟩] false) (.seq (.cond (.t 11) .skip (.exit 0)) (.seq (.block 1 (.seq (.region [⟨some 12, .mov (.t 10), none, []⟩, ⟨some 13, .idx 2 (.t 8) (.t 10), none, []⟩, ⟨some 14, .load true 2 (.t 13), none, []⟩, ⟨some 4, .box (.c (.agg [(.str []), (.int .i64 0)])), none, []⟩, ⟨some 3, .mov (.t 12), none, []⟩, ⟨none, .store 2 (.t 4) (.t 14), none, []⟩] false) (.block 2 (.seq (.region [⟨some 16, .fld 0 1 (.t 4), none, []⟩, ⟨some 17, .load false 1 (.t 16), none, []⟩, ⟨some 18, .call (.c (.func 143 [])) [(.t 17)], none, []⟩, ⟨some 19, .un .not (.t 18), none, []⟩, ⟨some 15, .mov (.t 19), none, []⟩] false) (.cond (.t 15) (.seq (.region [⟨some 2, .mov (.c (.int .i64 3)), none, []⟩] false) .ret) (.seq (.region [⟨some 21, .fld 1 1 (.t 4), none, []⟩, ⟨some 22, .load false 1 (.t 21), none, []⟩, ⟨some 23, .bin .leq (.t 22) (.c (.int .i64 0)), none, []⟩, ⟨some 20, .mov (.t 23), none, []⟩] false) (.cond (.t 20) (.seq (.region [⟨some 2, .mov (.c (.int .i64 1)), none, []⟩] false) .ret) (.seq (.region [⟨some 25, .mov (.t 3), none, []⟩, ⟨some 26, .bin .gtr (.t 25) (.c (.int .i64 0)), none, [0]⟩, ⟨some 27, .mov (.t 26), none, [0, 1]⟩, ⟨some 28, .fld 0 1 (.t 4), some (27, true), [1, 0, 2]⟩, ⟨some 29, .load false 1 (.t 28), some (27, true), [2, 0, 1, 3]⟩, ⟨some 30, .mov (.t 0), some (27, true), [1, 0, 2]⟩, ⟨some 31, .mov (.t 3), some (27, true), [1, 0, 2]⟩, ⟨some 32, .bin .sub (.t 31) (.c (.int .i64 1)), some (27, true), [2, 0, 1, 6]⟩, ⟨some 33, .idx 2 (.t 30) (.t 32), some (27, true), [6, 7, 2, 0, 1, 5]⟩, ⟨some 34, .fld 0 1 (.t 33), some (27, true), [5, 1, 0, 2, 7, 6, 8]⟩, ⟨some 35, .load false 1 (.t 34), some (27, true), [8, 6, 7, 2, 0, 1, 5, 9]⟩, ⟨some 36, .bin .leq (.t 29) (.t 35), some (27, true), [9, 5, 7, 6, 8, 10, 3, 1, 0, 2, 4]⟩, ⟨some 37, .pick (.t 27) (.t 36) (.c (.bool false)), none, [4, 3, 10, 8, 6, 7, 5, 9, 11, 1, 0, 2]⟩, ⟨some 24, .mov (.t 37), none, [2, 0, 1, 11, 9, 5, 7, 6, 8, 10, 3, 4, 12]⟩] true) (.cond (.t 24) (.seq (.region [⟨some 2, .mov (.c (.int .i64 13)), none, []⟩] false) .ret) .skip))))))))) (.region [⟨some 38, .bin .add (.t 10) (.c (.int .i64 1)), none, []⟩, ⟨some 10, .mov (.t 38), none, []⟩] false))))))) (.seq (.region [⟨some 2, .mov (.c (.int .i64 0)), none, []⟩] false) .ret))))
def a82 : AFunc := { results := [.tmp 2], body := c82 }
def c83 : ACode :=
  (.seq (.region [⟨some 2, .mov (.c (.int .i64 0)), none, []⟩] false) (.seq (.seq (.region [⟨some 5, .mov (.t 0), none, []⟩, ⟨some 6, .len false (.t 5), none, []⟩, ⟨some 7, .bin .gtr (.t 6) (.c (.int .i64 8)), none, []⟩] false) (.cond (.t 7) (.seq (.region [⟨some 2, .mov (.c (.int .i64 4)), none, []⟩] false) .ret) .skip)) (.seq (.seq (.region [⟨some 8, .mov (.t 0), none, []⟩, ⟨some 9, .len false (.t 8), none, []⟩, ⟨some 10, .mov (.c (.int .i64 0)), none, []⟩] false) (.block 0 (.loop (.seq (.region [⟨some 11, .bin .lss (.t 10) (.t 9), none, []⟩] false) (.seq (.cond (.t 11) .skip (.exit 0)) (.seq (.block 1 (.seq (.region [⟨some 12, .mov (.t 10), none, []⟩, ⟨some 13, .idx 2 (.t 8) (.t 10), none, []⟩, ⟨some 14, .load true 2 (.t 13), none, []⟩, ⟨some 4, .box (.c (.agg [(.str []), (.str [])])), none, []⟩, ⟨some 3, .mov (.t 12), none, []⟩, ⟨none, .store 2 (.t 4) (.t 14), none, []⟩] false) (.block 2 (.seq (.region [⟨some 16, .fld 0 1 (.t 4), none, []⟩, ⟨some 17, .load false 1 (.t 16), none, []⟩, ⟨some 18, .call (.c (.func 143 [])) [(.t 17)], none, []⟩, ⟨some 19, .un .not (.t 18), none, []⟩, ⟨some 20, .mov (.t 19), none, []⟩, ⟨some 21, .fld 1 1 (.t 4), some (20, false), []⟩, ⟨some 22, .load false 1 (.t 21), some (20, false), []⟩, ⟨some 23, .call (.c (.func 143 [])) [(.t 22)], some (20, false), []⟩, ⟨some 24, .un .not (.t 23), some (20, false), []⟩, ⟨some 25, .pick (.t 20) (.c (.bool true)) (.t 24), none, []⟩, ⟨some 15, .mov (.t 25), none, []⟩] false) (.cond (.t 15) (.seq (.region [⟨some 2, .mov (.c (.int .i64 3)), none, []⟩] false) .ret) (.seq (.region [⟨some 27, .mov (.t 3), none, []⟩, ⟨some 28, .bin .gtr (.t 27) (.c (.int .i64 0)), none, [0]⟩, ⟨some 29, .mov (.t 28), none, [0, 1]⟩, ⟨some 30, .fld 0 1 (.t 4), some (29, true), [1, 0, 2]⟩, ⟨some 31, .load false 1 (.t 30), some (29, true), [2, 0, 1, 3]⟩, ⟨some 32, .mov (.t 0), some (29, true), [1, 0, 2]⟩, ⟨some 33, .mov (.t 3), some (29, true), [1, 0, 2]⟩, ⟨some 34, .bin .sub (.t 33) (.c (.int .i64 1)), some (29, true), [2, 0, 1, 6]⟩, ⟨some 35, .idx 2 (.t 32) (.t 34), some (29, true), [6, 7, 2, 0, 1, 5]⟩, ⟨some 36, .fld 0 1 (.t 35), some (29, true), [5, 1, 0, 2, 7, 6, 8]⟩, ⟨some 37, .load false 1 (.t 36), some (29, true), [8, 6, 7, 2, 0, 1, 5, 9]⟩, ⟨some 38, .bin .leq (.t 31) (.t 37), some (29, true), [9, 5, 7, 6, 8, 10, 3, 1, 0, 2, 4]⟩, ⟨some 39, .pick (.t 29) (.t 38) (.c (.bool false)), none, [4, 3, 10, 8, 6, 7, 5, 9, 11, 1, 0, 2]⟩, ⟨some 26, .mov (.t 39), none, [2, 0, 1, 11, 9, 5, 7, 6, 8, 10, 3, 4, 12]⟩] true) (.cond (.t 26) (.seq (.region [⟨some 2, .mov (.c (.int .i64 13)), none, []⟩] false) .ret) .skip))))))) (.region [⟨some 40, .bin .add (.t 10) (.c (.int .i64 1)), none, []⟩, ⟨some 10, .mov (.t 40), none, []⟩] false))))))) (.seq (.region [⟨some 2, .mov (.c (.int .i64 0)), none, []⟩] false) .ret))))
def a83 : AFunc := { results := [.tmp 2], body := c83 }
def c84 : ACode :=
  (.seq (.region [⟨some 2, .mov (.c (.int .i64 0)), none, []⟩] false) (.seq (.seq (.region [⟨some 5, .mov (.t 0), none, []⟩, ⟨some 6, .len false (.t 5), none, []⟩, ⟨some 7, .bin .gtr (.t 6) (.c (.int .i64 8)), none, []⟩] false) (.cond (.t 7) (.seq (.region [⟨some 2, .mov (.c (.int .i64 4)), none, []⟩] false) .ret) .skip)) (.seq (.seq (.region [⟨some 8, .mov (.t 0), none, []⟩, ⟨some 9, .len false (.t 8), none, []⟩, ⟨some 10, .mov (.c (.int .i64 0)), none, []⟩] false) (.block 0 (.loop (.seq (.region [⟨some 11, .bin .lss (.t 10) (.t 9), none, []⟩] false) (.seq (.cond (.t 11) .skip (.exit 0)) (.seq (.block 1 (.seq (.region [⟨some 12, .mov (.t 10), none, []⟩, ⟨some 13, .idx 3 (.t 8) (.t 10), none, []⟩, ⟨some 14, .load true 3 (.t 13), none, []⟩, ⟨some 4, .box (.c (.agg [(.str []), (.str []), (.bool false)])), none, []⟩, ⟨some 3, .mov (.t 12), none, []⟩, ⟨none, .store 3 (.t 4) (.t 14), none, []⟩] false) (.block 2 (.seq (.region [⟨some 16, .fld 0 1 (.t 4), none, []⟩, ⟨some 17, .load false 1 (.t 16), none, []⟩, ⟨some 18, .call (.c (.func 143 [])) [(.t 17)], none, []⟩, ⟨some 19, .un .not (.t 18), none, []⟩, ⟨some 20, .mov (.t 19), none, []⟩, ⟨some 21, .fld 1 1 (.t 4), some (20, false), []⟩, ⟨some 22, .load false 1 (.t 21), some (20, false), []⟩, ⟨some 23, .call (.c (.func 143 [])) [(.t 22)], some (20, false), []⟩, ⟨some 24, .un .not (.t 23), some (20, false), []⟩, ⟨some 25, .pick (.t 20) (.c (.bool true)) (.t 24), none, []⟩, ⟨some 15, .mov (.t 25), none, []⟩] false) (.cond (.t 15) (.seq (.region [⟨some 2, .mov (.c (.int .i64 3)), none, []⟩] false) .ret) (.seq (.region [⟨some 27, .mov (.t 0), none, []⟩, ⟨some 28, .mov (.t 3), none, []⟩, ⟨some 29, .slice 3 (.t 27) none (some (.t 28)) none, none, []⟩, ⟨some 30, .mkfunc 145 [(.t 4)], none, []⟩, ⟨some 31, .call (.c (.func 144 [])) [(.t 29), (.t 30)], none, []⟩, ⟨some 26, .mov (.t 31), none, []⟩] false) (.cond (.t 26) (.seq (.region [⟨some 2, .mov (.c (.int .i64 6)), none, []⟩] false) .ret) .skip))))))) (.region [⟨some 32, .bin .add (.t 10) (.c (.int .i64 1)), none, []⟩, ⟨some 10, .mov (.t 32), none, []⟩] false))))))) (.seq (.region [⟨some 2, .mov (.c (.int .i64 0)), none, []⟩] false) .ret))))
def a84 : AFunc := { results := [.tmp 2], body := c84 }
def c85 : ACode :=
  (.seq (.region [⟨some 4, .mov (.c (.bool false)), none, []⟩] false) (.seq (.region [⟨some 5, .mov (.t 0), none, []⟩, ⟨some 6, .mov (.t 1), none, []⟩, ⟨some 7, .call (.c (.func 146 [])) [(.t 5), (.t 6)], none, []⟩, ⟨some 4, .mov (.t 7), none, []⟩] false) .ret))
def a85 : AFunc := { results := [.tmp 4], body := c85 }
def c86 : ACode :=
  (.seq (.region [⟨some 4, .mov (.c (.bool false)), none, []⟩] false) (.seq (.seq (.region [⟨some 6, .mov (.t 0), none, []⟩, ⟨some 7, .len false (.t 6), none, []⟩, ⟨some 8, .mov (.t 1), none, []⟩, ⟨some 9, .len false (.t 8), none, []⟩, ⟨some 10, .bin .neq (.t 7) (.t 9), none, []⟩] false) (.cond (.t 10) (.seq (.region [⟨some 4, .mov (.c (.bool false)), none, []⟩] false) .ret) .skip)) (.seq (.seq (.region [⟨some 11, .mov (.t 0), none, []⟩, ⟨some 12, .len false (.t 11), none, []⟩, ⟨some 13, .mov (.c (.int .i64 0)), none, []⟩] false) (.block 0 (.loop (.seq (.region [⟨some 14, .bin .lss (.t 13) (.t 12), none, []⟩] false) (.seq (.cond (.t 14) .skip (.exit 0)) (.seq (.block 1 (.seq (.region [⟨some 15, .mov (.t 13), none, []⟩, ⟨some 5, .mov (.t 15), none, []⟩] false) (.seq (.region [⟨some 16, .mov (.t 0), none, []⟩, ⟨some 17, .mov (.t 5), none, []⟩, ⟨some 18, .idx 2 (.t 16) (.t 17), none, [1, 0]⟩, ⟨some 19, .load true 2 (.t 18), none, [0, 1, 2]⟩, ⟨some 20, .mov (.t 1), none, []⟩, ⟨some 21, .mov (.t 5), none, []⟩, ⟨some 22, .idx 2 (.t 20) (.t 21), none, [5, 4]⟩, ⟨some 23, .load true 2 (.t 22), none, [4, 5, 6]⟩, ⟨some 24, .eqst true [.s, .s] (.t 19) (.t 23), none, [6, 5, 4, 7, 2, 1, 0, 3]⟩] true) (.cond (.t 24) (.seq (.region [⟨some 4, .mov (.c (.bool false)), none, []⟩] false) .ret) .skip)))) (.region [⟨some 25, .bin .add (.t 13) (.c (.int .i64 1)), none, []⟩, ⟨some 13, .mov (.t 25), none, []⟩] false))))))) (.seq (.region [⟨some 4, .mov (.c (.bool true)), none, []⟩] false) .ret))))
def a86 : AFunc := { results := [.tmp 4], body := c86 }
def c87 : ACode :=
  (.seq (.region [⟨some 4, .mov (.c (.bool false)), none, []⟩] false) (.seq (.seq (.region [⟨some 6, .mov (.t 0), none, []⟩, ⟨some 7, .len false (.t 6), none, []⟩, ⟨some 8, .mov (.t 1), none, []⟩, ⟨some 9, .len false (.t 8), none, []⟩, ⟨some 10, .bin .neq (.t 7) (.t 9), none, []⟩] false) (.cond (.t 10) (.seq (.region [⟨some 4, .mov (.c (.bool false)), none, []⟩] false) .ret) .skip)) (.seq (.seq (.region [⟨some 11, .mov (.t 0), none, []⟩, ⟨some 12, .len false (.t 11), none, []⟩, ⟨some 13, .mov (.c (.int .i64 0)), none, []⟩] false) (.block 0 (.loop (.seq (.region [⟨some 14, .bin .lss (.t 13) (.t 12), none, []⟩] false) (.seq (.cond (.t 14) .skip (.exit 0)) (.seq (.block 1 (.seq (.region [⟨some 15, .mov (.t 13), none, []⟩, ⟨some 5, .mov (.t 15), none, []⟩] false) (.seq (.region [⟨some 16, .mov (.t 0), none, []⟩, ⟨some 17, .mov (.t 5), none, []⟩, ⟨some 18, .idx 3 (.t 16) (.t 17), none, [1, 0]⟩, ⟨some 19, .load true 3 (.t 18), none, [0, 1, 2]⟩, ⟨some 20, .mov (.t 1), none, []⟩, ⟨some 21, .mov (.t 5), none, []⟩, ⟨some 22, .idx 3 (.t 20) (.t 21), none, [5, 4]⟩, ⟨some 23, .load true 3 (.t 22), none, [4, 5, 6]⟩, ⟨some 24, .eqst true [.s, .s, .b] (.t 19) (.t 23), none, [6, 5, 4, 7, 2, 1, 0, 3]⟩] true) (.cond (.t 24) (.seq (.region [⟨some 4, .mov (.c (.bool false)), none, []⟩] false) .ret) .skip)))) (.region [⟨some 25, .bin .add (.t 13) (.c (.int .i64 1)), none, []⟩, ⟨some 13, .mov (.t 25), none, []⟩] false))))))) (.seq (.region [⟨some 4, .mov (.c (.bool true)), none, []⟩] false) .ret))))
def a87 : AFunc := { results := [.tmp 4], body := c87 }
def c88 : ACode :=
  (.seq (.region [⟨some 4, .mov (.c (.bool false)), none, []⟩] false) (.seq (.seq (.region [⟨some 6, .mov (.t 0), none, []⟩, ⟨some 7, .len false (.t 6), none, []⟩, ⟨some 8, .mov (.t 1), none, []⟩, ⟨some 9, .len false (.t 8), none, []⟩, ⟨some 10, .bin .neq (.t 7) (.t 9), none, []⟩] false) (.cond (.t 10) (.seq (.region [⟨some 4, .mov (.c (.bool false)), none, []⟩] false) .ret) .skip)) (.seq (.seq (.region [⟨some 5, .mov (.c (.int .i64 0)), none, []⟩] false) (.block 0 (.loop (.seq (.seq (.region [⟨some 11, .mov (.t 5), none, []⟩, ⟨some 12, .mov (.t 0), none, []⟩, ⟨some 13, .len false (.t 12), none, []⟩, ⟨some 14, .bin .lss (.t 11) (.t 13), none, []⟩] false) (.cond (.t 14) .skip (.exit 0))) (.seq (.block 1 (.seq (.region [⟨some 17, .mov (.t 0), none, []⟩, ⟨some 18, .mov (.t 5), none, []⟩, ⟨some 19, .idx 2 (.t 17) (.t 18), none, [1, 0]⟩, ⟨some 20, .load true 2 (.t 19), none, [0, 1, 2]⟩, ⟨some 21, .mov (.t 1), none, []⟩, ⟨some 22, .mov (.t 5), none, []⟩, ⟨some 23, .idx 2 (.t 21) (.t 22), none, [5, 4]⟩, ⟨some 24, .load true 2 (.t 23), none, [4, 5, 6]⟩, ⟨some 25, .eqst true [.s, .i] (.t 20) (.t 24), none, [6, 5, 4, 7, 2, 1, 0, 3]⟩] true) (.cond (.t 25) (.seq (.region [⟨some 4, .mov (.c (.bool false)), none, []⟩] false) .ret) .skip))) (.region [⟨some 15, .mov (.t 5), none, []⟩, ⟨some 16, .bin .add (.t 15) (.c (.int .i64 1)), none, []⟩, ⟨some 5, .mov (.t 16), none, []⟩] false)))))) (.seq (.region [⟨some 4, .mov (.c (.bool true)), none, []⟩] false) .ret))))
def a88 : AFunc := { results := [.tmp 4], body := c88 }
def c89 : ACode :=
  (.seq (.region [⟨some 4, .mov (.c (.bool false)), none, []⟩] false) (.seq (.seq (.region [⟨some 6, .mov (.t 0), none, []⟩, ⟨some 7, .len false (.t 6), none, []⟩, ⟨some 8, .mov (.t 1), none, []⟩, ⟨some 9, .len false (.t 8), none, []⟩, ⟨some 10, .bin .neq (.t 7) (.t 9), none, []⟩] false) (.cond (.t 10) (.seq (.region [⟨some 4, .mov (.c (.bool false)), none, []⟩] false) .ret) .skip)) (.seq (.seq (.region [⟨some 5, .mov (.c (.int .i64 0)), none, []⟩] false) (.block 0 (.loop (.seq (.seq (.region [⟨some 11, .mov (.t 5), none, []⟩, ⟨some 12, .mov (.t 0), none, []⟩, ⟨some 13, .len false (.t 12), none, []⟩, ⟨some 14, .bin .lss (.t 11) (.t 13), none, []⟩] false) (.cond (.t 14) .skip (.exit 0))) (.seq (.block 1 (.seq (.region [⟨some 17, .mov (.t 0), none, []⟩, ⟨some 18, .mov (.t 5), none, []⟩, ⟨some 19, .idx 2 (.t 17) (.t 18), none, [1, 0]⟩, ⟨some 20, .load true 2 (.t 19), none, [0, 1, 2]⟩, ⟨some 21, .mov (.t 1), none, []⟩, ⟨some 22, .mov (.t 5), none, []⟩, ⟨some 23, .idx 2 (.t 21) (.t 22), none, [5, 4]⟩, ⟨some 24, .load true 2 (.t 23), none, [4, 5, 6]⟩, ⟨some 25, .eqst true [.s, .s] (.t 20) (.t 24), none, [6, 5, 4, 7, 2, 1, 0, 3]⟩] true) (.cond (.t 25) (.seq (.region [⟨some 4, .mov (.c (.bool false)), none, []⟩] false) .ret) .skip))) (.region [⟨some 15, .mov (.t 5), none, []⟩, ⟨some 16, .bin .add (.t 15) (.c (.int .i64 1)), none, []⟩, ⟨some 5, .mov (.t 16), none, []⟩] false)))))) (.seq (.region [⟨some 4, .mov (.c (.bool true)), none, []⟩] false) .ret))))
def a89 : AFunc := { results := [.tmp 4], body := c89 }
def c90 : ACode :=
  (.seq (.region [⟨some 4, .mov (.c (.bool false)), none, []⟩] false) (.seq (.seq (.region [⟨some 6, .mov (.t 0), none, []⟩, ⟨some 7, .len false (.t 6), none, []⟩, ⟨some 8, .mov (.t 1), none, []⟩, ⟨some 9, .len false (.t 8), none, []⟩, ⟨some 10, .bin .neq (.t 7) (.t 9), none, []⟩] false) (.cond (.t 10) (.seq (.region [⟨some 4, .mov (.c (.bool false)), none, []⟩] false) .ret) .skip)) (.seq (.seq (.region [⟨some 5, .mov (.c (.int .i64 0)), none, []⟩] false) (.block 0 (.loop (.seq (.seq (.region [⟨some 11, .mov (.t 5), none, []⟩, ⟨some 12, .mov (.t 0), none, []⟩, ⟨some 13, .len false (.t 12), none, []⟩, ⟨some 14, .bin .lss (.t 11) (.t 13), none, []⟩] false) (.cond (.t 14) .skip (.exit 0))) (.seq (.block 1 (.seq (.region [⟨some 17, .mov (.t 0), none, []⟩, ⟨some 18, .mov (.t 5), none, []⟩, ⟨some 19, .idx 3 (.t 17) (.t 18), none, [1, 0]⟩, ⟨some 20, .load true 3 (.t 19), none, [0, 1, 2]⟩, ⟨some 21, .mov (.t 1), none, []⟩, ⟨some 22, .mov (.t 5), none, []⟩, ⟨some 23, .idx 3 (.t 21) (.t 22), none, [5, 4]⟩, ⟨some 24, .load true 3 (.t 23), none, [4, 5, 6]⟩, ⟨some 25, .eqst true [.s, .s, .b] (.t 20) (.t 24), none, [6, 5, 4, 7, 2, 1, 0, 3]⟩] true) (.cond (.t 25) (.seq (.region [⟨some 4, .mov (.c (.bool false)), none, []⟩] false) .ret) .skip))) (.region [⟨some 15, .mov (.t 5), none, []⟩, ⟨some 16, .bin .add (.t 15) (.c (.int .i64 1)), none, []⟩, ⟨some 5, .mov (.t 16), none, []⟩] false)))))) (.seq (.region [⟨some 4, .mov (.c (.bool true)), none, []⟩] false) .ret))))
def a90 : AFunc := { results := [.tmp 4], body := c90 }
def c92 : ACode :=
  (.seq (.region [⟨some 3, .load false 1 (.t 0), none, []⟩, ⟨some 4, .call (.c (.func 93 [])) [(.t 3), (.c (.str [32]))], none, []⟩, ⟨some 2, .mov (.t 4), none, []⟩] false) (.seq (.seq (.region [⟨some 5, .mov (.t 2), none, []⟩, ⟨some 6, .len false (.t 5), none, []⟩, ⟨some 7, .bin .neq (.t 6) (.c (.int .i64 5)), none, []⟩, ⟨some 8, .mov (.t 7), none, []⟩, ⟨some 9, .mov (.t 2), some (8, false), []⟩, ⟨some 10, .idx 1 (.t 9) (.c (.int .i64 4)), some (8, false), []⟩, ⟨some 11, .load false 1 (.t 10), some (8, false), []⟩, ⟨some 12, .bin .neq (.t 11) (.c (.str [117, 112])), some (8, false), []⟩, ⟨some 13, .mov (.t 12), some (8, false), []⟩, ⟨some 14, .mov (.t 2), some (13, true), []⟩, ⟨some 15, .idx 1 (.t 14) (.c (.int .i64 4)), some (13, true), []⟩, ⟨some 16, .load false 1 (.t 15), some (13, true), []⟩, ⟨some 17, .bin .neq (.t 16) (.c (.str [99, 111, 114, 100, 111, 110])), some (13, true), []⟩, ⟨some 18, .pick (.t 13) (.t 17) (.c (.bool false)), some (8, false), []⟩, ⟨some 19, .pick (.t 8) (.c (.bool true)) (.t 18), none, []⟩] false) (.cond (.t 19) (.region [⟨some 20, .call (.c (.func 94 [])) [(.c (.int .i64 2))], none, []⟩] false) .skip)) (.seq (.region [⟨some 21, .mov (.t 2), none, []⟩, ⟨some 22, .idx 1 (.t 21) (.c (.int .i64 0)), none, [0]⟩, ⟨some 23, .load false 1 (.t 22), none, [0, 1]⟩, ⟨some 24, .mov (.t 2), none, []⟩, ⟨some 25, .idx 1 (.t 24) (.c (.int .i64 1)), none, [3]⟩, ⟨some 26, .load false 1 (.t 25), none, [3, 4]⟩, ⟨some 27, .call (.c (.func 96 [])) [(.t 26)], none, [4, 3, 5]⟩, ⟨some 28, .extract (.t 27) 0, none, [5, 3, 4, 6]⟩, ⟨some 29, .extract (.t 27) 1, none, [5, 3, 4, 6]⟩, ⟨some 30, .call (.c (.func 95 [])) [(.t 28), (.t 29)], none, [8, 6, 4, 3, 5, 7]⟩, ⟨some 31, .mov (.t 2), none, []⟩, ⟨some 32, .idx 1 (.t 31) (.c (.int .i64 2)), none, [10]⟩, ⟨some 33, .load false 1 (.t 32), none, [10, 11]⟩, ⟨some 34, .call (.c (.func 98 [])) [(.t 33)], none, [7, 5, 3, 4, 6, 8, 9, 11, 10, 12]⟩, ⟨some 35, .extract (.t 34) 0, none, [12, 10, 11, 9, 8, 6, 4, 3, 5, 7, 13]⟩, ⟨some 36, .extract (.t 34) 1, none, [12, 10, 11, 9, 8, 6, 4, 3, 5, 7, 13]⟩, ⟨some 37, .call (.c (.func 97 [])) [(.t 35), (.t 36)], none, [15, 13, 7, 5, 3, 4, 6, 8, 9, 11, 10, 12, 14]⟩, ⟨some 38, .mov (.t 2), none, []⟩, ⟨some 39, .idx 1 (.t 38) (.c (.int .i64 3)), none, [17]⟩, ⟨some 40, .load false 1 (.t 39), none, [17, 18]⟩, ⟨some 41, .call (.c (.func 100 [])) [(.t 40)], none, [14, 12, 10, 11, 9, 8, 6, 4, 3, 5, 7, 13, 15, 16, 18, 17, 19]⟩, ⟨some 42, .extract (.t 41) 0, none, [19, 17, 18, 16, 15, 13, 7, 5, 3, 4, 6, 8, 9, 11, 10, 12, 14, 20]⟩, ⟨some 43, .extract (.t 41) 1, none, [19, 17, 18, 16, 15, 13, 7, 5, 3, 4, 6, 8, 9, 11, 10, 12, 14, 20]⟩, ⟨some 44, .call (.c (.func 99 [])) [(.t 42), (.t 43)], none, [22, 20, 14, 12, 10, 11, 9, 8, 6, 4, 3, 5, 7, 13, 15, 16, 18, 17, 19, 21]⟩, ⟨some 45, .mov (.t 2), none, []⟩, ⟨some 46, .idx 1 (.t 45) (.c (.int .i64 4)), none, [24]⟩, ⟨some 47, .load false 1 (.t 46), none, [24, 25]⟩, ⟨some 48, .bin .eql (.t 47) (.c (.str [99, 111, 114, 100, 111, 110])), none, [25, 24, 26]⟩, ⟨some 49, .build [(.str []), (.sl .full []), (.sl .full []), (.sl .full []), (.bool false)] [(0, 1, (.t 23)), (1, 1, (.t 30)), (2, 1, (.t 37)), (3, 1, (.t 44)), (4, 1, (.t 48))], none, [26, 24, 25, 27, 21, 19, 17, 18, 20, 22, 23, 14, 12, 10, 11, 13, 15, 16, 7, 5, 3, 4, 6, 8, 9, 1, 0, 2]⟩, ⟨none, .store 5 (.t 1) (.t 49), none, [2, 0, 1, 9, 8, 6, 4, 3, 5, 7, 16, 15, 13, 11, 10, 12, 14, 23, 22, 20, 18, 17, 19, 21, 27, 25, 24, 26, 28]⟩] true) (.region [⟨some 50, .load true 5 (.t 1), none, []⟩, ⟨some 51, .call (.c (.func 34 [])) [(.t 50)], none, []⟩, ⟨some 52, .call (.c (.func 94 [])) [(.t 51)], none, []⟩] false))))
def a92 : AFunc := { results := [], body := c92 }
def c93 : ACode :=
  (.seq (.region [⟨some 4, .mov (.c (.sl .full [])), none, []⟩] false) (.seq (.region [⟨some 5, .mov (.t 0), none, []⟩, ⟨some 6, .mov (.t 1), none, []⟩, ⟨some 7, .call (.c (.func 148 [])) [(.t 5), (.t 6), (.c (.int .i64 0)), (.c (.int .i64 (-1)))], none, []⟩, ⟨some 4, .mov (.t 7), none, []⟩] false) .ret))
def a93 : AFunc := { results := [.tmp 4], body := c93 }
def c94 : ACode :=
  (.seq (.region [⟨some 2, .mov (.t 0), none, []⟩, ⟨some 3, .bin .neq (.t 2) (.c (.int .i64 0)), none, []⟩] false) (.cond (.t 3) (.region [⟨some 4, .mov (.t 0), none, []⟩, ⟨some 5, .build [(.int .i64 0)] [(0, 1, (.t 4))], none, []⟩, ⟨some 6, .mkiface 216 (.t 5), none, []⟩, ⟨none, .panic (.t 6), none, []⟩] false) .skip))
def a94 : AFunc := { results := [], body := c94 }
def c95 : ACode :=
  (.seq (.region [⟨some 4, .mov (.c (.sl .full [])), none, []⟩] false) (.seq (.region [⟨some 5, .mov (.t 1), none, []⟩, ⟨some 6, .call (.c (.func 94 [])) [(.t 5)], none, []⟩] false) (.seq (.region [⟨some 7, .mov (.t 0), none, []⟩, ⟨some 4, .mov (.t 7), none, []⟩] false) .ret)))
def a95 : AFunc := { results := [.tmp 4], body := c95 }
def c96 : ACode :=
  (.seq (.region [⟨some 1, .box (.t 0), none, []⟩, ⟨some 2, .mov (.c (.sl .full [])), none, []⟩, ⟨some 3, .mov (.c (.int .i64 0)), none, []⟩] false) (.seq (.seq (.region [⟨some 6, .load false 1 (.t 1), none, []⟩, ⟨some 7, .bin .eql (.t 6) (.c (.str [45])), none, []⟩] false) (.cond (.t 7) (.seq (.region [⟨some 2, .mov (.c (.sl .full [])), none, []⟩, ⟨some 3, .mov (.c (.int .i64 0)), none, []⟩] false) .ret) .skip)) (.seq (.region [⟨some 4, .box (.c (.sl .full [])), none, []⟩] false) (.seq (.region [⟨some 8, .mkfunc 149 [(.t 1), (.t 4)], none, []⟩, ⟨some 9, .call (.c (.func 91 [])) [(.t 8)], none, []⟩, ⟨some 5, .mov (.t 9), none, []⟩] false) (.seq (.seq (.region [⟨some 10, .mov (.t 5), none, []⟩, ⟨some 11, .bin .neq (.t 10) (.c (.int .i64 0)), none, []⟩] false) (.cond (.t 11) (.seq (.region [⟨some 12, .mov (.t 5), none, []⟩, ⟨some 2, .mov (.c (.sl .full [])), none, []⟩, ⟨some 3, .mov (.t 12), none, []⟩] false) .ret) .skip)) (.seq (.region [⟨some 13, .load false 1 (.t 4), none, []⟩, ⟨some 2, .mov (.t 13), none, []⟩, ⟨some 3, .mov (.c (.int .i64 0)), none, []⟩] false) .ret))))))
def a96 : AFunc := { results := [.tmp 2, .tmp 3], body := c96 }
def c97 : ACode :=
  (.seq (.region [⟨some 4, .mov (.c (.sl .full [])), none, []⟩] false) (.seq (.region [⟨some 5, .mov (.t 1), none, []⟩, ⟨some 6, .call (.c (.func 94 [])) [(.t 5)], none, []⟩] false) (.seq (.region [⟨some 7, .mov (.t 0), none, []⟩, ⟨some 4, .mov (.t 7), none, []⟩] false) .ret)))
def a97 : AFunc := { results := [.tmp 4], body := c97 }
def c98 : ACode :=
  (.seq (.region [⟨some 2, .mov (.c (.sl .full [])), none, []⟩, ⟨some 3, .mov (.c (.int .i64 0)), none, []⟩] false) (.seq (.region [⟨some 4, .mov (.t 0), none, []⟩, ⟨some 5, .call (.c (.func 153 [])) [(.t 4), (.c (.func 154 [])), (.c (.func 156 []))], none, []⟩, ⟨some 6, .extract (.t 5) 0, none, []⟩, ⟨some 7, .extract (.t 5) 1, none, []⟩, ⟨some 2, .mov (.t 6), none, []⟩, ⟨some 3, .mov (.t 7), none, []⟩] false) .ret))
def a98 : AFunc := { results := [.tmp 2, .tmp 3], body := c98 }
def c99 : ACode :=
  (.seq (.region [⟨some 4, .mov (.c (.sl .full [])), none, []⟩] false) (.seq (.region [⟨some 5, .mov (.t 1), none, []⟩, ⟨some 6, .call (.c (.func 94 [])) [(.t 5)], none, []⟩] false) (.seq (.region [⟨some 7, .mov (.t 0), none, []⟩, ⟨some 4, .mov (.t 7), none, []⟩] false) .ret)))
def a99 : AFunc := { results := [.tmp 4], body := c99 }
def c100 : ACode :=
  (.seq (.region [⟨some 2, .mov (.c (.sl .full [])), none, []⟩, ⟨some 3, .mov (.c (.int .i64 0)), none, []⟩] false) (.seq (.region [⟨some 4, .mov (.t 0), none, []⟩, ⟨some 5, .call (.c (.func 157 [])) [(.t 4), (.c (.func 158 [])), (.c (.func 84 []))], none, []⟩, ⟨some 6, .extract (.t 5) 0, none, []⟩, ⟨some 7, .extract (.t 5) 1, none, []⟩, ⟨some 2, .mov (.t 6), none, []⟩, ⟨some 3, .mov (.t 7), none, []⟩] false) .ret))
def a100 : AFunc := { results := [.tmp 2, .tmp 3], body := c100 }
def c102 : ACode :=
  (.seq (.region [⟨some 2, .mov (.c (.str [])), none, []⟩] false) (.seq (.seq (.region [⟨some 6, .mov (.t 0), none, []⟩, ⟨some 7, .len false (.t 6), none, []⟩, ⟨some 8, .bin .eql (.t 7) (.c (.int .i64 0)), none, []⟩] false) (.cond (.t 8) (.seq (.region [⟨some 2, .mov (.c (.str [45])), none, []⟩] false) .ret) .skip)) (.seq (.region [⟨some 3, .mov (.c (.sl .full [])), none, []⟩] false) (.seq (.seq (.region [⟨some 9, .mov (.t 0), none, []⟩, ⟨some 10, .len false (.t 9), none, []⟩, ⟨some 11, .mov (.c (.int .i64 0)), none, []⟩] false) (.block 0 (.loop (.seq (.region [⟨some 12, .bin .lss (.t 11) (.t 10), none, []⟩] false) (.seq (.cond (.t 12) .skip (.exit 0)) (.seq (.block 1 (.seq (.region [⟨some 13, .idx 2 (.t 9) (.t 11), none, []⟩, ⟨some 14, .load true 2 (.t 13), none, []⟩, ⟨some 5, .box (.c (.agg [(.str []), (.int .i64 0)])), none, []⟩, ⟨none, .store 2 (.t 5) (.t 14), none, []⟩] false) (.region [⟨some 15, .mov (.t 3), none, []⟩, ⟨some 16, .fld 0 1 (.t 5), none, []⟩, ⟨some 17, .load false 1 (.t 16), none, [1]⟩, ⟨some 18, .bin .add (.t 17) (.c (.str [61])), none, [1, 2]⟩, ⟨some 19, .fld 1 1 (.t 5), none, []⟩, ⟨some 20, .load false 1 (.t 19), none, [4]⟩, ⟨some 21, .call (.c (.func 163 [])) [(.t 20), (.c (.int .i64 10))], none, [4, 5]⟩, ⟨some 22, .bin .add (.t 18) (.t 21), none, [5, 4, 6, 2, 1, 3]⟩, ⟨some 23, .bslice 1 [(.t 22)], none, [3, 1, 2, 6, 4, 5, 7]⟩, ⟨some 24, .append 1 16 (.t 15) (.t 23), none, [7, 5, 4, 6, 2, 1, 3, 8, 0]⟩, ⟨some 3, .mov (.t 24), none, [0, 8, 3, 1, 2, 6, 4, 5, 7, 9]⟩] true))) (.region [⟨some 25, .bin .add (.t 11) (.c (.int .i64 1)), none, []⟩, ⟨some 11, .mov (.t 25), none, []⟩] false))))))) (.seq (.region [⟨some 26, .mov (.t 3), none, []⟩, ⟨some 27, .call (.c (.func 101 [])) [(.t 26), (.c (.str [44]))], none, []⟩, ⟨some 2, .mov (.t 27), none, []⟩] false) .ret)))))
def a102 : AFunc := { results := [.tmp 2], body := c102 }
def c103 : ACode :=
  (.seq (.region [⟨some 2, .mov (.c (.str [])), none, []⟩] false) (.seq (.region [⟨some 3, .mov (.t 0), none, []⟩, ⟨some 4, .call (.c (.func 164 [])) [(.t 3), (.c (.func 165 []))], none, []⟩, ⟨some 2, .mov (.t 4), none, []⟩] false) .ret))
def a103 : AFunc := { results := [.tmp 2], body := c103 }
def c104 : ACode :=
  (.seq (.region [⟨some 2, .mov (.c (.str [])), none, []⟩] false) (.seq (.region [⟨some 3, .mov (.t 0), none, []⟩, ⟨some 4, .call (.c (.func 166 [])) [(.t 3), (.c (.func 167 []))], none, []⟩, ⟨some 2, .mov (.t 4), none, []⟩] false) .ret))
def a104 : AFunc := { results := [.tmp 2], body := c104 }
def c105 : ACode :=
  (.seq (.region [⟨some 2, .mov (.c (.str [])), none, []⟩] false) (.seq (.seq (.region [⟨some 5, .mov (.t 0), none, []⟩, ⟨some 6, .len false (.t 5), none, []⟩, ⟨some 7, .bin .eql (.t 6) (.c (.int .i64 0)), none, []⟩] false) (.cond (.t 7) (.seq (.region [⟨some 2, .mov (.c (.str [45])), none, []⟩] false) .ret) .skip)) (.seq (.region [⟨some 3, .mov (.c (.str [])), none, []⟩] false) (.seq (.seq (.region [⟨some 4, .mov (.c (.int .i64 0)), none, []⟩] false) (.block 0 (.loop (.seq (.seq (.region [⟨some 8, .mov (.t 4), none, []⟩, ⟨some 9, .mov (.t 0), none, []⟩, ⟨some 10, .len false (.t 9), none, []⟩, ⟨some 11, .bin .lss (.t 8) (.t 10), none, []⟩] false) (.cond (.t 11) .skip (.exit 0))) (.seq (.block 1 (.seq (.seq (.region [⟨some 14, .mov (.t 4), none, []⟩, ⟨some 15, .bin .gtr (.t 14) (.c (.int .i64 0)), none, []⟩] false) (.cond (.t 15) (.region [⟨some 16, .mov (.t 3), none, []⟩, ⟨some 17, .bin .add (.t 16) (.c (.str [44])), none, []⟩, ⟨some 3, .mov (.t 17), none, []⟩] false) .skip)) (.region [⟨some 18, .mov (.t 3), none, []⟩, ⟨some 19, .mov (.t 0), none, []⟩, ⟨some 20, .mov (.t 4), none, []⟩, ⟨some 21, .idx 2 (.t 19) (.t 20), none, [2, 1]⟩, ⟨some 22, .fld 0 1 (.t 21), none, [1, 2, 3]⟩, ⟨some 23, .load false 1 (.t 22), none, [3, 2, 1, 4]⟩, ⟨some 24, .bin .add (.t 18) (.t 23), none, [4, 1, 2, 3, 5, 0]⟩, ⟨some 25, .bin .add (.t 24) (.c (.str [61])), none, [0, 5, 3, 2, 1, 4, 6]⟩, ⟨some 26, .mov (.t 0), none, []⟩, ⟨some 27, .mov (.t 4), none, []⟩, ⟨some 28, .idx 2 (.t 26) (.t 27), none, [9, 8]⟩, ⟨some 29, .fld 1 1 (.t 28), none, [8, 9, 10]⟩, ⟨some 30, .load false 1 (.t 29), none, [10, 9, 8, 11]⟩, ⟨some 31, .call (.c (.func 71 [])) [(.t 30)], none, [11, 8, 9, 10, 12]⟩, ⟨some 32, .bin .add (.t 25) (.t 31), none, [12, 10, 9, 8, 11, 13, 6, 4, 1, 2, 3, 5, 0, 7]⟩, ⟨some 3, .mov (.t 32), none, [7, 0, 5, 3, 2, 1, 4, 6, 13, 11, 8, 9, 10, 12, 14]⟩] true))) (.region [⟨some 12, .mov (.t 4), none, []⟩, ⟨some 13, .bin .add (.t 12) (.c (.int .i64 1)), none, []⟩, ⟨some 4, .mov (.t 13), none, []⟩] false)))))) (.seq (.region [⟨some 33, .mov (.t 3), none, []⟩, ⟨some 2, .mov (.t 33), none, []⟩] false) .ret)))))
def a105 : AFunc := { results := [.tmp 2], body := c105 }
def c106 : ACode :=
  (.seq (.region [⟨some 2, .mov (.c (.str [])), none, []⟩] false) (.seq (.region [⟨some 3, .mov (.c (.sl .full [])), none, []⟩] false) (.seq (.seq (.region [⟨some 4, .mov (.c (.int .i64 0)), none, []⟩] false) (.block 0 (.loop (.seq (.seq (.region [⟨some 5, .mov (.t 4), none, []⟩, ⟨some 6, .mov (.t 0), none, []⟩, ⟨some 7, .len false (.t 6), none, []⟩, ⟨some 8, .bin .lss (.t 5) (.t 7), none, []⟩] false) (.cond (.t 8) .skip (.exit 0))) (.seq (.block 1 (.region [⟨some 11, .mov (.t 3), none, []⟩, ⟨some 12, .mov (.t 0), none, []⟩, ⟨some 13, .mov (.t 4), none, []⟩, ⟨some 14, .idx 2 (.t 12) (.t 13), none, [2, 1]⟩, ⟨some 15, .fld 0 1 (.t 14), none, [1, 2, 3]⟩, ⟨some 16, .load false 1 (.t 15), none, [3, 2, 1, 4]⟩, ⟨some 17, .bin .add (.t 16) (.c (.str [58])), none, [4, 1, 2, 3, 5]⟩, ⟨some 18, .mov (.t 0), none, []⟩, ⟨some 19, .mov (.t 4), none, []⟩, ⟨some 20, .idx 2 (.t 18) (.t 19), none, [8, 7]⟩, ⟨some 21, .fld 1 1 (.t 20), none, [7, 8, 9]⟩, ⟨some 22, .load false 1 (.t 21), none, [9, 8, 7, 10]⟩, ⟨some 23, .bin .add (.t 17) (.t 22), none, [10, 7, 8, 9, 11, 5, 3, 2, 1, 4, 6]⟩, ⟨some 24, .bslice 1 [(.t 23)], none, [6, 4, 1, 2, 3, 5, 11, 9, 8, 7, 10, 12]⟩, ⟨some 25, .append 1 16 (.t 11) (.t 24), none, [12, 10, 7, 8, 9, 11, 5, 3, 2, 1, 4, 6, 13, 0]⟩, ⟨some 3, .mov (.t 25), none, [0, 13, 6, 4, 1, 2, 3, 5, 11, 9, 8, 7, 10, 12, 14]⟩] true)) (.region [⟨some 9, .mov (.t 4), none, []⟩, ⟨some 10, .bin .add (.t 9) (.c (.int .i64 1)), none, []⟩, ⟨some 4, .mov (.t 10), none, []⟩] false)))))) (.seq (.region [⟨some 26, .mov (.t 3), none, []⟩, ⟨some 27, .call (.c (.func 142 [])) [(.t 26)], none, []⟩, ⟨some 2, .mov (.t 27), none, []⟩] false) .ret))))
def a106 : AFunc := { results := [.tmp 2], body := c106 }
def c107 : ACode :=
  (.seq (.region [⟨some 2, .mov (.c (.str [])), none, []⟩] false) (.seq (.region [⟨some 3, .mov (.c (.sl .full [])), none, []⟩] false) (.seq (.seq (.region [⟨some 4, .mov (.c (.int .i64 0)), none, []⟩] false) (.block 0 (.loop (.seq (.seq (.region [⟨some 6, .mov (.t 4), none, []⟩, ⟨some 7, .mov (.t 0), none, []⟩, ⟨some 8, .len false (.t 7), none, []⟩, ⟨some 9, .bin .lss (.t 6) (.t 8), none, []⟩] false) (.cond (.t 9) .skip (.exit 0))) (.seq (.block 1 (.seq (.region [⟨some 12, .mov (.t 0), none, []⟩, ⟨some 13, .mov (.t 4), none, []⟩, ⟨some 14, .idx 3 (.t 12) (.t 13), none, [1, 0]⟩, ⟨some 15, .fld 0 1 (.t 14), none, [0, 1, 2]⟩, ⟨some 16, .load false 1 (.t 15), none, [2, 1, 0, 3]⟩, ⟨some 17, .bin .add (.t 16) (.c (.str [58])), none, [3, 0, 1, 2, 4]⟩, ⟨some 18, .mov (.t 0), none, []⟩, ⟨some 19, .mov (.t 4), none, []⟩, ⟨some 20, .idx 3 (.t 18) (.t 19), none, [7, 6]⟩, ⟨some 21, .fld 1 1 (.t 20), none, [6, 7, 8]⟩, ⟨some 22, .load false 1 (.t 21), none, [8, 7, 6, 9]⟩, ⟨some 23, .bin .add (.t 17) (.t 22), none, [9, 6, 7, 8, 10, 4, 2, 1, 0, 3, 5]⟩, ⟨some 5, .mov (.t 23), none, [5, 3, 0, 1, 2, 4, 10, 8, 7, 6, 9, 11]⟩] true) (.seq (.seq (.region [⟨some 24, .mov (.t 0), none, []⟩, ⟨some 25, .mov (.t 4), none, []⟩, ⟨some 26, .idx 3 (.t 24) (.t 25), none, []⟩, ⟨some 27, .fld 2 1 (.t 26), none, []⟩, ⟨some 28, .load false 1 (.t 27), none, []⟩] false) (.cond (.t 28) (.region [⟨some 29, .mov (.t 5), none, []⟩, ⟨some 30, .bin .add (.t 29) (.c (.str [33])), none, []⟩, ⟨some 5, .mov (.t 30), none, []⟩] false) .skip)) (.region [⟨some 31, .mov (.t 3), none, []⟩, ⟨some 32, .mov (.t 5), none, []⟩, ⟨some 33, .bslice 1 [(.t 32)], none, []⟩, ⟨some 34, .append 1 16 (.t 31) (.t 33), none, []⟩, ⟨some 3, .mov (.t 34), none, []⟩] false)))) (.region [⟨some 10, .mov (.t 4), none, []⟩, ⟨some 11, .bin .add (.t 10) (.c (.int .i64 1)), none, []⟩, ⟨some 4, .mov (.t 11), none, []⟩] false)))))) (.seq (.region [⟨some 35, .mov (.t 3), none, []⟩, ⟨some 36, .call (.c (.func 142 [])) [(.t 35)], none, []⟩, ⟨some 2, .mov (.t 36), none, []⟩] false) .ret))))
def a107 : AFunc := { results := [.tmp 2], body := c107 }
def c112 : ACode :=
  (.seq (.region [⟨some 8, .mov (.c (.int .i64 0)), none, []⟩] false) (.seq (.seq (.region [⟨some 12, .mov (.t 0), none, []⟩, ⟨some 13, .len false (.t 12), none, []⟩, ⟨some 14, .mov (.t 1), none, []⟩, ⟨some 15, .bin .gtr (.t 13) (.t 14), none, []⟩] false) (.cond (.t 15) (.seq (.region [⟨some 8, .mov (.c (.int .i64 4)), none, []⟩] false) .ret) .skip)) (.seq (.seq (.region [⟨some 16, .mov (.t 0), none, []⟩, ⟨some 17, .len false (.t 16), none, []⟩, ⟨some 18, .mov (.c (.int .i64 0)), none, []⟩] false) (.block 0 (.loop (.seq (.region [⟨some 19, .bin .lss (.t 18) (.t 17), none, []⟩] false) (.seq (.cond (.t 19) .skip (.exit 0)) (.seq (.block 1 (.seq (.region [⟨some 20, .mov (.t 18), none, []⟩, ⟨some 21, .idx 5 (.t 16) (.t 18), none, []⟩, ⟨some 22, .load true 5 (.t 21), none, []⟩, ⟨some 10, .box (.c (.agg [(.str []), (.sl .full []), (.sl .full []), (.sl .full []), (.bool false)])), none, []⟩, ⟨some 9, .mov (.t 20), none, []⟩, ⟨none, .store 5 (.t 10) (.t 22), none, []⟩] false) (.seq (.seq (.region [⟨some 23, .mov (.t 3), none, []⟩, ⟨some 24, .load true 5 (.t 10), none, []⟩, ⟨some 25, .call (.t 23) [(.t 24)], none, []⟩, ⟨some 11, .mov (.t 25), none, []⟩] false) (.seq (.region [⟨some 26, .mov (.t 11), none, []⟩, ⟨some 27, .bin .neq (.t 26) (.c (.int .i64 0)), none, []⟩] false) (.cond (.t 27) (.seq (.region [⟨some 28, .mov (.t 11), none, []⟩, ⟨some 8, .mov (.t 28), none, []⟩] false) .ret) .skip))) (.seq (.region [⟨some 29, .mov (.t 9), none, []⟩, ⟨some 30, .bin .gtr (.t 29) (.c (.int .i64 0)), none, [0]⟩, ⟨some 31, .mov (.t 30), none, [0, 1]⟩, ⟨some 32, .mov (.t 2), some (31, true), [1, 0, 2]⟩, ⟨some 33, .load true 5 (.t 10), some (31, true), [1, 0, 2]⟩, ⟨some 34, .call (.t 32) [(.t 33)], some (31, true), [4, 2, 0, 1, 3]⟩, ⟨some 35, .mov (.t 2), some (31, true), [1, 0, 2]⟩, ⟨some 36, .mov (.t 0), some (31, true), [1, 0, 2]⟩, ⟨some 37, .mov (.t 9), some (31, true), [1, 0, 2]⟩, ⟨some 38, .bin .sub (.t 37) (.c (.int .i64 1)), some (31, true), [2, 0, 1, 8]⟩, ⟨some 39, .idx 5 (.t 36) (.t 38), some (31, true), [8, 9, 2, 0, 1, 7]⟩, ⟨some 40, .load true 5 (.t 39), some (31, true), [7, 1, 0, 2, 9, 8, 10]⟩, ⟨some 41, .call (.t 35) [(.t 40)], some (31, true), [3, 4, 5, 10, 8, 9, 7, 11, 2, 0, 1, 6]⟩, ⟨some 42, .bin .leq (.t 34) (.t 41), some (31, true), [6, 11, 7, 9, 8, 10, 12, 3, 1, 0, 2, 4, 5]⟩, ⟨some 43, .pick (.t 31) (.t 42) (.c (.bool false)), none, [5, 4, 3, 12, 10, 8, 9, 7, 11, 6, 13, 1, 0, 2]⟩] true) (.cond (.t 43) (.seq (.region [⟨some 8, .mov (.c (.int .i64 13)), none, []⟩] false) .ret) .skip))))) (.region [⟨some 44, .bin .add (.t 18) (.c (.int .i64 1)), none, []⟩, ⟨some 18, .mov (.t 44), none, []⟩] false))))))) (.seq (.region [⟨some 8, .mov (.c (.int .i64 0)), none, []⟩] false) .ret))))
def a112 : AFunc := { results := [.tmp 8], body := c112 }
def c113 : ACode :=
  (.seq (.region [⟨some 1, .box (.t 0), none, []⟩, ⟨some 2, .mov (.c (.str [])), none, []⟩] false) (.seq (.region [⟨some 3, .fld 0 1 (.t 1), none, []⟩, ⟨some 4, .load false 1 (.t 3), none, []⟩, ⟨some 2, .mov (.t 4), none, []⟩] false) .ret))
def a113 : AFunc := { results := [.tmp 2], body := c113 }
def c142 : ACode :=
  (.seq (.region [⟨some 2, .mov (.c (.str [])), none, []⟩] false) (.seq (.seq (.region [⟨some 5, .mov (.t 0), none, []⟩, ⟨some 6, .len false (.t 5), none, []⟩, ⟨some 7, .bin .eql (.t 6) (.c (.int .i64 0)), none, []⟩] false) (.cond (.t 7) (.seq (.region [⟨some 2, .mov (.c (.str [45])), none, []⟩] false) .ret) .skip)) (.seq (.region [⟨some 8, .mov (.t 0), none, []⟩, ⟨some 9, .idx 1 (.t 8) (.c (.int .i64 0)), none, []⟩, ⟨some 10, .load false 1 (.t 9), none, []⟩, ⟨some 3, .mov (.t 10), none, []⟩] false) (.seq (.seq (.region [⟨some 4, .mov (.c (.int .i64 1)), none, []⟩] false) (.block 0 (.loop (.seq (.seq (.region [⟨some 11, .mov (.t 4), none, []⟩, ⟨some 12, .mov (.t 0), none, []⟩, ⟨some 13, .len false (.t 12), none, []⟩, ⟨some 14, .bin .lss (.t 11) (.t 13), none, []⟩] false) (.cond (.t 14) .skip (.exit 0))) (.seq (.block 1 (.region [⟨some 17, .mov (.t 3), none, []⟩, ⟨some 18, .bin .add (.t 17) (.c (.str [44])), none, []⟩, ⟨some 19, .mov (.t 0), none, []⟩, ⟨some 20, .mov (.t 4), none, []⟩, ⟨some 21, .idx 1 (.t 19) (.t 20), none, []⟩, ⟨some 22, .load false 1 (.t 21), none, []⟩, ⟨some 23, .bin .add (.t 18) (.t 22), none, []⟩, ⟨some 3, .mov (.t 23), none, []⟩] false)) (.region [⟨some 15, .mov (.t 4), none, []⟩, ⟨some 16, .bin .add (.t 15) (.c (.int .i64 1)), none, []⟩, ⟨some 4, .mov (.t 16), none, []⟩] false)))))) (.seq (.region [⟨some 24, .mov (.t 3), none, []⟩, ⟨some 2, .mov (.t 24), none, []⟩] false) .ret)))))
def a142 : AFunc := { results := [.tmp 2], body := c142 }
def c143 : ACode :=
  (.seq (.region [⟨some 2, .mov (.c (.bool false)), none, []⟩] false) (.seq (.region [⟨some 3, .mov (.t 0), none, []⟩, ⟨some 4, .len true (.t 3), none, []⟩, ⟨some 5, .bin .geq (.t 4) (.c (.int .i64 1)), none, []⟩, ⟨some 6, .mov (.t 5), none, []⟩, ⟨some 7, .mov (.t 0), some (6, true), []⟩, ⟨some 8, .len true (.t 7), some (6, true), []⟩, ⟨some 9, .bin .leq (.t 8) (.c (.int .i64 12)), some (6, true), []⟩, ⟨some 10, .pick (.t 6) (.t 9) (.c (.bool false)), none, []⟩, ⟨some 11, .mov (.t 10), none, []⟩, ⟨some 12, .mov (.t 0), some (11, true), []⟩, ⟨some 13, .call (.c (.func 190 [])) [(.t 12), (.c (.str [97, 98, 99, 100, 101, 102, 103, 104, 105, 106, 107, 108, 109, 110, 111, 112, 113, 114, 115, 116, 117, 118, 119, 120, 121, 122, 48, 49, 50, 51, 52, 53, 54, 55, 56, 57]))], some (11, true), []⟩, ⟨some 14, .bin .eql (.t 13) (.c (.str [])), some (11, true), []⟩, ⟨some 15, .pick (.t 11) (.t 14) (.c (.bool false)), none, []⟩, ⟨some 2, .mov (.t 15), none, []⟩] false) .ret))
def a143 : AFunc := { results := [.tmp 2], body := c143 }
def c144 : ACode :=
  (.seq (.region [⟨some 4, .mov (.c (.bool false)), none, []⟩] false) (.seq (.region [⟨some 5, .mov (.t 0), none, []⟩, ⟨some 6, .mov (.t 1), none, []⟩, ⟨some 7, .call (.c (.func 191 [])) [(.t 5), (.t 6)], none, []⟩, ⟨some 8, .bin .geq (.t 7) (.c (.int .i64 0)), none, []⟩, ⟨some 4, .mov (.t 8), none, []⟩] false) .ret))
def a144 : AFunc := { results := [.tmp 4], body := c144 }
def c145 : ACode :=
  (.seq (.region [⟨some 2, .box (.t 0), none, []⟩, ⟨some 3, .mov (.c (.bool false)), none, []⟩] false) (.seq (.region [⟨some 4, .fld 0 1 (.t 2), none, []⟩, ⟨some 5, .load false 1 (.t 4), none, []⟩, ⟨some 6, .fld 0 1 (.t 1), none, []⟩, ⟨some 7, .load false 1 (.t 6), none, []⟩, ⟨some 8, .bin .eql (.t 5) (.t 7), none, []⟩, ⟨some 9, .mov (.t 8), none, []⟩, ⟨some 10, .fld 1 1 (.t 2), some (9, true), []⟩, ⟨some 11, .load false 1 (.t 10), some (9, true), []⟩, ⟨some 12, .fld 1 1 (.t 1), some (9, true), []⟩, ⟨some 13, .load false 1 (.t 12), some (9, true), []⟩, ⟨some 14, .bin .eql (.t 11) (.t 13), some (9, true), []⟩, ⟨some 15, .pick (.t 9) (.t 14) (.c (.bool false)), none, []⟩, ⟨some 3, .mov (.t 15), none, []⟩] false) .ret))
def a145 : AFunc := { results := [.tmp 3], body := c145 }
def c146 : ACode :=
  (.seq (.region [⟨some 4, .mov (.c (.bool false)), none, []⟩] false) (.seq (.seq (.region [⟨some 6, .mov (.t 0), none, []⟩, ⟨some 7, .len false (.t 6), none, []⟩, ⟨some 8, .mov (.t 1), none, []⟩, ⟨some 9, .len false (.t 8), none, []⟩, ⟨some 10, .bin .neq (.t 7) (.t 9), none, []⟩] false) (.cond (.t 10) (.seq (.region [⟨some 4, .mov (.c (.bool false)), none, []⟩] false) .ret) .skip)) (.seq (.seq (.region [⟨some 11, .mov (.t 0), none, []⟩, ⟨some 12, .len false (.t 11), none, []⟩, ⟨some 13, .mov (.c (.int .i64 0)), none, []⟩] false) (.block 0 (.loop (.seq (.region [⟨some 14, .bin .lss (.t 13) (.t 12), none, []⟩] false) (.seq (.cond (.t 14) .skip (.exit 0)) (.seq (.block 1 (.seq (.region [⟨some 15, .mov (.t 13), none, []⟩, ⟨some 5, .mov (.t 15), none, []⟩] false) (.seq (.region [⟨some 16, .mov (.t 0), none, []⟩, ⟨some 17, .mov (.t 5), none, []⟩, ⟨some 18, .idx 2 (.t 16) (.t 17), none, [1, 0]⟩, ⟨some 19, .load true 2 (.t 18), none, [0, 1, 2]⟩, ⟨some 20, .mov (.t 1), none, []⟩, ⟨some 21, .mov (.t 5), none, []⟩, ⟨some 22, .idx 2 (.t 20) (.t 21), none, [5, 4]⟩, ⟨some 23, .load true 2 (.t 22), none, [4, 5, 6]⟩, ⟨some 24, .eqst true [.s, .i] (.t 19) (.t 23), none, [6, 5, 4, 7, 2, 1, 0, 3]⟩] true) (.cond (.t 24) (.seq (.region [⟨some 4, .mov (.c (.bool false)), none, []⟩] false) .ret) .skip)))) (.region [⟨some 25, .bin .add (.t 13) (.c (.int .i64 1)), none, []⟩, ⟨some 13, .mov (.t 25), none, []⟩] false))))))) (.seq (.region [⟨some 4, .mov (.c (.bool true)), none, []⟩] false) .ret))))
def a146 : AFunc := { results := [.tmp 4], body := c146 }
def c148 : ACode :=
  (.seq (.region [⟨some 8, .mov (.c (.sl .full [])), none, []⟩] false) (.seq (.seq (.region [⟨some 12, .mov (.t 3), none, []⟩, ⟨some 13, .bin .eql (.t 12) (.c (.int .i64 0)), none, []⟩] false) (.cond (.t 13) (.seq (.region [⟨some 8, .mov (.c (.sl .full [])), none, []⟩] false) .ret) .skip)) (.seq (.seq (.region [⟨some 14, .mov (.t 1), none, []⟩, ⟨some 15, .bin .eql (.t 14) (.c (.str [])), none, []⟩] false) (.cond (.t 15) (.seq (.region [⟨some 16, .mov (.t 0), none, []⟩, ⟨some 17, .mov (.t 3), none, []⟩, ⟨some 18, .callM (.c (.func 192 [])) [(.t 16), (.t 17)], none, []⟩, ⟨some 8, .mov (.t 18), none, []⟩] false) .ret) .skip)) (.seq (.seq (.region [⟨some 19, .mov (.t 3), none, []⟩, ⟨some 20, .bin .lss (.t 19) (.c (.int .i64 0)), none, []⟩] false) (.cond (.t 20) (.region [⟨some 21, .mov (.t 0), none, []⟩, ⟨some 22, .mov (.t 1), none, []⟩, ⟨some 23, .callM (.c (.func 193 [])) [(.t 21), (.t 22)], none, []⟩, ⟨some 24, .bin .add (.t 23) (.c (.int .i64 1)), none, []⟩, ⟨some 3, .mov (.t 24), none, []⟩] false) .skip)) (.seq (.region [⟨some 25, .mov (.t 3), none, []⟩, ⟨some 26, .mov (.t 0), none, []⟩, ⟨some 27, .len true (.t 26), none, []⟩, ⟨some 28, .bin .add (.t 27) (.c (.int .i64 1)), none, []⟩, ⟨some 29, .mm false (.t 25) (.t 28), none, []⟩, ⟨some 3, .mov (.t 29), none, []⟩] false) (.seq (.region [⟨some 30, .mov (.t 3), none, []⟩, ⟨some 31, .makeM 1 16 [(.str [])] (.t 30), none, []⟩, ⟨some 9, .mov (.t 31), none, []⟩] false) (.seq (.region [⟨some 32, .mov (.t 3), none, []⟩, ⟨some 33, .bin .sub (.t 32) (.c (.int .i64 1)), none, []⟩, ⟨some 3, .mov (.t 33), none, []⟩] false) (.seq (.region [⟨some 10, .mov (.c (.int .i64 0)), none, []⟩] false) (.seq (.block 0 (.loop (.seq (.seq (.region [⟨some 34, .mov (.t 10), none, []⟩, ⟨some 35, .mov (.t 3), none, []⟩, ⟨some 36, .bin .lss (.t 34) (.t 35), none, []⟩] false) (.cond (.t 36) .skip (.exit 0))) (.block 1 (.seq (.region [⟨some 37, .mov (.t 0), none, []⟩, ⟨some 38, .mov (.t 1), none, []⟩, ⟨some 39, .callM (.c (.func 194 [])) [(.t 37), (.t 38)], none, []⟩, ⟨some 11, .mov (.t 39), none, []⟩] false) (.seq (.seq (.region [⟨some 40, .mov (.t 11), none, []⟩, ⟨some 41, .bin .lss (.t 40) (.c (.int .i64 0)), none, []⟩] false) (.cond (.t 41) (.exit 0) .skip)) (.seq (.region [⟨some 42, .mov (.t 9), none, []⟩, ⟨some 43, .mov (.t 10), none, []⟩, ⟨some 44, .mov (.t 0), none, []⟩, ⟨some 45, .mov (.t 11), none, []⟩, ⟨some 46, .mov (.t 2), none, []⟩, ⟨some 47, .bin .add (.t 45) (.t 46), none, []⟩, ⟨some 48, .slice 0 (.t 44) none (some (.t 47)) none, none, []⟩, ⟨some 49, .idx 1 (.t 42) (.t 43), none, []⟩, ⟨none, .store 1 (.t 49) (.t 48), none, []⟩] false) (.seq (.region [⟨some 50, .mov (.t 0), none, []⟩, ⟨some 51, .mov (.t 11), none, []⟩, ⟨some 52, .mov (.t 1), none, []⟩, ⟨some 53, .len true (.t 52), none, []⟩, ⟨some 54, .bin .add (.t 51) (.t 53), none, []⟩, ⟨some 55, .slice 0 (.t 50) (some (.t 54)) none none, none, []⟩, ⟨some 0, .mov (.t 55), none, []⟩] false) (.region [⟨some 56, .mov (.t 10), none, []⟩, ⟨some 57, .bin .add (.t 56) (.c (.int .i64 1)), none, []⟩, ⟨some 10, .mov (.t 57), none, []⟩] false))))))))) (.seq (.region [⟨some 58, .mov (.t 9), none, []⟩, ⟨some 59, .mov (.t 10), none, []⟩, ⟨some 60, .mov (.t 0), none, []⟩, ⟨some 61, .idx 1 (.t 58) (.t 59), none, []⟩, ⟨none, .store 1 (.t 61) (.t 60), none, []⟩] false) (.seq (.region [⟨some 62, .mov (.t 9), none, []⟩, ⟨some 63, .mov (.t 10), none, []⟩, ⟨some 64, .bin .add (.t 63) (.c (.int .i64 1)), none, []⟩, ⟨some 65, .slice 1 (.t 62) none (some (.t 64)) none, none, []⟩, ⟨some 8, .mov (.t 65), none, []⟩] false) .ret)))))))))))
def a148 : AFunc := { results := [.tmp 8], body := c148 }
def c149 : ACode :=
  (.seq (.region [⟨some 2, .box (.c (.int .i64 0)), none, []⟩, ⟨none, .store 1 (.t 2) (.c (.int .i64 0)), none, []⟩] false) (.seq (.seq (.region [⟨some 9, .load false 1 (.t 0), none, []⟩, ⟨some 10, .call (.c (.func 150 [])) [(.t 9), (.c (.str [44]))], none, []⟩] false) (.block 0 (.range (.t 10) [11] (.region [⟨some 3, .mov (.t 11), none, []⟩] false) (.block 1 (.seq (.region [⟨some 13, .mov (.t 3), none, []⟩, ⟨some 14, .call (.c (.func 151 [])) [(.t 13), (.c (.str [61]))], none, []⟩, ⟨some 12, .mov (.t 14), none, []⟩, ⟨some 15, .extract (.t 12) 0, none, []⟩, ⟨some 16, .extract (.t 12) 1, none, []⟩, ⟨some 17, .extract (.t 12) 2, none, []⟩, ⟨some 4, .mov (.t 15), none, []⟩, ⟨some 5, .mov (.t 16), none, []⟩, ⟨some 6, .mov (.t 17), none, []⟩] false) (.seq (.region [⟨some 19, .mov (.t 5), none, []⟩, ⟨some 20, .call (.c (.func 152 [])) [(.t 19)], none, []⟩, ⟨some 18, .mov (.t 20), none, []⟩, ⟨some 21, .extract (.t 18) 0, none, []⟩, ⟨some 22, .extract (.t 18) 1, none, []⟩, ⟨some 7, .mov (.t 21), none, []⟩, ⟨some 8, .mov (.t 22), none, []⟩] false) (.seq (.seq (.region [⟨some 23, .mov (.t 6), none, []⟩, ⟨some 24, .un .not (.t 23), none, []⟩, ⟨some 25, .mov (.t 24), none, []⟩, ⟨some 26, .mov (.t 8), some (25, false), []⟩, ⟨some 27, .bin .eql (.t 26) (.c (.int .i64 2)), some (25, false), []⟩, ⟨some 28, .pick (.t 25) (.c (.bool true)) (.t 27), none, []⟩] false) (.cond (.t 28) (.region [⟨some 29, .call (.c (.func 94 [])) [(.c (.int .i64 2))], none, []⟩] false) .skip)) (.seq (.region [⟨some 30, .load false 1 (.t 2), none, []⟩, ⟨some 31, .mov (.t 8), none, []⟩, ⟨some 32, .mm true (.t 30) (.t 31), none, []⟩, ⟨none, .store 1 (.t 2) (.t 32), none, []⟩] false) (.region [⟨some 33, .load false 1 (.t 1), none, []⟩, ⟨some 34, .mov (.t 4), none, []⟩, ⟨some 35, .mov (.t 7), none, []⟩, ⟨some 36, .build [(.str []), (.int .i64 0)] [(0, 1, (.t 34)), (1, 1, (.t 35))], none, []⟩, ⟨some 37, .bslice 2 [(.t 36)], none, []⟩, ⟨some 38, .append 2 24 (.t 33) (.t 37), none, []⟩, ⟨none, .store 1 (.t 1) (.t 38), none, []⟩] false))))))))) (.seq (.region [⟨some 39, .load false 1 (.t 2), none, []⟩, ⟨some 40, .call (.c (.func 94 [])) [(.t 39)], none, []⟩] false) (.region [⟨some 41, .load false 1 (.t 1), none, []⟩, ⟨some 42, .call (.c (.func 82 [])) [(.t 41)], none, []⟩, ⟨some 43, .call (.c (.func 94 [])) [(.t 42)], none, []⟩] false))))
def a149 : AFunc := { results := [], body := c149 }
def c150 : ACode :=
  (.seq (.region [⟨some 4, .mov (.c .nilFunc), none, []⟩] false) (.seq (.region [⟨some 5, .mov (.t 0), none, []⟩, ⟨some 6, .mov (.t 1), none, []⟩, ⟨some 7, .call (.c (.func 195 [])) [(.t 5), (.t 6), (.c (.int .i64 0))], none, []⟩, ⟨some 4, .mov (.t 7), none, []⟩] false) .ret))
def a150 : AFunc := { results := [.tmp 4], body := c150 }
def c151 : ACode :=
  (.seq (.region [⟨some 4, .mov (.c (.str [])), none, []⟩, ⟨some 5, .mov (.c (.str [])), none, []⟩, ⟨some 6, .mov (.c (.bool false)), none, []⟩] false) (.seq (.region [⟨some 7, .mov (.t 0), none, []⟩, ⟨some 8, .mov (.t 1), none, []⟩, ⟨some 9, .call (.c (.func 196 [])) [(.t 7), (.t 8)], none, []⟩, ⟨some 10, .extract (.t 9) 0, none, []⟩, ⟨some 11, .extract (.t 9) 1, none, []⟩, ⟨some 12, .extract (.t 9) 2, none, []⟩, ⟨some 4, .mov (.t 10), none, []⟩, ⟨some 5, .mov (.t 11), none, []⟩, ⟨some 6, .mov (.t 12), none, []⟩] false) .ret))
def a151 : AFunc := { results := [.tmp 4, .tmp 5, .tmp 6], body := c151 }
def c152 : ACode :=
  (.seq (.region [⟨some 2, .mov (.c (.int .i64 0)), none, []⟩, ⟨some 3, .mov (.c (.int .i64 0)), none, []⟩] false) (.seq (.seq (.region [⟨some 6, .mov (.t 0), none, []⟩, ⟨some 7, .bin .eql (.t 6) (.c (.str [])), none, []⟩, ⟨some 8, .mov (.t 7), none, []⟩, ⟨some 9, .mov (.t 0), some (8, false), []⟩, ⟨some 10, .call (.c (.func 190 [])) [(.t 9), (.c (.str [48, 49, 50, 51, 52, 53, 54, 55, 56, 57]))], some (8, false), []⟩, ⟨some 11, .bin .neq (.t 10) (.c (.str [])), some (8, false), []⟩, ⟨some 12, .pick (.t 8) (.c (.bool true)) (.t 11), none, []⟩, ⟨some 13, .mov (.t 12), none, []⟩, ⟨some 14, .mov (.t 0), some (13, false), []⟩, ⟨some 15, .idxs (.t 14) (.c (.int .i64 0)), some (13, false), []⟩, ⟨some 16, .bin .eql (.t 15) (.c (.int .u8 48)), some (13, false), []⟩, ⟨some 17, .mov (.t 16), some (13, false), []⟩, ⟨some 18, .mov (.t 0), some (17, true), []⟩, ⟨some 19, .bin .neq (.t 18) (.c (.str [48])), some (17, true), []⟩, ⟨some 20, .pick (.t 17) (.t 19) (.c (.bool false)), some (13, false), []⟩, ⟨some 21, .pick (.t 13) (.c (.bool true)) (.t 20), none, []⟩] false) (.cond (.t 21) (.seq (.region [⟨some 2, .mov (.c (.int .i64 0)), none, []⟩, ⟨some 3, .mov (.c (.int .i64 2)), none, []⟩] false) .ret) .skip)) (.seq (.region [⟨some 23, .mov (.t 0), none, []⟩, ⟨some 24, .call (.c (.func 197 [])) [(.t 23), (.c (.int .i64 10)), (.c (.int .i64 64))], none, []⟩, ⟨some 22, .mov (.t 24), none, []⟩, ⟨some 25, .extract (.t 22) 0, none, []⟩, ⟨some 26, .extract (.t 22) 1, none, []⟩, ⟨some 4, .mov (.t 25), none, []⟩, ⟨some 5, .mov (.t 26), none, []⟩] false) (.seq (.seq (.region [⟨some 27, .mov (.t 5), none, []⟩, ⟨some 28, .eqnil true .ifc (.t 27), none, []⟩] false) (.cond (.t 28) (.seq (.region [⟨some 2, .mov (.c (.int .i64 0)), none, []⟩, ⟨some 3, .mov (.c (.int .i64 5)), none, []⟩] false) .ret) .skip)) (.seq (.region [⟨some 29, .mov (.t 4), none, []⟩, ⟨some 2, .mov (.t 29), none, []⟩, ⟨some 3, .mov (.c (.int .i64 0)), none, []⟩] false) .ret)))))
def a152 : AFunc := { results := [.tmp 2, .tmp 3], body := c152 }
def c153 : ACode :=
  (.seq (.region [⟨some 3, .box (.t 0), none, []⟩, ⟨some 4, .box (.t 1), none, []⟩, ⟨some 5, .box (.t 2), none, []⟩, ⟨some 6, .mov (.c (.sl .full [])), none, []⟩, ⟨some 7, .mov (.c (.int .i64 0)), none, []⟩] false) (.seq (.seq (.region [⟨some 10, .load false 1 (.t 3), none, []⟩, ⟨some 11, .bin .eql (.t 10) (.c (.str [45])), none, []⟩] false) (.cond (.t 11) (.seq (.region [⟨some 6, .mov (.c (.sl .full [])), none, []⟩, ⟨some 7, .mov (.c (.int .i64 0)), none, []⟩] false) .ret) .skip)) (.seq (.region [⟨some 8, .box (.c (.sl .full [])), none, []⟩] false) (.seq (.region [⟨some 12, .mkfunc 198 [(.t 3), (.t 8), (.t 4), (.t 5)], none, []⟩, ⟨some 13, .call (.c (.func 91 [])) [(.t 12)], none, []⟩, ⟨some 9, .mov (.t 13), none, []⟩] false) (.seq (.seq (.region [⟨some 14, .mov (.t 9), none, []⟩, ⟨some 15, .bin .neq (.t 14) (.c (.int .i64 0)), none, []⟩] false) (.cond (.t 15) (.seq (.region [⟨some 16, .mov (.t 9), none, []⟩, ⟨some 6, .mov (.c (.sl .full [])), none, []⟩, ⟨some 7, .mov (.t 16), none, []⟩] false) .ret) .skip)) (.seq (.region [⟨some 17, .load false 1 (.t 8), none, []⟩, ⟨some 6, .mov (.t 17), none, []⟩, ⟨some 7, .mov (.c (.int .i64 0)), none, []⟩] false) .ret))))))
def a153 : AFunc := { results := [.tmp 6, .tmp 7], body := c153 }
def c154 : ACode :=
  (.seq (.region [⟨some 2, .box (.c (.agg [(.str []), (.str [])])), none, []⟩] false) (.seq (.region [⟨some 7, .mov (.t 0), none, []⟩, ⟨some 8, .call (.c (.func 151 [])) [(.t 7), (.c (.str [58]))], none, []⟩, ⟨some 6, .mov (.t 8), none, []⟩, ⟨some 9, .extract (.t 6) 0, none, []⟩, ⟨some 10, .extract (.t 6) 1, none, []⟩, ⟨some 11, .extract (.t 6) 2, none, []⟩, ⟨some 3, .mov (.t 9), none, []⟩, ⟨some 4, .mov (.t 10), none, []⟩, ⟨some 5, .mov (.t 11), none, []⟩] false) (.seq (.seq (.region [⟨some 12, .mov (.t 5), none, []⟩, ⟨some 13, .un .not (.t 12), none, []⟩, ⟨some 14, .mov (.t 13), none, []⟩, ⟨some 15, .mov (.t 4), some (14, false), []⟩, ⟨some 16, .call (.c (.func 155 [])) [(.t 15), (.c (.str [58]))], some (14, false), []⟩, ⟨some 17, .pick (.t 14) (.c (.bool true)) (.t 16), none, []⟩] false) (.cond (.t 17) (.region [⟨some 18, .call (.c (.func 94 [])) [(.c (.int .i64 2))], none, []⟩] false) .skip)) (.seq (.region [⟨some 19, .mov (.t 3), none, []⟩, ⟨some 20, .mov (.t 4), none, []⟩, ⟨some 21, .build [(.str []), (.str [])] [(0, 1, (.t 19)), (1, 1, (.t 20))], none, []⟩, ⟨none, .store 2 (.t 2) (.t 21), none, []⟩] false) .ret))))
def a154 : AFunc := { results := [.cell 2 true 2], body := c154 }
def c155 : ACode :=
  (.seq (.region [⟨some 4, .mov (.c (.bool false)), none, []⟩] false) (.seq (.region [⟨some 5, .mov (.t 0), none, []⟩, ⟨some 6, .mov (.t 1), none, []⟩, ⟨some 7, .call (.c (.func 194 [])) [(.t 5), (.t 6)], none, []⟩, ⟨some 8, .bin .geq (.t 7) (.c (.int .i64 0)), none, []⟩, ⟨some 4, .mov (.t 8), none, []⟩] false) .ret))
def a155 : AFunc := { results := [.tmp 4], body := c155 }
def c156 : ACode :=
  (.seq (.region [⟨some 2, .mov (.c (.int .i64 0)), none, []⟩] false) (.seq (.region [⟨some 3, .mov (.t 0), none, []⟩, ⟨some 4, .call (.c (.func 83 [])) [(.t 3)], none, []⟩, ⟨some 2, .mov (.t 4), none, []⟩] false) .ret))
def a156 : AFunc := { results := [.tmp 2], body := c156 }
def c157 : ACode :=
  (.seq (.region [⟨some 3, .box (.t 0), none, []⟩, ⟨some 4, .box (.t 1), none, []⟩, ⟨some 5, .box (.t 2), none, []⟩, ⟨some 6, .mov (.c (.sl .full [])), none, []⟩, ⟨some 7, .mov (.c (.int .i64 0)), none, []⟩] false) (.seq (.seq (.region [⟨some 10, .load false 1 (.t 3), none, []⟩, ⟨some 11, .bin .eql (.t 10) (.c (.str [45])), none, []⟩] false) (.cond (.t 11) (.seq (.region [⟨some 6, .mov (.c (.sl .full [])), none, []⟩, ⟨some 7, .mov (.c (.int .i64 0)), none, []⟩] false) .ret) .skip)) (.seq (.region [⟨some 8, .box (.c (.sl .full [])), none, []⟩] false) (.seq (.region [⟨some 12, .mkfunc 199 [(.t 3), (.t 8), (.t 4), (.t 5)], none, []⟩, ⟨some 13, .call (.c (.func 91 [])) [(.t 12)], none, []⟩, ⟨some 9, .mov (.t 13), none, []⟩] false) (.seq (.seq (.region [⟨some 14, .mov (.t 9), none, []⟩, ⟨some 15, .bin .neq (.t 14) (.c (.int .i64 0)), none, []⟩] false) (.cond (.t 15) (.seq (.region [⟨some 16, .mov (.t 9), none, []⟩, ⟨some 6, .mov (.c (.sl .full [])), none, []⟩, ⟨some 7, .mov (.t 16), none, []⟩] false) .ret) .skip)) (.seq (.region [⟨some 17, .load false 1 (.t 8), none, []⟩, ⟨some 6, .mov (.t 17), none, []⟩, ⟨some 7, .mov (.c (.int .i64 0)), none, []⟩] false) .ret))))))
def a157 : AFunc := { results := [.tmp 6, .tmp 7], body := c157 }
def c158 : ACode :=
  (.seq (.region [⟨some 2, .box (.c (.agg [(.str []), (.str []), (.bool false)])), none, []⟩] false) (.seq (.region [⟨some 8, .mov (.t 0), none, []⟩, ⟨some 9, .call (.c (.func 151 [])) [(.t 8), (.c (.str [58]))], none, []⟩, ⟨some 7, .mov (.t 9), none, []⟩, ⟨some 10, .extract (.t 7) 0, none, []⟩, ⟨some 11, .extract (.t 7) 1, none, []⟩, ⟨some 12, .extract (.t 7) 2, none, []⟩, ⟨some 3, .mov (.t 10), none, []⟩, ⟨some 4, .mov (.t 11), none, []⟩, ⟨some 5, .mov (.t 12), none, []⟩] false) (.seq (.seq (.region [⟨some 13, .mov (.t 5), none, []⟩, ⟨some 14, .un .not (.t 13), none, []⟩, ⟨some 15, .mov (.t 14), none, []⟩, ⟨some 16, .mov (.t 4), some (15, false), []⟩, ⟨some 17, .call (.c (.func 155 [])) [(.t 16), (.c (.str [58]))], some (15, false), []⟩, ⟨some 18, .pick (.t 15) (.c (.bool true)) (.t 17), none, []⟩] false) (.cond (.t 18) (.region [⟨some 19, .call (.c (.func 94 [])) [(.c (.int .i64 2))], none, []⟩] false) .skip)) (.seq (.region [⟨some 21, .mov (.t 4), none, []⟩, ⟨some 22, .call (.c (.func 159 [])) [(.t 21), (.c (.str [33]))], none, []⟩, ⟨some 20, .mov (.t 22), none, []⟩, ⟨some 23, .extract (.t 20) 0, none, []⟩, ⟨some 24, .extract (.t 20) 1, none, []⟩, ⟨some 4, .mov (.t 23), none, []⟩, ⟨some 6, .mov (.t 24), none, []⟩] false) (.seq (.region [⟨some 25, .mov (.t 3), none, []⟩, ⟨some 26, .mov (.t 4), none, []⟩, ⟨some 27, .mov (.t 6), none, []⟩, ⟨some 28, .build [(.str []), (.str []), (.bool false)] [(0, 1, (.t 25)), (1, 1, (.t 26)), (2, 1, (.t 27))], none, []⟩, ⟨none, .store 3 (.t 2) (.t 28), none, []⟩] false) .ret)))))
def a158 : AFunc := { results := [.cell 2 true 3], body := c158 }
def c159 : ACode :=
  (.seq (.region [⟨some 4, .mov (.c (.str [])), none, []⟩, ⟨some 5, .mov (.c (.bool false)), none, []⟩] false) (.seq (.region [⟨some 6, .mov (.t 0), none, []⟩, ⟨some 7, .mov (.t 1), none, []⟩, ⟨some 8, .call (.c (.func 200 [])) [(.t 6), (.t 7)], none, []⟩, ⟨some 9, .extract (.t 8) 0, none, []⟩, ⟨some 10, .extract (.t 8) 1, none, []⟩, ⟨some 4, .mov (.t 9), none, []⟩, ⟨some 5, .mov (.t 10), none, []⟩] false) .ret))
def a159 : AFunc := { results := [.tmp 4, .tmp 5], body := c159 }
def c164 : ACode :=
  (.seq (.region [⟨some 4, .mov (.c (.str [])), none, []⟩] false) (.seq (.seq (.region [⟨some 8, .mov (.t 0), none, []⟩, ⟨some 9, .len false (.t 8), none, []⟩, ⟨some 10, .bin .eql (.t 9) (.c (.int .i64 0)), none, []⟩] false) (.cond (.t 10) (.seq (.region [⟨some 4, .mov (.c (.str [45])), none, []⟩] false) .ret) .skip)) (.seq (.region [⟨some 5, .mov (.c (.sl .full [])), none, []⟩] false) (.seq (.seq (.region [⟨some 11, .mov (.t 0), none, []⟩, ⟨some 12, .len false (.t 11), none, []⟩, ⟨some 13, .mov (.c (.int .i64 0)), none, []⟩] false) (.block 0 (.loop (.seq (.region [⟨some 14, .bin .lss (.t 13) (.t 12), none, []⟩] false) (.seq (.cond (.t 14) .skip (.exit 0)) (.seq (.block 1 (.seq (.region [⟨some 15, .idx 2 (.t 11) (.t 13), none, []⟩, ⟨some 16, .load true 2 (.t 15), none, []⟩, ⟨some 7, .box (.c (.agg [(.str []), (.str [])])), none, []⟩, ⟨none, .store 2 (.t 7) (.t 16), none, []⟩] false) (.region [⟨some 17, .mov (.t 5), none, []⟩, ⟨some 18, .mov (.t 1), none, []⟩, ⟨some 19, .load true 2 (.t 7), none, []⟩, ⟨some 20, .call (.t 18) [(.t 19)], none, []⟩, ⟨some 21, .bslice 1 [(.t 20)], none, []⟩, ⟨some 22, .append 1 16 (.t 17) (.t 21), none, []⟩, ⟨some 5, .mov (.t 22), none, []⟩] false))) (.region [⟨some 23, .bin .add (.t 13) (.c (.int .i64 1)), none, []⟩, ⟨some 13, .mov (.t 23), none, []⟩] false))))))) (.seq (.region [⟨some 24, .mov (.t 5), none, []⟩, ⟨some 25, .call (.c (.func 101 [])) [(.t 24), (.c (.str [44]))], none, []⟩, ⟨some 4, .mov (.t 25), none, []⟩] false) .ret)))))
def a164 : AFunc := { results := [.tmp 4], body := c164 }
def c165 : ACode :=
  (.seq (.region [⟨some 1, .box (.t 0), none, []⟩, ⟨some 2, .mov (.c (.str [])), none, []⟩] false) (.seq (.region [⟨some 3, .fld 0 1 (.t 1), none, []⟩, ⟨some 4, .load false 1 (.t 3), none, []⟩, ⟨some 5, .bin .add (.t 4) (.c (.str [58])), none, []⟩, ⟨some 6, .fld 1 1 (.t 1), none, []⟩, ⟨some 7, .load false 1 (.t 6), none, []⟩, ⟨some 8, .bin .add (.t 5) (.t 7), none, []⟩, ⟨some 2, .mov (.t 8), none, []⟩] false) .ret))
def a165 : AFunc := { results := [.tmp 2], body := c165 }
def c166 : ACode :=
  (.seq (.region [⟨some 4, .mov (.c (.str [])), none, []⟩] false) (.seq (.seq (.region [⟨some 8, .mov (.t 0), none, []⟩, ⟨some 9, .len false (.t 8), none, []⟩, ⟨some 10, .bin .eql (.t 9) (.c (.int .i64 0)), none, []⟩] false) (.cond (.t 10) (.seq (.region [⟨some 4, .mov (.c (.str [45])), none, []⟩] false) .ret) .skip)) (.seq (.region [⟨some 5, .mov (.c (.sl .full [])), none, []⟩] false) (.seq (.seq (.region [⟨some 11, .mov (.t 0), none, []⟩, ⟨some 12, .len false (.t 11), none, []⟩, ⟨some 13, .mov (.c (.int .i64 0)), none, []⟩] false) (.block 0 (.loop (.seq (.region [⟨some 14, .bin .lss (.t 13) (.t 12), none, []⟩] false) (.seq (.cond (.t 14) .skip (.exit 0)) (.seq (.block 1 (.seq (.region [⟨some 15, .idx 3 (.t 11) (.t 13), none, []⟩, ⟨some 16, .load true 3 (.t 15), none, []⟩, ⟨some 7, .box (.c (.agg [(.str []), (.str []), (.bool false)])), none, []⟩, ⟨none, .store 3 (.t 7) (.t 16), none, []⟩] false) (.region [⟨some 17, .mov (.t 5), none, []⟩, ⟨some 18, .mov (.t 1), none, []⟩, ⟨some 19, .load true 3 (.t 7), none, []⟩, ⟨some 20, .call (.t 18) [(.t 19)], none, []⟩, ⟨some 21, .bslice 1 [(.t 20)], none, []⟩, ⟨some 22, .append 1 16 (.t 17) (.t 21), none, []⟩, ⟨some 5, .mov (.t 22), none, []⟩] false))) (.region [⟨some 23, .bin .add (.t 13) (.c (.int .i64 1)), none, []⟩, ⟨some 13, .mov (.t 23), none, []⟩] false))))))) (.seq (.region [⟨some 24, .mov (.t 5), none, []⟩, ⟨some 25, .call (.c (.func 101 [])) [(.t 24), (.c (.str [44]))], none, []⟩, ⟨some 4, .mov (.t 25), none, []⟩] false) .ret)))))
def a166 : AFunc := { results := [.tmp 4], body := c166 }
def c167 : ACode :=
  (.seq (.region [⟨some 1, .box (.t 0), none, []⟩, ⟨some 2, .mov (.c (.str [])), none, []⟩] false) (.seq (.seq (.region [⟨some 3, .fld 2 1 (.t 1), none, []⟩, ⟨some 4, .load false 1 (.t 3), none, []⟩] false) (.cond (.t 4) (.seq (.region [⟨some 5, .fld 0 1 (.t 1), none, []⟩, ⟨some 6, .load false 1 (.t 5), none, []⟩, ⟨some 7, .bin .add (.t 6) (.c (.str [58])), none, []⟩, ⟨some 8, .fld 1 1 (.t 1), none, []⟩, ⟨some 9, .load false 1 (.t 8), none, []⟩, ⟨some 10, .bin .add (.t 7) (.t 9), none, []⟩, ⟨some 11, .bin .add (.t 10) (.c (.str [33])), none, []⟩, ⟨some 2, .mov (.t 11), none, []⟩] false) .ret) .skip)) (.seq (.region [⟨some 12, .fld 0 1 (.t 1), none, []⟩, ⟨some 13, .load false 1 (.t 12), none, []⟩, ⟨some 14, .bin .add (.t 13) (.c (.str [58])), none, []⟩, ⟨some 15, .fld 1 1 (.t 1), none, []⟩, ⟨some 16, .load false 1 (.t 15), none, []⟩, ⟨some 17, .bin .add (.t 14) (.t 16), none, []⟩, ⟨some 2, .mov (.t 17), none, []⟩] false) .ret)))
def a167 : AFunc := { results := [.tmp 2], body := c167 }
def c191 : ACode :=
  (.seq (.region [⟨some 4, .mov (.c (.int .i64 0)), none, []⟩] false) (.seq (.seq (.region [⟨some 6, .mov (.t 0), none, []⟩, ⟨some 7, .len false (.t 6), none, []⟩, ⟨some 8, .mov (.c (.int .i64 0)), none, []⟩] false) (.block 0 (.loop (.seq (.region [⟨some 9, .bin .lss (.t 8) (.t 7), none, []⟩] false) (.seq (.cond (.t 9) .skip (.exit 0)) (.seq (.block 1 (.seq (.region [⟨some 10, .mov (.t 8), none, []⟩, ⟨some 5, .mov (.t 10), none, []⟩] false) (.seq (.region [⟨some 11, .mov (.t 1), none, []⟩, ⟨some 12, .mov (.t 0), none, []⟩, ⟨some 13, .mov (.t 5), none, []⟩, ⟨some 14, .idx 3 (.t 12) (.t 13), none, []⟩, ⟨some 15, .load true 3 (.t 14), none, []⟩, ⟨some 16, .call (.t 11) [(.t 15)], none, []⟩] false) (.cond (.t 16) (.seq (.region [⟨some 17, .mov (.t 5), none, []⟩, ⟨some 4, .mov (.t 17), none, []⟩] false) .ret) .skip)))) (.region [⟨some 18, .bin .add (.t 8) (.c (.int .i64 1)), none, []⟩, ⟨some 8, .mov (.t 18), none, []⟩] false))))))) (.seq (.region [⟨some 4, .mov (.c (.int .i64 (-1))), none, []⟩] false) .ret)))
def a191 : AFunc := { results := [.tmp 4], body := c191 }
def c195 : ACode :=
  (.seq (.region [⟨some 3, .box (.t 0), none, []⟩, ⟨some 4, .box (.t 1), none, []⟩, ⟨some 5, .box (.t 2), none, []⟩, ⟨some 6, .mov (.c .nilFunc), none, []⟩] false) (.seq (.region [⟨some 7, .mkfunc 226 [(.t 4), (.t 3), (.t 5)], none, []⟩, ⟨some 6, .mov (.t 7), none, []⟩] false) .ret))
def a195 : AFunc := { results := [.tmp 6], body := c195 }
def c196 : ACode :=
  (.seq (.region [⟨some 4, .mov (.c (.str [])), none, []⟩, ⟨some 5, .mov (.c (.str [])), none, []⟩, ⟨some 6, .mov (.c (.bool false)), none, []⟩] false) (.seq (.seq (.region [⟨some 8, .mov (.t 0), none, []⟩, ⟨some 9, .mov (.t 1), none, []⟩, ⟨some 10, .call (.c (.func 225 [])) [(.t 8), (.t 9)], none, []⟩, ⟨some 7, .mov (.t 10), none, []⟩] false) (.seq (.region [⟨some 11, .mov (.t 7), none, []⟩, ⟨some 12, .bin .geq (.t 11) (.c (.int .i64 0)), none, []⟩] false) (.cond (.t 12) (.seq (.region [⟨some 13, .mov (.t 0), none, []⟩, ⟨some 14, .mov (.t 7), none, []⟩, ⟨some 15, .slice 0 (.t 13) none (some (.t 14)) none, none, [1, 0]⟩, ⟨some 16, .mov (.t 0), none, []⟩, ⟨some 17, .mov (.t 7), none, []⟩, ⟨some 18, .mov (.t 1), none, []⟩, ⟨some 19, .len true (.t 18), none, [5]⟩, ⟨some 20, .bin .add (.t 17) (.t 19), none, [5, 6, 4]⟩, ⟨some 21, .slice 0 (.t 16) (some (.t 20)) none none, none, [4, 6, 5, 7, 3]⟩, ⟨some 4, .mov (.t 15), none, [0, 1, 2]⟩, ⟨some 5, .mov (.t 21), none, [2, 1, 0, 9, 3, 7, 5, 6, 4, 8]⟩, ⟨some 6, .mov (.c (.bool true)), none, [8, 4, 6, 5, 7, 3, 9, 0, 1, 2, 10]⟩] true) .ret) .skip))) (.seq (.region [⟨some 22, .mov (.t 0), none, []⟩, ⟨some 4, .mov (.t 22), none, []⟩, ⟨some 5, .mov (.c (.str [])), none, []⟩, ⟨some 6, .mov (.c (.bool false)), none, []⟩] false) .ret)))
def a196 : AFunc := { results := [.tmp 4, .tmp 5, .tmp 6], body := c196 }
def c198 : ACode :=
  (.seq (.seq (.region [⟨some 5, .load false 1 (.t 0), none, []⟩, ⟨some 6, .call (.c (.func 150 [])) [(.t 5), (.c (.str [44]))], none, []⟩] false) (.block 0 (.range (.t 6) [7] (.region [⟨some 4, .mov (.t 7), none, []⟩] false) (.block 1 (.seq (.seq (.region [⟨some 8, .mov (.t 4), none, []⟩, ⟨some 9, .bin .eql (.t 8) (.c (.str [])), none, []⟩] false) (.cond (.t 9) (.region [⟨some 10, .call (.c (.func 94 [])) [(.c (.int .i64 2))], none, []⟩] false) .skip)) (.region [⟨some 11, .load false 1 (.t 1), none, []⟩, ⟨some 12, .load false 1 (.t 2), none, []⟩, ⟨some 13, .mov (.t 4), none, []⟩, ⟨some 14, .call (.t 12) [(.t 13)], none, [2, 1]⟩, ⟨some 15, .bslice 2 [(.t 14)], none, [1, 2, 3]⟩, ⟨some 16, .append 2 32 (.t 11) (.t 15), none, [3, 2, 1, 4, 0]⟩, ⟨none, .store 1 (.t 1) (.t 16), none, [0, 4, 1, 2, 3, 5]⟩] true)))))) (.region [⟨some 17, .load false 1 (.t 3), none, []⟩, ⟨some 18, .load false 1 (.t 1), none, []⟩, ⟨some 19, .call (.t 17) [(.t 18)], none, []⟩, ⟨some 20, .call (.c (.func 94 [])) [(.t 19)], none, []⟩] false))
def a198 : AFunc := { results := [], body := c198 }
def c199 : ACode :=
  (.seq (.seq (.region [⟨some 5, .load false 1 (.t 0), none, []⟩, ⟨some 6, .call (.c (.func 150 [])) [(.t 5), (.c (.str [44]))], none, []⟩] false) (.block 0 (.range (.t 6) [7] (.region [⟨some 4, .mov (.t 7), none, []⟩] false) (.block 1 (.seq (.seq (.region [⟨some 8, .mov (.t 4), none, []⟩, ⟨some 9, .bin .eql (.t 8) (.c (.str [])), none, []⟩] false) (.cond (.t 9) (.region [⟨some 10, .call (.c (.func 94 [])) [(.c (.int .i64 2))], none, []⟩] false) .skip)) (.region [⟨some 11, .load false 1 (.t 1), none, []⟩, ⟨some 12, .load false 1 (.t 2), none, []⟩, ⟨some 13, .mov (.t 4), none, []⟩, ⟨some 14, .call (.t 12) [(.t 13)], none, [2, 1]⟩, ⟨some 15, .bslice 3 [(.t 14)], none, [1, 2, 3]⟩, ⟨some 16, .append 3 40 (.t 11) (.t 15), none, [3, 2, 1, 4, 0]⟩, ⟨none, .store 1 (.t 1) (.t 16), none, [0, 4, 1, 2, 3, 5]⟩] true)))))) (.region [⟨some 17, .load false 1 (.t 3), none, []⟩, ⟨some 18, .load false 1 (.t 1), none, []⟩, ⟨some 19, .call (.t 17) [(.t 18)], none, []⟩, ⟨some 20, .call (.c (.func 94 [])) [(.t 19)], none, []⟩] false))
def a199 : AFunc := { results := [], body := c199 }
def c200 : ACode :=
  (.seq (.region [⟨some 4, .mov (.c (.str [])), none, []⟩, ⟨some 5, .mov (.c (.bool false)), none, []⟩] false) (.seq (.seq (.region [⟨some 6, .mov (.t 0), none, []⟩, ⟨some 7, .mov (.t 1), none, []⟩, ⟨some 8, .call (.c (.func 229 [])) [(.t 6), (.t 7)], none, []⟩, ⟨some 9, .un .not (.t 8), none, []⟩] false) (.cond (.t 9) (.seq (.region [⟨some 10, .mov (.t 0), none, []⟩, ⟨some 4, .mov (.t 10), none, []⟩, ⟨some 5, .mov (.c (.bool false)), none, []⟩] false) .ret) .skip)) (.seq (.region [⟨some 11, .mov (.t 0), none, []⟩, ⟨some 12, .mov (.t 0), none, []⟩, ⟨some 13, .len true (.t 12), none, []⟩, ⟨some 14, .mov (.t 1), none, []⟩, ⟨some 15, .len true (.t 14), none, []⟩, ⟨some 16, .bin .sub (.t 13) (.t 15), none, []⟩, ⟨some 17, .slice 0 (.t 11) none (some (.t 16)) none, none, []⟩, ⟨some 4, .mov (.t 17), none, []⟩, ⟨some 5, .mov (.c (.bool true)), none, []⟩] false) .ret)))
def a200 : AFunc := { results := [.tmp 4, .tmp 5], body := c200 }
def c223 : ACode :=
  (.seq (.region [⟨some 2, .mov (.c (.int .i32 0)), none, []⟩, ⟨some 3, .mov (.c (.int .i64 0)), none, []⟩] false) (.seq (.seq (.region [⟨some 4, .mov (.t 0), none, []⟩, ⟨some 5, .bin .neq (.t 4) (.c (.str [])), none, []⟩, ⟨some 6, .mov (.t 5), none, []⟩, ⟨some 7, .mov (.t 0), some (6, true), []⟩, ⟨some 8, .idxs (.t 7) (.c (.int .i64 0)), some (6, true), []⟩, ⟨some 9, .bin .lss (.t 8) (.c (.int .u8 128)), some (6, true), []⟩, ⟨some 10, .pick (.t 6) (.t 9) (.c (.bool false)), none, []⟩] false) (.cond (.t 10) (.seq (.region [⟨some 11, .mov (.t 0), none, []⟩, ⟨some 12, .idxs (.t 11) (.c (.int .i64 0)), none, []⟩, ⟨some 13, .conv (.int .i32) (.t 12), none, []⟩, ⟨some 2, .mov (.t 13), none, []⟩, ⟨some 3, .mov (.c (.int .i64 1)), none, []⟩] false) .ret) (.region [⟨some 15, .mov (.t 0), none, []⟩, ⟨some 16, .call (.c (.func 243 [])) [(.t 15)], none, []⟩, ⟨some 14, .mov (.t 16), none, []⟩, ⟨some 17, .extract (.t 14) 0, none, []⟩, ⟨some 18, .extract (.t 14) 1, none, []⟩, ⟨some 2, .mov (.t 17), none, []⟩, ⟨some 3, .mov (.t 18), none, []⟩] false))) .ret))
def a223 : AFunc := { results := [.tmp 2, .tmp 3], body := c223 }
def c226 : ACode :=
  (.seq (.seq (.region [⟨some 9, .load false 1 (.t 1), none, []⟩, ⟨some 10, .len true (.t 9), none, []⟩, ⟨some 11, .bin .eql (.t 10) (.c (.int .i64 0)), none, []⟩] false) (.cond (.t 11) (.seq (.block 0 (.loop (.seq (.seq (.region [⟨some 12, .load false 1 (.t 2), none, []⟩, ⟨some 13, .len true (.t 12), none, []⟩, ⟨some 14, .bin .gtr (.t 13) (.c (.int .i64 0)), none, []⟩] false) (.cond (.t 14) .skip (.exit 0))) (.block 1 (.seq (.region [⟨some 16, .load false 1 (.t 2), none, []⟩, ⟨some 17, .call (.c (.func 223 [])) [(.t 16)], none, []⟩, ⟨some 15, .mov (.t 17), none, []⟩, ⟨some 18, .extract (.t 15) 0, none, []⟩, ⟨some 19, .extract (.t 15) 1, none, []⟩, ⟨some 5, .mov (.t 18), none, []⟩, ⟨some 6, .mov (.t 19), none, []⟩] false) (.seq (.seq (.region [⟨some 20, .mov (.t 0), none, []⟩, ⟨some 21, .load false 1 (.t 2), none, []⟩, ⟨some 22, .mov (.t 6), none, []⟩, ⟨some 23, .slice 0 (.t 21) none (some (.t 22)) none, none, []⟩, ⟨some 24, .call (.t 20) [(.t 23)], none, []⟩, ⟨some 25, .un .not (.t 24), none, []⟩] false) (.cond (.t 25) .ret .skip)) (.region [⟨some 26, .load false 1 (.t 2), none, []⟩, ⟨some 27, .mov (.t 6), none, []⟩, ⟨some 28, .slice 0 (.t 26) (some (.t 27)) none none, none, []⟩, ⟨none, .store 1 (.t 2) (.t 28), none, []⟩] false))))))) .ret) .skip)) (.seq (.block 2 (.loop (.block 3 (.seq (.region [⟨some 29, .load false 1 (.t 2), none, []⟩, ⟨some 30, .load false 1 (.t 1), none, []⟩, ⟨some 31, .call (.c (.func 194 [])) [(.t 29), (.t 30)], none, []⟩, ⟨some 7, .mov (.t 31), none, []⟩] false) (.seq (.seq (.region [⟨some 32, .mov (.t 7), none, []⟩, ⟨some 33, .bin .lss (.t 32) (.c (.int .i64 0)), none, []⟩] false) (.cond (.t 33) (.exit 2) .skip)) (.seq (.region [⟨some 34, .load false 1 (.t 2), none, []⟩, ⟨some 35, .mov (.t 7), none, []⟩, ⟨some 36, .load false 1 (.t 3), none, []⟩, ⟨some 37, .bin .add (.t 35) (.t 36), none, []⟩, ⟨some 38, .slice 0 (.t 34) none (some (.t 37)) none, none, []⟩, ⟨some 8, .mov (.t 38), none, []⟩] false) (.seq (.seq (.region [⟨some 39, .mov (.t 0), none, []⟩, ⟨some 40, .mov (.t 8), none, []⟩, ⟨some 41, .call (.t 39) [(.t 40)], none, []⟩, ⟨some 42, .un .not (.t 41), none, []⟩] false) (.cond (.t 42) .ret .skip)) (.region [⟨some 43, .load false 1 (.t 2), none, []⟩, ⟨some 44, .mov (.t 7), none, []⟩, ⟨some 45, .load false 1 (.t 1), none, []⟩, ⟨some 46, .len true (.t 45), none, []⟩, ⟨some 47, .bin .add (.t 44) (.t 46), none, []⟩, ⟨some 48, .slice 0 (.t 43) (some (.t 47)) none none, none, []⟩, ⟨none, .store 1 (.t 2) (.t 48), none, []⟩] false)))))))) (.region [⟨some 49, .mov (.t 0), none, []⟩, ⟨some 50, .load false 1 (.t 2), none, []⟩, ⟨some 51, .call (.t 49) [(.t 50)], none, []⟩] false)))
def a226 : AFunc := { results := [], body := c226 }
def c229 : ACode :=
  (.seq (.region [⟨some 4, .mov (.c (.bool false)), none, []⟩] false) (.seq (.region [⟨some 5, .mov (.t 0), none, []⟩, ⟨some 6, .len true (.t 5), none, []⟩, ⟨some 7, .mov (.t 1), none, []⟩, ⟨some 8, .len true (.t 7), none, []⟩, ⟨some 9, .bin .geq (.t 6) (.t 8), none, []⟩, ⟨some 10, .mov (.t 9), none, []⟩, ⟨some 11, .mov (.t 0), some (10, true), []⟩, ⟨some 12, .mov (.t 0), some (10, true), []⟩, ⟨some 13, .len true (.t 12), some (10, true), []⟩, ⟨some 14, .mov (.t 1), some (10, true), []⟩, ⟨some 15, .len true (.t 14), some (10, true), []⟩, ⟨some 16, .bin .sub (.t 13) (.t 15), some (10, true), []⟩, ⟨some 17, .slice 0 (.t 11) (some (.t 16)) none none, some (10, true), []⟩, ⟨some 18, .mov (.t 1), some (10, true), []⟩, ⟨some 19, .bin .eql (.t 17) (.t 18), some (10, true), []⟩, ⟨some 20, .pick (.t 10) (.t 19) (.c (.bool false)), none, []⟩, ⟨some 4, .mov (.t 20), none, []⟩] false) .ret))
def a229 : AFunc := { results := [.tmp 4], body := c229 }
def muF (f : Nat) : Bool := [108, 148].contains f
def tab : List (Nat × AFunc) := [(6, a6), (30, a30), (31, a31), (32, a32), (33, a33), (34, a34), (35, a35), (36, a36), (37, a37), (38, a38), (39, a39), (43, a43), (44, a44), (59, a59), (60, a60), (71, a71), (72, a72), (73, a73), (74, a74), (75, a75), (76, a76), (77, a77), (78, a78), (79, a79), (80, a80), (81, a81), (82, a82), (83, a83), (84, a84), (85, a85), (86, a86), (87, a87), (88, a88), (89, a89), (90, a90), (92, a92), (93, a93), (94, a94), (95, a95), (96, a96), (97, a97), (98, a98), (99, a99), (100, a100), (102, a102), (103, a103), (104, a104), (105, a105), (106, a106), (107, a107), (112, a112), (113, a113), (142, a142), (143, a143), (144, a144), (145, a145), (146, a146), (148, a148), (149, a149), (150, a150), (151, a151), (152, a152), (153, a153), (154, a154), (155, a155), (156, a156), (157, a157), (158, a158), (159, a159), (164, a164), (165, a165), (166, a166), (167, a167), (191, a191), (195, a195), (196, a196), (198, a198), (199, a199), (200, a200), (223, a223), (226, a226), (229, a229)]
def tabG : Nat → Option AFunc
  | 6 => some a6
  | 30 => some a30
  | 31 => some a31
  | 32 => some a32
  | 33 => some a33
  | 34 => some a34
  | 35 => some a35
  | 36 => some a36
  | 37 => some a37
  | 38 => some a38
  | 39 => some a39
  | 43 => some a43
  | 44 => some a44
  | 59 => some a59
  | 60 => some a60
  | 71 => some a71
  | 72 => some a72
  | 73 => some a73
  | 74 => some a74
  | 75 => some a75
  | 76 => some a76
  | 77 => some a77
  | 78 => some a78
  | 79 => some a79
  | 80 => some a80
  | 81 => some a81
  | 82 => some a82
  | 83 => some a83
  | 84 => some a84
  | 85 => some a85
  | 86 => some a86
  | 87 => some a87
  | 88 => some a88
  | 89 => some a89
  | 90 => some a90
  | 92 => some a92
  | 93 => some a93
  | 94 => some a94
  | 95 => some a95
  | 96 => some a96
  | 97 => some a97
  | 98 => some a98
  | 99 => some a99
  | 100 => some a100
  | 102 => some a102
  | 103 => some a103
  | 104 => some a104
  | 105 => some a105
  | 106 => some a106
  | 107 => some a107
  | 112 => some a112
  | 113 => some a113
  | 142 => some a142
  | 143 => some a143
  | 144 => some a144
  | 145 => some a145
  | 146 => some a146
  | 148 => some a148
  | 149 => some a149
  | 150 => some a150
  | 151 => some a151
  | 152 => some a152
  | 153 => some a153
  | 154 => some a154
  | 155 => some a155
  | 156 => some a156
  | 157 => some a157
  | 158 => some a158
  | 159 => some a159
  | 164 => some a164
  | 165 => some a165
  | 166 => some a166
  | 167 => some a167
  | 191 => some a191
  | 195 => some a195
  | 196 => some a196
  | 198 => some a198
  | 199 => some a199
  | 200 => some a200
  | 223 => some a223
  | 226 => some a226
  | 229 => some a229
  | _ => none
def tabF (f : Nat) : Option AFunc := bif Nat.blt f 230 then tabG f else none
theorem tab_eq : tab.map (fun p => (Go.Proofs.Tryz.prog.funcs[p.1]?).bind (cFunc Go.Proofs.Tryz.prog (muF p.1))) = tab.map (fun p => some p.2) := by kernel_rfl
theorem tab_look : (List.range 230).map tabF = (List.range 230).map (fun f => tab.lookup f) := by kernel_rfl
theorem look_mem {α : Type} {f : Nat} {A : α} : ∀ {l : List (Nat × α)}, l.lookup f = some A → (f, A) ∈ l
  | [], h => by cases h
  | (g, B) :: l, h => by
    simp only [List.lookup_cons] at h
    split at h
    · rename_i e
      have e : f = g := by simpa using e
      cases h
      rw [e]
      exact List.mem_cons_self ..
    · exact List.mem_cons_of_mem _ (look_mem h)
theorem tab_mem {f : Nat} {A : AFunc} (h : tabF f = some A) : (f, A) ∈ tab := by
  have hlt : f < 230 := by
    cases hb : Nat.blt f 230 with
    | true => exact Nat.le_of_ble_eq_true hb
    | false => unfold tabF at h; rw [hb] at h; cases h
  have := List.map_inj_left.1 tab_look f (List.mem_range.2 hlt)
  rw [h] at this
  exact look_mem this.symm
theorem tab_fn {f : Nat} {A : AFunc} (h : tabF f = some A) : ∃ fn mu, Go.Proofs.Tryz.prog.funcs[f]? = some fn ∧ cFunc Go.Proofs.Tryz.prog mu fn = some A := by
  have := List.map_inj_left.1 tab_eq _ (tab_mem h)
  simp only [Option.bind_eq_some_iff] at this
  obtain ⟨fn, h1, h2⟩ := this
  exact ⟨fn, _, h1, h2⟩
end Go.Aa.T


set_option linter.unusedVariables false
set_option linter.unusedSimpArgs false
namespace Go.Aa
open Go.RowKit
open Classical in
noncomputable def limOpt {α : Type} (p : Nat → Option α) : Option α := if h : ∃ r n, p n = some r then some (Classical.choose h) else none
theorem limOpt_iff {α : Type} {p : Nat → Option α} (hm : ∀ n m r, n ≤ m → p n = some r → p m = some r) {r : α} : limOpt p = some r ↔ ∃ n, p n = some r := by
  unfold limOpt
  constructor
  · intro h
    split at h
    · rename_i hex
      simp only [Option.some.injEq] at h
      rw [← h]
      exact Classical.choose_spec hex
    · cases h
  · rintro ⟨n, h⟩
    have hex : ∃ r n, p n = some r := ⟨r, n, h⟩
    rw [dif_pos hex]
    obtain ⟨m, hs⟩ := Classical.choose_spec hex
    have h1 := hm n (max n m) _ (Nat.le_max_left _ _) h
    have h2 := hm m (max n m) _ (Nat.le_max_right _ _) hs
    rw [h1] at h2
    exact h2.symm
noncomputable def lim (cfg : Cfg) : CallF := fun k xs H => limOpt fun n => callN cfg n k xs H
theorem lim_iff {cfg : Cfg} {k : Key} {xs : List AV} {H : Heap} {r : ARes × Heap} : lim cfg k xs H = some r ↔ ∃ n, callN cfg n k xs H = some r :=
  limOpt_iff fun n m r hnm h => callN_le cfg hnm _ _ _ _ h
theorem le_lim (cfg : Cfg) (n : Nat) : Le (callN cfg n) (lim cfg) := fun k xs H r h => lim_iff.2 ⟨n, h⟩
noncomputable def runL (cfg : Cfg) (A : AFunc) (k : List AIt) (T : Env) (H : Heap) : Option (ARes × Heap) := limOpt fun n => run (lim cfg) A n k T H
theorem runL_iff {cfg : Cfg} {A : AFunc} {k : List AIt} {T : Env} {H : Heap} {r : ARes × Heap} : runL cfg A k T H = some r ↔ ∃ n, run (lim cfg) A n k T H = some r :=
  limOpt_iff fun n m r hnm h => run_mono (.refl _) A n m k T H r hnm h

section
variable {cfg : Cfg}
theorem callE_lim {g : FuncId} {xs : List AV} {H : Heap} {out : Out} (h : callE (lim cfg) g xs H = some out) : ∃ n, callE (callN cfg n) g xs H = some out := by
  unfold callE at h
  split at h
  · rename_i v H' hc; obtain ⟨n, hn⟩ := lim_iff.1 hc; exact ⟨n, by unfold callE; rw [hn]; exact h⟩
  · rename_i v H' hc; obtain ⟨n, hn⟩ := lim_iff.1 hc; exact ⟨n, by unfold callE; rw [hn]; exact h⟩
  · cases h
theorem callV_lim {fv : AV} {xs : List AV} {H : Heap} {out : Out} (h : callV (lim cfg) fv xs H = some out) : ∃ n, callV (callN cfg n) fv xs H = some out := by
  unfold callV at h
  split at h
  · rename_i g caps
    split at h
    · rename_i hd
      split at h
      · rename_i v _ hc
        obtain ⟨n, hn⟩ := lim_iff.1 hc
        split at h
        · rename_i hdd; exact ⟨n, by unfold callV; simp only [hd, if_true, hn, hdd]; exact h⟩
        · rename_i hdd
          obtain ⟨m, hm⟩ := callE_lim h
          refine ⟨max n m, ?_⟩
          unfold callV
          simp only [hd, if_true, callN_le cfg (Nat.le_max_left n m) _ _ _ _ hn]
          rw [hdd]
          exact callE_mono (callN_le cfg (Nat.le_max_right n m)) hm
      · rename_i v _ hc
        obtain ⟨n, hn⟩ := lim_iff.1 hc
        exact ⟨n, by unfold callV; simp only [hd, if_true, hn]; exact h⟩
      · cases h
    · rename_i hd
      obtain ⟨m, hm⟩ := callE_lim h
      exact ⟨m, by unfold callV; simp only [hd, if_false]; exact hm⟩
  · split at h
    · rename_i v H' hc; obtain ⟨n, hn⟩ := lim_iff.1 hc; exact ⟨n, by unfold callV; simp only [hn]; exact h⟩
    · rename_i v H' hc; obtain ⟨n, hn⟩ := lim_iff.1 hc; exact ⟨n, by unfold callV; simp only [hn]; exact h⟩
    · cases h
  · cases h
theorem callW_lim {fv : AV} {xs : List AV} {H : Heap} {out : Out} (h : callW (lim cfg) fv xs H = some out) : ∃ n, callW (callN cfg n) fv xs H = some out := by
  unfold callW at h
  split at h
  · rename_i g caps
    split at h
    · rename_i hd
      split at h
      · rename_i v _ hc
        obtain ⟨n, hn⟩ := lim_iff.1 hc
        split at h
        · rename_i hdd; exact ⟨n, by unfold callW; simp only [hd, if_true, hn, hdd]; exact h⟩
        · rename_i hdd
          obtain ⟨m, hm⟩ := callE_lim h
          refine ⟨max n m, ?_⟩
          unfold callW
          simp only [hd, if_true, callN_le cfg (Nat.le_max_left n m) _ _ _ _ hn]
          rw [if_neg hdd]
          exact callE_mono (callN_le cfg (Nat.le_max_right n m)) hm
      · rename_i v _ hc
        obtain ⟨n, hn⟩ := lim_iff.1 hc
        exact ⟨n, by unfold callW; simp only [hd, if_true, hn]; exact h⟩
      · cases h
    · rename_i hd
      obtain ⟨m, hm⟩ := callE_lim h
      exact ⟨m, by unfold callW; simp only [hd, if_false]; exact hm⟩
  · cases h
theorem opStep_lim {op : AOp} {T : Env} {H : Heap} {out : Out} (h : opStep (lim cfg) op T H = some out) : ∃ n, opStep (callN cfg n) op T H = some out := by
  cases op with
  | call f xs => exact callV_lim h
  | callM f xs => exact callW_lim h
  | _ => exact ⟨0, h⟩
theorem runOps_lim : ∀ {ops : List AOper} {T : Env} {H : Heap} {out : OutE}, runOps (lim cfg) ops T H = some out → ∃ n, runOps (callN cfg n) ops T H = some out
  | [], T, H, out, h => ⟨0, h⟩
  | o :: ops, T, H, out, h => by
    simp only [runOps] at h
    split at h
    · rename_i hw
      split at h
      · rename_i v H' ho
        obtain ⟨n, hn⟩ := opStep_lim ho
        obtain ⟨m, hm⟩ := runOps_lim h
        refine ⟨max n m, ?_⟩
        simp only [runOps, hw, opStep_mono (callN_le cfg (Nat.le_max_left n m)) hn]
        exact runOps_mono (callN_le cfg (Nat.le_max_right n m)) hm
      · rename_i v H' ho
        obtain ⟨n, hn⟩ := opStep_lim ho
        exact ⟨n, by simp only [runOps, hw, hn]; exact h⟩
      · cases h
    · rename_i hw
      obtain ⟨m, hm⟩ := runOps_lim h
      exact ⟨m, by simp only [runOps, hw]; exact hm⟩
    · cases h
theorem callD_lim {fv : AV} {xs : List AV} {H : Heap} {out : Out} (h : callD (lim cfg) fv xs H = some out) : ∃ n, callD (callN cfg n) fv xs H = some out := by
  unfold callD at h
  split at h
  · split at h
    · rename_i hd
      split at h
      · rename_i v _ hc; obtain ⟨n, hn⟩ := lim_iff.1 hc; exact ⟨n, by unfold callD; simp only [hd, if_true, hn]; exact h⟩
      · rename_i v _ hc; obtain ⟨n, hn⟩ := lim_iff.1 hc; exact ⟨n, by unfold callD; simp only [hd, if_true, hn]; exact h⟩
      · cases h
    · rename_i hd
      obtain ⟨v, h1, rfl⟩ := calm_some h
      obtain ⟨n, hn⟩ := callE_lim h1
      exact ⟨n, by unfold callD; simp only [hd, if_false, hn]; exact calm_val⟩
  · cases h
theorem callDW_lim {fv : AV} {xs : List AV} {H : Heap} {out : Out} (h : callDW (lim cfg) fv xs H = some out) : ∃ n, callDW (callN cfg n) fv xs H = some out := by
  unfold callDW at h
  split at h
  · split at h
    · rename_i hd
      split at h
      · rename_i v _ hc; obtain ⟨n, hn⟩ := lim_iff.1 hc; exact ⟨n, by unfold callDW; simp only [hd, if_true, hn]; exact h⟩
      · rename_i v _ hc; obtain ⟨n, hn⟩ := lim_iff.1 hc; exact ⟨n, by unfold callDW; simp only [hd, if_true, hn]; exact h⟩
      · cases h
    · rename_i hd
      obtain ⟨v, h1, rfl⟩ := calm_some h
      obtain ⟨n, hn⟩ := callE_lim h1
      exact ⟨n, by unfold callDW; simp only [hd, if_false, hn]; exact calm_val⟩
  · cases h
theorem opStepD_lim {op : AOp} {T : Env} {H : Heap} {out : Out} (h : opStepD (lim cfg) op T H = some out) : ∃ n, opStepD (callN cfg n) op T H = some out := by
  cases op with
  | call f xs => exact callD_lim h
  | callM f xs => exact callDW_lim h
  | _ => exact ⟨0, h⟩
theorem runD_lim : ∀ {ops : List AOper} {i : Nat} {p : Option (Nat × AV)} {T : Env} {H : Heap} {out : OutE}, runD (lim cfg) i ops p T H = some out → ∃ n, runD (callN cfg n) i ops p T H = some out
  | [], i, none, T, H, out, h => ⟨0, h⟩
  | [], i, some _, T, H, out, h => ⟨0, h⟩
  | o :: ops, i, none, T, H, out, h => by
    simp only [runD] at h
    split at h
    · rename_i hw
      split at h
      · rename_i v H' ho
        obtain ⟨n, hn⟩ := opStepD_lim ho
        obtain ⟨m, hm⟩ := runD_lim h
        refine ⟨max n m, ?_⟩
        simp only [runD, hw, opStepD_mono (callN_le cfg (Nat.le_max_left n m)) hn]
        exact runD_mono (callN_le cfg (Nat.le_max_right n m)) hm
      · rename_i v H' ho
        obtain ⟨n, hn⟩ := opStepD_lim ho
        obtain ⟨m, hm⟩ := runD_lim h
        refine ⟨max n m, ?_⟩
        simp only [runD, hw, opStepD_mono (callN_le cfg (Nat.le_max_left n m)) hn]
        exact runD_mono (callN_le cfg (Nat.le_max_right n m)) hm
      · cases h
    · rename_i hw
      obtain ⟨m, hm⟩ := runD_lim h
      exact ⟨m, by simp only [runD, hw]; exact hm⟩
    · cases h
  | o :: ops, i, some (p, x), T, H, out, h => by
    simp only [runD] at h
    split at h
    · rename_i hd
      obtain ⟨m, hm⟩ := runD_lim h
      exact ⟨m, by simp only [runD, hd, if_true]; exact hm⟩
    · rename_i hd
      split at h
      · rename_i hw
        split at h
        · rename_i v H' ho
          obtain ⟨n, hn⟩ := opStepD_lim ho
          obtain ⟨m, hm⟩ := runD_lim h
          refine ⟨max n m, ?_⟩
          simp only [runD, hd, if_false, hw, opStepD_mono (callN_le cfg (Nat.le_max_left n m)) hn]
          exact runD_mono (callN_le cfg (Nat.le_max_right n m)) hm
        · cases h
      · rename_i hw
        obtain ⟨m, hm⟩ := runD_lim h
        exact ⟨m, by simp only [runD, hd, if_false, hw]; exact hm⟩
      · cases h
theorem regionA_lim {d : Bool} {ops : List AOper} {T : Env} {H : Heap} {out : OutE} (h : regionA (lim cfg) d ops T H = some out) : ∃ n, regionA (callN cfg n) d ops T H = some out := by
  cases d with
  | true => exact runD_lim h
  | false => exact runOps_lim h
theorem rangeA_lim {fv A T ps a b H r} (h : rangeA (lim cfg) fv A T ps a b H = some r) : ∃ n, rangeA (callN cfg n) fv A T ps a b H = some r := by
  obtain ⟨g, caps, rfl, ⟨v, H3, H4, h1, h2, rfl⟩ | ⟨v, H3, H4, h1, h2, h3, rfl⟩⟩ := rangeA_inv h
  · obtain ⟨n, hn⟩ := callV_lim h1; exact ⟨n, rangeA_val hn h2⟩
  · obtain ⟨n, hn⟩ := callV_lim h1; exact ⟨n, rangeA_pan hn h2 h3⟩
theorem run_lim {A : AFunc} : ∀ (n : Nat) (k : List AIt) (T : Env) (H : Heap) (r : ARes × Heap), run (lim cfg) A n k T H = some r → ∃ m, run (callN cfg m) A m k T H = some r := by
  intro n
  induction n with
  | zero => intro k T H r e; cases k <;> simp [run] at e
  | succ n ih =>
    intro k T H r e
    -- one step, and what is behind it
    have step : ∀ k' T' H', run (lim cfg) A n k' T' H' = some r → (∀ m, run (callN cfg m) A m k' T' H' = some r → ∃ j, m ≤ j ∧ run (callN cfg j) A (j + 1) k T H = some r) → ∃ m, run (callN cfg m) A m k T H = some r := by
      intro k' T' H' h1 h2
      obtain ⟨m, hm⟩ := ih _ _ _ _ h1
      obtain ⟨j, _, hj⟩ := h2 m hm
      exact ⟨j + 1, run_mono (callN_mono cfg j) A _ _ _ _ _ _ (Nat.le_refl _) hj⟩
    cases k with
    | nil => exact ⟨1, e⟩
    | cons it k =>
      cases it with
      | blk id => exact step _ _ _ e fun m hm => ⟨m, Nat.le_refl _, hm⟩
      | lp b => exact step _ _ _ e fun m hm => ⟨m, Nat.le_refl _, hm⟩
      | beg l =>
        simp only [run] at e
        split at e
        · rename_i r0 hr0
          split at e
          · cases e
          · rename_i hb
            exact step _ _ _ e fun m hm => ⟨m, Nat.le_refl _, by simp only [run, hr0, hb, Bool.false_eq_true, if_false]; exact hm⟩
        · cases e
      | c c0 =>
        cases c0 with
        | skip => exact step _ _ _ e fun m hm => ⟨m, Nat.le_refl _, hm⟩
        | seq a b => exact step _ _ _ e fun m hm => ⟨m, Nat.le_refl _, hm⟩
        | cond x a b =>
          simp only [run] at e
          split at e
          · rename_i t ht
            exact step _ _ _ e fun m hm => ⟨m, Nat.le_refl _, by simp only [run, ht]; exact hm⟩
          · cases e
        | block id b => exact step _ _ _ e fun m hm => ⟨m, Nat.le_refl _, hm⟩
        | loop b => exact step _ _ _ e fun m hm => ⟨m, Nat.le_refl _, hm⟩
        | exit id =>
          simp only [run] at e
          split at e
          · rename_i k' hk'
            exact step _ _ _ e fun m hm => ⟨m, Nat.le_refl _, by simp only [run, hk']; exact hm⟩
          · cases e
        | ret => exact ⟨1, e⟩
        | region ops d =>
          simp only [run] at e
          split at e
          · rename_i T' H' hr
            obtain ⟨q, hq⟩ := regionA_lim hr
            refine step _ _ _ e fun m hm => ⟨max m q, Nat.le_max_left _ _, ?_⟩
            simp only [run, regionA_mono (callN_le cfg (Nat.le_max_right m q)) hq]
            exact run_mono (callN_le cfg (Nat.le_max_left m q)) A _ _ _ _ _ _ (Nat.le_max_left m q) hm
          · rename_i v H' hr
            obtain ⟨q, hq⟩ := regionA_lim hr
            refine ⟨q + 1, ?_⟩
            simp only [run, regionA_mono (callN_mono cfg q) hq]
            exact e
          · cases e
        | range f ps a b =>
          simp only [run] at e
          split at e
          · cases e
          · rename_i hro
            split at e
            · rename_i H' hr
              obtain ⟨q, hq⟩ := rangeA_lim hr
              refine step _ _ _ e fun m hm => ⟨max m q, Nat.le_max_left _ _, ?_⟩
              simp only [run, hro, rangeA_mono (callN_le cfg (Nat.le_max_right m q)) hq]
              exact run_mono (callN_le cfg (Nat.le_max_left m q)) A _ _ _ _ _ _ (Nat.le_max_left m q) hm
            · rename_i v H' hr
              obtain ⟨q, hq⟩ := rangeA_lim hr
              refine ⟨q + 1, ?_⟩
              simp only [run, hro, rangeA_mono (callN_mono cfg q) hq]
              exact e
            · cases e

theorem opt_ext {α : Type} {x y : Option α} (h : ∀ r, x = some r ↔ y = some r) : x = y := by
  cases x with
  | some a => exact ((h a).1 rfl).symm
  | none =>
    cases y with
    | none => rfl
    | some b => exact (h b).2 rfl
theorem lim_fn {f : FuncId} {A : AFunc} (ht : cfg.tryF f = false) (hx : cfg.ext f = none) (hA : cfg.F f = some A) (xs : List AV) (H : Heap) : lim cfg (.fn f) xs H = runL cfg A [.c A.body] (initEnv xs) H := by
  refine opt_ext fun r => ?_
  rw [lim_iff, runL_iff]
  constructor
  · rintro ⟨n, h⟩
    cases n with
    | zero => simp [callN] at h
    | succ n =>
      rw [callN] at h
      simp only [ht, Bool.false_eq_true, if_false, hx, hA] at h
      exact ⟨n, run_mono (le_lim cfg n) A _ _ _ _ _ _ (Nat.le_refl _) h⟩
  · rintro ⟨n, h⟩
    obtain ⟨m, hm⟩ := run_lim _ _ _ _ _ h
    refine ⟨m + 1, ?_⟩
    rw [callN]
    simp only [ht, Bool.false_eq_true, if_false, hx, hA]
    exact hm
theorem lim_ext {f : FuncId} {g : List AV → Heap → Option (AV × Heap)} (ht : cfg.tryF f = false) (hx : cfg.ext f = some g) (xs : List AV) (H : Heap) : lim cfg (.fn f) xs H = (g xs H).map fun r => (.ret r.1, r.2) := by
  refine opt_ext fun r => ?_
  rw [lim_iff]
  constructor
  · rintro ⟨n, h⟩
    cases n with
    | zero => simp [callN] at h
    | succ n =>
      rw [callN] at h
      simp only [ht, Bool.false_eq_true, if_false, hx] at h
      cases hg : g xs H with
      | none => rw [hg] at h; cases h
      | some x => rw [hg] at h; simpa using h
  · intro h
    refine ⟨1, ?_⟩
    rw [callN]
    simp only [ht, Bool.false_eq_true, if_false, hx]
    cases hg : g xs H with
    | none => rw [hg] at h; cases h
    | some x => rw [hg] at h; simpa using h
theorem lim_of {n : Nat} {k : Key} {xs : List AV} {H : Heap} {r : ARes × Heap} (h : callN cfg n k xs H = some r) : lim cfg k xs H = some r := lim_iff.2 ⟨n, h⟩
variable {A : AFunc} {k : List AIt} {T : Env} {H : Heap}
theorem runL_step {it : AIt} {k' : List AIt} {T' : Env} {H' : Heap} (h : ∀ n, run (lim cfg) A (n + 1) (it :: k) T H = run (lim cfg) A n k' T' H') : runL cfg A (it :: k) T H = runL cfg A k' T' H' := by
  refine opt_ext fun r => ?_
  rw [runL_iff, runL_iff]
  constructor
  · rintro ⟨n, e⟩
    cases n with
    | zero => simp [run] at e
    | succ n => exact ⟨n, by rw [← h]; exact e⟩
  · rintro ⟨n, e⟩
    exact ⟨n + 1, by rw [h]; exact e⟩
theorem runL_now {ks : List AIt} {x : Option (ARes × Heap)} (h : ∀ n, run (lim cfg) A (n + 1) ks T H = x) : runL cfg A ks T H = x := by
  refine opt_ext fun r => ?_
  rw [runL_iff]
  constructor
  · rintro ⟨n, e⟩
    cases n with
    | zero => cases ks <;> simp [run] at e
    | succ n => rw [h] at e; exact e
  · intro e; exact ⟨1, by rw [h]; exact e⟩
theorem runL_nil : runL cfg A [] T H = retA A T H := runL_now fun n => rfl
theorem runL_blk {id : Nat} : runL cfg A (.blk id :: k) T H = runL cfg A k T H := runL_step fun n => rfl
theorem runL_lp {b : ACode} : runL cfg A (.lp b :: k) T H = runL cfg A (.c b :: .lp b :: k) T H := runL_step fun n => rfl
theorem runL_skip : runL cfg A (.c .skip :: k) T H = runL cfg A k T H := runL_step fun n => rfl
theorem runL_seq {a b : ACode} : runL cfg A (.c (.seq a b) :: k) T H = runL cfg A (.c a :: .c b :: k) T H := runL_step fun n => rfl
theorem runL_block {id : Nat} {b : ACode} : runL cfg A (.c (.block id b) :: k) T H = runL cfg A (.c b :: .blk id :: k) T H := runL_step fun n => rfl
theorem runL_loop {b : ACode} : runL cfg A (.c (.loop b) :: k) T H = runL cfg A (.lp b :: k) T H := by
  rw [runL_lp]; exact runL_step fun n => rfl
theorem runL_ret : runL cfg A (.c .ret :: k) T H = if A.round then none else retA A T H := runL_now fun n => rfl
theorem runL_cond {x : Opd} {a b : ACode} : runL cfg A (.c (.cond x a b) :: k) T H = match ev T x with | .bool t => runL cfg A (.c (if t then a else b) :: k) T H | _ => none := by
  cases hx : ev T x with
  | bool t => exact runL_step fun n => by simp only [run, hx]
  | _ => exact runL_now fun n => by simp only [run, hx]
theorem runL_exit {id : Nat} : runL cfg A (.c (.exit id) :: k) T H = match exitA id k with | some k' => runL cfg A k' T H | none => none := by
  cases hx : exitA id k with
  | some k' => exact runL_step fun n => by simp only [run, hx]
  | none => exact runL_now fun n => by simp only [run, hx]
theorem runL_region {ops : List AOper} {d : Bool} : runL cfg A (.c (.region ops d) :: k) T H = match regionA (lim cfg) d ops T H with | some (.env T' H') => runL cfg A k T' H' | some (.pan v H') => some (.pan v, H') | none => none := by
  cases hx : regionA (lim cfg) d ops T H with
  | none => exact runL_now fun n => by simp only [run, hx]
  | some o =>
    cases o with
    | env T' H' => exact runL_step fun n => by simp only [run, hx]
    | pan v H' => exact runL_now fun n => by simp only [run, hx]
end

theorem callV_func {call : CallF} {g : FuncId} {caps args : List AV} {H : Heap} : callV call (.func g caps) args H = bif (args.all isData && caps.all data0) then (match call (.fn g) (args ++ caps) Heap.nil with
    | some (.ret v, H1) => match dataOut H1 v with
      | some u => some (.val u H)
      | none => callE call g (args ++ caps) H
    | some (.pan v, _) => bif isData v then some (.pan v H) else none
    | none => none) else callE call g (args ++ caps) H := by
  simp only [callV]
  cases (args.all isData && caps.all data0) with
  | false => rfl
  | true =>
    simp only [if_true, cond_true]
    cases call (.fn g) (args ++ caps) Heap.nil with
    | none => rfl
    | some r =>
      obtain ⟨r1, r2⟩ := r
      cases r1 with
      | ret v => rfl
      | pan v => simp only; cases isData v <;> rfl
theorem callD_func {call : CallF} {g : FuncId} {caps args : List AV} {H : Heap} : callD call (.func g caps) args H = bif (args.all isData && caps.all data0) then (match call (.fn g) (args ++ caps) Heap.nil with
    | some (.ret v, H1) => match dataOut H1 v with
      | some u => some (.val u H)
      | none => none
    | some (.pan v, _) => bif isData v then some (.pan v H) else none
    | none => none) else calm H (callE call g (args ++ caps) H) := by
  simp only [callD]
  cases (args.all isData && caps.all data0) with
  | false => rfl
  | true =>
    simp only [if_true, cond_true]
    cases call (.fn g) (args ++ caps) Heap.nil with
    | none => rfl
    | some r =>
      obtain ⟨r1, r2⟩ := r
      cases r1 with
      | ret v => rfl
      | pan v => simp only; cases isData v <;> rfl
theorem dataOut_of {H : Heap} {v w : AV} (h : shutA v = w ∧ isData w = true) : dataOut H v = some w := by
  unfold dataOut
  rw [h.1, if_pos h.2]

end Go.Aa

set_option linter.unusedVariables false
set_option linter.unusedSimpArgs false
namespace Go.Aa
def worth (r : Nat) : Nat := if r < 4503599627370496 then r else (4503599627370496 + r % 4503599627370496) * 2 ^ (r / 4503599627370496 - 1)
inductive Reads (b : Nat) : Prop
  | number (m k : Nat) (h : FloatKind.f64.format.read b = .number (decide (b / 9223372036854775808 % 2 = 1)) m (-1074 + (k : Int))) (hw : m * 2 ^ k = worth (b % 9223372036854775808)) (hlt : b % 9223372036854775808 < 9218868437227405312)
  | inf (h : FloatKind.f64.format.read b = .infinity (decide (b / 9223372036854775808 % 2 = 1))) (he : b % 9223372036854775808 = 9218868437227405312)
  | nan (s : Bool) (x : Nat) (h : FloatKind.f64.format.read b = .nan s x) (hgt : 9218868437227405312 < b % 9223372036854775808)
theorem reads (b : Nat) : Reads b := by
  have e1 : FloatKind.f64.format.signWeight = 9223372036854775808 := rfl
  have e2 : FloatKind.f64.format.binade = 4503599627370496 := rfl
  have e3 : FloatKind.f64.format.infRung = 9218868437227405312 := rfl
  have e4 : FloatKind.f64.format.leastPlace = -1074 := rfl
  have es : (b / 9223372036854775808 % 2 == 1) = decide (b / 9223372036854775808 % 2 = 1) := by
    by_cases h : b / 9223372036854775808 % 2 = 1 <;> simp [h]
  by_cases h1 : b % 9223372036854775808 < 4503599627370496
  · refine .number (b % 9223372036854775808) 0 ?_ ?_ (by omega)
    · unfold Ieee.Format.read
      simp only [e1, e2, e3, e4, es]
      rw [if_pos h1]
      simp
    · unfold worth; rw [if_pos h1]; simp
  · by_cases h2 : b % 9223372036854775808 < 9218868437227405312
    · refine .number (4503599627370496 + b % 9223372036854775808 % 4503599627370496) (b % 9223372036854775808 / 4503599627370496 - 1) ?_ ?_ h2
      · unfold Ieee.Format.read
        simp only [e1, e2, e3, e4, es]
        rw [if_neg h1, if_pos h2]
      · unfold worth; rw [if_neg h1]
    · by_cases h3 : b % 9223372036854775808 = 9218868437227405312
      · refine .inf ?_ h3
        unfold Ieee.Format.read
        simp only [e1, e2, e3, e4, es]
        rw [if_neg h1, if_neg h2, if_pos h3]
      · refine .nan (decide (b / 9223372036854775808 % 2 = 1)) (b % 9223372036854775808 - 9218868437227405312) ?_ (by omega)
        unfold Ieee.Format.read
        simp only [e1, e2, e3, e4, es]
        rw [if_neg h1, if_neg h2, if_neg h3]
end Go.Aa

set_option linter.unusedVariables false
set_option linter.unusedSimpArgs false
namespace Go.Aa
inductive Sc where
  | ret (v : AV)
  | dec (b : Bool)
  | op (v : AV) (H : Heap)
  | cut
theorem upd_self {T : Env} {g : Nat} {v : AV} (h : T g = v) : upd T g v = T := by
  funext i
  rw [upd_eq]
  split
  · rename_i e; rw [e, h]
  · rfl
end Go.Aa

set_option linter.unusedVariables false
set_option linter.unusedSimpArgs false
namespace Go.Aa

def cl (T : Env) (x : Opd) : Opd := .c (ev T x)
def clOp (T : Env) : AOp → AOp
  | .mov x => .mov (cl T x)
  | .pick c a b => .pick (cl T c) (cl T a) (cl T b)
  | .box x => .box (cl T x)
  | .build z ps => .build z (ps.map fun p => (p.1, p.2.1, cl T p.2.2))
  | .bslice es xs => .bslice es (xs.map (cl T))
  | .bsliceM es xs => .bsliceM es (xs.map (cl T))
  | .makeM es b z x => .makeM es b z (cl T x)
  | .clearM z x => .clearM z (cl T x)
  | .callM f az => .callM (cl T f) (az.map (cl T))
  | .appendM es b x y => .appendM es b (cl T x) (cl T y)
  | .load a n x => .load a n (cl T x)
  | .store n x v => .store n (cl T x) (cl T v)
  | .nilchk x => .nilchk (cl T x)
  | .bin o x y => .bin o (cl T x) (cl T y)
  | .eqst g ks x y => .eqst g ks (cl T x) (cl T y)
  | .eqb g x y => .eqb g (cl T x) (cl T y)
  | .eqnil g k x => .eqnil g k (cl T x)
  | .un o x => .un o (cl T x)
  | .conv c x => .conv c (cl T x)
  | .mkiface t x => .mkiface t (cl T x)
  | .mkfunc f caps => .mkfunc f (caps.map (cl T))
  | .slice es x lo hi mx => .slice es (cl T x) (lo.map (cl T)) (hi.map (cl T)) (mx.map (cl T))
  | .fld a b x => .fld a b (cl T x)
  | .fldv g a b x => .fldv g a b (cl T x)
  | .idx es x i => .idx es (cl T x) (cl T i)
  | .idxs x i => .idxs (cl T x) (cl T i)
  | .extract x i => .extract (cl T x) i
  | .call f az => .call (cl T f) (az.map (cl T))
  | .len s x => .len s (cl T x)
  | .append es b x y => .append es b (cl T x) (cl T y)
  | .mm m x y => .mm m (cl T x) (cl T y)
  | .panic x => .panic (cl T x)
theorem ev_cl (T T' : Env) (x : Opd) : ev T' (cl T x) = ev T x := rfl
theorem evs_cl (T T' : Env) (xs : List Opd) : (xs.map (cl T)).map (ev T') = xs.map (ev T) := by
  rw [List.map_map]; exact List.map_congr_left fun a _ => rfl
theorem evo_cl (T T' : Env) (x : Option Opd) : (x.map (cl T)).map (ev T') = x.map (ev T) := by cases x <;> rfl
theorem cl_pure (T T' : Env) (op : AOp) : pureOp (clOp T op) T' = pureOp op T := by
  cases op with
  | build z ps => simp only [clOp, pureOp, List.map_map, Function.comp_def, ev_cl]
  | bslice es xs => simp only [clOp, pureOp, List.map_map, Function.comp_def, ev_cl]
  | mkfunc f caps => simp only [clOp, pureOp, evs_cl]
  | slice es x lo hi mx => simp only [clOp, pureOp, evo_cl, ev_cl]
  | _ => rfl
theorem cl_step (call : CallF) (T T' : Env) (op : AOp) (H : Heap) : opStep call (clOp T op) T' H = opStep call op T H := by
  cases op with
  | build z ps => exact congrArg (fun x => match x with | some v => some (Out.val v H) | none => none) (cl_pure T T' (.build z ps))
  | bslice es xs => exact congrArg (fun x => match x with | some v => some (Out.val v H) | none => none) (cl_pure T T' (.bslice es xs))
  | mkfunc f caps => exact congrArg (fun x => match x with | some v => some (Out.val v H) | none => none) (cl_pure T T' (.mkfunc f caps))
  | slice es x lo hi mx => exact congrArg (fun x => match x with | some v => some (Out.val v H) | none => none) (cl_pure T T' (.slice es x lo hi mx))
  | call f az =>
    simp only [clOp, opStep, ev_cl, List.map_map]
    congr 1
  | callM f az =>
    simp only [clOp, opStep, ev_cl, List.map_map]
    congr 1
  | bsliceM es xs =>
    simp only [clOp, opStep, List.map_map]
    rfl
  | _ => rfl
theorem cl_stepD (call : CallF) (T T' : Env) (op : AOp) (H : Heap) : opStepD call (clOp T op) T' H = opStepD call op T H := by
  cases op with
  | call f az =>
    simp only [clOp, opStepD, ev_cl, List.map_map]
    congr 1
  | callM f az =>
    simp only [clOp, opStepD, ev_cl, List.map_map]
    congr 1
  | bsliceM es xs => exact cl_step call T T' (.bsliceM es xs) H
  | mov x => exact cl_step call T T' (.mov x) H
  | pick a b c => exact cl_step call T T' (.pick a b c) H
  | box x => exact cl_step call T T' (.box x) H
  | build z ps => exact cl_step call T T' (.build z ps) H
  | bslice es xs => exact cl_step call T T' (.bslice es xs) H
  | mkfunc f caps => exact cl_step call T T' (.mkfunc f caps) H
  | slice es x lo hi mx => exact cl_step call T T' (.slice es x lo hi mx) H
  | _ => rfl
def binNo : BinOp → Nat
  | .add => 1 | .sub => 2 | .mul => 3 | .quo => 4 | .rem => 5 | .eql => 6 | .neq => 7 | .lss => 8 | .leq => 9 | .gtr => 10 | .geq => 11 | _ => 12
def tag : AOp → Nat
  | .mov _ => 1 | .pick .. => 2 | .box _ => 3 | .build .. => 4 | .bslice .. => 5 | .load .. => 6 | .store .. => 7 | .nilchk _ => 8 | .eqst .. => 9 | .eqb .. => 10 | .eqnil .. => 11
  | .un .. => 12 | .conv .. => 13 | .mkiface .. => 14 | .mkfunc .. => 15 | .slice .. => 16 | .fld .. => 17 | .fldv .. => 18 | .idx .. => 19 | .idxs .. => 20 | .extract .. => 21
  | .call .. => 22 | .len .. => 23 | .append .. => 24 | .mm .. => 25 | .panic _ => 26
  | .bsliceM .. => 27 | .appendM .. => 28 | .makeM .. => 29 | .clearM .. => 30 | .callM .. => 31
  | .bin o _ _ => 100 + binNo o
def isMust (o : AOp) : Bool := match o with
  | .call .. | .idx .. | .idxs .. | .slice .. | .append .. | .panic _ | .appendM .. | .makeM .. | .clearM .. | .callM .. => true
  | _ => false
def isCall (o : AOp) : Bool := match o with
  | .call .. => true
  | .callM .. => true
  | _ => false
theorem stepD_of {call : CallF} {o : AOp} (h : isCall o = false) (T : Env) (H : Heap) : opStepD call o T H = opStep call o T H := by
  cases o <;> first | rfl | cases h

def Has (T : Env) : List (Nat × AV) → Prop
  | [] => True
  | (i, v) :: r => T i = v ∧ Has T r
def updL (T : Env) : List (Nat × AV) → Env
  | [] => T
  | (i, v) :: r => upd (updL T r) i v
theorem updL_self {T : Env} : ∀ {vs : List (Nat × AV)}, Has T vs → updL T vs = T
  | [], _ => rfl
  | (i, v) :: r, h => by rw [updL, updL_self h.2]; exact upd_self h.1
theorem has_of {T : Env} : ∀ {vs : List (Nat × AV)}, vs.map (fun p => T p.1) = vs.map (fun p => p.2) → Has T vs
  | [], _ => trivial
  | (i, v) :: r, h => by
    simp only [List.map_cons, List.cons.injEq] at h
    exact ⟨h.1, has_of h.2⟩

inductive ScrQ (cfg : Cfg) (A : AFunc) (R : ARes × Heap → Prop) where
  | fin (r : ARes × Heap) (h : R r)
  | dec (b p : Bool) (h : p = b) (s : ScrQ cfg A R)
  | op (o : AOp) (v : AV) (h : ∀ T H, opStepD (lim cfg) o T H = some (.val v H)) (s : ScrQ cfg A R)
  | eff (o : AOp) (H : Heap) (v : AV) (H' : Heap) (h : ∀ T, opStep (lim cfg) o T H = some (.val v H')) (s : ScrQ cfg A R)
  | pan (o : AOp) (H : Heap) (v : AV) (H' : Heap) (h : ∀ T, opStepD (lim cfg) o T H = some (.pan v H')) (hq : R (.pan v, H'))
  | panE (o : AOp) (H : Heap) (v : AV) (H' : Heap) (h : ∀ T, opStep (lim cfg) o T H = some (.pan v H')) (hq : R (.pan v, H'))
  | cutQ (k : List AIt) (vs : List (Nat × AV)) (H : Heap) (h : ∀ T, Has T vs → ∃ r, runL cfg A k T H = some r ∧ R r)
  | split (p : Prop) (s1 : p → ScrQ cfg A R) (s2 : ¬ p → ScrQ cfg A R)
  | effS (o : AOp) (H : Heap) (v : AV) (h : ∀ T, opStepD (lim cfg) o T H = some (.val v H)) (s : ScrQ cfg A R)
abbrev Scr (cfg : Cfg) (A : AFunc) (r : ARes × Heap) := ScrQ cfg A (fun x => x = r)
inductive Chk where
  | av (x : AV) (c : Chk)
  | op (o : AOp) (c : Chk)
  | eff (o : AOp) (H : Heap) (c : Chk)
  | pan (o : AOp) (H : Heap)
  | cut (k : List AIt) (vs : List AV) (H : Heap)
  | res (r : Option (ARes × Heap))
  | want (o : AOp) (H : Heap)
  | wantB (x : AV)
  | stuck
  | split (p : Prop) (f : p → Chk) (g : ¬ p → Chk)
section
variable {cfg : Cfg} {A : AFunc} {R : ARes × Heap → Prop}
def claims : ScrQ cfg A R → Chk
  | .fin r h => .res (some r)
  | .dec b p h s => .av (.bool p) (claims s)
  | .op o v h s => .op o (claims s)
  | .eff o H v H' h s => .eff o H (claims s)
  | .effS o H v h s => .eff o H (claims s)
  | .pan o H v H' h hq => .pan o H
  | .panE o H v H' h hq => .pan o H
  | .cutQ k vs H h => .cut k (vs.map fun p => p.2) H
  | .split p s1 s2 => .split p (fun h => claims (s1 h)) (fun h => claims (s2 h))
theorem claims_want (s : ScrQ cfg A R) {o : AOp} {H : Heap} : claims s ≠ .want o H := by cases s <;> simp [claims]
theorem claims_wantB (s : ScrQ cfg A R) {x : AV} : claims s ≠ .wantB x := by cases s <;> simp [claims]
theorem claims_stuck (s : ScrQ cfg A R) : claims s ≠ .stuck := by cases s <;> simp [claims]
def uns : ScrQ cfg A R → (ScrQ cfg A R → Chk) → Chk
  | .split p s1 s2, K => .split p (fun h => uns (s1 h) K) (fun h => uns (s2 h) K)
  | .fin r h, K => K (.fin r h)
  | .dec b p h s, K => K (.dec b p h s)
  | .op o v h s, K => K (.op o v h s)
  | .eff o H v H' h s, K => K (.eff o H v H' h s)
  | .effS o H v h s, K => K (.effS o H v h s)
  | .pan o H v H' h hq, K => K (.pan o H v H' h hq)
  | .panE o H v H' h hq, K => K (.panE o H v H' h hq)
  | .cutQ k vs H h, K => K (.cutQ k vs H h)
theorem uns_sound {K : ScrQ cfg A R → Chk} : ∀ {s : ScrQ cfg A R}, uns s K = claims s → ∃ s', K s' = claims s' := by
  intro s
  induction s with
  | split p s1 s2 h1 h2 =>
    intro h
    simp only [uns, claims, Chk.split.injEq, heq_eq_eq, true_and] at h
    by_cases hp : p
    · exact h1 hp (congrFun h.1 hp)
    · exact h2 hp (congrFun h.2 hp)
  | _ => exact fun h => ⟨_, h⟩
noncomputable def auto (cfg : Cfg) (K : Env → Heap → Chk) (d : Option Nat) (o : AOp) (T : Env) (H : Heap) : Chk :=
  bif isMust o then .want (clOp T o) H else match opStepD (lim cfg) o T H with
  | some (.val v H') => K (setD T d v) H'
  | _ => .want (clOp T o) H
noncomputable def actOp (draw : Bool) (last : Heap → Bool) (K : ScrQ cfg A R → Env → Heap → Chk) (s : ScrQ cfg A R) (d : Option Nat) (o : AOp) (T : Env) (H : Heap) : Chk :=
  match s with
  | .op o' v h s' => bif tag o' == tag o then .op (clOp T o) (uns s' fun s' => K s' (setD T d v) H) else auto cfg (K s) d o T H
  | .eff o' H0 v H' h s' => bif tag o' == tag o then (bif draw && isCall o then .stuck else .eff (clOp T o) H (uns s' fun s' => K s' (setD T d v) H')) else auto cfg (K s) d o T H
  | .effS o' H0 v h s' => bif tag o' == tag o then .eff (clOp T o) H (uns s' fun s' => K s' (setD T d v) H) else auto cfg (K s) d o T H
  | .pan o' H0 v H' h hq => bif tag o' == tag o then (bif draw && !last H' then .stuck else .pan (clOp T o) H) else auto cfg (K s) d o T H
  | .panE o' H0 v H' h hq => bif tag o' == tag o then (bif draw then .stuck else .pan (clOp T o) H) else auto cfg (K s) d o T H
  | s => auto cfg (K s) d o T H
def quietVal (o : AOp) (T : Env) (H : Heap) : Option AV := match o with
  | .mov x => some (ev T x)
  | .idx es x i => idxA es (ev T x) (ev T i)
  | .idxs x i => idxsA (ev T x) (ev T i)
  | .fld a b x => fldA a b (ev T x)
  | .len s x => lenA s (ev T x)
  | .bin b x y => binA b (ev T x) (ev T y)
  | .load a n x => loadA a n H (ev T x)
  | _ => none
theorem quiet_step {o : AOp} {T : Env} {H : Heap} {v : AV} (h : quietVal o T H = some v) (call : CallF) : opStepD call o T H = some (.val v H) := by
  cases o <;> simp only [quietVal, reduceCtorEq] at h <;> simp only [opStepD, opStep, pureOp, h]
def quiet (p : Nat) : List AOper → Env → Heap → Bool
  | [], _, _ => true
  | o :: r, T, H => bif o.deps.contains p then quiet p r T H else match o.guard with
    | some _ => false
    | none => match quietVal o.op T H with
      | some v => quiet p r (setD T o.dst v) H
      | none => false
theorem runD_quiet {call : CallF} {p : Nat} {v : AV} : ∀ {ops : List AOper} (i : Nat) {T : Env} {H : Heap}, quiet p ops T H = true → runD call i ops (some (p, v)) T H = some (.pan v H)
  | [], _, _, _, _ => rfl
  | o :: ops, i, T, H, h => by
    unfold quiet at h
    cases hd : o.deps.contains p with
    | true =>
      rw [hd] at h
      simp only [runD, hd, if_true]
      exact runD_quiet _ h
    | false =>
      rw [hd] at h
      simp only [cond_false] at h
      split at h
      · cases h
      · rename_i hg
        split at h
        · rename_i u hu
          have hw : wantedA o T = some true := by unfold wantedA; rw [hg]
          simp only [runD, hd, hw, quiet_step hu, Bool.false_eq_true, if_false]
          exact runD_quiet _ h
        · cases h
def lastB (i : Nat) (ops : List AOper) (T : Env) (H : Heap) : Bool := (ops.all fun o => o.deps.contains i) || quiet i ops T H
noncomputable def actOps (draw : Bool) (Q : ScrQ cfg A R → Env → Heap → Chk) : Nat → List Nat → List AOper → ScrQ cfg A R → Env → Heap → Chk
  | _, _, [], s, T, H => Q s T H
  | i, kn, o :: ops, s, T, H =>
    match o.guard with
    | none => actOp draw (fun H' => lastB i ops T H') (fun s T H => actOps draw Q (i + 1) kn ops s T H) s o.dst o.op T H
    | some (g, w) =>
      match T g with
      | .tuple [] => actOps draw Q (i + 1) kn ops s (setD T o.dst (.tuple [])) H
      | .bool p' =>
        bif kn.contains g then bif p' == w then actOp draw (fun H' => lastB i ops T H') (fun s T H => actOps draw Q (i + 1) kn ops s T H) s o.dst o.op T H else actOps draw Q (i + 1) kn ops s (setD T o.dst (.tuple [])) H
        else
        match s with
        | .dec b p h s => .av (.bool p') (uns s fun s => bif b == w then actOp draw (fun H' => lastB i ops T H') (fun s T H => actOps draw Q (i + 1) (g :: kn) ops s T H) s o.dst o.op (upd T g (.bool b)) H
            else actOps draw Q (i + 1) (g :: kn) ops s (setD (upd T g (.bool b)) o.dst (.tuple [])) H)
        | _ => .wantB (.bool p')
      | _ => .stuck
noncomputable def acts : Nat → List AIt → ScrQ cfg A R → Env → Heap → Chk
  | 0, _, _, _, _ => .stuck
  | n + 1, k, s, T, H =>
    match k with
    | [] => match s with
      | .fin _ _ => .res (retA A T H)
      | _ => .stuck
    | .blk _ :: k => acts n k s T H
    | .lp b :: k => match s with
      | .cutQ k' vs H' h => .cut (.lp b :: k) (vs.map fun p => T p.1) H
      | s => acts n (.c b :: .lp b :: k) s T H
    | .beg _ :: k => .stuck
    | .c c :: k =>
      match c with
      | .skip => acts n k s T H
      | .seq a b => acts n (.c a :: .c b :: k) s T H
      | .cond x a b => match s with
        | .dec t p h s => .av (ev T x) (uns s fun s => acts n (.c (bif t then a else b) :: k) s T H)
        | _ => .wantB (ev T x)
      | .block id b => acts n (.c b :: .blk id :: k) s T H
      | .loop b => acts n (.lp b :: k) s T H
      | .exit id => match exitA id k with
        | some k' => acts n k' s T H
        | none => .stuck
      | .ret => match s with
        | .fin _ _ => bif A.round then .stuck else .res (retA A T H)
        | _ => .stuck
      | .region ops draw => bif draw then actOps true (fun s T H => acts n k s T H) 0 [] (resv H.boxes.length ops) s T (roomH H (resvCells ops)) else actOps false (fun s T H => acts n k s T H) 0 [] ops s T H
      | .range f ps a b => match s with
        | .cutQ k' vs H' h => .cut (.c (.range f ps a b) :: k) (vs.map fun p => T p.1) H
        | _ => .stuck
theorem auto_sound {K : Env → Heap → Chk} {s : ScrQ cfg A R} {d : Option Nat} {o : AOp} {T : Env} {H : Heap} (h : auto cfg K d o T H = claims s) : ∃ v H', opStepD (lim cfg) o T H = some (.val v H') ∧ K (setD T d v) H' = claims s := by
  unfold auto at h
  cases hm : isMust o with
  | true => rw [hm] at h; exact absurd h.symm (claims_want s)
  | false =>
    rw [hm] at h
    simp only [cond_false] at h
    split at h
    · rename_i v H' ho; exact ⟨v, H', ho, h⟩
    · exact absurd h.symm (claims_want s)
def OneA (cfg : Cfg) (A : AFunc) (R : ARes × Heap → Prop) (draw : Bool) (last : Heap → Bool) (K : ScrQ cfg A R → Env → Heap → Chk) (d : Option Nat) (o : AOp) (T : Env) (H : Heap) : Prop :=
  (∃ v H' s', opStep (lim cfg) o T H = some (.val v H') ∧ (draw = true → opStepD (lim cfg) o T H = some (.val v H')) ∧ K s' (setD T d v) H' = claims s') ∨
  (∃ v H', opStep (lim cfg) o T H = some (.pan v H') ∧ (draw = true → opStepD (lim cfg) o T H = some (.pan v H') ∧ last H' = true) ∧ R (.pan v, H'))
theorem actOp_sound {draw : Bool} {last : Heap → Bool} {K : ScrQ cfg A R → Env → Heap → Chk} {s : ScrQ cfg A R} {d : Option Nat} {o : AOp} {T : Env} {H : Heap} (h : actOp draw last K s d o T H = claims s) : OneA cfg A R draw last K d o T H := by
  have au : auto cfg (K s) d o T H = claims s → OneA cfg A R draw last K d o T H := fun h => by
    obtain ⟨v, H', h1, h2⟩ := auto_sound h
    exact .inl ⟨v, H', s, stepD_step h1, fun _ => h1, h2⟩
  unfold actOp at h
  split at h
  · rename_i o' v hp s'
    cases ht : tag o' == tag o with
    | false => rw [ht] at h; exact au h
    | true =>
      rw [ht] at h
      simp only [cond_true, claims, Chk.op.injEq] at h
      have e : opStepD (lim cfg) o T H = some (.val v H) := by
        have hh := hp T H
        rw [← hh, ← h.1, cl_stepD]
      obtain ⟨s2, h2⟩ := uns_sound h.2
      exact .inl ⟨v, H, s2, stepD_step e, fun _ => e, h2⟩
  · rename_i o' H0 v H' hp s'
    cases ht : tag o' == tag o with
    | false => rw [ht] at h; exact au h
    | true =>
      rw [ht] at h
      simp only [cond_true] at h
      cases hd : draw && isCall o with
      | true => rw [hd] at h; exact absurd h.symm (claims_stuck _)
      | false =>
        rw [hd] at h
        simp only [cond_false, claims, Chk.eff.injEq] at h
        have e : opStep (lim cfg) o T H = some (.val v H') := by
          have hh := hp T
          rw [← hh, ← h.1, h.2.1, cl_step]
        obtain ⟨s2, h2⟩ := uns_sound h.2.2
        refine .inl ⟨v, H', s2, e, fun hdr => ?_, h2⟩
        rw [hdr, Bool.true_and] at hd
        rw [stepD_of hd]; exact e
  · rename_i o' H0 v hp s'
    cases ht : tag o' == tag o with
    | false => rw [ht] at h; exact au h
    | true =>
      rw [ht] at h
      simp only [cond_true, claims, Chk.eff.injEq] at h
      have e : opStepD (lim cfg) o T H = some (.val v H) := by
        have hh := hp T
        rw [← h.1, ← h.2.1, cl_stepD] at hh
        exact hh
      obtain ⟨s2, h2⟩ := uns_sound h.2.2
      exact .inl ⟨v, H, s2, stepD_step e, fun _ => e, h2⟩
  · rename_i o' H0 v H' hp hq
    cases ht : tag o' == tag o with
    | false => rw [ht] at h; exact au h
    | true =>
      rw [ht] at h
      simp only [cond_true] at h
      cases hd : draw && !last H' with
      | true => rw [hd] at h; exact absurd h.symm (claims_stuck _)
      | false =>
        rw [hd] at h
        simp only [cond_false, claims, Chk.pan.injEq] at h
        obtain ⟨hc, hc2⟩ := h
        have e : opStepD (lim cfg) o T H = some (.pan v H') := by
          have hh := hp T
          rw [← hh, ← hc, hc2, cl_stepD]
        refine .inr ⟨v, H', stepD_step e, fun hdr => ⟨e, ?_⟩, hq⟩
        rw [hdr] at hd; simpa using hd
  · rename_i o' H0 v H' hp hq
    cases ht : tag o' == tag o with
    | false => rw [ht] at h; exact au h
    | true =>
      rw [ht] at h
      simp only [cond_true] at h
      cases draw with
      | true => exact absurd h.symm (claims_stuck _)
      | false =>
        simp only [cond_false, claims, Chk.pan.injEq] at h
        obtain ⟨hc, hc2⟩ := h
        have e : opStep (lim cfg) o T H = some (.pan v H') := by
          have hh := hp T
          rw [← hh, ← hc, hc2, cl_step]
        exact .inr ⟨v, H', e, (fun hdr => by cases hdr), hq⟩
  · exact au h
noncomputable def regI (cfg : Cfg) (draw : Bool) (i : Nat) (ops : List AOper) (T : Env) (H : Heap) : Option OutE := if draw then runD (lim cfg) i ops none T H else runOps (lim cfg) ops T H
def Comes (cfg : Cfg) (A : AFunc) (R : ARes × Heap → Prop) (draw : Bool) (Q : ScrQ cfg A R → Env → Heap → Chk) (i : Nat) (ops : List AOper) (T : Env) (H : Heap) : Prop :=
  (∃ s' T' H', Q s' T' H' = claims s' ∧ regI cfg draw i ops T H = some (.env T' H')) ∨ (∃ v H', regI cfg draw i ops T H = some (.pan v H') ∧ R (.pan v, H'))
theorem runD_last0 {call : CallF} {p : Nat} {v : AV} : ∀ {ops : List AOper} (i : Nat) {T : Env} {H : Heap}, (ops.all fun o => o.deps.contains p) = true → runD call i ops (some (p, v)) T H = some (.pan v H)
  | [], _, _, _, _ => rfl
  | o :: ops, i, T, H, h => by
    rw [List.all_cons, Bool.and_eq_true] at h
    simp only [runD, h.1, if_true]
    exact runD_last0 _ h.2
theorem runD_last {call : CallF} {i : Nat} {v : AV} {ops : List AOper} {T : Env} {H : Heap} (h : lastB i ops T H = true) : runD call (i + 1) ops (some (i, v)) T H = some (.pan v H) := by
  unfold lastB at h
  rw [Bool.or_eq_true] at h
  rcases h with h | h
  · exact runD_last0 _ h
  · exact runD_quiet _ h
theorem actOps_sound {draw : Bool} {Q : ScrQ cfg A R → Env → Heap → Chk} : ∀ {ops : List AOper} {i : Nat} {kn : List Nat} {s : ScrQ cfg A R} {T : Env} {H : Heap}, actOps draw Q i kn ops s T H = claims s → Comes cfg A R draw Q i ops T H
  | [], i, kn, s, T, H, h => .inl ⟨s, T, H, h, by cases draw <;> rfl⟩
  | o :: ops, i, kn, s, T, H, h => by
    have key : ∀ kn s, wantedA o T = some true → actOp draw (fun H' => lastB i ops T H') (fun s T H => actOps draw Q (i + 1) kn ops s T H) s o.dst o.op T H = claims s → Comes cfg A R draw Q i (o :: ops) T H := by
      intro kn s hw h
      rcases actOp_sound h with ⟨v, H', s', h1, h2, h3⟩ | ⟨v, H', h1, h2, h3⟩
      · rcases actOps_sound h3 with ⟨s2, T2, H2, q, e⟩ | ⟨v2, H2, e, q⟩
        · refine .inl ⟨s2, T2, H2, q, ?_⟩
          cases draw with
          | false => simp only [regI, runOps, hw, h1, Bool.false_eq_true, if_false] at e ⊢; exact e
          | true => simp only [regI, runD, hw, h2 rfl, if_true] at e ⊢; exact e
        · refine .inr ⟨v2, H2, ?_, q⟩
          cases draw with
          | false => simp only [regI, runOps, hw, h1, Bool.false_eq_true, if_false] at e ⊢; exact e
          | true => simp only [regI, runD, hw, h2 rfl, if_true] at e ⊢; exact e
      · refine .inr ⟨v, H', ?_, h3⟩
        cases draw with
        | false => simp only [regI, runOps, hw, h1, Bool.false_eq_true, if_false]
        | true =>
          simp only [regI, runD, hw, (h2 rfl).1, if_true]
          exact runD_last (h2 rfl).2
    have skip : ∀ kn s, wantedA o T = some false → actOps draw Q (i + 1) kn ops s (setD T o.dst (.tuple [])) H = claims s → Comes cfg A R draw Q i (o :: ops) T H := by
      intro kn s hw h
      rcases actOps_sound h with ⟨s2, T2, H2, q, e⟩ | ⟨v2, H2, e, q⟩
      · refine .inl ⟨s2, T2, H2, q, ?_⟩
        cases draw with
        | false => simp only [regI, runOps, hw, Bool.false_eq_true, if_false] at e ⊢; exact e
        | true => simp only [regI, runD, hw, if_true] at e ⊢; exact e
      · refine .inr ⟨v2, H2, ?_, q⟩
        cases draw with
        | false => simp only [regI, runOps, hw, Bool.false_eq_true, if_false] at e ⊢; exact e
        | true => simp only [regI, runD, hw, if_true] at e ⊢; exact e
    simp only [actOps] at h
    split at h
    · rename_i hg
      exact key _ s (by unfold wantedA; rw [hg]) h
    · rename_i g w hg
      have fin : ∀ b kn s, T g = .bool b → (bif b == w then actOp draw (fun H' => lastB i ops T H') (fun s T H => actOps draw Q (i + 1) kn ops s T H) s o.dst o.op T H else actOps draw Q (i + 1) kn ops s (setD T o.dst (.tuple [])) H) = claims s →
          Comes cfg A R draw Q i (o :: ops) T H := by
        intro b kn s h1 h2
        have hw : wantedA o T = some (b == w) := by unfold wantedA; rw [hg]; simp only [h1]
        cases hb : (b == w) with
        | true => rw [hb] at hw h2; exact key _ _ hw h2
        | false => rw [hb] at hw h2; exact skip _ _ hw h2
      split at h
      · rename_i hb
        exact skip kn s (by unfold wantedA; rw [hg]; simp only [hb]) h
      · rename_i p' hb
        cases hkn : kn.contains g with
        | true =>
          rw [hkn] at h
          simp only [cond_true] at h
          exact fin _ _ _ hb h
        | false =>
          rw [hkn] at h
          simp only [cond_false] at h
          split at h
          · rename_i b p hp s' 
            simp only [claims, Chk.av.injEq, AV.bool.injEq] at h
            have h1 : T g = .bool b := by rw [hb, h.1, hp]
            obtain ⟨s2, h2⟩ := uns_sound h.2
            rw [upd_self h1] at h2
            exact fin _ _ _ h1 h2
          · exact absurd h.symm (claims_wantB _)
      · exact absurd h.symm (claims_stuck _)
theorem acts_sound : ∀ (n : Nat) {k : List AIt} {s : ScrQ cfg A R} {T : Env} {H : Heap}, acts n k s T H = claims s → ∃ r, runL cfg A k T H = some r ∧ R r := by
  intro n
  induction n with
  | zero => intro k s T H h; exact absurd h.symm (claims_stuck s)
  | succ n ih =>
    intro k s T H h
    simp only [acts] at h
    · split at h
      · split at h
        · rename_i r hr
          simp only [claims, Chk.res.injEq] at h
          rw [runL_nil]; exact ⟨r, h, hr⟩
        · exact absurd h.symm (claims_stuck _)
      · rw [runL_blk]; exact ih h
      · split at h
        · rename_i k' vs H' hc
          simp only [claims, Chk.cut.injEq] at h
          obtain ⟨e1, e2, e3⟩ := h
          rw [e1, e3]
          exact hc T (has_of e2)
        · rw [runL_lp]; exact ih h
      · exact absurd h.symm (claims_stuck _)
      · split at h
        · rw [runL_skip]; exact ih h
        · rw [runL_seq]; exact ih h
        · rename_i x a b
          split at h
          · rename_i t p hp s'
            simp only [claims, Chk.av.injEq] at h
            obtain ⟨h1, h2⟩ := h
            obtain ⟨s2, h2⟩ := uns_sound h2
            rw [runL_cond, h1, hp]
            cases t <;> exact ih h2
          · exact absurd h.symm (claims_wantB _)
        · rw [runL_block]; exact ih h
        · rw [runL_loop]; exact ih h
        · split at h
          · rename_i k' hk; rw [runL_exit, hk]; exact ih h
          · exact absurd h.symm (claims_stuck _)
        · split at h
          · rename_i r hr
            cases hro : A.round with
            | true => rw [hro] at h; exact absurd h.symm (claims_stuck _)
            | false =>
              rw [hro] at h
              simp only [cond_false, claims, Chk.res.injEq] at h
              rw [runL_ret, hro]; exact ⟨_, h, hr⟩
          · exact absurd h.symm (claims_stuck _)
        · rename_i ops d
          rw [runL_region]
          cases d with
          | false =>
            have hreg : regionA (lim cfg) false ops T H = regI cfg false 0 ops T H := rfl
            rw [hreg]
            rcases actOps_sound h with ⟨s', T', H', q, e⟩ | ⟨v, H', e, q⟩
            · rw [e]; exact ih q
            · rw [e]; exact ⟨_, rfl, q⟩
          | true =>
            have hreg : regionA (lim cfg) true ops T H = regI cfg true 0 (resv H.boxes.length ops) T (roomH H (resvCells ops)) := rfl
            rw [hreg]
            rcases actOps_sound h with ⟨s', T', H', q, e⟩ | ⟨v, H', e, q⟩
            · rw [e]; exact ih q
            · rw [e]; exact ⟨_, rfl, q⟩
        · split at h
          · rename_i k' vs H' hc
            simp only [claims, Chk.cut.injEq] at h
            obtain ⟨e1, e2, e3⟩ := h
            rw [e1, e3]
            exact hc T (has_of e2)
          · exact absurd h.symm (claims_stuck _)
theorem goQ {T : Env} {k : List AIt} {H : Heap} (n : Nat) (vs : List (Nat × AV)) (hT : Has T vs) (s : ScrQ cfg A R) (e : uns s (fun s => acts n k s (updL T vs) H) = claims s) : ∃ r, runL cfg A k T H = some r ∧ R r := by
  rw [updL_self hT] at e
  obtain ⟨s', e⟩ := uns_sound e
  exact acts_sound n e
theorem go {r : ARes × Heap} {T : Env} {k : List AIt} {H : Heap} (n : Nat) (vs : List (Nat × AV)) (hT : Has T vs) (s : Scr cfg A r) (e : uns s (fun s => acts n k s (updL T vs) H) = claims s) : runL cfg A k T H = some r := by
  obtain ⟨x, h, rfl⟩ := goQ n vs hT s e
  exact h
def ScrQ.done {r : ARes × Heap} : ScrQ cfg A (fun x => x = r) := .fin r rfl
def ScrQ.cut {r : ARes × Heap} (k : List AIt) (vs : List (Nat × AV)) (H : Heap) (h : ∀ T, Has T vs → runL cfg A k T H = some r) : ScrQ cfg A (fun x => x = r) := .cutQ k vs H fun T hT => ⟨r, h T hT, rfl⟩

class Shut (v : AV) (w : outParam AV) : Prop where
  p : shut2 v = w ∧ data2 w = true
class Dat (x : AV) : Prop where
  p : shut2 x = x ∧ data2 x = true
instance (v : AV) [h : Dat v] : Shut v v := ⟨h.p⟩
instance (t : Nat) (l : List AV) : Shut (.sl (.own t) l) (.sl .sh l) := ⟨rfl, rfl⟩
instance (l : List AV) : Shut (.sl .full l) (.sl .sh l) := ⟨rfl, rfl⟩
instance (k : IntKind) (n : Int) : Dat (.int k n) := ⟨rfl, rfl⟩
instance (b : Bool) : Dat (.bool b) := ⟨rfl, rfl⟩
instance (s : List UInt8) : Dat (.str s) := ⟨rfl, rfl⟩
instance (b : Nat) : Dat (.flt b) := ⟨rfl, rfl⟩
instance : Dat .nan := ⟨rfl, rfl⟩
instance (l : List AV) : Dat (.sl .sh l) := ⟨rfl, rfl⟩
instance : Dat .nilptr := ⟨rfl, rfl⟩
instance : Dat .nilIface := ⟨rfl, rfl⟩
instance : Dat .nilFunc := ⟨rfl, rfl⟩
class Shuts (xs : List AV) (ys : outParam (List AV)) : Prop where
  p : xs.map shut2 = ys ∧ ys.all data2 = true
instance : Shuts [] [] := ⟨rfl, rfl⟩
instance (x y : AV) (xs ys : List AV) [h : Shut x y] [hs : Shuts xs ys] : Shuts (x :: xs) (y :: ys) := ⟨by
  obtain ⟨a, b⟩ := h.p
  obtain ⟨c, d⟩ := hs.p
  simp [a, b, c, d]⟩
class Dats (xs : List AV) : Prop where
  p : xs.map shut2 = xs ∧ xs.all data2 = true
instance : Dats [] := ⟨rfl, rfl⟩
instance (x : AV) (xs : List AV) [h : Dat x] [hs : Dats xs] : Dats (x :: xs) := ⟨by
  obtain ⟨a, b⟩ := h.p
  obtain ⟨c, d⟩ := hs.p
  simp [a, b, c, d]⟩
class Res (v : AV) (w : outParam AV) : Prop where
  p : shutA v = w ∧ isData w = true
theorem shut_res {v w : AV} (h : shut2 v = w ∧ data2 w = true) : shutA v = w ∧ isData w = true := by
  obtain ⟨a, b⟩ := h
  have hv : ∀ cs, w ≠ .tuple cs := fun cs e => by subst e; cases b
  have e1 : shutA v = shut2 v := by
    cases v with
    | tuple cs => exact absurd a.symm (hv cs)
    | _ => rfl
  refine ⟨e1.trans a, ?_⟩
  have : isData w = data2 w := by
    cases w with
    | tuple cs => exact absurd rfl (hv cs)
    | _ => rfl
  rw [this]; exact b
instance (v w : AV) [h : Shut v w] : Res v w := ⟨shut_res h.p⟩
instance (vs ws : List AV) [h : Shuts vs ws] : Res (.tuple vs) (.tuple ws) := ⟨by
  obtain ⟨a, b⟩ := h.p
  exact ⟨by rw [← a]; rfl, b⟩⟩
theorem shuts_args {xs ys : List AV} (h : xs.map shut2 = ys ∧ ys.all data2 = true) : xs.map shutA = ys ∧ ys.all isData = true := by
  obtain ⟨a, b⟩ := h
  subst a
  rw [List.all_eq_true] at b
  have e : ∀ x ∈ xs, shutA x = shut2 x ∧ isData (shut2 x) = true := fun x hx => by
    obtain ⟨p, q⟩ := shut_res (v := x) (w := shut2 x) ⟨rfl, b _ (List.mem_map_of_mem hx)⟩
    exact ⟨p, q⟩
  refine ⟨List.map_congr_left fun x hx => (e x hx).1, List.all_eq_true.2 fun y hy => ?_⟩
  obtain ⟨x, hx, rfl⟩ := List.mem_map.1 hy
  exact (e x hx).2
theorem callD_ret {xs ys : List AV} {g : FuncId} {v w : AV} {H' : Heap} (h : lim cfg (.fn g) ys Heap.nil = some (.ret v, H')) (hx : xs.map shut2 = ys ∧ ys.all data2 = true) (hv : shutA v = w ∧ isData w = true) (T : Env) (H : Heap) :
    opStepD (lim cfg) (.call (.c (.func g [])) (xs.map fun x => .c x)) T H = some (.val w H) := by
  obtain ⟨a, b⟩ := shuts_args hx
  simp only [opStepD, List.map_map]
  have e : (List.map ((fun x => shutA (ev T x)) ∘ fun x => Opd.c x) xs) = ys := a
  rw [e, show ev T (.c (.func g [])) = .func g [] from rfl, callD_func]
  simp only [b, List.all_nil, Bool.and_self, cond_true, List.append_nil, h, dataOut_of hv]
theorem callD_pan {xs ys : List AV} {g : FuncId} {v : AV} {H' : Heap} (h : lim cfg (.fn g) ys Heap.nil = some (.pan v, H')) (hx : xs.map shut2 = ys ∧ ys.all data2 = true) (hv : isData v = true) (H : Heap) (T : Env) :
    opStepD (lim cfg) (.call (.c (.func g [])) (xs.map fun x => .c x)) T H = some (.pan v H) := by
  obtain ⟨a, b⟩ := shuts_args hx
  simp only [opStepD, List.map_map]
  have e : (List.map ((fun x => shutA (ev T x)) ∘ fun x => Opd.c x) xs) = ys := a
  rw [e, show ev T (.c (.func g [])) = .func g [] from rfl, callD_func]
  simp only [b, List.all_nil, Bool.and_self, cond_true, List.append_nil, h, hv]
def ScrQ.call {xs : List AV} {g : FuncId} {v w : AV} {H' : Heap} (h : lim cfg (.fn g) xs Heap.nil = some (.ret v, H')) [hx : Dats xs] [hv : Res v w] (s : ScrQ cfg A R) : ScrQ cfg A R := .op (.call (.c (.func g [])) (xs.map fun x => .c x)) w (callD_ret h hx.p hv.p) s
def ScrQ.callW (xs : List AV) {ys : List AV} {g : FuncId} {v w : AV} {H' : Heap} [hx : Shuts xs ys] (h : lim cfg (.fn g) ys Heap.nil = some (.ret v, H')) [hv : Res v w] (s : ScrQ cfg A R) : ScrQ cfg A R := .op (.call (.c (.func g [])) (xs.map fun x => .c x)) w (callD_ret h hx.p hv.p) s
def ScrQ.yes {p : Bool} (h : p = true)  (s : ScrQ cfg A R) : ScrQ cfg A R := .dec true p h s
def ScrQ.no {p : Bool} (h : p = false)  (s : ScrQ cfg A R) : ScrQ cfg A R := .dec false p h s
def ScrQ.tt  (s : ScrQ cfg A R) : ScrQ cfg A R := .dec true true rfl s
def ScrQ.ff  (s : ScrQ cfg A R) : ScrQ cfg A R := .dec false false rfl s
theorem pure_step {o : AOp} {v : AV} (hc : ∀ T, pureOp o T = some v) (h : ∀ call T H, opStepD call o T H = match pureOp o T with | some v => some (.val v H) | none => none) (T : Env) (H : Heap) : opStepD (lim cfg) o T H = some (.val v H) := by rw [h, hc]
def ScrQ.idx {es : Nat} {x i v : AV} (h : idxA es x i = some v)  (s : ScrQ cfg A R) : ScrQ cfg A R := .op (.idx es (.c x) (.c i)) v (pure_step (fun _ => h) fun _ _ _ => rfl) s
def ScrQ.idxs {x i v : AV} (h : idxsA x i = some v)  (s : ScrQ cfg A R) : ScrQ cfg A R := .op (.idxs (.c x) (.c i)) v (pure_step (fun _ => h) fun _ _ _ => rfl) s
def ScrQ.bin {b : BinOp} {x y v : AV} (h : binA b x y = some v)  (s : ScrQ cfg A R) : ScrQ cfg A R := .op (.bin b (.c x) (.c y)) v (pure_step (fun _ => h) fun _ _ _ => rfl) s
def ScrQ.len {b : Bool} {x v : AV} (h : lenA b x = some v)  (s : ScrQ cfg A R) : ScrQ cfg A R := .op (.len b (.c x)) v (pure_step (fun _ => h) fun _ _ _ => rfl) s
def ScrQ.conv {b : CV} {x v : AV} (h : convA b x = some v)  (s : ScrQ cfg A R) : ScrQ cfg A R := .op (.conv b (.c x)) v (pure_step (fun _ => h) fun _ _ _ => rfl) s
def ScrQ.eqnil {b : Bool} {k : NK} {x v : AV} (h : eqnilA b k x = some v)  (s : ScrQ cfg A R) : ScrQ cfg A R := .op (.eqnil b k (.c x)) v (pure_step (fun _ => h) fun _ _ _ => rfl) s
def ScrQ.eqst {b : Bool} {ks : List FK} {x y v : AV} (h : eqstA b ks x y = some v)  (s : ScrQ cfg A R) : ScrQ cfg A R := .op (.eqst b ks (.c x) (.c y)) v (pure_step (fun _ => h) fun _ _ _ => rfl) s
def ScrQ.slice {es : Nat} {x v : AV} {lo hi mx : Option AV} (h : sliceA es x lo hi mx = some v)  (s : ScrQ cfg A R) : ScrQ cfg A R := .op (.slice es (.c x) (lo.map .c) (hi.map .c) (mx.map .c)) v
  (pure_step (fun T => by simp only [pureOp, ev, Option.map_map, Function.comp_def]; simpa using h) fun _ _ _ => rfl) s
theorem append_step {es b : Nat} {H H' : Heap} {x y v : AV} (h : appendA es b H x y = some (v, H')) (T : Env) : opStep (lim cfg) (.append es b (.c x) (.c y)) T H = some (.val v H') := by
  simp only [opStep, ev, h]
def ScrQ.append {es b : Nat} {H H' : Heap} {x y v : AV} (h : appendA es b H x y = some (v, H'))  (s : ScrQ cfg A R) : ScrQ cfg A R := .eff (.append es b (.c x) (.c y)) H v H' (append_step h) s
theorem load_step {agg : Bool} {n : Nat} {H : Heap} {x v : AV} (h : loadA agg n H x = some v) (T : Env) : opStep (lim cfg) (.load agg n (.c x)) T H = some (.val v H) := by
  simp only [opStep, ev, h]
def ScrQ.load {agg : Bool} {n : Nat} {H : Heap} {x v : AV} (h : loadA agg n H x = some v)  (s : ScrQ cfg A R) : ScrQ cfg A R := .eff (.load agg n (.c x)) H v H (load_step h) s
theorem store_step {n : Nat} {H H' : Heap} {x v : AV} (h : storeA n H x v = some H') (T : Env) : opStep (lim cfg) (.store n (.c x) (.c v)) T H = some (.val .undef H') := by
  simp only [opStep, ev, h]
def ScrQ.store {n : Nat} {H H' : Heap} {x v : AV} (h : storeA n H x v = some H')  (s : ScrQ cfg A R) : ScrQ cfg A R := .eff (.store n (.c x) (.c v)) H .undef H' (store_step h) s

variable {k : IntKind} {a b : Int}
theorem eqlT (h : a = b) : binA .eql (.int k a) (.int k b) = some (.bool true) := by simp [binA, intBin, h]
theorem neqT (h : a ≠ b) : binA .neq (.int k a) (.int k b) = some (.bool true) := by simp [binA, intBin, h]
theorem wrap_i64 {x : Int} (h1 : -9223372036854775808 ≤ x) (h2 : x < 9223372036854775808) : IntKind.i64.wrap x = x := by
  have e : (x % 18446744073709551616) = if 0 ≤ x then x else x + 18446744073709551616 := by split <;> omega
  simp only [IntKind.wrap, IntKind.bits, IntKind.signed, Bool.true_and, show (2 : Int) ^ 64 = 18446744073709551616 from rfl, show (2 : Int) ^ (64 - 1) = 9223372036854775808 from rfl, e, decide_eq_true_eq]
  split <;> split <;> omega
theorem addI (h1 : -9223372036854775808 ≤ a + b) (h2 : a + b < 9223372036854775808) : binA .add (.int .i64 a) (.int .i64 b) = some (.int .i64 (a + b)) := by
  simp [binA, intBin, wrap_i64 h1 h2]
theorem subI (h1 : -9223372036854775808 ≤ a - b) (h2 : a - b < 9223372036854775808) : binA .sub (.int .i64 a) (.int .i64 b) = some (.int .i64 (a - b)) := by
  simp [binA, intBin, wrap_i64 h1 h2]
theorem mulI (h1 : -9223372036854775808 ≤ a * b) (h2 : a * b < 9223372036854775808) : binA .mul (.int .i64 a) (.int .i64 b) = some (.int .i64 (a * b)) := by
  simp [binA, intBin, wrap_i64 h1 h2]
def ScrQ.eqT (h : a = b) (s : ScrQ cfg A R) : ScrQ cfg A R := .bin (eqlT (k := .i64) h) s
def ScrQ.add (h : -9223372036854775808 ≤ a + b ∧ a + b < 9223372036854775808) (s : ScrQ cfg A R) : ScrQ cfg A R := .bin (addI h.1 h.2) s
def ScrQ.sub (h : -9223372036854775808 ≤ a - b ∧ a - b < 9223372036854775808) (s : ScrQ cfg A R) : ScrQ cfg A R := .bin (subI h.1 h.2) s
def ScrQ.mul (h : -9223372036854775808 ≤ a * b ∧ a * b < 9223372036854775808) (s : ScrQ cfg A R) : ScrQ cfg A R := .bin (mulI h.1 h.2) s
theorem idx_at {es i : Nat} {k : SK} {q : IntKind} {l : List AV} {x : AV} (h : l[i]? = some x) (hc : cellsN es x = true) : idxA es (.sl k l) (.int q (i : Int)) = some (.ref x.cells) := by
  simp [idxA, h, hc]
theorem bslice_step {es : Nat} {xs : List AV} (h1 : xs.map shut2 = xs) (h2 : lenOk es xs = true) (h3 : dataOk xs = true) (T : Env) (H : Heap) : opStepD (lim cfg) (.bslice es (xs.map .c)) T H = some (.val (.sl .full xs) H) := by
  simp only [opStepD, opStep, pureOp, List.map_map]
  have e : (List.map ((fun x => shut2 (ev T x)) ∘ Opd.c) xs) = xs := h1
  rw [e, if_pos ⟨h2, h3⟩]
def ScrQ.bslice {es : Nat} {xs : List AV} (h1 : xs.map shut2 = xs) (h2 : lenOk es xs = true) (h3 : dataOk xs = true) (s : ScrQ cfg A R) : ScrQ cfg A R := .op (.bslice es (xs.map .c)) (.sl .full xs) (bslice_step h1 h2 h3) s

def rowS (H : Heap) : List AV → AV
  | [] => .sl .full []
  | y :: ys => .sl (.own H.toks.length) (y :: ys)
def rowH (H : Heap) : List AV → Heap
  | [] => H
  | y :: ys => { H with toks := H.toks ++ [(y :: ys).length] }
instance (H : Heap) (ys : List AV) : Shut (rowS H ys) (.sl .sh ys) := ⟨by cases ys <;> exact ⟨rfl, rfl⟩⟩
theorem row_append {es bytes : Nat} {H : Heap} {ys : List AV} {v : AV} (h : (ys.length + 1) * bytes ≤ 140737488355328) (hl : lenOk es ys = true) (hv : cellsN es v = true) (hd : dataOk [v] = true) :
    appendA es bytes (rowH H ys) (rowS H ys) (.sl .full [v]) = some (rowS H (ys ++ [v]), rowH H (ys ++ [v])) := by
  have hv' : lenOk es [v] = true := by simp [lenOk, hv]
  cases ys with
  | nil =>
    have h' : bytes ≤ 140737488355328 := by simpa using h
    have e : (([] : List AV).length + ([v] : List AV).length) * bytes ≤ 140737488355328 := by simpa using h'
    have e2 : lenOk es ([] : List AV) = true := rfl
    simp only [appendA, rowS, rowH, hv', hd, e2, List.nil_append]
    rw [if_pos ⟨e, trivial, trivial, trivial⟩]
    rfl
  | cons y ys =>
    simp only [appendA, rowS, rowH, hl, hv', hd, List.length_cons, List.length_nil, List.cons_append] at h ⊢
    simp [h]

theorem callH_step {xs caps : List AV} {g : FuncId} {v : AV} {H H2 : Heap} (h : lim cfg (.fn g) (xs ++ caps) H = some (.ret v, H2)) (hx : xs.map shutA = xs) (hd : (xs.all isData && caps.all data0) = false) (T : Env) :
    opStep (lim cfg) (.call (.c (.func g caps)) (xs.map .c)) T H = some (.val (shutA v) (trunc H.boxes.length H.toks.length (shutA v) H2)) := by
  have e : (xs.map Opd.c).map (fun x => shutA (ev T x)) = xs := by rw [List.map_map]; exact hx
  simp only [opStep, e]
  rw [show ev T (.c (.func g caps)) = .func g caps from rfl, callV_func, hd]
  simp only [cond_false, callE, h]

def IsRet (v : AV) (r : ARes × Heap) : Prop := r.1 = .ret v
def Gives (cfg : Cfg) (g : FuncId) (xs : List AV) (v : AV) : Prop := ∃ r, lim cfg (.fn g) xs Heap.nil = some r ∧ IsRet v r
def Goes (cfg : Cfg) (A : AFunc) (k : List AIt) (T : Env) (H : Heap) (R : ARes × Heap → Prop) : Prop := ∃ r, runL cfg A k T H = some r ∧ R r
theorem Gives.ret {g : FuncId} {xs : List AV} {v : AV} (h : Gives cfg g xs v) : ∃ H', lim cfg (.fn g) xs Heap.nil = some (.ret v, H') := by
  obtain ⟨⟨a, H'⟩, h, e⟩ := h
  simp only [IsRet] at e
  subst e
  exact ⟨H', h⟩
theorem Gives.of {g : FuncId} {xs : List AV} {v : AV} {H' : Heap} (h : lim cfg (.fn g) xs Heap.nil = some (.ret v, H')) : Gives cfg g xs v := ⟨_, h, rfl⟩
theorem Gives.to {g : FuncId} {xs : List AV} {v w : AV} (h : Gives cfg g xs v) (e : v = w) : Gives cfg g xs w := e ▸ h
theorem Gives.run {g : FuncId} {xs : List AV} {v : AV} {k : List AIt} {T : Env} (e : lim cfg (.fn g) xs Heap.nil = runL cfg A k T Heap.nil) (h : Goes cfg A k T Heap.nil (IsRet v)) : Gives cfg g xs v := by
  unfold Gives; rw [e]; exact h
theorem givesD {xs ys : List AV} {g : FuncId} {v w : AV} (h : Gives cfg g ys v) (hx : xs.map shut2 = ys ∧ ys.all data2 = true) (hv : shutA v = w ∧ isData w = true) (T : Env) (H : Heap) :
    opStepD (lim cfg) (.call (.c (.func g [])) (xs.map fun x => .c x)) T H = some (.val w H) := by
  obtain ⟨H', h⟩ := h.ret
  exact callD_ret h hx hv T H
def ScrQ.callG (xs : List AV) {ys : List AV} {g : FuncId} {v : AV} (w : AV) (h : Gives cfg g ys v) (hx : xs.map shut2 = ys ∧ ys.all data2 = true) (hv : shutA v = w ∧ isData w = true) (s : ScrQ cfg A R) : ScrQ cfg A R := .op (.call (.c (.func g [])) (xs.map fun x => .c x)) w (givesD h hx hv) s
theorem Goes.to {k : List AIt} {T : Env} {H : Heap} {v w : AV} (h : Goes cfg A k T H (IsRet v)) (e : v = w) : Goes cfg A k T H (IsRet w) := e ▸ h
class D0 (x : AV) : Prop where
  p : shut1 x = x ∧ data0 x = true
instance (k : IntKind) (n : Int) : D0 (.int k n) := ⟨rfl, rfl⟩
instance (b : Bool) : D0 (.bool b) := ⟨rfl, rfl⟩
instance (s : List UInt8) : D0 (.str s) := ⟨rfl, rfl⟩
instance (b : Nat) : D0 (.flt b) := ⟨rfl, rfl⟩
instance : D0 .nan := ⟨rfl, rfl⟩
instance (l : List AV) : D0 (.sl .sh l) := ⟨rfl, rfl⟩
end
end Go.Aa

set_option linter.unusedVariables false
set_option linter.unusedSimpArgs false
namespace Go.Aa
theorem goG {cfg : Cfg} {A : AFunc} {R : ARes × Heap → Prop} {T : Env} {k : List AIt} {H : Heap} (n : Nat) (vs : List (Nat × AV)) (hT : Has T vs) (s : ScrQ cfg A R) (e : uns s (fun s => acts n k s (updL T vs) H) = claims s) : Goes cfg A k T H R := goQ n vs hT s e
class D0s (xs : List AV) : Prop where
  p : xs.map shut1 = xs ∧ xs.all data0 = true
instance : D0s [] := ⟨rfl, rfl⟩
instance (x : AV) (xs : List AV) [h : D0 x] [hs : D0s xs] : D0s (x :: xs) := ⟨by
  obtain ⟨a, b⟩ := h.p
  obtain ⟨c, d⟩ := hs.p
  simp [a, b, c, d]⟩
instance (xs : List AV) [h : D0s xs] : Dat (.agg xs) := ⟨by
  obtain ⟨a, b⟩ := h.p
  exact ⟨by simp [shut2, a], b⟩⟩
variable {α : Type} {f : α → AV} {l : List α} {x : α} {post : List α} {i : Nat}
theorem drop_lt (h : l.drop i = x :: post) : i < l.length := by
  have : 0 < (l.drop i).length := by rw [h]; simp
  simp at this; omega
theorem drop_ge (h : l.drop i = []) : l.length ≤ i := by simpa using h
theorem drop_next (h : l.drop i = x :: post) : l.drop (i + 1) = post := by
  rw [← List.tail_drop, h]; rfl
theorem drop_at (h : l.drop i = x :: post) : l[i]? = some x := by
  have := congrArg List.head? h
  simpa [List.head?_drop] using this
theorem drop_take (h : l.drop i = x :: post) : l.take (i + 1) = l.take i ++ [x] := by
  rw [List.take_add_one, drop_at h]; rfl
theorem drop_mem (h : l.drop i = x :: post) : x ∈ l := by
  have : x ∈ l.drop i := by rw [h]; simp
  exact List.mem_of_mem_drop this
theorem len_map (k : SK) : lenA false (.sl k (l.map f)) = some (.int .i64 l.length) := by simp [lenA]
theorem len_sl (k : SK) (l : List AV) : lenA false (.sl k l) = some (.int .i64 l.length) := rfl
theorem len_str (s : List UInt8) : lenA true (.str s) = some (.int .i64 s.length) := rfl
theorem idx_row {es : Nat} {k : SK} {q : IntKind} (h : l.drop i = x :: post) (hc : cellsN es (f x) = true) : idxA es (.sl k (l.map f)) (.int q (i : Int)) = some (.ref (f x).cells) :=
  idx_at (by simp [drop_at h]) hc
theorem idx_get {es : Nat} {k : SK} {q : IntKind} (h : l[i]? = some x) (hc : cellsN es (f x) = true) : idxA es (.sl k (l.map f)) (.int q (i : Int)) = some (.ref (f x).cells) :=
  idx_at (by simp [h]) hc
theorem idx_str {q : IntKind} {s post : List UInt8} {c : UInt8} (h : s.drop i = c :: post) : idxsA (.str s) (.int q (i : Int)) = some (.int .u8 c.toNat) := by
  simp [idxsA, drop_at h]
theorem inc_i (h : i < 9223372036854775807) : binA .add (.int .i64 (i : Int)) (.int .i64 1) = some (.int .i64 ((i + 1 : Nat) : Int)) := by
  rw [addI (by omega) (by omega)]; rfl
theorem load_box {agg : Bool} {n k off : Nat} {H : Heap} {cs : List AV} {v : AV} (h : H.boxes[k]? = some cs) (e : loadA agg n ⟨[cs], [], []⟩ (.ptr 0 off) = some v) : loadA agg n H (.ptr k off) = some v := by
  simp only [loadA, h, List.getElem?_cons_zero] at e ⊢
  exact e
theorem store_box {n k off : Nat} {H : Heap} {cs cs' : List AV} {v : AV} (h : H.boxes[k]? = some cs) (e : storeA n ⟨[cs], [], []⟩ (.ptr 0 off) v = some ⟨[cs'], [], []⟩) : storeA n H (.ptr k off) v = some { H with boxes := H.boxes.set k cs' } := by
  simp only [storeA, h, List.getElem?_cons_zero] at e ⊢
  split at e
  · rename_i hc
    simp only [Option.some.injEq, Heap.mk.injEq, List.set_cons_zero, List.cons.injEq] at e
    rw [if_pos hc, e.1.1]
  · cases e

theorem bound_nat {m n d : Nat} {q : IntKind} (h : n ≤ m) : boundA m (some (.int q (n : Int))) d = some n := by simp [boundA, h]
theorem bound_none {m d : Nat} : boundA m none d = some d := rfl
theorem slice_go {es h k : Nat} {xs : List AV} (hk : k ≤ h) (hh : h ≤ xs.length) (hc : ∀ x ∈ xs, cellsN es x = true) : (match xs[k]? with
      | none => some (AV.sl .sh [])
      | some e => if cellsN es e = true then some (.sl .sh ((xs.take h).drop k)) else none) = some (.sl .sh ((xs.take h).drop k)) := by
  cases he : xs[k]? with
  | none =>
    have : (xs.take h).drop k = [] := by
      have : xs.length ≤ k := by simpa using he
      simp; omega
    simp [this]
  | some e =>
    have := hc e (List.mem_of_getElem? he)
    simp [this]
theorem slice_to {es k : Nat} {q : IntKind} {sk : SK} (hk : k ≤ l.length) (he : (es == 0) = false) (hc : ∀ x, cellsN es (f x) = true) : sliceA es (.sl sk (l.map f)) none (some (.int q (k : Int))) none = some (.sl .sh ((l.take k).map f)) := by
  have he' : es ≠ 0 := by simpa using he
  simp only [sliceA, if_neg he', sliceSl, bound_none, List.length_map, bound_nat hk]
  have := slice_go (es := es) (h := k) (k := 0) (xs := l.map f) (by omega) (by simpa using hk) (by intro x hx; obtain ⟨y, -, rfl⟩ := List.mem_map.1 hx; exact hc y)
  refine Eq.trans this ?_
  rw [← List.map_take]
  simp
theorem sstr_from {s : List UInt8} {k : Nat} {q : IntKind} (hk : k ≤ s.length) : sliceA 0 (.str s) (some (.int q (k : Int))) none none = some (.str (s.drop k)) := by
  simp [sliceA, sliceStr, boundA, hk]
theorem sstr_to {s : List UInt8} {k : Nat} {q : IntKind} (hk : k ≤ s.length) : sliceA 0 (.str s) none (some (.int q (k : Int))) none = some (.str (s.take k)) := by
  simp [sliceA, sliceStr, boundA, hk]
@[simp] theorem rowH_boxes (H : Heap) (ys : List AV) : (rowH H ys).boxes = H.boxes := by cases ys <;> rfl
@[simp] theorem rowH_loops (H : Heap) (ys : List AV) : (rowH H ys).loops = H.loops := by cases ys <;> rfl
theorem row_append_map {es bytes : Nat} {H : Heap} {ys : List α} (h : ((ys.map f).length + 1) * bytes ≤ 140737488355328) (hl : lenOk es (ys.map f) = true) (hv : cellsN es (f x) = true) (hd : dataOk [f x] = true) :
    appendA es bytes (rowH H (ys.map f)) (rowS H (ys.map f)) (.sl .full [f x]) = some (rowS H ((ys ++ [x]).map f), rowH H ((ys ++ [x]).map f)) := by
  rw [row_append h hl hv hd, List.map_append]; rfl
theorem lenOk_snoc {n : Nat} {l : List AV} {x : AV} (h : lenOk n l = true) (hx : cellsN n x = true) : lenOk n (l ++ [x]) = true := by
  simp only [lenOk, List.all_append, List.all_cons, List.all_nil, Bool.and_true, Bool.and_eq_true] at h ⊢
  exact ⟨h, hx⟩
theorem lenOk_map {n : Nat} (h : ∀ x, cellsN n (f x) = true) : lenOk n (l.map f) = true := by
  simp only [lenOk, List.all_eq_true, List.mem_map]
  rintro _ ⟨x, -, rfl⟩
  exact h x
theorem rem_nat {k : IntKind} {a m : Nat} (h : m ≠ 0) : binA .rem (.int k (a : Int)) (.int k (m : Int)) = some (.int k ((a % m : Nat) : Int)) := by
  have : (m : Int) ≠ 0 := by omega
  simp only [binA, if_true, intBin, if_neg this]
  rfl
theorem store_box2 {n k off : Nat} {H : Heap} {cs cs' : List AV} {bs' : List (List AV)} {v : AV} (h : H.boxes[k]? = some cs) (e : storeA n ⟨[cs], [], []⟩ (.ptr 0 off) v = some ⟨[cs'], [], []⟩) (hs : H.boxes.set k cs' = bs') : storeA n H (.ptr k off) v = some { H with boxes := bs' } := by
  rw [← hs]; exact store_box h e
end Go.Aa

set_option linter.unusedVariables false
set_option linter.unusedSimpArgs false
namespace Go.Aa
section
variable {cfg : Cfg}
theorem lim_try {f : FuncId} (ht : cfg.tryF f = true) (g : FuncId) (caps : List AV) (H : Heap) : lim cfg (.fn f) [.func g caps] H = tryA (lim cfg (.fn g) caps H) cfg.stopT := by
  refine opt_ext fun r => ?_
  rw [lim_iff]
  constructor
  · rintro ⟨n, h⟩
    cases n with
    | zero => simp [callN] at h
    | succ n =>
      rw [callN] at h
      simp only [ht, if_true] at h
      cases hc : callN cfg n (.fn g) caps H with
      | none => rw [hc] at h; simp [tryA] at h
      | some x => rw [hc] at h; rw [lim_of hc]; exact h
  · intro h
    cases hc : lim cfg (.fn g) caps H with
    | none => rw [hc] at h; simp [tryA] at h
    | some x =>
      rw [hc] at h
      obtain ⟨n, hn⟩ := lim_iff.1 hc
      refine ⟨n + 1, ?_⟩
      rw [callN]
      simp only [ht, if_true, hn]
      exact h
def roundA : AFunc := { results := [], body := .skip, round := true }
theorem yl_ret {l : Nat} {args : List AV} {H H' : Heap} {r r' : LRec} {v : AV} (h : H.loops[l]? = some r) (hp : args.length = r.ps.length)
    (hr : runL cfg roundA [.c r.assign, .beg l, .c r.body] (psetA r.T r.ps args) H = some (.ret v, H')) (h' : H'.loops[l]? = some r') :
    lim cfg (.yl l) args H = some (.ret (.bool true), { H' with loops := H'.loops.set l { r' with busy := false } }) := by
  obtain ⟨n, hn⟩ := runL_iff.1 hr
  obtain ⟨m, hm⟩ := run_lim _ _ _ _ _ hn
  refine lim_of (n := m + 1) ?_
  rw [callN]
  simp only [h, hp, ne_eq, not_true_eq_false, if_false]
  simp only [roundA] at hm
  rw [hm]
  simp only [h']
theorem yl_pan {l : Nat} {args : List AV} {H H' : Heap} {r : LRec} {v : AV} (h : H.loops[l]? = some r) (hp : args.length = r.ps.length)
    (hr : runL cfg roundA [.c r.assign, .beg l, .c r.body] (psetA r.T r.ps args) H = some (.pan v, H')) :
    lim cfg (.yl l) args H = some (.pan v, H') := by
  obtain ⟨n, hn⟩ := runL_iff.1 hr
  obtain ⟨m, hm⟩ := run_lim _ _ _ _ _ hn
  refine lim_of (n := m + 1) ?_
  rw [callN]
  simp only [h, hp, ne_eq, not_true_eq_false, if_false]
  simp only [roundA] at hm
  rw [hm]
variable {A : AFunc} {k : List AIt} {T : Env} {H : Heap}
theorem runL_beg {l : Nat} {r : LRec} (h : H.loops[l]? = some r) (hb : r.busy = false) : runL cfg A (.beg l :: k) T H = runL cfg A k T { H with loops := H.loops.set l { r with busy := true } } :=
  runL_step fun n => by simp only [run, h, hb, Bool.false_eq_true, if_false]
theorem runL_range {f : Opd} {ps : List Nat} {a b : ACode} {v : AV} {H' : Heap} (hro : A.round = false) (h : rangeA (lim cfg) (ev T f) A T ps a b H = some (.val v H')) : runL cfg A (.c (.range f ps a b) :: k) T H = runL cfg A k T H' :=
  runL_step fun n => by simp only [run, hro, h, Bool.false_eq_true, if_false]
theorem runL_rangeP {f : Opd} {ps : List Nat} {a b : ACode} {v : AV} {H' : Heap} (hro : A.round = false) (h : rangeA (lim cfg) (ev T f) A T ps a b H = some (.pan v H')) : runL cfg A (.c (.range f ps a b) :: k) T H = some (.pan v, H') :=
  runL_now fun n => by simp only [run, hro, h, Bool.false_eq_true, if_false]

theorem callN_step {xs : List AV} {g : FuncId} {v v0 : AV} {H H2 H0 : Heap} (h0 : lim cfg (.fn g) xs Heap.nil = some (.ret v0, H0)) (hn : dataOut H0 v0 = none) (h : lim cfg (.fn g) xs H = some (.ret v, H2)) (hx : xs.map shutA = xs) (hd : xs.all isData = true) (T : Env) :
    opStep (lim cfg) (.call (.c (.func g [])) (xs.map .c)) T H = some (.val (shutA v) (trunc H.boxes.length H.toks.length (shutA v) H2)) := by
  have e : (xs.map Opd.c).map (fun x => shutA (ev T x)) = xs := by rw [List.map_map]; exact hx
  simp only [opStep, e]
  rw [show ev T (.c (.func g [])) = .func g [] from rfl]
  unfold callV
  simp only [hd, List.all_nil, Bool.and_self, if_true, List.append_nil, h0, hn, Bool.false_eq_true, if_false, callE, h]
def ScrQ.callN {R : ARes × Heap → Prop} {xs : List AV} {g : FuncId} {v v0 : AV} {H H2 H0 : Heap} (h0 : lim cfg (.fn g) xs Heap.nil = some (.ret v0, H0)) (hn : dataOut H0 v0 = none) (h : lim cfg (.fn g) xs H = some (.ret v, H2)) (hx : xs.map shutA = xs) (hd : xs.all isData = true) (s : ScrQ cfg A R) : ScrQ cfg A R :=
  .eff (.call (.c (.func g [])) (xs.map .c)) H (shutA v) (trunc H.boxes.length H.toks.length (shutA v) H2) (callN_step h0 hn h hx hd) s

def Pans (cfg : Cfg) (g : FuncId) (xs : List AV) (v : AV) : Prop := ∃ r, lim cfg (.fn g) xs Heap.nil = some r ∧ r.1 = .pan v
def IsPan (v : AV) (r : ARes × Heap) : Prop := r.1 = .pan v
theorem Pans.pan {g : FuncId} {xs : List AV} {v : AV} (h : Pans cfg g xs v) : ∃ H', lim cfg (.fn g) xs Heap.nil = some (.pan v, H') := by
  obtain ⟨⟨a, H'⟩, h, e⟩ := h
  simp only at e
  subst e
  exact ⟨H', h⟩
theorem Pans.run {g : FuncId} {xs : List AV} {v : AV} (e : lim cfg (.fn g) xs Heap.nil = runL cfg A k T Heap.nil) (h : Goes cfg A k T Heap.nil (IsPan v)) : Pans cfg g xs v := by
  unfold Pans; rw [e]; exact h
theorem pansD {xs ys : List AV} {g : FuncId} {v : AV} (h : Pans cfg g ys v) (hx : xs.map shut2 = ys ∧ ys.all data2 = true) (hv : isData v = true) (H : Heap) (T : Env) :
    opStepD (lim cfg) (.call (.c (.func g [])) (xs.map fun x => .c x)) T H = some (.pan v H) := by
  obtain ⟨H', h⟩ := h.pan
  exact callD_pan h hx hv H T
def ScrQ.callP {R : ARes × Heap → Prop} (xs : List AV) {ys : List AV} {g : FuncId} {v : AV} (H : Heap) (h : Pans cfg g ys v) (hx : xs.map shut2 = ys ∧ ys.all data2 = true) (hv : isData v = true) (hq : R (.pan v, H)) : ScrQ cfg A R :=
  .pan (.call (.c (.func g [])) (xs.map fun x => .c x)) H v H (pansD h hx hv H) hq
theorem panic_step {t : TypeId} {v : AV} (H : Heap) (T : Env) : opStepD (lim cfg) (.panic (.c (.iface t v))) T H = some (.pan (.iface t v) H) := rfl
def ScrQ.panicI {R : ARes × Heap → Prop} (t : TypeId) (v : AV) (H : Heap) (hq : R (.pan (.iface t v), H)) : ScrQ cfg A R := .pan (.panic (.c (.iface t v))) H (.iface t v) H (panic_step H) hq

theorem row_load {agg : Bool} {n : Nat} {H : Heap} {ys : List AV} {p v : AV} (h : loadA agg n H p = some v) : loadA agg n (rowH H ys) p = some v := by
  unfold loadA at h ⊢
  rw [rowH_boxes]
  exact h
theorem row_store {n : Nat} {H H' : Heap} {ys : List AV} {p v : AV} (h : storeA n H p v = some H') : storeA n (rowH H ys) p v = some (rowH H' ys) := by
  unfold storeA at h ⊢
  rw [rowH_boxes]
  split at h
  · split at h
    · split at h
      · rename_i hc
        rw [if_pos hc]
        cases h
        cases ys <;> rfl
      · cases h
    · cases h
  · cases h
theorem rowS_nil (bs : List (List AV)) (ls : List LRec) (ys : List AV) : rowS ⟨bs, [], ls⟩ ys = rowS Heap.nil ys := by cases ys <;> rfl
theorem row_append_B {α : Type} {f : α → AV} {x : α} {es bytes : Nat} {bs : List (List AV)} {ls : List LRec} {ys : List α} (h : ((ys.map f).length + 1) * bytes ≤ 140737488355328) (hl : lenOk es (ys.map f) = true) (hv : cellsN es (f x) = true) (hd : dataOk [f x] = true) :
    appendA es bytes (rowH ⟨bs, [], ls⟩ (ys.map f)) (rowS Heap.nil (ys.map f)) (.sl .full [f x]) = some (rowS Heap.nil ((ys ++ [x]).map f), rowH ⟨bs, [], ls⟩ ((ys ++ [x]).map f)) := by
  rw [← rowS_nil bs ls, ← rowS_nil bs ls, row_append_map h hl hv hd]
def boxable : AV → Bool
  | .undef | .tuple _ => false
  | _ => true
theorem row_box {v : AV} {H : Heap} {ys : List AV} (hv : boxable v = true) (T : Env) : opStep (lim cfg) (.box (.c v)) T (rowH H ys) = some (.val (boxA H v).1 (rowH (boxA H v).2 ys)) := by
  have e : boxA (rowH H ys) v = ((boxA H v).1, rowH (boxA H v).2 ys) := by cases ys <;> rfl
  simp only [opStep, ev]
  cases v <;> first | (cases hv; done) | (simp only [e])
def ScrQ.boxR {R : ARes × Heap → Prop} (v : AV) (H : Heap) (ys : List AV) (hv : boxable v = true) (s : ScrQ cfg A R) : ScrQ cfg A R := .eff (.box (.c v)) (rowH H ys) (boxA H v).1 (rowH (boxA H v).2 ys) (row_box hv) s
theorem str_add {a b : List UInt8} (h : a.length + b.length ≤ 4611686018427387904) : binA .add (.str a) (.str b) = some (.str (a ++ b)) := if_pos h
theorem idx_zero {α : Type} {f : α → AV} {x : α} {l : List α} {es : Nat} {k : SK} {q : IntKind} (h : l[0]? = some x) (hc : cellsN es (f x) = true) : idxA es (.sl k (l.map f)) (.int q 0) = some (.ref (f x).cells) :=
  idx_at (i := 0) (by simp [h]) hc

def Does (cfg : Cfg) (o : AOp) (H : Heap) (v : AV) (H' : Heap) : Prop := ∀ T, opStep (lim cfg) o T H = some (.val v H')
def DoesP (cfg : Cfg) (o : AOp) (H : Heap) (v : AV) (H' : Heap) : Prop := ∀ T, opStep (lim cfg) o T H = some (.pan v H')
def ScrQ.effY {R : ARes × Heap → Prop} {o : AOp} {H H' : Heap} {v : AV} (h : Does cfg o H v H') (s : ScrQ cfg A R) : ScrQ cfg A R := .eff o H v H' h s
def ScrQ.panY {R : ARes × Heap → Prop} {o : AOp} {H H' : Heap} {v : AV} (h : DoesP cfg o H v H') (hq : R (.pan v, H')) : ScrQ cfg A R := .panE o H v H' h hq
theorem does_yield {l : Nat} {xs : List AV} {H H2 : Heap} {v : AV} (h : lim cfg (.yl l) xs H = some (.ret v, H2)) (hx : xs.map shutA = xs) : Does cfg (.call (.c (.yield l)) (xs.map .c)) H v (trunc H.boxes.length H.toks.length v H2) := fun T => by
  have e : (xs.map Opd.c).map (fun x => shutA (ev T x)) = xs := by rw [List.map_map]; exact hx
  simp only [opStep, e]
  rw [show ev T (.c (.yield l)) = .yield l from rfl]
  simp only [callV, h]
theorem does_yieldP {l : Nat} {xs : List AV} {H H2 : Heap} {v : AV} (h : lim cfg (.yl l) xs H = some (.pan v, H2)) (hx : xs.map shutA = xs) : DoesP cfg (.call (.c (.yield l)) (xs.map .c)) H v (trunc H.boxes.length H.toks.length v H2) := fun T => by
  have e : (xs.map Opd.c).map (fun x => shutA (ev T x)) = xs := by rw [List.map_map]; exact hx
  simp only [opStep, e]
  rw [show ev T (.c (.yield l)) = .yield l from rfl]
  simp only [callV, h]
theorem does_callN {xs : List AV} {g : FuncId} {v v0 : AV} {H H2 H0 : Heap} (h0 : lim cfg (.fn g) xs Heap.nil = some (.ret v0, H0)) (hn : dataOut H0 v0 = none) (h : lim cfg (.fn g) xs H = some (.ret v, H2)) (hx : xs.map shutA = xs) (hd : xs.all isData = true) :
    Does cfg (.call (.c (.func g [])) (xs.map .c)) H (shutA v) (trunc H.boxes.length H.toks.length (shutA v) H2) := callN_step h0 hn h hx hd
theorem runL_assign {d s : Nat} : runL cfg A (.c (.region [⟨some d, .mov (.t s), none, []⟩] false) :: k) T H = runL cfg A k (upd T d (T s)) H := by
  rw [runL_region]; rfl
theorem dropL_of {nl : Nat} {H : Heap} {r : LRec} (h : H.loops[nl]? = some r) (h1 : r.busy = false) (h2 : (H.loops.take nl).all (fun r => decide (r.nl ≤ nl)) = true) (h3 : H.boxes.all (·.all (in2 H.boxes.length H.toks.length)) = true) : dropL nl H = some { H with loops := H.loops.take nl } := by
  unfold dropL
  rw [h]
  exact if_pos ⟨h1, h2, h3⟩
theorem dropP_of {nl : Nat} {H : Heap} (h1 : nl < H.loops.length) (h2 : (H.loops.take nl).all (fun r => decide (r.nl ≤ nl)) = true) (h3 : H.boxes.all (·.all (in2 H.boxes.length H.toks.length)) = true) : dropP nl H = some { H with loops := H.loops.take nl } := by
  unfold dropP
  exact if_pos ⟨h1, h2, h3⟩
theorem does_callE {xs caps : List AV} {g : FuncId} {v : AV} {H H2 : Heap} (h : lim cfg (.fn g) (xs ++ caps) H = some (.ret v, H2)) (hx : xs.map shutA = xs) (hd : (xs.all isData && caps.all data0) = false) :
    Does cfg (.call (.c (.func g caps)) (xs.map .c)) H (shutA v) (trunc H.boxes.length H.toks.length (shutA v) H2) := callH_step h hx hd
end
end Go.Aa

set_option linter.unusedVariables false
set_option linter.unusedSimpArgs false
namespace Go.Aa
section
variable {cfg : Cfg}
def GivesF (cfg : Cfg) (g : FuncId) (xs : List AV) (u : AV) : Prop := ∃ v H, lim cfg (.fn g) xs Heap.nil = some (.ret v, H) ∧ dataOut H v = some u
theorem does_callF {xs : List AV} {g : FuncId} {u : AV} (h : GivesF cfg g xs u) (hx : xs.map shutA = xs) (hd : xs.all isData = true) (H : Heap) : Does cfg (.call (.c (.func g [])) (xs.map .c)) H u H := by
  obtain ⟨v, H1, h1, h2⟩ := h
  intro T
  have e : (xs.map Opd.c).map (fun x => shutA (ev T x)) = xs := by rw [List.map_map]; exact hx
  simp only [opStep, e]
  rw [show ev T (.c (.func g [])) = .func g [] from rfl]
  simp only [callV, hd, List.all_nil, Bool.and_self, if_true, List.append_nil, h1, h2]
theorem Gives.f {g : FuncId} {xs : List AV} {v : AV} (h : Gives cfg g xs v) (hd : shutA v = v) (h2 : isData v = true) : GivesF cfg g xs v := by
  obtain ⟨H, h⟩ := h.ret
  exact ⟨v, H, h, dataOut_of ⟨hd, h2⟩⟩
def IsOut (u : AV) (r : ARes × Heap) : Prop := ∃ v, r.1 = .ret v ∧ dataOut r.2 v = some u
theorem GivesF.run {A : AFunc} {g : FuncId} {xs : List AV} {u : AV} {k : List AIt} {T : Env} (e : lim cfg (.fn g) xs Heap.nil = runL cfg A k T Heap.nil) (h : Goes cfg A k T Heap.nil (IsOut u)) : GivesF cfg g xs u := by
  obtain ⟨⟨r, H⟩, h1, v, h2, h3⟩ := h
  simp only at h2 h3
  subst h2
  exact ⟨v, H, e.trans h1, h3⟩
theorem idx_msl {k off n es : Nat} {q : IntKind} {i : Nat} (h : i < n) : idxA es (.msl k off n es) (.int q (i : Nat)) = some (.ptr k (off + i * es)) := by
  simp only [idxA]
  rw [if_pos ⟨⟨Int.natCast_nonneg i, by exact_mod_cast h⟩, trivial⟩]; simp
def elOk (es : Nat) : AV → Bool
  | .agg cs => es != 1 && cs.length == es
  | .undef | .tuple _ => false
  | _ => es == 1
theorem el_cells {es : Nat} {x : AV} (h : elOk es x = true) : x.cells.length = es ∧ cellsN es x = true := by
  cases x <;> simp_all [elOk, AV.cells, cellsN]
theorem el_back {es : Nat} {x : AV} (h : elOk es x = true) (r : List AV) : (if es = 1 then (x.cells ++ r).headD .undef else .agg ((x.cells ++ r).take es)) = x := by
  have h2 := (el_cells h).1
  cases x <;> simp_all [elOk, AV.cells]
theorem el_len {es : Nat} {l : List AV} (h : l.all (elOk es) = true) : (rowCells l).length = l.length * es ∧ lenOk es l = true := by
  induction l with
  | nil => simp [rowCells, lenOk]
  | cons x l ih =>
    simp only [List.all_cons, Bool.and_eq_true] at h
    obtain ⟨i1, i2⟩ := ih h.2
    obtain ⟨a, b⟩ := el_cells h.1
    refine ⟨?_, by simp only [lenOk, List.all_cons, Bool.and_eq_true]; exact ⟨b, i2⟩⟩
    simp only [rowCells, List.flatMap_cons, List.length_append, List.length_cons, Nat.add_mul] at i1 ⊢
    omega
theorem unrow_back {es : Nat} {l : List AV} (h : l.all (elOk es) = true) : unrow es l.length (rowCells l) = l := by
  induction l with
  | nil => rfl
  | cons x l ih =>
    simp only [List.all_cons, Bool.and_eq_true] at h
    have e : rowCells (x :: l) = x.cells ++ rowCells l := by simp [rowCells]
    rw [List.length_cons, e]
    simp only [unrow]
    rw [el_back h.1, List.drop_append_of_le_length (by rw [(el_cells h.1).1]; omega)]
    rw [show x.cells.drop es = [] from List.drop_eq_nil_of_le (by rw [(el_cells h.1).1]; omega), List.nil_append, ih h.2]
theorem cells_data {l : List AV} (h : dataOk l = true) : (rowCells l).all data0 = true := by
  induction l with
  | nil => rfl
  | cons x l ih =>
    simp only [dataOk, List.all_cons, Bool.and_eq_true] at h
    simp only [rowCells, List.flatMap_cons, List.all_append, Bool.and_eq_true]
    exact ⟨h.1, ih h.2⟩
def hM (k : Nat) (l : List AV) : Heap := ⟨List.replicate k [] ++ [rowCells l], [], []⟩
theorem hM_at (k : Nat) (l : List AV) : (hM k l).boxes[k]? = some (rowCells l) := by simp [hM]
theorem out_hM {es k : Nat} {l : List AV} (hl : l ≠ []) (h : l.all (elOk es) = true) (he : 0 < es) (hd : dataOk l = true) : dataOut (hM k l) (.msl k 0 l.length es) = some (.sl .sh l) := by
  have h1 : frzA (hM k l) (.msl k 0 l.length es) = some (.sl .sh l) := by
    simp only [frzA, frz2, frz1, hM_at, Nat.zero_add, List.drop_zero]
    rw [if_pos ⟨by rw [(el_len h).1]; exact Nat.le_refl _, by cases l with | nil => exact absurd rfl hl | cons => simp, he, cells_data hd⟩, unrow_back h]
  unfold dataOut
  rw [if_neg (by simp [shutA, shut2, shut1, isData, data2, data1, data0]), h1]
  rfl

theorem paste_spec : ∀ (vs cells : List AV) (off : Nat), off + vs.length ≤ cells.length → paste cells off vs = cells.take off ++ vs ++ cells.drop (off + vs.length)
  | [], cells, off, h => by simp [paste]
  | v :: vs, cells, off, h => by
    simp only [List.length_cons] at h
    rw [paste, paste_spec vs (cells.set off v) (off + 1) (by simp; omega)]
    have h1 : (cells.set off v).take (off + 1) = cells.take off ++ [v] := by
      rw [List.take_add_one, List.getElem?_set_self (by omega)]
      simp [List.take_set_of_le]
    have h2 : (cells.set off v).drop (off + 1 + vs.length) = cells.drop (off + (v :: vs).length) := by
      rw [List.drop_set_of_lt (by omega)]
      congr 1
      simp only [List.length_cons]; omega
    rw [h1, h2]; simp
theorem cells_at {es : Nat} : ∀ {l : List AV} {i : Nat} {x : AV}, l.all (elOk es) = true → l[i]? = some x → ((rowCells l).drop (i * es)).take es = x.cells ∧ i * es + es ≤ (rowCells l).length
  | [], i, x, _, h => by simp at h
  | y :: l, 0, x, ha, h => by
    simp only [List.all_cons, Bool.and_eq_true] at ha
    simp only [List.getElem?_cons_zero, Option.some.injEq] at h
    subst h
    have h1 := (el_cells ha.1).1
    simp only [rowCells, List.flatMap_cons, Nat.zero_mul, List.drop_zero, Nat.zero_add, List.length_append]
    exact ⟨by rw [List.take_append_of_le_length (by omega), List.take_of_length_le (by omega)], by omega⟩
  | y :: l, i + 1, x, ha, h => by
    simp only [List.all_cons, Bool.and_eq_true] at ha
    simp only [List.getElem?_cons_succ] at h
    obtain ⟨h1, h2⟩ := cells_at ha.2 h
    have hy := (el_cells ha.1).1
    have e : rowCells (y :: l) = y.cells ++ rowCells l := by simp [rowCells]
    have e2 : (i + 1) * es = y.cells.length + i * es := by rw [hy, Nat.add_mul]; omega
    rw [e, e2, List.drop_append, List.drop_eq_nil_of_le (by omega), List.nil_append, Nat.add_sub_cancel_left, List.length_append]
    exact ⟨h1, by omega⟩
theorem cells_set {es : Nat} : ∀ {l : List AV} {i : Nat} {v : AV}, l.all (elOk es) = true → elOk es v = true → i < l.length → paste (rowCells l) (i * es) v.cells = rowCells (l.set i v)
  | [], i, v, _, _, h => by simp at h
  | y :: l, 0, v, ha, hv, h => by
    simp only [List.all_cons, Bool.and_eq_true] at ha
    have h1 := (el_cells ha.1).1
    have h2 := (el_cells hv).1
    simp only [rowCells, List.flatMap_cons, Nat.zero_mul, List.set_cons_zero]
    rw [paste_spec _ _ _ (by simp; omega)]
    simp only [List.take_zero, List.nil_append, Nat.zero_add]
    rw [h2, List.drop_append_of_le_length (by omega), List.drop_eq_nil_of_le (by omega), List.nil_append]
  | y :: l, i + 1, v, ha, hv, h => by
    simp only [List.all_cons, Bool.and_eq_true] at ha
    have hy := (el_cells ha.1).1
    have ih := cells_set (i := i) (v := v) ha.2 hv (by simpa using h)
    have e : rowCells (y :: l) = y.cells ++ rowCells l := by simp [rowCells]
    have e' : rowCells ((y :: l).set (i + 1) v) = y.cells ++ rowCells (l.set i v) := by simp [rowCells]
    have e2 : (i + 1) * es = y.cells.length + i * es := by rw [hy, Nat.add_mul]; omega
    have hb := (cells_at (es := es) (i := i) ha.2 (List.getElem?_eq_getElem (by simpa using h))).2
    have h2 := (el_cells hv).1
    rw [paste_spec _ _ _ (by omega)] at ih
    rw [e, e', ← ih, e2, paste_spec _ _ _ (by simp; omega)]
    simp only [List.append_assoc]
    rw [List.take_append, List.take_of_length_le (by omega), Nat.add_sub_cancel_left, Nat.add_assoc, List.drop_append, List.drop_eq_nil_of_le (by omega), List.nil_append, Nat.add_sub_cancel_left, List.append_assoc]
theorem store_hM {es k i : Nat} {l : List AV} {v : AV} (h : l.all (elOk es) = true) (hv : elOk es v = true) (hi : i < l.length) (he : 0 < es) (hc : v.cells.all cellOk = true) : storeA es (hM k l) (.ptr k (i * es)) v = some (hM k (l.set i v)) := by
  obtain ⟨x, hx⟩ : ∃ x, l[i]? = some x := ⟨l[i], List.getElem?_eq_getElem hi⟩
  obtain ⟨h1, h2⟩ := cells_at h hx
  simp only [storeA, hM_at]
  rw [if_pos ⟨h2, (el_cells hv).2, hc, he⟩, cells_set h hv hi]
  simp [hM, List.set_append]
theorem does_storeM {es k i : Nat} {l : List AV} {v : AV} (h : l.all (elOk es) = true) (hv : elOk es v = true) (hi : i < l.length) (he : 0 < es) (hc : v.cells.all cellOk = true) : Does cfg (.store es (.c (.ptr k (i * es))) (.c v)) (hM k l) .undef (hM k (l.set i v)) := fun T => by
  simp only [opStep, ev, store_hM h hv hi he hc]

end
end Go.Aa
