/- Functions of the abstract machine's program (printed). Walking: the program's numbers (2). Walking: a number is cut at its slash. Walking: a number is cut at its slash (2). Walking: a number is cut at its slash (3). Limbs: plain facts. -/
import Derived.Test.YtbeooboebfbchaaGreatDoorM37
set_option linter.unusedVariables false
set_option linter.unusedSimpArgs false
namespace Go.Proofs.YtbeooboebfbchaaGreatDoor.Am
open Go Sh
set_option maxRecDepth 100000
def af211 : AFun :=
 { ntmps := 19, nslots := 0, results := [.tmp 2], byref := [], owned := false,
   body := (.seq (.region 1 [N 2 (.move (I 0))] []) (.seq (.region 7 [M 6 0, N 7 (.call 231 [.tmp 6]), M 5 7, E 8 5 0, E 9 5 1, M 3 8, M 4 9] []) (.seq (.seq (.region 2 [M 10 4, N 11 (.unOp .not (.tmp 10))] []) (.cond (.tmp 11) (.seq (.region 1 [N 2 (.move (I 0))] []) .ret) .skip)) (.seq (.region 8 [M 12 3, N 13 (.nilCheck (.tmp 12)), A 14 13 1, L 15 14, N 16 (.indexAddr none 3 (.tmp 15) (I 0)), A 17 16 0, L 18 17, M 2 18] []) .ret)))) }
theorem fn211 : Gam.fn 211 = some af211 := by kernel_rfl
def af212 : AFun :=
 { ntmps := 22, nslots := 0, results := [.tmp 2], byref := [], owned := false,
   body := (.seq (.region 1 [N 2 (.move (.const (.sl [] .nil)))] []) (.seq (.region 7 [M 9 0, N 10 (.call 231 [.tmp 9]), M 8 10, E 11 8 0, E 12 8 1, M 3 11, M 4 12] []) (.seq (.seq (.region 2 [M 13 4, N 14 (.unOp .not (.tmp 13))] []) (.cond (.tmp 14) (.seq (.region 1 [N 2 (.move (.const (.sl [] .nil)))] []) .ret) .skip)) (.seq (.region 9 [M 16 3, N 17 (.call 232 [.tmp 16]), M 15 17, E 18 15 0, E 19 15 1, E 20 15 2, M 5 18, M 6 19, M 7 20] []) (.seq (.region 2 [M 21 6, M 2 21] []) .ret))))) }
theorem fn212 : Gam.fn 212 = some af212 := by kernel_rfl
def af214 : AFun :=
 { ntmps := 22, nslots := 0, results := [.tmp 2], byref := [], owned := false,
   body := (.seq (.region 1 [N 2 (.move (.const (.sl [] .nil)))] []) (.seq (.region 7 [M 9 0, N 10 (.call 231 [.tmp 9]), M 8 10, E 11 8 0, E 12 8 1, M 3 11, M 4 12] []) (.seq (.seq (.region 2 [M 13 4, N 14 (.unOp .not (.tmp 13))] []) (.cond (.tmp 14) (.seq (.region 1 [N 2 (.move (.const (.sl [] .nil)))] []) .ret) .skip)) (.seq (.region 9 [M 16 3, N 17 (.call 232 [.tmp 16]), M 15 17, E 18 15 0, E 19 15 1, E 20 15 2, M 5 18, M 6 19, M 7 20] []) (.seq (.region 2 [M 21 5, M 2 21] []) .ret))))) }
theorem fn214 : Gam.fn 214 = some af214 := by kernel_rfl
def af231 : AFun :=
 { ntmps := 34, nslots := 0, results := [.tmp 2, .tmp 3], byref := [], owned := false,
   body := (.seq (.region 2 [N 2 (.move (.const .nilptr)), N 3 (.move (.const (.bool false)))] []) (.seq (.seq (.region 8 [M 6 0, N 7 (.len .sl (.tmp 6)), N 8 (.binOp .eql (.one .int) (.tmp 7) (I 0)), M 9 8, U 10 (.move (.tmp 0)) 9, U 11 (.len .sl (.tmp 10)) 9, U 12 (.binOp .gtr (.one .int) (.tmp 11) (I 20000)) 9, N 13 (.pick (.tmp 9) (.const (.bool true)) (.tmp 12))] []) (.cond (.tmp 13) (.seq (.region 2 [N 2 (.move (.const .nilptr)), N 3 (.move (.const (.bool false)))] []) .ret) .skip)) (.seq (.region 7 [M 15 0, N 16 (.call 243 [.tmp 15]), M 14 16, E 17 14 0, E 18 14 1, M 4 17, M 5 18] []) (.seq (.seq (.region 6 [M 19 5, N 20 (.unOp .not (.tmp 19)), M 21 20, U 22 (.move (.tmp 4)) 21, U 23 (.call 244 [.tmp 22]) 21, N 24 (.pick (.tmp 21) (.const (.bool true)) (.tmp 23))] []) (.cond (.tmp 24) (.seq (.region 2 [N 2 (.move (.const .nilptr)), N 3 (.move (.const (.bool false)))] []) .ret) .skip)) (.seq (.seq (.region 7 [M 26 4, N 27 (.call 232 [.tmp 26]), M 25 27, E 28 25 0, E 29 25 1, E 30 25 2, M 5 30] []) (.seq (.region 2 [M 31 5, N 32 (.unOp .not (.tmp 31))] []) (.cond (.tmp 32) (.seq (.region 2 [N 2 (.move (.const .nilptr)), N 3 (.move (.const (.bool false)))] []) .ret) .skip))) (.seq (.region 3 [M 33 4, M 2 33, N 3 (.move (.const (.bool true)))] []) .ret)))))) }
theorem fn231 : Gam.fn 231 = some af231 := by kernel_rfl
def c232_0 : ACode := (.seq (.region 1 [N 28 (.binOp .lss (.one .int) (.tmp 27) (.tmp 26))] []) (.seq (.cond (.tmp 28) .skip (.exit 0)) (.seq (.block 1 (.seq (.region 6 [M 29 27, N 30 (.indexAddr none 5 (.tmp 25) (.tmp 27)), N 31 (.load (some 5) (.tmp 30)), N 10 (.alloc 2 (.agg [(.int .i64 0), (.int .i64 0), (.str []), (.str []), (.int .i64 0)])), M 9 29, S 5 10 31] []) (.seq (.region 2 [A 32 10 0, L 33 32] []) (.block 2 (.seq (.region 2 [N 35 (.binOp .eql (.one .int) (.tmp 33) (I 4)), M 34 35] []) (.cond (.tmp 34) (.seq (.region 10 [M 37 5, A 38 10 2, L 39 38, N 40 (.lookup (.one .str) (.agg [(.str []), (.int .i64 0)]) (.tmp 37) (.tmp 39) true), M 36 40, E 41 36 0, E 42 36 1, N 11 (.alloc 3 (.agg [(.str []), (.int .i64 0)])), S 2 11 41, M 12 42] []) (.seq (.seq (.region 2 [M 43 12, N 44 (.unOp .not (.tmp 43))] []) (.cond (.tmp 44) (.seq (.region 6 [A 45 10 2, L 46 45, A 47 10 1, L 48 47, N 49 (.build [(.str []), (.int .i64 0)] [(0, 1, (.tmp 46)), (1, 1, (.tmp 48))]), S 2 11 49] []) (.seq (.region 5 [M 50 5, A 51 10 2, L 52 51, N 53 (.load (some 2) (.tmp 11)), ⟨none, .mapUpdate (.one .str) (.tmp 50) (.tmp 52) (.tmp 53), none⟩] []) (.region 5 [M 54 7, N 55 (.load (some 2) (.tmp 11)), N 56 (.buildSlice 4 false (.agg [(.str []), (.int .i64 0)]) 1 [(0, (.tmp 55))]), N 57 (.append 5 2 24 false (.tmp 54) (.tmp 56)), M 7 57] []))) .skip)) (.seq (.region 10 [M 59 6, A 60 10 2, L 61 60, N 62 (.lookup (.one .str) (.agg [(.str []), (.sl [] .nil), (.int .i64 0)]) (.tmp 59) (.tmp 61) true), M 58 62, E 63 58 0, E 64 58 1, N 13 (.alloc 6 (.agg [(.str []), (.sl [] .nil), (.int .i64 0)])), S 3 13 63, M 14 64] []) (.seq (.region 8 [M 65 14, M 66 65, U 67 (.fieldAddr (.tmp 11) 1) 66, U 68 (.load none (.tmp 67)) 66, U 69 (.fieldAddr (.tmp 10) 1) 66, U 70 (.load none (.tmp 69)) 66, U 71 (.binOp .neq (.one .int) (.tmp 68) (.tmp 70)) 66, N 72 (.pick (.tmp 66) (.const (.bool true)) (.tmp 71))] []) (.cond (.tmp 72) (.seq (.region 3 [N 2 (.move (.const (.sl [] .nil))), N 3 (.move (.const (.sl [] .nil))), N 4 (.move (.const (.bool false)))] []) .ret) .skip))))) (.seq (.region 2 [N 74 (.binOp .eql (.one .int) (.tmp 33) (I 5)), M 73 74] []) (.cond (.tmp 73) (.seq (.region 10 [M 76 6, A 77 10 2, L 78 77, N 79 (.lookup (.one .str) (.agg [(.str []), (.sl [] .nil), (.int .i64 0)]) (.tmp 76) (.tmp 78) true), M 75 79, E 80 75 0, E 81 75 1, N 15 (.alloc 7 (.agg [(.str []), (.sl [] .nil), (.int .i64 0)])), S 3 15 80, M 16 81] []) (.seq (.region 5 [M 82 0, M 83 9, N 84 (.call 245 [(.tmp 82), (.tmp 83)]), N 17 (.alloc 8 (.agg [(.str []), (.sl [] .nil), (.int .i64 0)])), S 3 17 84] []) (.seq (.seq (.region 2 [M 85 16, N 86 (.unOp .not (.tmp 85))] []) (.cond (.tmp 86) (.seq (.region 2 [N 87 (.load (some 3) (.tmp 17)), S 3 15 87] []) (.seq (.region 5 [M 88 6, A 89 10 2, L 90 89, N 91 (.load (some 3) (.tmp 17)), ⟨none, .mapUpdate (.one .str) (.tmp 88) (.tmp 90) (.tmp 91), none⟩] []) (.region 5 [M 92 8, N 93 (.load (some 3) (.tmp 17)), N 94 (.buildSlice 9 false (.agg [(.str []), (.sl [] .nil), (.int .i64 0)]) 1 [(0, (.tmp 93))]), N 95 (.append 10 3 48 false (.tmp 92) (.tmp 94)), M 8 95] []))) .skip)) (.seq (.region 10 [M 97 5, A 98 10 2, L 99 98, N 100 (.lookup (.one .str) (.agg [(.str []), (.int .i64 0)]) (.tmp 97) (.tmp 99) true), M 96 100, E 101 96 0, E 102 96 1, N 18 (.alloc 11 (.agg [(.str []), (.int .i64 0)])), S 2 18 101, M 19 102] []) (.seq (.region 7 [M 103 19, M 104 103, U 105 (.load (some 3) (.tmp 15)) 104, U 106 (.load (some 3) (.tmp 17)) 104, U 107 (.call 246 [(.tmp 105), (.tmp 106)]) 104, U 108 (.unOp .not (.tmp 107)) 104, N 109 (.pick (.tmp 104) (.const (.bool true)) (.tmp 108))] []) (.cond (.tmp 109) (.seq (.region 3 [N 2 (.move (.const (.sl [] .nil))), N 3 (.move (.const (.sl [] .nil))), N 4 (.move (.const (.bool false)))] []) .ret) .skip)))))) .skip)))))))) (.region 2 [N 110 (.binOp .add (.one .int) (.tmp 27) (I 1)), M 27 110] []))))
def af232 : AFun :=
 { ntmps := 113, nslots := 12, results := [.tmp 2, .tmp 3, .tmp 4], byref := [], owned := false,
   body := (.seq (.region 3 [N 2 (.move (.const (.sl [] .nil))), N 3 (.move (.const (.sl [] .nil))), N 4 (.move (.const (.bool false)))] []) (.seq (.region 4 [N 20 (.makeMap 0), N 21 (.makeMap 1), M 5 20, M 6 21] []) (.seq (.region 1 [N 7 (.move (.const (.sl [] .nil)))] []) (.seq (.region 1 [N 8 (.move (.const (.sl [] .nil)))] []) (.seq (.seq (.region 6 [M 22 0, N 23 (.nilCheck (.tmp 22)), A 24 23 0, L 25 24, N 26 (.len .sl (.tmp 25)), N 27 (.move (I 0))] []) (.block 0 (.loop c232_0))) (.seq (.region 5 [M 111 7, M 112 8, M 2 111, M 3 112, N 4 (.move (.const (.bool true)))] []) .ret)))))) }
theorem fn232 : Gam.fn 232 = some af232 := by kernel_rfl
def c243_0 : ACode := (.seq (.seq (.region 2 [M 22 6, N 23 (.binOp .geq (.one .int) (.tmp 22) (I 0))] []) (.cond (.tmp 23) .skip (.exit 0))) (.seq (.block 1 (.seq (.region 6 [M 26 0, M 27 6, N 28 (.indexAddr none 5 (.tmp 26) (.tmp 27)), N 29 (.load (some 5) (.tmp 28)), N 7 (.alloc 3 (.agg [(.int .i64 0), (.int .i64 0), (.str []), (.str []), (.int .i64 0)])), S 5 7 29] []) (.seq (.seq (.region 23 [A 30 7 4, L 31 30, N 32 (.binOp .lss (.one .int) (.tmp 31) (I 0)), M 33 32, U 34 (.fieldAddr (.tmp 7) 4) 33, U 35 (.load none (.tmp 34)) 33, U 36 (.move (.tmp 5)) 33, U 37 (.len .sl (.tmp 36)) 33, U 38 (.binOp .gtr (.one .int) (.tmp 35) (.tmp 37)) 33, N 39 (.pick (.tmp 33) (.const (.bool true)) (.tmp 38)), M 40 39, U 41 (.load (some 5) (.tmp 7)) 40, U 42 (.call 249 [.tmp 41]) 40, U 43 (.unOp .not (.tmp 42)) 40, N 44 (.pick (.tmp 40) (.const (.bool true)) (.tmp 43)), M 45 44, U 46 (.fieldAddr (.tmp 7) 0) 45, U 47 (.load none (.tmp 46)) 45, U 48 (.fieldAddr (.tmp 7) 4) 45, U 49 (.load none (.tmp 48)) 45, U 50 (.call 250 [(.tmp 47), (.tmp 49)]) 45, U 51 (.unOp .not (.tmp 50)) 45, N 52 (.pick (.tmp 45) (.const (.bool true)) (.tmp 51))] []) (.cond (.tmp 52) (.seq (.region 2 [N 2 (.move (.const .nilptr)), N 3 (.move (.const (.bool false)))] []) .ret) .skip)) (.seq (.region 8 [M 53 5, M 54 5, N 55 (.len .sl (.tmp 54)), A 56 7 4, L 57 56, N 58 (.binOp .sub (.one .int) (.tmp 55) (.tmp 57)), N 59 (.slice (some 1) (.tmp 53) (some (.tmp 58)) none none), M 8 59] []) (.seq (.region 5 [M 60 6, N 61 (.binOp .add (.one .int) (.tmp 60) (I 1)), N 62 (.build [(.int .i64 0), (.int .i64 0), (.int .i64 0)] [(1, 1, (I 1)), (2, 1, (.tmp 61))]), N 9 (.alloc 4 (.agg [(.int .i64 0), (.int .i64 0), (.int .i64 0)])), S 3 9 62] []) (.seq (.region 1 [N 10 (.alloc 5 (.sl [] .nil))] []) (.seq (.seq (.region 2 [M 63 8, N 64 (.backward 259 (.tmp 63))] []) (.block 2 (.rangeB (.tmp 64) 65 66 (.region 1 [M 12 66] []) (.block 3 (.seq (.region 12 [L 67 10, L 68 4, N 69 (.nilCheck (.tmp 68)), A 70 69 1, L 71 70, M 72 12, N 73 (.indexAddr none 3 (.tmp 71) (.tmp 72)), A 74 73 0, L 75 74, N 76 (.buildSlice 6 false (.int .i64 0) 1 [(0, (.tmp 75))]), N 77 (.append 7 1 8 false (.tmp 67) (.tmp 76)), S 1 10 77] [(0, 9)]) (.seq (.region 14 [A 78 9 1, L 79 78, L 80 4, N 81 (.nilCheck (.tmp 80)), A 82 81 1, L 83 82, M 84 12, N 85 (.indexAddr none 3 (.tmp 83) (.tmp 84)), A 86 85 1, L 87 86, N 88 (.binOp .add (.one .int) (.tmp 87) (I 1)), N 89 (.minmax true (.tmp 79) (.tmp 88)), A 90 9 1, S 1 90 89] []) (.region 10 [L 91 4, N 92 (.nilCheck (.tmp 91)), A 93 92 1, L 94 93, M 95 12, N 96 (.indexAddr none 3 (.tmp 94) (.tmp 95)), A 97 96 2, L 98 97, A 99 9 2, S 1 99 98] []))))))) (.seq (.region 5 [N 100 (.load (some 5) (.tmp 7)), L 101 10, N 102 (.call 252 [(.tmp 100), (.tmp 101)]), A 103 9 0, S 1 103 102] []) (.seq (.seq (.region 17 [A 104 9 0, L 105 104, N 106 (.binOp .eql (.one .int) (.tmp 105) (I 0)), M 107 106, U 108 (.fieldAddr (.tmp 7) 0) 107, U 109 (.load none (.tmp 108)) 107, U 110 (.binOp .eql (.one .int) (.tmp 109) (I 15)) 107, U 111 (.move (.tmp 110)) 107, V 112 (.move (.tmp 0)) 111, V 113 (.move (.tmp 6)) 111, V 114 (.binOp .add (.one .int) (.tmp 113) (I 1)) 111, V 115 (.indexAddr none 5 (.tmp 112) (.tmp 114)) 111, V 116 (.fieldAddr (.tmp 115) 0) 111, V 117 (.load none (.tmp 116)) 111, V 118 (.binOp .neq (.one .int) (.tmp 117) (I 3)) 111, U 119 (.pick (.tmp 111) (.tmp 118) (.const (.bool false))) 107, N 120 (.pick (.tmp 107) (.const (.bool true)) (.tmp 119))] []) (.cond (.tmp 120) (.seq (.region 2 [N 2 (.move (.const .nilptr)), N 3 (.move (.const (.bool false)))] []) .ret) .skip)) (.seq (.region 8 [L 121 4, N 122 (.nilCheck (.tmp 121)), A 123 122 1, L 124 123, M 125 6, N 126 (.load (some 3) (.tmp 9)), N 127 (.indexAddr none 3 (.tmp 124) (.tmp 125)), S 3 127 126] []) (.region 11 [M 128 5, M 129 5, N 130 (.len .sl (.tmp 129)), A 131 7 4, L 132 131, N 133 (.binOp .sub (.one .int) (.tmp 130) (.tmp 132)), N 134 (.slice (some 1) (.tmp 128) none (some (.tmp 133)) none), M 135 6, N 136 (.buildSlice 8 true (.int .i64 0) 1 [(0, (.tmp 135))]), N 137 (.append 9 1 8 true (.tmp 134) (.tmp 136)), M 5 137] []))))))))))) (.region 3 [M 24 6, N 25 (.binOp .sub (.one .int) (.tmp 24) (I 1)), M 6 25] [])))
def af243 : AFun :=
 { ntmps := 142, nslots := 10, results := [.tmp 2, .tmp 3], byref := [], owned := false,
   body := (.seq (.region 2 [N 2 (.move (.const .nilptr)), N 3 (.move (.const (.bool false)))] []) (.seq (.region 8 [M 13 0, M 14 0, N 15 (.len .sl (.tmp 14)), N 16 (.makeSlice 0 (.agg [(.int .i64 0), (.int .i64 0), (.int .i64 0)]) 24 (.tmp 15) (.tmp 15)), N 17 (.build [(.sl [] .nil), (.sl [] .nil)] [(0, 1, (.tmp 13)), (1, 1, (.tmp 16))]), N 18 (.box 1 (.tmp 17)), N 4 (.alloc 2 .nilptr), S 1 4 18] []) (.seq (.region 1 [N 5 (.move (.const (.sl [] .nil)))] []) (.seq (.seq (.region 4 [M 19 0, N 20 (.len .sl (.tmp 19)), N 21 (.binOp .sub (.one .int) (.tmp 20) (I 1)), M 6 21] []) (.block 0 (.loop c243_0))) (.seq (.region 6 [L 138 4, M 139 5, N 140 (.len .sl (.tmp 139)), N 141 (.binOp .eql (.one .int) (.tmp 140) (I 1)), M 2 138, M 3 141] []) .ret))))) }
theorem fn243 : Gam.fn 243 = some af243 := by kernel_rfl
def af244 : AFun :=
 { ntmps := 19, nslots := 0, results := [.tmp 2], byref := [], owned := false,
   body := (.seq (.region 1 [N 2 (.move (.const (.bool false)))] []) (.seq (.region 17 [M 3 0, N 4 (.nilCheck (.tmp 3)), A 5 4 0, L 6 5, N 7 (.len .sl (.tmp 6)), N 8 (.binOp .gtr (.one .int) (.tmp 7) (I 20000)), M 9 8, U 10 (.move (.tmp 0)) 9, U 11 (.nilCheck (.tmp 10)) 9, U 12 (.fieldAddr (.tmp 11) 1) 9, U 13 (.load none (.tmp 12)) 9, U 14 (.indexAddr none 3 (.tmp 13) (I 0)) 9, U 15 (.fieldAddr (.tmp 14) 1) 9, U 16 (.load none (.tmp 15)) 9, U 17 (.binOp .gtr (.one .int) (.tmp 16) (I 257)) 9, N 18 (.pick (.tmp 9) (.const (.bool true)) (.tmp 17)), M 2 18] []) .ret)) }
theorem fn244 : Gam.fn 244 = some af244 := by kernel_rfl
def af249 : AFun :=
 { ntmps := 78, nslots := 1, results := [.tmp 2], byref := [], owned := false,
   body := (.seq (.region 2 [N 1 (.box 0 (.tmp 0)), N 2 (.move (.const (.bool false)))] []) (.seq (.seq (.region 2 [A 3 1 0, L 4 3] []) (.block 0 (.seq (.region 2 [N 6 (.binOp .eql (.one .int) (.tmp 4) (I 3)), M 5 6] []) (.cond (.tmp 5) (.seq (.region 11 [A 7 1 2, L 8 7, N 9 (.binOp .eql (.one .str) (.tmp 8) (.const (.str []))), M 10 9, V 11 (.fieldAddr (.tmp 1) 1) 10, V 12 (.load none (.tmp 11)) 10, V 13 (.fieldAddr (.tmp 1) 3) 10, V 14 (.load none (.tmp 13)) 10, V 15 (.call 255 [(.tmp 12), (.tmp 14)]) 10, N 16 (.pick (.tmp 10) (.tmp 15) (.const (.bool false))), M 2 16] []) .ret) (.seq (.seq (.region 2 [N 18 (.binOp .eql (.one .int) (.tmp 4) (I 4)), M 17 18] []) (.cond (.tmp 17) .skip (.region 2 [N 19 (.binOp .eql (.one .int) (.tmp 4) (I 5)), M 17 19] []))) (.cond (.tmp 17) (.seq (.region 14 [A 20 1 1, L 21 20, N 22 (.call 256 [.tmp 21]), M 23 22, V 24 (.fieldAddr (.tmp 1) 2) 23, V 25 (.load none (.tmp 24)) 23, V 26 (.call 167 [.tmp 25]) 23, N 27 (.pick (.tmp 23) (.tmp 26) (.const (.bool false))), M 28 27, V 29 (.fieldAddr (.tmp 1) 3) 28, V 30 (.load none (.tmp 29)) 28, V 31 (.binOp .eql (.one .str) (.tmp 30) (.const (.str []))) 28, N 32 (.pick (.tmp 28) (.tmp 31) (.const (.bool false))), M 2 32] []) .ret) (.seq (.seq (.region 2 [N 34 (.binOp .eql (.one .int) (.tmp 4) (I 16)), M 33 34] []) (.cond (.tmp 33) .skip (.region 2 [N 35 (.binOp .eql (.one .int) (.tmp 4) (I 17)), M 33 35] []))) (.cond (.tmp 33) (.seq (.region 20 [A 36 1 1, L 37 36, N 38 (.binOp .eql (.one .int) (.tmp 37) (I 0)), M 39 38, V 40 (.fieldAddr (.tmp 1) 2) 39, V 41 (.load none (.tmp 40)) 39, V 42 (.binOp .eql (.one .str) (.tmp 41) (.const (.str []))) 39, N 43 (.pick (.tmp 39) (.tmp 42) (.const (.bool false))), M 44 43, V 45 (.fieldAddr (.tmp 1) 3) 44, V 46 (.load none (.tmp 45)) 44, V 47 (.call 257 [.tmp 46]) 44, N 48 (.pick (.tmp 44) (.tmp 47) (.const (.bool false))), M 49 48, V 50 (.fieldAddr (.tmp 1) 3) 49, V 51 (.load none (.tmp 50)) 49, V 52 (.call 258 [.tmp 51]) 49, V 53 (.binOp .gtr (.one .int) (.tmp 52) (I 0)) 49, N 54 (.pick (.tmp 49) (.tmp 53) (.const (.bool false))), M 2 54] []) .ret) .skip)))))))) (.seq (.region 24 [A 55 1 0, L 56 55, N 57 (.binOp .geq (.one .int) (.tmp 56) (I 1)), M 58 57, V 59 (.fieldAddr (.tmp 1) 0) 58, V 60 (.load none (.tmp 59)) 58, V 61 (.binOp .leq (.one .int) (.tmp 60) (I 20)) 58, N 62 (.pick (.tmp 58) (.tmp 61) (.const (.bool false))), M 63 62, V 64 (.fieldAddr (.tmp 1) 1) 63, V 65 (.load none (.tmp 64)) 63, V 66 (.binOp .eql (.one .int) (.tmp 65) (I 0)) 63, N 67 (.pick (.tmp 63) (.tmp 66) (.const (.bool false))), M 68 67, V 69 (.fieldAddr (.tmp 1) 2) 68, V 70 (.load none (.tmp 69)) 68, V 71 (.binOp .eql (.one .str) (.tmp 70) (.const (.str []))) 68, N 72 (.pick (.tmp 68) (.tmp 71) (.const (.bool false))), M 73 72, V 74 (.fieldAddr (.tmp 1) 3) 73, V 75 (.load none (.tmp 74)) 73, V 76 (.binOp .eql (.one .str) (.tmp 75) (.const (.str []))) 73, N 77 (.pick (.tmp 73) (.tmp 76) (.const (.bool false))), M 2 77] []) .ret))) }
theorem fn249 : Gam.fn 249 = some af249 := by kernel_rfl
def af250 : AFun :=
 { ntmps := 42, nslots := 0, results := [.tmp 4], byref := [], owned := false,
   body := (.seq (.region 1 [N 4 (.move (.const (.bool false)))] []) (.seq (.seq (.region 1 [M 5 0] []) (.block 0 (.seq (.seq (.region 2 [N 7 (.binOp .eql (.one .int) (.tmp 5) (I 1)), M 6 7] []) (.cond (.tmp 6) .skip (.seq (.region 2 [N 8 (.binOp .eql (.one .int) (.tmp 5) (I 2)), M 6 8] []) (.cond (.tmp 6) .skip (.seq (.region 2 [N 9 (.binOp .eql (.one .int) (.tmp 5) (I 3)), M 6 9] []) (.cond (.tmp 6) .skip (.region 2 [N 10 (.binOp .eql (.one .int) (.tmp 5) (I 4)), M 6 10] []))))))) (.cond (.tmp 6) (.seq (.region 3 [M 11 1, N 12 (.binOp .eql (.one .int) (.tmp 11) (I 0)), M 4 12] []) .ret) (.seq (.region 2 [N 14 (.binOp .eql (.one .int) (.tmp 5) (I 5)), M 13 14] []) (.cond (.tmp 13) (.seq (.region 7 [M 15 1, N 16 (.binOp .geq (.one .int) (.tmp 15) (I 1)), M 17 16, V 18 (.move (.tmp 1)) 17, V 19 (.binOp .leq (.one .int) (.tmp 18) (I 40)) 17, N 20 (.pick (.tmp 17) (.tmp 19) (.const (.bool false))), M 4 20] []) .ret) (.seq (.seq (.region 2 [N 22 (.binOp .eql (.one .int) (.tmp 5) (I 6)), M 21 22] []) (.cond (.tmp 21) .skip (.seq (.region 2 [N 23 (.binOp .eql (.one .int) (.tmp 5) (I 16)), M 21 23] []) (.cond (.tmp 21) .skip (.seq (.region 2 [N 24 (.binOp .eql (.one .int) (.tmp 5) (I 17)), M 21 24] []) (.cond (.tmp 21) .skip (.region 2 [N 25 (.binOp .eql (.one .int) (.tmp 5) (I 20)), M 21 25] []))))))) (.cond (.tmp 21) (.seq (.region 3 [M 26 1, N 27 (.binOp .eql (.one .int) (.tmp 26) (I 1)), M 4 27] []) .ret) (.seq (.seq (.region 2 [N 29 (.binOp .eql (.one .int) (.tmp 5) (I 7)), M 28 29] []) (.cond (.tmp 28) .skip (.region 2 [N 30 (.binOp .eql (.one .int) (.tmp 5) (I 8)), M 28 30] []))) (.cond (.tmp 28) (.seq (.region 1 [N 4 (.move (.const (.bool true)))] []) .ret) (.seq (.region 2 [N 32 (.binOp .eql (.one .int) (.tmp 5) (I 14)), M 31 32] []) (.cond (.tmp 31) (.seq (.region 3 [M 33 1, N 34 (.binOp .geq (.one .int) (.tmp 33) (I 1)), M 4 34] []) .ret) (.seq (.seq (.region 2 [N 36 (.binOp .eql (.one .int) (.tmp 5) (I 10)), M 35 36] []) (.cond (.tmp 35) .skip (.region 2 [N 37 (.binOp .eql (.one .int) (.tmp 5) (I 19)), M 35 37] []))) (.cond (.tmp 35) (.seq (.region 3 [M 38 1, N 39 (.binOp .eql (.one .int) (.tmp 38) (I 3)), M 4 39] []) .ret) .skip)))))))))))))) (.seq (.region 3 [M 40 1, N 41 (.binOp .eql (.one .int) (.tmp 40) (I 2)), M 4 41] []) .ret))) }
theorem fn250 : Gam.fn 250 = some af250 := by kernel_rfl
def af252 : AFun :=
 { ntmps := 123, nslots := 1, results := [.tmp 4], byref := [], owned := false,
   body := (.seq (.region 2 [N 2 (.box 0 (.tmp 0)), N 4 (.move (I 0))] []) (.seq (.seq (.region 2 [A 5 2 0, L 6 5] []) (.block 0 (.seq (.seq (.region 2 [N 8 (.binOp .eql (.one .int) (.tmp 6) (I 3)), M 7 8] []) (.cond (.tmp 7) .skip (.seq (.region 2 [N 9 (.binOp .eql (.one .int) (.tmp 6) (I 4)), M 7 9] []) (.cond (.tmp 7) .skip (.region 2 [N 10 (.binOp .eql (.one .int) (.tmp 6) (I 5)), M 7 10] []))))) (.cond (.tmp 7) (.seq (.region 3 [A 11 2 1, L 12 11, M 4 12] []) .ret) (.seq (.seq (.region 2 [N 14 (.binOp .eql (.one .int) (.tmp 6) (I 1)), M 13 14] []) (.cond (.tmp 13) .skip (.seq (.region 2 [N 15 (.binOp .eql (.one .int) (.tmp 6) (I 2)), M 13 15] []) (.cond (.tmp 13) .skip (.seq (.region 2 [N 16 (.binOp .eql (.one .int) (.tmp 6) (I 6)), M 13 16] []) (.cond (.tmp 13) .skip (.seq (.region 2 [N 17 (.binOp .eql (.one .int) (.tmp 6) (I 7)), M 13 17] []) (.cond (.tmp 13) .skip (.seq (.region 2 [N 18 (.binOp .eql (.one .int) (.tmp 6) (I 8)), M 13 18] []) (.cond (.tmp 13) .skip (.region 2 [N 19 (.binOp .eql (.one .int) (.tmp 6) (I 9)), M 13 19] []))))))))))) (.cond (.tmp 13) (.seq (.region 4 [M 20 1, N 21 (.call 261 [(.tmp 20), (I 1)]), N 22 (.call 260 [(.tmp 21), (I 1)]), M 4 22] []) .ret) (.seq (.region 2 [N 24 (.binOp .eql (.one .int) (.tmp 6) (I 10)), M 23 24] []) (.cond (.tmp 23) (.seq (.region 18 [M 25 1, N 26 (.indexAddr none 1 (.tmp 25) (I 0)), L 27 26, N 28 (.binOp .eql (.one .int) (.tmp 27) (I 1)), M 29 28, V 30 (.move (.tmp 1)) 29, V 31 (.indexAddr none 1 (.tmp 30) (I 1)) 29, V 32 (.load none (.tmp 31)) 29, V 33 (.move (.tmp 1)) 29, V 34 (.indexAddr none 1 (.tmp 33) (I 2)) 29, V 35 (.load none (.tmp 34)) 29, V 36 (.binOp .eql (.one .int) (.tmp 32) (.tmp 35)) 29, N 37 (.pick (.tmp 29) (.tmp 36) (.const (.bool false))), M 38 1, N 39 (.indexAddr none 1 (.tmp 38) (I 1)), L 40 39, N 41 (.call 260 [(.tmp 37), (.tmp 40)]), M 4 41] []) .ret) (.seq (.region 2 [N 43 (.binOp .eql (.one .int) (.tmp 6) (I 11)), M 42 43] []) (.cond (.tmp 42) (.seq (.region 9 [M 44 1, N 45 (.indexAddr none 1 (.tmp 44) (I 0)), L 46 45, M 47 1, N 48 (.indexAddr none 1 (.tmp 47) (I 1)), L 49 48, N 50 (.binOp .eql (.one .int) (.tmp 46) (.tmp 49)), N 51 (.call 260 [(.tmp 50), (I 1)]), M 4 51] []) .ret) (.seq (.seq (.region 2 [N 53 (.binOp .eql (.one .int) (.tmp 6) (I 12)), M 52 53] []) (.cond (.tmp 52) .skip (.region 2 [N 54 (.binOp .eql (.one .int) (.tmp 6) (I 13)), M 52 54] []))) (.cond (.tmp 52) (.seq (.region 13 [M 55 1, N 56 (.indexAddr none 1 (.tmp 55) (I 0)), L 57 56, N 58 (.call 262 [.tmp 57]), M 59 58, V 60 (.move (.tmp 1)) 59, V 61 (.move (.tmp 1)) 59, V 62 (.indexAddr none 1 (.tmp 61) (I 0)) 59, V 63 (.load none (.tmp 62)) 59, V 64 (.call 261 [(.tmp 60), (.tmp 63)]) 59, N 65 (.pick (.tmp 59) (.tmp 64) (.const (.bool false))), N 66 (.call 260 [(.tmp 65), (I 1)]), M 4 66] []) .ret) (.seq (.seq (.region 2 [N 68 (.binOp .eql (.one .int) (.tmp 6) (I 14)), M 67 68] []) (.cond (.tmp 67) .skip (.region 2 [N 69 (.binOp .eql (.one .int) (.tmp 6) (I 15)), M 67 69] []))) (.cond (.tmp 67) (.seq (.region 16 [M 70 1, N 71 (.indexAddr none 1 (.tmp 70) (I 0)), L 72 71, N 73 (.call 262 [.tmp 72]), M 74 73, V 75 (.move (.tmp 1)) 74, V 76 (.move (.tmp 1)) 74, V 77 (.indexAddr none 1 (.tmp 76) (I 0)) 74, V 78 (.load none (.tmp 77)) 74, V 79 (.call 261 [(.tmp 75), (.tmp 78)]) 74, N 80 (.pick (.tmp 74) (.tmp 79) (.const (.bool false))), M 81 1, N 82 (.indexAddr none 1 (.tmp 81) (I 0)), L 83 82, N 84 (.call 260 [(.tmp 80), (.tmp 83)]), M 4 84] [(3, 12), (9, 12), (3, 13), (9, 13)]) .ret) (.seq (.seq (.region 2 [N 86 (.binOp .eql (.one .int) (.tmp 6) (I 16)), M 85 86] []) (.cond (.tmp 85) .skip (.region 2 [N 87 (.binOp .eql (.one .int) (.tmp 6) (I 17)), M 85 87] []))) (.cond (.tmp 85) (.seq (.region 6 [M 88 1, N 89 (.indexAddr none 1 (.tmp 88) (I 0)), L 90 89, N 91 (.binOp .eql (.one .int) (.tmp 90) (I 2)), N 92 (.call 260 [(.tmp 91), (I 2)]), M 4 92] []) .ret) (.seq (.region 2 [N 94 (.binOp .eql (.one .int) (.tmp 6) (I 18)), M 93 94] []) (.cond (.tmp 93) (.seq (.region 12 [M 95 1, N 96 (.indexAddr none 1 (.tmp 95) (I 0)), L 97 96, N 98 (.binOp .eql (.one .int) (.tmp 97) (I 4)), M 99 98, V 100 (.move (.tmp 1)) 99, V 101 (.indexAddr none 1 (.tmp 100) (I 1)) 99, V 102 (.load none (.tmp 101)) 99, V 103 (.binOp .eql (.one .int) (.tmp 102) (I 2)) 99, N 104 (.pick (.tmp 99) (.tmp 103) (.const (.bool false))), N 105 (.call 260 [(.tmp 104), (I 2)]), M 4 105] []) .ret) (.seq (.region 2 [N 107 (.binOp .eql (.one .int) (.tmp 6) (I 19)), M 106 107] []) (.cond (.tmp 106) (.seq (.region 11 [M 108 1, N 109 (.indexAddr none 1 (.tmp 108) (I 0)), L 110 109, N 111 (.binOp .eql (.one .int) (.tmp 110) (I 4)), M 112 111, V 113 (.move (.tmp 1)) 112, V 114 (.slice (some 1) (.tmp 113) (some (I 1)) none none) 112, V 115 (.call 261 [(.tmp 114), (I 2)]) 112, N 116 (.pick (.tmp 112) (.tmp 115) (.const (.bool false))), N 117 (.call 260 [(.tmp 116), (I 4)]), M 4 117] []) .ret) .skip)))))))))))))))))))) (.seq (.region 6 [M 118 1, N 119 (.indexAddr none 1 (.tmp 118) (I 0)), L 120 119, N 121 (.binOp .eql (.one .int) (.tmp 120) (I 2)), N 122 (.call 260 [(.tmp 121), (I 4)]), M 4 122] []) .ret))) }
theorem fn252 : Gam.fn 252 = some af252 := by kernel_rfl
def af255 : AFun :=
 { ntmps := 19, nslots := 0, results := [.tmp 4], byref := [], owned := false,
   body := (.seq (.region 1 [N 4 (.move (.const (.bool false)))] []) (.seq (.region 15 [M 5 0, N 6 (.binOp .eql (.one .int) (.tmp 5) (I 2)), M 7 6, V 8 (.move (.tmp 1)) 7, V 9 (.call 257 [.tmp 8]) 7, N 10 (.pick (.tmp 7) (.tmp 9) (.const (.bool false))), M 11 10, U 12 (.move (.tmp 0)) 11, U 13 (.binOp .eql (.one .int) (.tmp 12) (I 3)) 11, U 14 (.move (.tmp 13)) 11, V 15 (.move (.tmp 1)) 14, V 16 (.call 263 [.tmp 15]) 14, U 17 (.pick (.tmp 14) (.tmp 16) (.const (.bool false))) 11, N 18 (.pick (.tmp 11) (.const (.bool true)) (.tmp 17)), M 4 18] []) .ret)) }
theorem fn255 : Gam.fn 255 = some af255 := by kernel_rfl
def af256 : AFun :=
 { ntmps := 9, nslots := 0, results := [.tmp 2], byref := [], owned := false,
   body := (.seq (.region 1 [N 2 (.move (.const (.bool false)))] []) (.seq (.region 7 [M 3 0, N 4 (.binOp .geq (.one .int) (.tmp 3) (I 1)), M 5 4, V 6 (.move (.tmp 0)) 5, V 7 (.binOp .leq (.one .int) (.tmp 6) (I 4)) 5, N 8 (.pick (.tmp 5) (.tmp 7) (.const (.bool false))), M 2 8] []) .ret)) }
theorem fn256 : Gam.fn 256 = some af256 := by kernel_rfl
def af257 : AFun :=
 { ntmps := 20, nslots := 0, results := [.tmp 2], byref := [], owned := false,
   body := (.seq (.region 1 [N 2 (.move (.const (.bool false)))] []) (.seq (.region 7 [M 6 0, N 7 (.call 264 [(.tmp 6), (.const (.str [45]))]), M 5 7, E 8 5 0, E 9 5 1, M 3 8, M 4 9] []) (.seq (.region 11 [M 10 3, N 11 (.call 265 [.tmp 10]), M 12 11, V 13 (.move (.tmp 4)) 12, V 14 (.move (.tmp 13)) 12, V 15 (.move (.tmp 3)) 14, V 16 (.binOp .eql (.one .str) (.tmp 15) (.const (.str [48]))) 14, V 17 (.pick (.tmp 14) (.tmp 16) (.const (.bool false))) 12, V 18 (.unOp .not (.tmp 17)) 12, N 19 (.pick (.tmp 12) (.tmp 18) (.const (.bool false))), M 2 19] []) .ret))) }
theorem fn257 : Gam.fn 257 = some af257 := by kernel_rfl
def af258 : AFun :=
 { ntmps := 15, nslots := 0, results := [.tmp 2], byref := [], owned := false,
   body := (.seq (.region 1 [N 2 (.move (I 0))] []) (.seq (.block 0 (.seq (.region 8 [M 4 0, N 5 (.call 263 [.tmp 4]), N 6 (.unOp .not (.tmp 5)), M 7 6, U 8 (.move (.tmp 0)) 7, U 9 (.binOp .eql (.one .str) (.tmp 8) (.const (.str [48]))) 7, N 10 (.pick (.tmp 7) (.const (.bool true)) (.tmp 9)), M 3 10] []) (.cond (.tmp 3) (.seq (.region 1 [N 2 (.move (I 0))] []) .ret) (.seq (.region 4 [M 12 0, N 13 (.index none (.tmp 12) (I 0)), N 14 (.binOp .eql (.one .int) (.tmp 13) (.const (.int .u8 45))), M 11 14] []) (.cond (.tmp 11) (.seq (.region 1 [N 2 (.move (I (-1)))] []) .ret) .skip))))) (.seq (.region 1 [N 2 (.move (I 1))] []) .ret))) }
theorem fn258 : Gam.fn 258 = some af258 := by kernel_rfl
def af260 : AFun :=
 { ntmps := 7, nslots := 0, results := [.tmp 4], byref := [], owned := false,
   body := (.seq (.region 1 [N 4 (.move (I 0))] []) (.seq (.seq (.region 1 [M 5 0] []) (.cond (.tmp 5) (.seq (.region 2 [M 6 1, M 4 6] []) .ret) .skip)) (.seq (.region 1 [N 4 (.move (I 0))] []) .ret))) }
theorem fn260 : Gam.fn 260 = some af260 := by kernel_rfl
def af261 : AFun :=
 { ntmps := 9, nslots := 1, results := [.tmp 4], byref := [], owned := false,
   body := (.seq (.region 2 [N 3 (.box 0 (.tmp 1)), N 4 (.move (.const (.bool false)))] []) (.seq (.region 5 [M 5 0, N 6 (.makeFunc 266 [.tmp 3]), N 7 (.call 168 [(.tmp 5), (.tmp 6)]), N 8 (.unOp .not (.tmp 7)), M 4 8] []) .ret)) }
theorem fn261 : Gam.fn 261 = some af261 := by kernel_rfl
def af266 : AFun :=
 { ntmps := 7, nslots := 0, results := [.tmp 3], byref := [], owned := false,
   body := (.seq (.region 1 [N 3 (.move (.const (.bool false)))] []) (.seq (.region 4 [M 4 0, L 5 1, N 6 (.binOp .neq (.one .int) (.tmp 4) (.tmp 5)), M 3 6] []) .ret)) }
theorem fn266 : Gam.fn 266 = some af266 := by kernel_rfl
def af168 : AFun :=
 { ntmps := 9, nslots := 0, results := [.tmp 4], byref := [], owned := false,
   body := (.seq (.region 1 [N 4 (.move (.const (.bool false)))] []) (.seq (.region 5 [M 5 0, M 6 1, N 7 (.call 210 [(.tmp 5), (.tmp 6)]), N 8 (.binOp .geq (.one .int) (.tmp 7) (I 0)), M 4 8] []) .ret)) }
theorem fn168 : Gam.fn 168 = some af168 := by kernel_rfl
def c210_0 : ACode := (.seq (.region 1 [N 9 (.binOp .lss (.one .int) (.tmp 8) (.tmp 7))] []) (.seq (.cond (.tmp 9) .skip (.exit 0)) (.seq (.block 1 (.seq (.region 2 [M 10 8, M 5 10] []) (.seq (.region 6 [M 11 1, M 12 0, M 13 5, N 14 (.indexAddr none 1 (.tmp 12) (.tmp 13)), L 15 14, N 16 (.callv (.tmp 11) [.tmp 15])] []) (.cond (.tmp 16) (.seq (.region 2 [M 17 5, M 4 17] []) .ret) .skip)))) (.region 2 [N 18 (.binOp .add (.one .int) (.tmp 8) (I 1)), M 8 18] []))))
def af210 : AFun :=
 { ntmps := 19, nslots := 0, results := [.tmp 4], byref := [], owned := false,
   body := (.seq (.region 1 [N 4 (.move (I 0))] []) (.seq (.seq (.region 3 [M 6 0, N 7 (.len .sl (.tmp 6)), N 8 (.move (I 0))] []) (.block 0 (.loop c210_0))) (.seq (.region 1 [N 4 (.move (I (-1)))] []) .ret))) }
theorem fn210 : Gam.fn 210 = some af210 := by kernel_rfl
def af262 : AFun :=
 { ntmps := 9, nslots := 0, results := [.tmp 2], byref := [], owned := false,
   body := (.seq (.region 1 [N 2 (.move (.const (.bool false)))] []) (.seq (.region 7 [M 3 0, N 4 (.binOp .eql (.one .int) (.tmp 3) (I 2)), M 5 4, U 6 (.move (.tmp 0)) 5, U 7 (.binOp .eql (.one .int) (.tmp 6) (I 3)) 5, N 8 (.pick (.tmp 5) (.const (.bool true)) (.tmp 7)), M 2 8] []) .ret)) }
theorem fn262 : Gam.fn 262 = some af262 := by kernel_rfl
def af7 : AFun :=
 { ntmps := 53, nslots := 4, results := [.tmp 2], byref := [], owned := false,
   body := (.seq (.region 1 [N 2 (.move (.const (.bool false)))] []) (.seq (.region 4 [M 10 0, N 11 (.call 26 [.tmp 10]), N 3 (.alloc 0 (.agg [(.sl [] .nil), (.sl [] .nil)])), S 2 3 11] []) (.seq (.region 8 [N 13 (.load (some 2) (.tmp 3)), N 14 (.call 21 [.tmp 13]), M 12 14, E 15 12 0, E 16 12 1, N 4 (.alloc 1 (.agg [(.int .i64 0), (.str []), (.str []), (.int .i64 0), (.int .i64 0), (.sl [] .nil), (.sl [] .nil), (.sl [] .nil)])), S 8 4 15, M 5 16] []) (.seq (.region 9 [N 18 (.load (some 2) (.tmp 3)), N 19 (.load (some 8) (.tmp 4)), N 20 (.call 24 [(.tmp 18), (.tmp 19)]), M 17 20, E 21 17 0, E 22 17 1, N 6 (.alloc 2 (.agg [(.sl [] .nil), (.sl [] .nil)])), S 2 6 21, M 7 22] []) (.seq (.region 8 [N 24 (.load (some 2) (.tmp 6)), N 25 (.call 21 [.tmp 24]), M 23 25, E 26 23 0, E 27 23 1, N 8 (.alloc 3 (.agg [(.int .i64 0), (.str []), (.str []), (.int .i64 0), (.int .i64 0), (.sl [] .nil), (.sl [] .nil), (.sl [] .nil)])), S 8 8 26, M 9 27] []) (.seq (.region 26 [M 28 5, N 29 (.binOp .eql (.one .int) (.tmp 28) (I 0)), M 30 29, V 31 (.move (.tmp 7)) 30, V 32 (.binOp .eql (.one .int) (.tmp 31) (I 0)) 30, N 33 (.pick (.tmp 30) (.tmp 32) (.const (.bool false))), M 34 33, V 35 (.move (.tmp 9)) 34, V 36 (.binOp .eql (.one .int) (.tmp 35) (I 0)) 34, N 37 (.pick (.tmp 34) (.tmp 36) (.const (.bool false))), M 38 37, V 39 (.fieldAddr (.tmp 8) 5) 38, V 40 (.load none (.tmp 39)) 38, V 41 (.len .sl (.tmp 40)) 38, V 42 (.binOp .eql (.one .int) (.tmp 41) (I 0)) 38, N 43 (.pick (.tmp 38) (.tmp 42) (.const (.bool false))), M 44 43, V 45 (.fieldAddr (.tmp 8) 6) 44, V 46 (.load none (.tmp 45)) 44, V 47 (.len .sl (.tmp 46)) 44, V 48 (.binOp .eql (.one .int) (.tmp 47) (I 0)) 44, N 49 (.pick (.tmp 44) (.tmp 48) (.const (.bool false))), M 50 49, V 51 (.call 19 []) 50, N 52 (.pick (.tmp 50) (.tmp 51) (.const (.bool false))), M 2 52] []) .ret)))))) }
theorem fn7 : Gam.fn 7 = some af7 := by kernel_rfl
end Go.Proofs.YtbeooboebfbchaaGreatDoor.Am
namespace Go.Proofs.YtbeooboebfbchaaGreatDoor.Am
open Go
set_option maxRecDepth 100000
theorem idx_bytes {s : List Nat} {i : Nat} {h : List AObj} {t : Tip} {k : IntKind} (hi : i < s.length) : idxAV h 1 (.sl (bytes s) t) (.int k (i : Int)) = some (.iptr [.int .u8 (s[i] : Int)] 0, h) := idxAV_sl (e := .int .u8 (s[i] : Int)) (by simp [bytes, hi]) rfl
theorem pure265 {n : Nat} (hl : (dec n).length ≤ 1000) : Pure Gam 265 [.str (dec n)] (.bool true) := by
 refine Pure.of rfl fn265 rfl rfl rfl rfl rfl fun D B clk T hB hT => ?_
 have hd := dec_digits n
 have hb : (dec n).map (fun (b : Nat) => AV.int .u8 (Int.ofNat b)) = bytes (dec n) := rfl
 simp only [go_sem, Nat.reduceBEq, af265, hb, bytes_len]
 refine K_loop (fun m q => ∃ j : Nat, j ≤ (dec n).length ∧ m = (dec n).length - j ∧ q.ts 0 = .str (dec n) ∧ q.ts 6 = .sl (bytes (dec n)) .no ∧ q.ts 7 = .int .i64 ((dec n).length : Int) ∧ q.ts 8 = .int .i64 (j : Int) ∧ q.h = D ++ []) (dec n).length ⟨0, by omega, rfl, rfl, rfl, rfl, rfl, rfl⟩ ?_
 rintro m ⟨ts, h, clk⟩ P ⟨j, hj, rfl, h0, h6, h7, h8, rfl⟩ hn he hr
 dsimp only at h0 h6 h7 h8
 by_cases hlt : j < (dec n).length
 · have e1 : decide ((j : Int) < ((dec n).length : Int)) = true := by rw [decide_eq_true_iff]; omega
   have hc := hd _ (List.getElem_mem hlt)
   have e2 : decide (((dec n)[j] : Int) < 48) = false := by rw [decide_eq_false_iff_not]; omega
   have e3 : decide ((57 : Int) < ((dec n)[j] : Int)) = false := by rw [decide_eq_false_iff_not]; omega
   have e4 : IntKind.i64.wrap ((j : Int) + 1) = ((j + 1 : Nat) : Int) := wrap_i64 (by omega) (by omega)
   simp only [go_sem, Nat.reduceBEq, h0, h6, h7, h8, c265_0, e1, idx_bytes hlt, e2, e3, e4]
   exact hn ((dec n).length - (j + 1)) _ (by omega) ⟨j + 1, hlt, rfl, h0, h6, h7, rfl, rfl⟩
 · have e1 : decide ((j : Int) < ((dec n).length : Int)) = false := by rw [decide_eq_false_iff_not]; omega
   simp only [go_sem, Nat.reduceBEq, h0, h6, h7, h8, c265_0, e1]
   refine he _ _ ?_
   rcases Nat.eq_zero_or_pos n with rfl | hpos
   · have e2 : decide (dec 0 = [48]) = true := by rw [dec_is_zero]; rfl
     simp only [go_sem, Nat.reduceBEq, h0, e2, Bool.not_true]
     rw [RV_bool]
     exact hT _
   · obtain ⟨c, t, hct, hc1, hc2⟩ := dec_head hpos
     have e2 : decide (dec n = [48]) = false := by rw [dec_is_zero, decide_eq_false_iff_not]; omega
     have e3 : decide (dec n = []) = false := by simp [dec_ne n]
     have e4 : ∀ h k, idxSV h (.str (dec n)) (.int k 0) = some (.int .u8 (c : Int), h) := fun h k => by rw [hct]; exact idxS_zero
     have e5 : decide ((c : Int) = 48) = false := by rw [decide_eq_false_iff_not]; omega
     simp only [go_sem, Nat.reduceBEq, h0, e2, e3, e4, e5, Bool.not_false, Bool.not_true]
     rw [RV_bool]
     exact hT _
theorem pure257 {z : Int} (hl : (dec z.natAbs).length ≤ 1000) : Pure Gam 257 [.str (itext z)] (.bool true) := by
 refine Pure.of rfl fn257 rfl rfl rfl rfl rfl fun D B clk T hB hT => ?_
 by_cases hz : z < 0
 · have e1 : decide (dec z.natAbs = [48]) = false := by rw [dec_is_zero, decide_eq_false_iff_not]; omega
   rw [itext, if_pos hz]
   simp only [go_sem, Nat.reduceBEq, af257]
   rw [CK_pure pure264_neg]
   simp only [go_sem, Nat.reduceBEq, ]
   rw [CK_pure (pure265 hl)]
   simp only [go_sem, Nat.reduceBEq, e1, Bool.not_false]
   rw [RV_bool]
   exact hT _
 · obtain ⟨c, t, hct⟩ := List.exists_cons_of_ne_nil (dec_ne z.natAbs)
   have hc := dec_digits z.natAbs c (by rw [hct]; exact List.mem_cons_self)
   have hp : Pure Gam 264 [.str (dec z.natAbs), .str [45]] (.tup [.str (dec z.natAbs), .bool false]) := by rw [hct]; exact pure264_pos (by omega)
   rw [itext, if_neg hz]
   simp only [go_sem, Nat.reduceBEq, af257]
   rw [CK_pure hp]
   simp only [go_sem, Nat.reduceBEq, ]
   rw [CK_pure (pure265 hl)]
   simp only [go_sem, Nat.reduceBEq, Bool.not_false]
   rw [RV_bool]
   exact hT _
theorem Pure.ext {f : Nat} {args : List AV} {sem : List AV → Option AV} {v : AV} (hext : Gam.ext f = some sem) (hobs : obsL args = []) (hv : sem (cvL args) = some v) : Pure Gam f args v := by
 intro h clk
 constructor
 · refine ⟨0, ?_⟩
   unfold callA callWith
   simp only [hext, passArgs_cv hobs, lent_nil hobs, List.isEmpty_nil, if_true, hv, Option.map_some]
 · unfold callFoot
   simp only [hext, hobs, List.map_nil, List.append_nil]
def slashAt (s : List Nat) : Int := match s.findIdx? (fun (b : Nat) => decide ((b : Int) = 47)) with
 | some i => (i : Int)
 | none => -1
theorem pure303 {s : List Nat} : Pure Gam 303 [.str s, .int .u8 47] (.int .i64 (slashAt s)) := Pure.ext (sem := idxSem) rfl rfl (by simp [cvL, AV.cv, idxSem, slashAt]; rfl)
theorem pure282 {c : Nat} {t : List Nat} (hc : c ≠ 47) : Pure Gam 282 [.str (c :: t), .str [47]] (.int .i64 (slashAt (c :: t))) := by
 have h292 : Pure Gam 292 [.str (c :: t), .int .u8 47] (.int .i64 (slashAt (c :: t))) := by
   refine Pure.of rfl fn292 rfl rfl rfl rfl rfl fun D B clk T hB hT => ?_
   simp only [go_sem, Nat.reduceBEq, af292]
   rw [CK_pure pure303]
   simp only [go_sem, Nat.reduceBEq, ]
   rw [RV_int]
   exact hT _
 refine Pure.of rfl fn282 rfl rfl rfl rfl rfl fun D B clk T hB hT => ?_
 have e2 : decide ([47] = c :: t) = false := by rw [decide_eq_false_iff_not]; intro h; injection h with h1 _; exact hc h1.symm
 simp only [go_sem, Nat.reduceBEq, af282, Nat.zero_add, Int.cast_ofNat_Int, Int.reduceEq, decide_true, decide_false, Bool.not_false, e2, idxS_zero]
 rw [CK_pure h292]
 simp only [go_sem, Nat.reduceBEq, ]
 rw [RV_int]
 exact hT _
theorem slash_none {s : List Nat} (hd : ∀ c ∈ s, c ≠ 47) : slashAt s = -1 := by
 unfold slashAt
 rw [List.findIdx?_eq_none_iff.2 fun c hc => by have := hd c hc; simp; omega]
theorem slash_at {s r : List Nat} (hd : ∀ c ∈ s, c ≠ 47) : slashAt (s ++ 47 :: r) = (s.length : Int) := by
 have h : (s ++ 47 :: r).findIdx? (fun (b : Nat) => decide ((b : Int) = 47)) = some s.length := by
   induction s with
   | nil => simp [List.findIdx?_cons]
   | cons c s ih =>
     have hc := hd c List.mem_cons_self
     have := ih fun d hd' => hd d (List.mem_cons_of_mem _ hd')
     rw [List.cons_append, List.findIdx?_cons, this]
     have : decide ((c : Int) = 47) = false := by rw [decide_eq_false_iff_not]; omega
     simp [this]
 unfold slashAt
 rw [h]
theorem pure270_none {s : List Nat} (hne : s ≠ []) (hd : ∀ c ∈ s, c ≠ 47) : Pure Gam 270 [.str s, .str [47]] (.tup [.str s, .str [], .bool false]) := by
 obtain ⟨c, t, rfl⟩ := List.exists_cons_of_ne_nil hne
 have hp : Pure Gam 277 [.str (c :: t), .str [47]] (.tup [.str (c :: t), .str [], .bool false]) := by
   refine Pure.of rfl fn277 rfl rfl rfl rfl rfl fun D B clk T hB hT => ?_
   simp only [go_sem, Nat.reduceBEq, af277]
   rw [CK_pure (pure282 (hd c List.mem_cons_self)), slash_none hd]
   simp only [go_sem, Nat.reduceBEq, Int.reduceLE, decide_false]
   rw [RV_some rfl rfl]
   exact hT _
 refine Pure.of rfl fn270 rfl rfl rfl rfl rfl fun D B clk T hB hT => ?_
 simp only [go_sem, Nat.reduceBEq, af270]
 rw [CK_pure hp]
 simp only [go_sem, Nat.reduceBEq, ]
 rw [RV_some rfl rfl]
 exact hT _
theorem pure270_at {s r : List Nat} (hne : s ≠ []) (hd : ∀ c ∈ s, c ≠ 47) (hl : s.length ≤ 1000) : Pure Gam 270 [.str (s ++ 47 :: r), .str [47]] (.tup [.str s, .str r, .bool true]) := by
 obtain ⟨c, t, hs⟩ := List.exists_cons_of_ne_nil hne
 have hi : Pure Gam 282 [.str (s ++ 47 :: r), .str [47]] (.int .i64 (s.length : Int)) := by
   rw [← slash_at (r := r) hd, hs]
   exact pure282 (hd c (by rw [hs]; exact List.mem_cons_self))
 have hp : Pure Gam 277 [.str (s ++ 47 :: r), .str [47]] (.tup [.str s, .str r, .bool true]) := by
   refine Pure.of rfl fn277 rfl rfl rfl rfl rfl fun D B clk T hB hT => ?_
   have e1 : decide (0 ≤ (s.length : Int)) = true := by rw [decide_eq_true_iff]; omega
   have e2 : IntKind.i64.wrap ((s.length : Int) + 1) = ((s.length + 1 : Nat) : Int) := wrap_i64 (by omega) (by omega)
   have e3 : (s ++ 47 :: r).take s.length = s := List.take_left
   have e4 : (s ++ 47 :: r).drop (s.length + 1) = r := by rw [List.drop_append, Nat.add_sub_cancel_left, List.drop_of_length_le (by omega)]; rfl
   have h1 : ∀ h, slV h none (.str (s ++ 47 :: r)) none (some (.int .i64 (s.length : Int))) none = some (.str s, h) := fun h => by rw [slS_to (by simp), e3]
   have h2 : ∀ h, slV h none (.str (s ++ 47 :: r)) (some (.int .i64 ((s.length + 1 : Nat) : Int))) none none = some (.str r, h) := fun h => by rw [slS_from (by simp), e4]
   simp only [go_sem, Nat.reduceBEq, af277]
   rw [CK_pure hi]
   simp only [go_sem, Nat.reduceBEq, e1, Nat.zero_add, Int.cast_ofNat_Int, e2, h1, h2]
   rw [RV_some rfl rfl]
   exact hT _
 refine Pure.of rfl fn270 rfl rfl rfl rfl rfl fun D B clk T hB hT => ?_
 simp only [go_sem, Nat.reduceBEq, af270]
 rw [CK_pure hp]
 simp only [go_sem, Nat.reduceBEq, ]
 rw [RV_some rfl rfl]
 exact hT _
def nl (n : Nat) : List Nat := if n = 0 then [] else n % 1000000000 :: nl (n / 1000000000)
termination_by n
decreasing_by omega
theorem nl_zero : nl 0 = [] := by rw [nl, if_pos rfl]
theorem nl_pos {n : Nat} (h : 0 < n) : nl n = n % 1000000000 :: nl (n / 1000000000) := by rw [nl, if_neg (by omega)]
theorem nl_small {n : Nat} (h : 0 < n) (h2 : n < 1000000000) : nl n = [n] := by
 rw [nl_pos h, Nat.mod_eq_of_lt h2, Nat.div_eq_of_lt h2, nl_zero]
def lval : List Nat → Nat
 | [] => 0
 | x :: l => x + 1000000000 * lval l
theorem lval_nl (n : Nat) : lval (nl n) = n := by
 induction n using Nat.strongRecOn with
 | ind n ih =>
   rcases Nat.eq_zero_or_pos n with rfl | h
   · rw [nl_zero]; rfl
   · rw [nl_pos h, lval, ih _ (by omega)]
     omega
theorem nl_lt (n : Nat) : ∀ x ∈ nl n, x < 1000000000 := by
 induction n using Nat.strongRecOn with
 | ind n ih =>
   rcases Nat.eq_zero_or_pos n with rfl | h
   · rw [nl_zero]; simp
   · rw [nl_pos h]
     intro x hx
     rw [List.mem_cons] at hx
     rcases hx with rfl | hx
     · omega
     · exact ih _ (by omega) x hx
theorem lval_append {a b : List Nat} : lval (a ++ b) = lval a + 1000000000 ^ a.length * lval b := by
 induction a with
 | nil => simp [lval]
 | cons x a ih =>
   simp only [List.cons_append, lval, ih, List.length_cons, Nat.pow_succ]
   rw [Nat.mul_add, ← Nat.mul_assoc, Nat.mul_comm (1000000000 ^ a.length) 1000000000]
   omega
theorem lval_lt {l : List Nat} (h : ∀ x ∈ l, x < 1000000000) : lval l < 1000000000 ^ l.length := by
 induction l with
 | nil => simp [lval]
 | cons x l ih =>
   have h1 := ih fun y hy => h y (List.mem_cons_of_mem _ hy)
   have h2 := h x List.mem_cons_self
   simp only [lval, List.length_cons, Nat.pow_succ]
   omega
theorem nl_lval {l : List Nat} (h : ∀ x ∈ l, x < 1000000000) (hc : ∀ l', l ≠ l' ++ [0]) : nl (lval l) = l := by
 induction l with
 | nil => exact nl_zero
 | cons x l ih =>
   have hx := h x List.mem_cons_self
   have hl : nl (lval l) = l := ih (fun y hy => h y (List.mem_cons_of_mem _ hy)) fun l' e => hc (x :: l') (by rw [e]; rfl)
   have hpos : 0 < x + 1000000000 * lval l := by
     rcases Nat.eq_zero_or_pos (lval l) with h0 | h0
     · rw [h0, nl_zero] at hl
       have : x ≠ 0 := fun e => hc [] (by rw [e, ← hl]; rfl)
       omega
     · omega
   rw [lval, nl_pos hpos]
   congr 1
   · omega
   · rw [show (x + 1000000000 * lval l) / 1000000000 = lval l by omega, hl]
theorem nl_len {n k : Nat} (h : n < 1000000000 ^ k) : (nl n).length ≤ k := by
 induction k generalizing n with
 | zero =>
   have : n = 0 := by simpa using h
   rw [this, nl_zero]; simp
 | succ k ih =>
   rcases Nat.eq_zero_or_pos n with rfl | hp
   · rw [nl_zero]; simp
   · rw [nl_pos hp, List.length_cons]
     have := ih (n := n / 1000000000) (by rw [Nat.pow_succ] at h; omega)
     omega
theorem nl_one {n : Nat} (hl : (nl n).length = 1) : nl n = [n] ∧ 0 < n ∧ n < 1000000000 := by
 rcases Nat.eq_zero_or_pos n with rfl | hp
 · rw [nl_zero] at hl; simp at hl
 · rw [nl_pos hp] at hl
   have h1 : nl (n / 1000000000) = [] := by simpa using hl
   have h2 : n / 1000000000 = 0 := by
     have := lval_nl (n / 1000000000)
     rw [h1] at this
     exact this.symm
   have h3 : n < 1000000000 := by omega
   exact ⟨nl_small hp h3, hp, h3⟩
end Go.Proofs.YtbeooboebfbchaaGreatDoor.Am
