/- Walking: the program's numbers Functions of the abstract machine's program Walking: the program's numbers Walking: a number is cut at its slash Walking: a number is cut at its slash Walking: a number  -/
import Derived.Test.YtmkblnlafljljaaGreatDoorM29
open Nat renaming reduceBEq → z0,reduceAdd → z1,reduceLeDiff → z2,reduceSub → z3
set_option linter.all false
namespace Go.Proofs.YtmkblnlafljljaaGreatDoor.Am
open Go
set_option maxRecDepth 100000
theorem j0d {h:List AObj} {c:Nat} {s:List Nat} {k:IntKind}:slV h none (.str (c::s)) none (some (.int k 1)) none=some (.str [c],h):=by
 simp[slV,z2l,z4n]
theorem x7x {t:List Nat}:Pure Gam 243 [.str (45::t), .str [45]] (.bool true):=by
 refine Pure.of rfl w2k rfl rfl rfl rfl rfl fun D B clk T hB hT=> ?_
 have e1:decide ((1:Int)≤((t.length + 1:Nat):Int))=true:=by rw[decide_eq_true_iff];omega
 simp only[go_sem,z0,v1p,Nat.zero_add,Int.cast_ofNat_Int,e1,j0d,decide_true]
 rw[z0f]
 exact hT _
theorem x7y {c:Nat} {t:List Nat} (hc:c≠45):Pure Gam 243 [.str (c::t), .str [45]] (.bool false):=by
 refine Pure.of rfl w2k rfl rfl rfl rfl rfl fun D B clk T hB hT=> ?_
 have e1:decide ((1:Int)≤((t.length + 1:Nat):Int))=true:=by rw[decide_eq_true_iff];omega
 have e2:decide ([c]=[45])=false:=by simp[hc]
 simp only[go_sem,z0,v1p,Nat.zero_add,Int.cast_ofNat_Int,e1,j0d,e2]
 rw[z0f]
 exact hT _
theorem q8h {t:List Nat}:Pure Gam 231 [.str (45::t), .str [45]] (.tup [.str t, .bool true]):=by
 have hp:Pure Gam 236 [.str (45::t), .str [45]] (.tup [.str t, .bool true]):=by
  refine Pure.of rfl w2j rfl rfl rfl rfl rfl fun D B clk T hB hT=> ?_
  simp only[go_sem,z0,v1o]
  rw[z0a x7x]
  simp only[go_sem,z0,Bool.not_true,Nat.zero_add,Int.cast_ofNat_Int,q8g]
  rw[z0h rfl rfl]
  exact hT _
 refine Pure.of rfl w2i rfl rfl rfl rfl rfl fun D B clk T hB hT=> ?_
 simp only[go_sem,z0,v1n]
 rw[z0a hp]
 simp only[go_sem,z0,]
 rw[z0h rfl rfl]
 exact hT _
theorem q8i {c:Nat} {t:List Nat} (hc:c≠45):Pure Gam 231 [.str (c::t), .str [45]] (.tup [.str (c::t), .bool false]):=by
 have hp:Pure Gam 236 [.str (c::t), .str [45]] (.tup [.str (c::t), .bool false]):=by
  refine Pure.of rfl w2j rfl rfl rfl rfl rfl fun D B clk T hB hT=> ?_
  simp only[go_sem,z0,v1o]
  rw[z0a (x7y hc)]
  simp only[go_sem,z0,Bool.not_false]
  rw[z0h rfl rfl]
  exact hT _
 refine Pure.of rfl w2i rfl rfl rfl rfl rfl fun D B clk T hB hT=> ?_
 simp only[go_sem,z0,v1n]
 rw[z0a hp]
 simp only[go_sem,z0,]
 rw[z0h rfl rfl]
 exact hT _
section
open Sh
def w3i:AFun:=
 {ntmps:=19,nslots:=0,results:=[.tmp 2],byref:=[],owned:=false,
  body:=(.seq (.region 1 [N 2 (.move (I 0))] []) (.seq (.region 7 [M 6 0,N 7 (.call 197 [.tmp 6]),M 5 7,E 8 5 0,E 9 5 1,M 3 8,M 4 9] []) (.seq (.seq (.region 2 [M 10 4,N 11 (.unOp .not (.tmp 10))] []) (.cond (.tmp 11) (.seq (.region 1 [N 2 (.move (I 0))] []) .ret) .skip)) (.seq (.region 8 [M 12 3,N 13 (.nilCheck (.tmp 12)),A 14 13 1,L 15 14,N 16 (.indexAddr none 3 (.tmp 15) (I 0)),A 17 16 0,L 18 17,M 2 18] []) .ret))))}
theorem y1j:Gam.fn 177=some w3i:=by kernel_rfl
def w3j:AFun:=
 {ntmps:=22,nslots:=0,results:=[.tmp 2],byref:=[],owned:=false,
  body:=(.seq (.region 1 [N 2 (.move (.const (.sl [] .nil)))] []) (.seq (.region 7 [M 9 0,N 10 (.call 197 [.tmp 9]),M 8 10,E 11 8 0,E 12 8 1,M 3 11,M 4 12] []) (.seq (.seq (.region 2 [M 13 4,N 14 (.unOp .not (.tmp 13))] []) (.cond (.tmp 14) (.seq (.region 1 [N 2 (.move (.const (.sl [] .nil)))] []) .ret) .skip)) (.seq (.region 9 [M 16 3,N 17 (.call 198 [.tmp 16]),M 15 17,E 18 15 0,E 19 15 1,E 20 15 2,M 5 18,M 6 19,M 7 20] []) (.seq (.region 2 [M 21 6,M 2 21] []) .ret)))))}
theorem y1k:Gam.fn 178=some w3j:=by kernel_rfl
def w3k:AFun:=
 {ntmps:=22,nslots:=0,results:=[.tmp 2],byref:=[],owned:=false,
  body:=(.seq (.region 1 [N 2 (.move (.const (.sl [] .nil)))] []) (.seq (.region 7 [M 9 0,N 10 (.call 197 [.tmp 9]),M 8 10,E 11 8 0,E 12 8 1,M 3 11,M 4 12] []) (.seq (.seq (.region 2 [M 13 4,N 14 (.unOp .not (.tmp 13))] []) (.cond (.tmp 14) (.seq (.region 1 [N 2 (.move (.const (.sl [] .nil)))] []) .ret) .skip)) (.seq (.region 9 [M 16 3,N 17 (.call 198 [.tmp 16]),M 15 17,E 18 15 0,E 19 15 1,E 20 15 2,M 5 18,M 6 19,M 7 20] []) (.seq (.region 2 [M 21 5,M 2 21] []) .ret)))))}
theorem y1l:Gam.fn 180=some w3k:=by kernel_rfl
def w3l:AFun:=
 {ntmps:=34,nslots:=0,results:=[.tmp 2, .tmp 3],byref:=[],owned:=false,
  body:=(.seq (.region 2 [N 2 (.move (.const .nilptr)),N 3 (.move (.const (.bool false)))] []) (.seq (.seq (.region 8 [M 6 0,N 7 (.len .sl (.tmp 6)),N 8 (.binOp .eql (.one .int) (.tmp 7) (I 0)),M 9 8,U 10 (.move (.tmp 0)) 9,U 11 (.len .sl (.tmp 10)) 9,U 12 (.binOp .gtr (.one .int) (.tmp 11) (I 20000)) 9,N 13 (.pick (.tmp 9) (.const (.bool true)) (.tmp 12))] []) (.cond (.tmp 13) (.seq (.region 2 [N 2 (.move (.const .nilptr)),N 3 (.move (.const (.bool false)))] []) .ret) .skip)) (.seq (.region 7 [M 15 0,N 16 (.call 209 [.tmp 15]),M 14 16,E 17 14 0,E 18 14 1,M 4 17,M 5 18] []) (.seq (.seq (.region 6 [M 19 5,N 20 (.unOp .not (.tmp 19)),M 21 20,U 22 (.move (.tmp 4)) 21,U 23 (.call 210 [.tmp 22]) 21,N 24 (.pick (.tmp 21) (.const (.bool true)) (.tmp 23))] []) (.cond (.tmp 24) (.seq (.region 2 [N 2 (.move (.const .nilptr)),N 3 (.move (.const (.bool false)))] []) .ret) .skip)) (.seq (.seq (.region 7 [M 26 4,N 27 (.call 198 [.tmp 26]),M 25 27,E 28 25 0,E 29 25 1,E 30 25 2,M 5 30] []) (.seq (.region 2 [M 31 5,N 32 (.unOp .not (.tmp 31))] []) (.cond (.tmp 32) (.seq (.region 2 [N 2 (.move (.const .nilptr)),N 3 (.move (.const (.bool false)))] []) .ret) .skip))) (.seq (.region 3 [M 33 4,M 2 33,N 3 (.move (.const (.bool true)))] []) .ret))))))}
theorem y1m:Gam.fn 197=some w3l:=by kernel_rfl
def x5g:ACode:=(.seq (.region 1 [N 28 (.binOp .lss (.one .int) (.tmp 27) (.tmp 26))] []) (.seq (.cond (.tmp 28) .skip (.exit 0)) (.seq (.block 1 (.seq (.region 6 [M 29 27,N 30 (.indexAddr none 5 (.tmp 25) (.tmp 27)),N 31 (.load (some 5) (.tmp 30)),N 10 (.alloc 2 (.agg [(.int .i64 0),(.int .i64 0),(.str []),(.str []),(.int .i64 0)])),M 9 29,S 5 10 31] []) (.seq (.region 2 [A 32 10 0,L 33 32] []) (.block 2 (.seq (.region 2 [N 35 (.binOp .eql (.one .int) (.tmp 33) (I 4)),M 34 35] []) (.cond (.tmp 34) (.seq (.region 10 [M 37 5,A 38 10 2,L 39 38,N 40 (.lookup (.one .str) (.agg [(.str []),(.int .i64 0)]) (.tmp 37) (.tmp 39) true),M 36 40,E 41 36 0,E 42 36 1,N 11 (.alloc 3 (.agg [(.str []),(.int .i64 0)])),S 2 11 41,M 12 42] []) (.seq (.seq (.region 2 [M 43 12,N 44 (.unOp .not (.tmp 43))] []) (.cond (.tmp 44) (.seq (.region 6 [A 45 10 2,L 46 45,A 47 10 1,L 48 47,N 49 (.build [(.str []),(.int .i64 0)] [(0,1,(.tmp 46)),(1,1,(.tmp 48))]),S 2 11 49] []) (.seq (.region 5 [M 50 5,A 51 10 2,L 52 51,N 53 (.load (some 2) (.tmp 11)),⟨none, .mapUpdate (.one .str) (.tmp 50) (.tmp 52) (.tmp 53),none⟩] []) (.region 5 [M 54 7,N 55 (.load (some 2) (.tmp 11)),N 56 (.buildSlice 4 false (.agg [(.str []),(.int .i64 0)]) 1 [(0,(.tmp 55))]),N 57 (.append 5 2 24 false (.tmp 54) (.tmp 56)),M 7 57] []))) .skip)) (.seq (.region 10 [M 59 6,A 60 10 2,L 61 60,N 62 (.lookup (.one .str) (.agg [(.str []),(.sl [] .nil),(.int .i64 0)]) (.tmp 59) (.tmp 61) true),M 58 62,E 63 58 0,E 64 58 1,N 13 (.alloc 6 (.agg [(.str []),(.sl [] .nil),(.int .i64 0)])),S 3 13 63,M 14 64] []) (.seq (.region 8 [M 65 14,M 66 65,U 67 (.fieldAddr (.tmp 11) 1) 66,U 68 (.load none (.tmp 67)) 66,U 69 (.fieldAddr (.tmp 10) 1) 66,U 70 (.load none (.tmp 69)) 66,U 71 (.binOp .neq (.one .int) (.tmp 68) (.tmp 70)) 66,N 72 (.pick (.tmp 66) (.const (.bool true)) (.tmp 71))] []) (.cond (.tmp 72) (.seq (.region 3 [N 2 (.move (.const (.sl [] .nil))),N 3 (.move (.const (.sl [] .nil))),N 4 (.move (.const (.bool false)))] []) .ret) .skip))))) (.seq (.region 2 [N 74 (.binOp .eql (.one .int) (.tmp 33) (I 5)),M 73 74] []) (.cond (.tmp 73) (.seq (.region 10 [M 76 6,A 77 10 2,L 78 77,N 79 (.lookup (.one .str) (.agg [(.str []),(.sl [] .nil),(.int .i64 0)]) (.tmp 76) (.tmp 78) true),M 75 79,E 80 75 0,E 81 75 1,N 15 (.alloc 7 (.agg [(.str []),(.sl [] .nil),(.int .i64 0)])),S 3 15 80,M 16 81] []) (.seq (.region 5 [M 82 0,M 83 9,N 84 (.call 211 [(.tmp 82),(.tmp 83)]),N 17 (.alloc 8 (.agg [(.str []),(.sl [] .nil),(.int .i64 0)])),S 3 17 84] []) (.seq (.seq (.region 2 [M 85 16,N 86 (.unOp .not (.tmp 85))] []) (.cond (.tmp 86) (.seq (.region 2 [N 87 (.load (some 3) (.tmp 17)),S 3 15 87] []) (.seq (.region 5 [M 88 6,A 89 10 2,L 90 89,N 91 (.load (some 3) (.tmp 17)),⟨none, .mapUpdate (.one .str) (.tmp 88) (.tmp 90) (.tmp 91),none⟩] []) (.region 5 [M 92 8,N 93 (.load (some 3) (.tmp 17)),N 94 (.buildSlice 9 false (.agg [(.str []),(.sl [] .nil),(.int .i64 0)]) 1 [(0,(.tmp 93))]),N 95 (.append 10 3 48 false (.tmp 92) (.tmp 94)),M 8 95] []))) .skip)) (.seq (.region 10 [M 97 5,A 98 10 2,L 99 98,N 100 (.lookup (.one .str) (.agg [(.str []),(.int .i64 0)]) (.tmp 97) (.tmp 99) true),M 96 100,E 101 96 0,E 102 96 1,N 18 (.alloc 11 (.agg [(.str []),(.int .i64 0)])),S 2 18 101,M 19 102] []) (.seq (.region 7 [M 103 19,M 104 103,U 105 (.load (some 3) (.tmp 15)) 104,U 106 (.load (some 3) (.tmp 17)) 104,U 107 (.call 212 [(.tmp 105),(.tmp 106)]) 104,U 108 (.unOp .not (.tmp 107)) 104,N 109 (.pick (.tmp 104) (.const (.bool true)) (.tmp 108))] []) (.cond (.tmp 109) (.seq (.region 3 [N 2 (.move (.const (.sl [] .nil))),N 3 (.move (.const (.sl [] .nil))),N 4 (.move (.const (.bool false)))] []) .ret) .skip)))))) .skip)))))))) (.region 2 [N 110 (.binOp .add (.one .int) (.tmp 27) (I 1)),M 27 110] []))))
def w3m:AFun:=
 {ntmps:=113,nslots:=12,results:=[.tmp 2, .tmp 3, .tmp 4],byref:=[],owned:=false,
  body:=(.seq (.region 3 [N 2 (.move (.const (.sl [] .nil))),N 3 (.move (.const (.sl [] .nil))),N 4 (.move (.const (.bool false)))] []) (.seq (.region 4 [N 20 (.makeMap 0),N 21 (.makeMap 1),M 5 20,M 6 21] []) (.seq (.region 1 [N 7 (.move (.const (.sl [] .nil)))] []) (.seq (.region 1 [N 8 (.move (.const (.sl [] .nil)))] []) (.seq (.seq (.region 6 [M 22 0,N 23 (.nilCheck (.tmp 22)),A 24 23 0,L 25 24,N 26 (.len .sl (.tmp 25)),N 27 (.move (I 0))] []) (.block 0 (.loop x5g))) (.seq (.region 5 [M 111 7,M 112 8,M 2 111,M 3 112,N 4 (.move (.const (.bool true)))] []) .ret))))))}
theorem y1n:Gam.fn 198=some w3m:=by kernel_rfl
def q5t:ACode:=(.seq (.seq (.region 2 [M 22 6,N 23 (.binOp .geq (.one .int) (.tmp 22) (I 0))] []) (.cond (.tmp 23) .skip (.exit 0))) (.seq (.block 1 (.seq (.region 6 [M 26 0,M 27 6,N 28 (.indexAddr none 5 (.tmp 26) (.tmp 27)),N 29 (.load (some 5) (.tmp 28)),N 7 (.alloc 3 (.agg [(.int .i64 0),(.int .i64 0),(.str []),(.str []),(.int .i64 0)])),S 5 7 29] []) (.seq (.seq (.region 23 [A 30 7 4,L 31 30,N 32 (.binOp .lss (.one .int) (.tmp 31) (I 0)),M 33 32,U 34 (.fieldAddr (.tmp 7) 4) 33,U 35 (.load none (.tmp 34)) 33,U 36 (.move (.tmp 5)) 33,U 37 (.len .sl (.tmp 36)) 33,U 38 (.binOp .gtr (.one .int) (.tmp 35) (.tmp 37)) 33,N 39 (.pick (.tmp 33) (.const (.bool true)) (.tmp 38)),M 40 39,U 41 (.load (some 5) (.tmp 7)) 40,U 42 (.call 215 [.tmp 41]) 40,U 43 (.unOp .not (.tmp 42)) 40,N 44 (.pick (.tmp 40) (.const (.bool true)) (.tmp 43)),M 45 44,U 46 (.fieldAddr (.tmp 7) 0) 45,U 47 (.load none (.tmp 46)) 45,U 48 (.fieldAddr (.tmp 7) 4) 45,U 49 (.load none (.tmp 48)) 45,U 50 (.call 216 [(.tmp 47),(.tmp 49)]) 45,U 51 (.unOp .not (.tmp 50)) 45,N 52 (.pick (.tmp 45) (.const (.bool true)) (.tmp 51))] []) (.cond (.tmp 52) (.seq (.region 2 [N 2 (.move (.const .nilptr)),N 3 (.move (.const (.bool false)))] []) .ret) .skip)) (.seq (.region 8 [M 53 5,M 54 5,N 55 (.len .sl (.tmp 54)),A 56 7 4,L 57 56,N 58 (.binOp .sub (.one .int) (.tmp 55) (.tmp 57)),N 59 (.slice (some 1) (.tmp 53) (some (.tmp 58)) none none),M 8 59] []) (.seq (.region 5 [M 60 6,N 61 (.binOp .add (.one .int) (.tmp 60) (I 1)),N 62 (.build [(.int .i64 0),(.int .i64 0),(.int .i64 0)] [(1,1,(I 1)),(2,1,(.tmp 61))]),N 9 (.alloc 4 (.agg [(.int .i64 0),(.int .i64 0),(.int .i64 0)])),S 3 9 62] []) (.seq (.region 1 [N 10 (.alloc 5 (.sl [] .nil))] []) (.seq (.seq (.region 2 [M 63 8,N 64 (.backward 226 (.tmp 63))] []) (.block 2 (.rangeB (.tmp 64) 65 66 (.region 1 [M 12 66] []) (.block 3 (.seq (.region 12 [L 67 10,L 68 4,N 69 (.nilCheck (.tmp 68)),A 70 69 1,L 71 70,M 72 12,N 73 (.indexAddr none 3 (.tmp 71) (.tmp 72)),A 74 73 0,L 75 74,N 76 (.buildSlice 6 false (.int .i64 0) 1 [(0,(.tmp 75))]),N 77 (.append 7 1 8 false (.tmp 67) (.tmp 76)),S 1 10 77] [(0,9)]) (.seq (.region 14 [A 78 9 1,L 79 78,L 80 4,N 81 (.nilCheck (.tmp 80)),A 82 81 1,L 83 82,M 84 12,N 85 (.indexAddr none 3 (.tmp 83) (.tmp 84)),A 86 85 1,L 87 86,N 88 (.binOp .add (.one .int) (.tmp 87) (I 1)),N 89 (.minmax true (.tmp 79) (.tmp 88)),A 90 9 1,S 1 90 89] []) (.region 10 [L 91 4,N 92 (.nilCheck (.tmp 91)),A 93 92 1,L 94 93,M 95 12,N 96 (.indexAddr none 3 (.tmp 94) (.tmp 95)),A 97 96 2,L 98 97,A 99 9 2,S 1 99 98] []))))))) (.seq (.region 5 [N 100 (.load (some 5) (.tmp 7)),L 101 10,N 102 (.call 218 [(.tmp 100),(.tmp 101)]),A 103 9 0,S 1 103 102] []) (.seq (.seq (.region 17 [A 104 9 0,L 105 104,N 106 (.binOp .eql (.one .int) (.tmp 105) (I 0)),M 107 106,U 108 (.fieldAddr (.tmp 7) 0) 107,U 109 (.load none (.tmp 108)) 107,U 110 (.binOp .eql (.one .int) (.tmp 109) (I 15)) 107,U 111 (.move (.tmp 110)) 107,V 112 (.move (.tmp 0)) 111,V 113 (.move (.tmp 6)) 111,V 114 (.binOp .add (.one .int) (.tmp 113) (I 1)) 111,V 115 (.indexAddr none 5 (.tmp 112) (.tmp 114)) 111,V 116 (.fieldAddr (.tmp 115) 0) 111,V 117 (.load none (.tmp 116)) 111,V 118 (.binOp .neq (.one .int) (.tmp 117) (I 3)) 111,U 119 (.pick (.tmp 111) (.tmp 118) (.const (.bool false))) 107,N 120 (.pick (.tmp 107) (.const (.bool true)) (.tmp 119))] []) (.cond (.tmp 120) (.seq (.region 2 [N 2 (.move (.const .nilptr)),N 3 (.move (.const (.bool false)))] []) .ret) .skip)) (.seq (.region 8 [L 121 4,N 122 (.nilCheck (.tmp 121)),A 123 122 1,L 124 123,M 125 6,N 126 (.load (some 3) (.tmp 9)),N 127 (.indexAddr none 3 (.tmp 124) (.tmp 125)),S 3 127 126] []) (.region 11 [M 128 5,M 129 5,N 130 (.len .sl (.tmp 129)),A 131 7 4,L 132 131,N 133 (.binOp .sub (.one .int) (.tmp 130) (.tmp 132)),N 134 (.slice (some 1) (.tmp 128) none (some (.tmp 133)) none),M 135 6,N 136 (.buildSlice 8 true (.int .i64 0) 1 [(0,(.tmp 135))]),N 137 (.append 9 1 8 true (.tmp 134) (.tmp 136)),M 5 137] []))))))))))) (.region 3 [M 24 6,N 25 (.binOp .sub (.one .int) (.tmp 24) (I 1)),M 6 25] [])))
def w3n:AFun:=
 {ntmps:=142,nslots:=10,results:=[.tmp 2, .tmp 3],byref:=[],owned:=false,
  body:=(.seq (.region 2 [N 2 (.move (.const .nilptr)),N 3 (.move (.const (.bool false)))] []) (.seq (.region 8 [M 13 0,M 14 0,N 15 (.len .sl (.tmp 14)),N 16 (.makeSlice 0 (.agg [(.int .i64 0),(.int .i64 0),(.int .i64 0)]) 24 (.tmp 15) (.tmp 15)),N 17 (.build [(.sl [] .nil),(.sl [] .nil)] [(0,1,(.tmp 13)),(1,1,(.tmp 16))]),N 18 (.box 1 (.tmp 17)),N 4 (.alloc 2 .nilptr),S 1 4 18] []) (.seq (.region 1 [N 5 (.move (.const (.sl [] .nil)))] []) (.seq (.seq (.region 4 [M 19 0,N 20 (.len .sl (.tmp 19)),N 21 (.binOp .sub (.one .int) (.tmp 20) (I 1)),M 6 21] []) (.block 0 (.loop q5t))) (.seq (.region 6 [L 138 4,M 139 5,N 140 (.len .sl (.tmp 139)),N 141 (.binOp .eql (.one .int) (.tmp 140) (I 1)),M 2 138,M 3 141] []) .ret)))))}
theorem y1o:Gam.fn 209=some w3n:=by kernel_rfl
def w3o:AFun:=
 {ntmps:=19,nslots:=0,results:=[.tmp 2],byref:=[],owned:=false,
  body:=(.seq (.region 1 [N 2 (.move (.const (.bool false)))] []) (.seq (.region 17 [M 3 0,N 4 (.nilCheck (.tmp 3)),A 5 4 0,L 6 5,N 7 (.len .sl (.tmp 6)),N 8 (.binOp .gtr (.one .int) (.tmp 7) (I 20000)),M 9 8,U 10 (.move (.tmp 0)) 9,U 11 (.nilCheck (.tmp 10)) 9,U 12 (.fieldAddr (.tmp 11) 1) 9,U 13 (.load none (.tmp 12)) 9,U 14 (.indexAddr none 3 (.tmp 13) (I 0)) 9,U 15 (.fieldAddr (.tmp 14) 1) 9,U 16 (.load none (.tmp 15)) 9,U 17 (.binOp .gtr (.one .int) (.tmp 16) (I 257)) 9,N 18 (.pick (.tmp 9) (.const (.bool true)) (.tmp 17)),M 2 18] []) .ret))}
theorem y1p:Gam.fn 210=some w3o:=by kernel_rfl
def x7z:AFun:=
 {ntmps:=78,nslots:=1,results:=[.tmp 2],byref:=[],owned:=false,
  body:=(.seq (.region 2 [N 1 (.box 0 (.tmp 0)),N 2 (.move (.const (.bool false)))] []) (.seq (.seq (.region 2 [A 3 1 0,L 4 3] []) (.block 0 (.seq (.region 2 [N 6 (.binOp .eql (.one .int) (.tmp 4) (I 3)),M 5 6] []) (.cond (.tmp 5) (.seq (.region 11 [A 7 1 2,L 8 7,N 9 (.binOp .eql (.one .str) (.tmp 8) (.const (.str []))),M 10 9,V 11 (.fieldAddr (.tmp 1) 1) 10,V 12 (.load none (.tmp 11)) 10,V 13 (.fieldAddr (.tmp 1) 3) 10,V 14 (.load none (.tmp 13)) 10,V 15 (.call 222 [(.tmp 12),(.tmp 14)]) 10,N 16 (.pick (.tmp 10) (.tmp 15) (.const (.bool false))),M 2 16] []) .ret) (.seq (.seq (.region 2 [N 18 (.binOp .eql (.one .int) (.tmp 4) (I 4)),M 17 18] []) (.cond (.tmp 17) .skip (.region 2 [N 19 (.binOp .eql (.one .int) (.tmp 4) (I 5)),M 17 19] []))) (.cond (.tmp 17) (.seq (.region 14 [A 20 1 1,L 21 20,N 22 (.call 223 [.tmp 21]),M 23 22,V 24 (.fieldAddr (.tmp 1) 2) 23,V 25 (.load none (.tmp 24)) 23,V 26 (.call 135 [.tmp 25]) 23,N 27 (.pick (.tmp 23) (.tmp 26) (.const (.bool false))),M 28 27,V 29 (.fieldAddr (.tmp 1) 3) 28,V 30 (.load none (.tmp 29)) 28,V 31 (.binOp .eql (.one .str) (.tmp 30) (.const (.str []))) 28,N 32 (.pick (.tmp 28) (.tmp 31) (.const (.bool false))),M 2 32] []) .ret) (.seq (.seq (.region 2 [N 34 (.binOp .eql (.one .int) (.tmp 4) (I 16)),M 33 34] []) (.cond (.tmp 33) .skip (.region 2 [N 35 (.binOp .eql (.one .int) (.tmp 4) (I 17)),M 33 35] []))) (.cond (.tmp 33) (.seq (.region 20 [A 36 1 1,L 37 36,N 38 (.binOp .eql (.one .int) (.tmp 37) (I 0)),M 39 38,V 40 (.fieldAddr (.tmp 1) 2) 39,V 41 (.load none (.tmp 40)) 39,V 42 (.binOp .eql (.one .str) (.tmp 41) (.const (.str []))) 39,N 43 (.pick (.tmp 39) (.tmp 42) (.const (.bool false))),M 44 43,V 45 (.fieldAddr (.tmp 1) 3) 44,V 46 (.load none (.tmp 45)) 44,V 47 (.call 224 [.tmp 46]) 44,N 48 (.pick (.tmp 44) (.tmp 47) (.const (.bool false))),M 49 48,V 50 (.fieldAddr (.tmp 1) 3) 49,V 51 (.load none (.tmp 50)) 49,V 52 (.call 225 [.tmp 51]) 49,V 53 (.binOp .gtr (.one .int) (.tmp 52) (I 0)) 49,N 54 (.pick (.tmp 49) (.tmp 53) (.const (.bool false))),M 2 54] []) .ret) .skip)))))))) (.seq (.region 24 [A 55 1 0,L 56 55,N 57 (.binOp .geq (.one .int) (.tmp 56) (I 1)),M 58 57,V 59 (.fieldAddr (.tmp 1) 0) 58,V 60 (.load none (.tmp 59)) 58,V 61 (.binOp .leq (.one .int) (.tmp 60) (I 20)) 58,N 62 (.pick (.tmp 58) (.tmp 61) (.const (.bool false))),M 63 62,V 64 (.fieldAddr (.tmp 1) 1) 63,V 65 (.load none (.tmp 64)) 63,V 66 (.binOp .eql (.one .int) (.tmp 65) (I 0)) 63,N 67 (.pick (.tmp 63) (.tmp 66) (.const (.bool false))),M 68 67,V 69 (.fieldAddr (.tmp 1) 2) 68,V 70 (.load none (.tmp 69)) 68,V 71 (.binOp .eql (.one .str) (.tmp 70) (.const (.str []))) 68,N 72 (.pick (.tmp 68) (.tmp 71) (.const (.bool false))),M 73 72,V 74 (.fieldAddr (.tmp 1) 3) 73,V 75 (.load none (.tmp 74)) 73,V 76 (.binOp .eql (.one .str) (.tmp 75) (.const (.str []))) 73,N 77 (.pick (.tmp 73) (.tmp 76) (.const (.bool false))),M 2 77] []) .ret)))}
theorem j7q:Gam.fn 215=some x7z:=by kernel_rfl
def q9t:AFun:=
 {ntmps:=42,nslots:=0,results:=[.tmp 4],byref:=[],owned:=false,
  body:=(.seq (.region 1 [N 4 (.move (.const (.bool false)))] []) (.seq (.seq (.region 1 [M 5 0] []) (.block 0 (.seq (.seq (.region 2 [N 7 (.binOp .eql (.one .int) (.tmp 5) (I 1)),M 6 7] []) (.cond (.tmp 6) .skip (.seq (.region 2 [N 8 (.binOp .eql (.one .int) (.tmp 5) (I 2)),M 6 8] []) (.cond (.tmp 6) .skip (.seq (.region 2 [N 9 (.binOp .eql (.one .int) (.tmp 5) (I 3)),M 6 9] []) (.cond (.tmp 6) .skip (.region 2 [N 10 (.binOp .eql (.one .int) (.tmp 5) (I 4)),M 6 10] []))))))) (.cond (.tmp 6) (.seq (.region 3 [M 11 1,N 12 (.binOp .eql (.one .int) (.tmp 11) (I 0)),M 4 12] []) .ret) (.seq (.region 2 [N 14 (.binOp .eql (.one .int) (.tmp 5) (I 5)),M 13 14] []) (.cond (.tmp 13) (.seq (.region 7 [M 15 1,N 16 (.binOp .geq (.one .int) (.tmp 15) (I 1)),M 17 16,V 18 (.move (.tmp 1)) 17,V 19 (.binOp .leq (.one .int) (.tmp 18) (I 40)) 17,N 20 (.pick (.tmp 17) (.tmp 19) (.const (.bool false))),M 4 20] []) .ret) (.seq (.seq (.region 2 [N 22 (.binOp .eql (.one .int) (.tmp 5) (I 6)),M 21 22] []) (.cond (.tmp 21) .skip (.seq (.region 2 [N 23 (.binOp .eql (.one .int) (.tmp 5) (I 16)),M 21 23] []) (.cond (.tmp 21) .skip (.seq (.region 2 [N 24 (.binOp .eql (.one .int) (.tmp 5) (I 17)),M 21 24] []) (.cond (.tmp 21) .skip (.region 2 [N 25 (.binOp .eql (.one .int) (.tmp 5) (I 20)),M 21 25] []))))))) (.cond (.tmp 21) (.seq (.region 3 [M 26 1,N 27 (.binOp .eql (.one .int) (.tmp 26) (I 1)),M 4 27] []) .ret) (.seq (.seq (.region 2 [N 29 (.binOp .eql (.one .int) (.tmp 5) (I 7)),M 28 29] []) (.cond (.tmp 28) .skip (.region 2 [N 30 (.binOp .eql (.one .int) (.tmp 5) (I 8)),M 28 30] []))) (.cond (.tmp 28) (.seq (.region 1 [N 4 (.move (.const (.bool true)))] []) .ret) (.seq (.region 2 [N 32 (.binOp .eql (.one .int) (.tmp 5) (I 14)),M 31 32] []) (.cond (.tmp 31) (.seq (.region 3 [M 33 1,N 34 (.binOp .geq (.one .int) (.tmp 33) (I 1)),M 4 34] []) .ret) (.seq (.seq (.region 2 [N 36 (.binOp .eql (.one .int) (.tmp 5) (I 10)),M 35 36] []) (.cond (.tmp 35) .skip (.region 2 [N 37 (.binOp .eql (.one .int) (.tmp 5) (I 19)),M 35 37] []))) (.cond (.tmp 35) (.seq (.region 3 [M 38 1,N 39 (.binOp .eql (.one .int) (.tmp 38) (I 3)),M 4 39] []) .ret) .skip)))))))))))))) (.seq (.region 3 [M 40 1,N 41 (.binOp .eql (.one .int) (.tmp 40) (I 2)),M 4 41] []) .ret)))}
theorem y1q:Gam.fn 216=some q9t:=by kernel_rfl
def q1f:AFun:=
 {ntmps:=123,nslots:=1,results:=[.tmp 4],byref:=[],owned:=false,
  body:=(.seq (.region 2 [N 2 (.box 0 (.tmp 0)),N 4 (.move (I 0))] []) (.seq (.seq (.region 2 [A 5 2 0,L 6 5] []) (.block 0 (.seq (.seq (.region 2 [N 8 (.binOp .eql (.one .int) (.tmp 6) (I 3)),M 7 8] []) (.cond (.tmp 7) .skip (.seq (.region 2 [N 9 (.binOp .eql (.one .int) (.tmp 6) (I 4)),M 7 9] []) (.cond (.tmp 7) .skip (.region 2 [N 10 (.binOp .eql (.one .int) (.tmp 6) (I 5)),M 7 10] []))))) (.cond (.tmp 7) (.seq (.region 3 [A 11 2 1,L 12 11,M 4 12] []) .ret) (.seq (.seq (.region 2 [N 14 (.binOp .eql (.one .int) (.tmp 6) (I 1)),M 13 14] []) (.cond (.tmp 13) .skip (.seq (.region 2 [N 15 (.binOp .eql (.one .int) (.tmp 6) (I 2)),M 13 15] []) (.cond (.tmp 13) .skip (.seq (.region 2 [N 16 (.binOp .eql (.one .int) (.tmp 6) (I 6)),M 13 16] []) (.cond (.tmp 13) .skip (.seq (.region 2 [N 17 (.binOp .eql (.one .int) (.tmp 6) (I 7)),M 13 17] []) (.cond (.tmp 13) .skip (.seq (.region 2 [N 18 (.binOp .eql (.one .int) (.tmp 6) (I 8)),M 13 18] []) (.cond (.tmp 13) .skip (.region 2 [N 19 (.binOp .eql (.one .int) (.tmp 6) (I 9)),M 13 19] []))))))))))) (.cond (.tmp 13) (.seq (.region 4 [M 20 1,N 21 (.call 228 [(.tmp 20),(I 1)]),N 22 (.call 227 [(.tmp 21),(I 1)]),M 4 22] []) .ret) (.seq (.region 2 [N 24 (.binOp .eql (.one .int) (.tmp 6) (I 10)),M 23 24] []) (.cond (.tmp 23) (.seq (.region 18 [M 25 1,N 26 (.indexAddr none 1 (.tmp 25) (I 0)),L 27 26,N 28 (.binOp .eql (.one .int) (.tmp 27) (I 1)),M 29 28,V 30 (.move (.tmp 1)) 29,V 31 (.indexAddr none 1 (.tmp 30) (I 1)) 29,V 32 (.load none (.tmp 31)) 29,V 33 (.move (.tmp 1)) 29,V 34 (.indexAddr none 1 (.tmp 33) (I 2)) 29,V 35 (.load none (.tmp 34)) 29,V 36 (.binOp .eql (.one .int) (.tmp 32) (.tmp 35)) 29,N 37 (.pick (.tmp 29) (.tmp 36) (.const (.bool false))),M 38 1,N 39 (.indexAddr none 1 (.tmp 38) (I 1)),L 40 39,N 41 (.call 227 [(.tmp 37),(.tmp 40)]),M 4 41] []) .ret) (.seq (.region 2 [N 43 (.binOp .eql (.one .int) (.tmp 6) (I 11)),M 42 43] []) (.cond (.tmp 42) (.seq (.region 9 [M 44 1,N 45 (.indexAddr none 1 (.tmp 44) (I 0)),L 46 45,M 47 1,N 48 (.indexAddr none 1 (.tmp 47) (I 1)),L 49 48,N 50 (.binOp .eql (.one .int) (.tmp 46) (.tmp 49)),N 51 (.call 227 [(.tmp 50),(I 1)]),M 4 51] []) .ret) (.seq (.seq (.region 2 [N 53 (.binOp .eql (.one .int) (.tmp 6) (I 12)),M 52 53] []) (.cond (.tmp 52) .skip (.region 2 [N 54 (.binOp .eql (.one .int) (.tmp 6) (I 13)),M 52 54] []))) (.cond (.tmp 52) (.seq (.region 13 [M 55 1,N 56 (.indexAddr none 1 (.tmp 55) (I 0)),L 57 56,N 58 (.call 229 [.tmp 57]),M 59 58,V 60 (.move (.tmp 1)) 59,V 61 (.move (.tmp 1)) 59,V 62 (.indexAddr none 1 (.tmp 61) (I 0)) 59,V 63 (.load none (.tmp 62)) 59,V 64 (.call 228 [(.tmp 60),(.tmp 63)]) 59,N 65 (.pick (.tmp 59) (.tmp 64) (.const (.bool false))),N 66 (.call 227 [(.tmp 65),(I 1)]),M 4 66] []) .ret) (.seq (.seq (.region 2 [N 68 (.binOp .eql (.one .int) (.tmp 6) (I 14)),M 67 68] []) (.cond (.tmp 67) .skip (.region 2 [N 69 (.binOp .eql (.one .int) (.tmp 6) (I 15)),M 67 69] []))) (.cond (.tmp 67) (.seq (.region 16 [M 70 1,N 71 (.indexAddr none 1 (.tmp 70) (I 0)),L 72 71,N 73 (.call 229 [.tmp 72]),M 74 73,V 75 (.move (.tmp 1)) 74,V 76 (.move (.tmp 1)) 74,V 77 (.indexAddr none 1 (.tmp 76) (I 0)) 74,V 78 (.load none (.tmp 77)) 74,V 79 (.call 228 [(.tmp 75),(.tmp 78)]) 74,N 80 (.pick (.tmp 74) (.tmp 79) (.const (.bool false))),M 81 1,N 82 (.indexAddr none 1 (.tmp 81) (I 0)),L 83 82,N 84 (.call 227 [(.tmp 80),(.tmp 83)]),M 4 84] [(3,12),(9,12),(3,13),(9,13)]) .ret) (.seq (.seq (.region 2 [N 86 (.binOp .eql (.one .int) (.tmp 6) (I 16)),M 85 86] []) (.cond (.tmp 85) .skip (.region 2 [N 87 (.binOp .eql (.one .int) (.tmp 6) (I 17)),M 85 87] []))) (.cond (.tmp 85) (.seq (.region 6 [M 88 1,N 89 (.indexAddr none 1 (.tmp 88) (I 0)),L 90 89,N 91 (.binOp .eql (.one .int) (.tmp 90) (I 2)),N 92 (.call 227 [(.tmp 91),(I 2)]),M 4 92] []) .ret) (.seq (.region 2 [N 94 (.binOp .eql (.one .int) (.tmp 6) (I 18)),M 93 94] []) (.cond (.tmp 93) (.seq (.region 12 [M 95 1,N 96 (.indexAddr none 1 (.tmp 95) (I 0)),L 97 96,N 98 (.binOp .eql (.one .int) (.tmp 97) (I 4)),M 99 98,V 100 (.move (.tmp 1)) 99,V 101 (.indexAddr none 1 (.tmp 100) (I 1)) 99,V 102 (.load none (.tmp 101)) 99,V 103 (.binOp .eql (.one .int) (.tmp 102) (I 2)) 99,N 104 (.pick (.tmp 99) (.tmp 103) (.const (.bool false))),N 105 (.call 227 [(.tmp 104),(I 2)]),M 4 105] []) .ret) (.seq (.region 2 [N 107 (.binOp .eql (.one .int) (.tmp 6) (I 19)),M 106 107] []) (.cond (.tmp 106) (.seq (.region 11 [M 108 1,N 109 (.indexAddr none 1 (.tmp 108) (I 0)),L 110 109,N 111 (.binOp .eql (.one .int) (.tmp 110) (I 4)),M 112 111,V 113 (.move (.tmp 1)) 112,V 114 (.slice (some 1) (.tmp 113) (some (I 1)) none none) 112,V 115 (.call 228 [(.tmp 114),(I 2)]) 112,N 116 (.pick (.tmp 112) (.tmp 115) (.const (.bool false))),N 117 (.call 227 [(.tmp 116),(I 4)]),M 4 117] []) .ret) .skip)))))))))))))))))))) (.seq (.region 6 [M 118 1,N 119 (.indexAddr none 1 (.tmp 118) (I 0)),L 120 119,N 121 (.binOp .eql (.one .int) (.tmp 120) (I 2)),N 122 (.call 227 [(.tmp 121),(I 4)]),M 4 122] []) .ret)))}
theorem y1r:Gam.fn 218=some q1f:=by kernel_rfl
def v2c:AFun:=
 {ntmps:=19,nslots:=0,results:=[.tmp 4],byref:=[],owned:=false,
  body:=(.seq (.region 1 [N 4 (.move (.const (.bool false)))] []) (.seq (.region 15 [M 5 0,N 6 (.binOp .eql (.one .int) (.tmp 5) (I 2)),M 7 6,V 8 (.move (.tmp 1)) 7,V 9 (.call 224 [.tmp 8]) 7,N 10 (.pick (.tmp 7) (.tmp 9) (.const (.bool false))),M 11 10,U 12 (.move (.tmp 0)) 11,U 13 (.binOp .eql (.one .int) (.tmp 12) (I 3)) 11,U 14 (.move (.tmp 13)) 11,V 15 (.move (.tmp 1)) 14,V 16 (.call 230 [.tmp 15]) 14,U 17 (.pick (.tmp 14) (.tmp 16) (.const (.bool false))) 11,N 18 (.pick (.tmp 11) (.const (.bool true)) (.tmp 17)),M 4 18] []) .ret))}
theorem w3p:Gam.fn 222=some v2c:=by kernel_rfl
def w3q:AFun:=
 {ntmps:=9,nslots:=0,results:=[.tmp 2],byref:=[],owned:=false,
  body:=(.seq (.region 1 [N 2 (.move (.const (.bool false)))] []) (.seq (.region 7 [M 3 0,N 4 (.binOp .geq (.one .int) (.tmp 3) (I 1)),M 5 4,V 6 (.move (.tmp 0)) 5,V 7 (.binOp .leq (.one .int) (.tmp 6) (I 4)) 5,N 8 (.pick (.tmp 5) (.tmp 7) (.const (.bool false))),M 2 8] []) .ret))}
theorem y1s:Gam.fn 223=some w3q:=by kernel_rfl
def v2d:AFun:=
 {ntmps:=20,nslots:=0,results:=[.tmp 2],byref:=[],owned:=false,
  body:=(.seq (.region 1 [N 2 (.move (.const (.bool false)))] []) (.seq (.region 7 [M 6 0,N 7 (.call 231 [(.tmp 6),(.const (.str [45]))]),M 5 7,E 8 5 0,E 9 5 1,M 3 8,M 4 9] []) (.seq (.region 11 [M 10 3,N 11 (.call 232 [.tmp 10]),M 12 11,V 13 (.move (.tmp 4)) 12,V 14 (.move (.tmp 13)) 12,V 15 (.move (.tmp 3)) 14,V 16 (.binOp .eql (.one .str) (.tmp 15) (.const (.str [48]))) 14,V 17 (.pick (.tmp 14) (.tmp 16) (.const (.bool false))) 12,V 18 (.unOp .not (.tmp 17)) 12,N 19 (.pick (.tmp 12) (.tmp 18) (.const (.bool false))),M 2 19] []) .ret)))}
theorem y1t:Gam.fn 224=some v2d:=by kernel_rfl
def w3r:AFun:=
 {ntmps:=15,nslots:=0,results:=[.tmp 2],byref:=[],owned:=false,
  body:=(.seq (.region 1 [N 2 (.move (I 0))] []) (.seq (.block 0 (.seq (.region 8 [M 4 0,N 5 (.call 230 [.tmp 4]),N 6 (.unOp .not (.tmp 5)),M 7 6,U 8 (.move (.tmp 0)) 7,U 9 (.binOp .eql (.one .str) (.tmp 8) (.const (.str [48]))) 7,N 10 (.pick (.tmp 7) (.const (.bool true)) (.tmp 9)),M 3 10] []) (.cond (.tmp 3) (.seq (.region 1 [N 2 (.move (I 0))] []) .ret) (.seq (.region 4 [M 12 0,N 13 (.index none (.tmp 12) (I 0)),N 14 (.binOp .eql (.one .int) (.tmp 13) (.const (.int .u8 45))),M 11 14] []) (.cond (.tmp 11) (.seq (.region 1 [N 2 (.move (I (-1)))] []) .ret) .skip))))) (.seq (.region 1 [N 2 (.move (I 1))] []) .ret)))}
theorem y1u:Gam.fn 225=some w3r:=by kernel_rfl
def w3s:AFun:=
 {ntmps:=7,nslots:=0,results:=[.tmp 4],byref:=[],owned:=false,
  body:=(.seq (.region 1 [N 4 (.move (I 0))] []) (.seq (.seq (.region 1 [M 5 0] []) (.cond (.tmp 5) (.seq (.region 2 [M 6 1,M 4 6] []) .ret) .skip)) (.seq (.region 1 [N 4 (.move (I 0))] []) .ret)))}
theorem y1v:Gam.fn 227=some w3s:=by kernel_rfl
def w3t:AFun:=
 {ntmps:=9,nslots:=1,results:=[.tmp 4],byref:=[],owned:=false,
  body:=(.seq (.region 2 [N 3 (.box 0 (.tmp 1)),N 4 (.move (.const (.bool false)))] []) (.seq (.region 5 [M 5 0,N 6 (.makeFunc 233 [.tmp 3]),N 7 (.call 136 [(.tmp 5),(.tmp 6)]),N 8 (.unOp .not (.tmp 7)),M 4 8] []) .ret))}
theorem y1w:Gam.fn 228=some w3t:=by kernel_rfl
def w3u:AFun:=
 {ntmps:=7,nslots:=0,results:=[.tmp 3],byref:=[],owned:=false,
  body:=(.seq (.region 1 [N 3 (.move (.const (.bool false)))] []) (.seq (.region 4 [M 4 0,L 5 1,N 6 (.binOp .neq (.one .int) (.tmp 4) (.tmp 5)),M 3 6] []) .ret))}
theorem y1x:Gam.fn 233=some w3u:=by kernel_rfl
def w3v:AFun:=
 {ntmps:=9,nslots:=0,results:=[.tmp 4],byref:=[],owned:=false,
  body:=(.seq (.region 1 [N 4 (.move (.const (.bool false)))] []) (.seq (.region 5 [M 5 0,M 6 1,N 7 (.call 176 [(.tmp 5),(.tmp 6)]),N 8 (.binOp .geq (.one .int) (.tmp 7) (I 0)),M 4 8] []) .ret))}
theorem y1y:Gam.fn 136=some w3v:=by kernel_rfl
def x5h:ACode:=(.seq (.region 1 [N 9 (.binOp .lss (.one .int) (.tmp 8) (.tmp 7))] []) (.seq (.cond (.tmp 9) .skip (.exit 0)) (.seq (.block 1 (.seq (.region 2 [M 10 8,M 5 10] []) (.seq (.region 6 [M 11 1,M 12 0,M 13 5,N 14 (.indexAddr none 1 (.tmp 12) (.tmp 13)),L 15 14,N 16 (.callv (.tmp 11) [.tmp 15])] []) (.cond (.tmp 16) (.seq (.region 2 [M 17 5,M 4 17] []) .ret) .skip)))) (.region 2 [N 18 (.binOp .add (.one .int) (.tmp 8) (I 1)),M 8 18] []))))
def w3w:AFun:=
 {ntmps:=19,nslots:=0,results:=[.tmp 4],byref:=[],owned:=false,
  body:=(.seq (.region 1 [N 4 (.move (I 0))] []) (.seq (.seq (.region 3 [M 6 0,N 7 (.len .sl (.tmp 6)),N 8 (.move (I 0))] []) (.block 0 (.loop x5h))) (.seq (.region 1 [N 4 (.move (I (-1)))] []) .ret)))}
theorem y1z:Gam.fn 176=some w3w:=by kernel_rfl
def v2e:AFun:=
 {ntmps:=9,nslots:=0,results:=[.tmp 2],byref:=[],owned:=false,
  body:=(.seq (.region 1 [N 2 (.move (.const (.bool false)))] []) (.seq (.region 7 [M 3 0,N 4 (.binOp .eql (.one .int) (.tmp 3) (I 2)),M 5 4,U 6 (.move (.tmp 0)) 5,U 7 (.binOp .eql (.one .int) (.tmp 6) (I 3)) 5,N 8 (.pick (.tmp 5) (.const (.bool true)) (.tmp 7)),M 2 8] []) .ret))}
theorem y2a:Gam.fn 229=some v2e:=by kernel_rfl
end
theorem q8j {s:List Nat} {i:Nat} {h:List AObj} {t:Tip} {k:IntKind} (hi:i < s.length):z1t h 1 (.sl (bytes s) t) (.int k (i:Int))=some (.iptr [.int .u8 (s[i]:Int)] 0,h):=z5c (e:= .int .u8 (s[i]:Int)) (by simp[bytes,hi]) rfl
theorem q4z {n:Nat} (hl:(dec n).length≤1000):Pure Gam 232 [.str (dec n)] (.bool true):=by
 refine Pure.of rfl y0x rfl rfl rfl rfl rfl fun D B clk T hB hT=> ?_
 have hd:=z1g n
 have hb:(dec n).map (fun (b:Nat)=>AV.int .u8 (Int.ofNat b))=bytes (dec n):=rfl
 simp only[go_sem,z0,w2l,hb,q3y]
 refine z0t (fun m q=>∃ j:Nat,j≤(dec n).length∧m=(dec n).length - j∧q.ts 0= .str (dec n)∧q.ts 6= .sl (bytes (dec n)) .no∧q.ts 7= .int .i64 ((dec n).length:Int)∧q.ts 8= .int .i64 (j:Int)∧q.h=D++[]) (dec n).length ⟨0,by omega,rfl,rfl,rfl,rfl,rfl,rfl⟩ ?_
 rintro m ⟨ts,h,clk⟩ P ⟨j,hj,rfl,h0,h6,h7,h8,rfl⟩ hn he hr
 dsimp only at h0 h6 h7 h8
 by_cases hlt:j < (dec n).length
 ·have e1:decide ((j:Int) < ((dec n).length:Int))=true:=by rw[decide_eq_true_iff];omega
  have hc:=hd _ (List.getElem_mem hlt)
  have e2:decide (((dec n)[j]:Int) < 48)=false:=by rw[decide_eq_false_iff_not];omega
  have e3:decide ((57:Int) < ((dec n)[j]:Int))=false:=by rw[decide_eq_false_iff_not];omega
  have e4:IntKind.i64.wrap ((j:Int) + 1)=((j + 1:Nat):Int):=z0c (by omega) (by omega)
  simp only[go_sem,z0,h0,h6,h7,h8,j7i,e1,q8j hlt,e2,e3,e4]
  exact hn ((dec n).length - (j + 1)) _ (by omega) ⟨j + 1,hlt,rfl,h0,h6,h7,rfl,rfl⟩
 ·have e1:decide ((j:Int) < ((dec n).length:Int))=false:=by rw[decide_eq_false_iff_not];omega
  simp only[go_sem,z0,h0,h6,h7,h8,j7i,e1]
  refine he _ _ ?_
  rcases Nat.eq_zero_or_pos n with rfl | hpos
  ·have e2:decide (dec 0=[48])=true:=by rw[z3j];rfl
   simp only[go_sem,z0,h0,e2,Bool.not_true]
   rw[z0f]
   exact hT _
  ·obtain⟨c,t,hct,hc1,hc2⟩:=x9t hpos
   have e2:decide (dec n=[48])=false:=by rw[z3j,decide_eq_false_iff_not];omega
   have e3:decide (dec n=[])=false:=by simp[z7z n]
   have e4:∀ h k,q3s h (.str (dec n)) (.int k 0)=some (.int .u8 (c:Int),h):=fun h k=>by rw[hct];exact z5o
   have e5:decide ((c:Int)=48)=false:=by rw[decide_eq_false_iff_not];omega
   simp only[go_sem,z0,h0,e2,e3,e4,e5,Bool.not_false,Bool.not_true]
   rw[z0f]
   exact hT _
theorem j7r {z:Int} (hl:(dec z.natAbs).length≤1000):Pure Gam 224 [.str (z2s z)] (.bool true):=by
 refine Pure.of rfl y1t rfl rfl rfl rfl rfl fun D B clk T hB hT=> ?_
 by_cases hz:z < 0
 ·have e1:decide (dec z.natAbs=[48])=false:=by rw[z3j,decide_eq_false_iff_not];omega
  rw[z2s,if_pos hz]
  simp only[go_sem,z0,v2d]
  rw[z0a q8h]
  simp only[go_sem,z0,]
  rw[z0a (q4z hl)]
  simp only[go_sem,z0,e1,Bool.not_false]
  rw[z0f]
  exact hT _
 ·obtain⟨c,t,hct⟩:=List.exists_cons_of_ne_nil (z7z z.natAbs)
  have hc:=z1g z.natAbs c (by rw[hct];exact List.mem_cons_self)
  have hp:Pure Gam 231 [.str (dec z.natAbs), .str [45]] (.tup [.str (dec z.natAbs), .bool false]):=by rw[hct];exact q8i (by omega)
  rw[z2s,if_neg hz]
  simp only[go_sem,z0,v2d]
  rw[z0a hp]
  simp only[go_sem,z0,]
  rw[z0a (q4z hl)]
  simp only[go_sem,z0,Bool.not_false]
  rw[z0f]
  exact hT _
theorem Pure.ext {f:Nat} {args:List AV} {sem:List AV→Option AV} {v:AV} (hext:Gam.ext f=some sem) (hobs:z4x args=[]) (hv:sem (cvL args)=some v):Pure Gam f args v:=by
 intro h clk
 constructor
 ·refine⟨0, ?_⟩
  unfold z5i z0i
  simp only[hext,z1k hobs,z5b hobs,List.isEmpty_nil,if_true,hv,Option.map_some]
 ·unfold z0v
  simp only[hext,hobs,List.map_nil,List.append_nil]
def q1g (s:List Nat):Int:=match s.findIdx? (fun (b:Nat)=>decide ((b:Int)=47)) with
 | some i=>(i:Int)
 | none=> -1
theorem v2f {s:List Nat}:Pure Gam 270 [.str s, .int .u8 47] (.int .i64 (q1g s)):=Pure.ext (sem:=x0b) rfl rfl (by simp[cvL,AV.cv,x0b,q1g];rfl)
theorem j7s {c:Nat} {t:List Nat} (hc:c≠47):Pure Gam 249 [.str (c::t), .str [47]] (.int .i64 (q1g (c::t))):=by
 have h292:Pure Gam 259 [.str (c::t), .int .u8 47] (.int .i64 (q1g (c::t))):=by
  refine Pure.of rfl y0z rfl rfl rfl rfl rfl fun D B clk T hB hT=> ?_
  simp only[go_sem,z0,w2s]
  rw[z0a v2f]
  simp only[go_sem,z0,]
  rw[z2h]
  exact hT _
 refine Pure.of rfl y0y rfl rfl rfl rfl rfl fun D B clk T hB hT=> ?_
 have e2:decide ([47]=c::t)=false:=by rw[decide_eq_false_iff_not];intro h;injection h with h1 _;exact hc h1.symm
 simp only[go_sem,z0,w2r,Nat.zero_add,Int.cast_ofNat_Int,Int.reduceEq,decide_true,decide_false,Bool.not_false,e2,z5o]
 rw[z0a h292]
 simp only[go_sem,z0,]
 rw[z2h]
 exact hT _
theorem j2n {s:List Nat} (hd:∀ c∈s,c≠47):q1g s= -1:=by
 unfold q1g
 rw[List.findIdx?_eq_none_iff.2 fun c hc=>by have:=hd c hc;simp;omega]
theorem k2u {s r:List Nat} (hd:∀ c∈s,c≠47):q1g (s++47::r)=(s.length:Int):=by
 have h:(s++47::r).findIdx? (fun (b:Nat)=>decide ((b:Int)=47))=some s.length:=by
  induction s with
  | nil=>simp[List.findIdx?_cons]
  | cons c s ih=>
    have hc:=hd c List.mem_cons_self
    have:=ih fun d hd'=>hd d (List.mem_cons_of_mem _ hd')
    rw[List.cons_append,List.findIdx?_cons,this]
    have:decide ((c:Int)=47)=false:=by rw[decide_eq_false_iff_not];omega
    simp[this]
 unfold q1g
 rw[h]
theorem x5i {s:List Nat} (hne:s≠[]) (hd:∀ c∈s,c≠47):Pure Gam 237 [.str s, .str [47]] (.tup [.str s, .str [], .bool false]):=by
 obtain⟨c,t,rfl⟩:=List.exists_cons_of_ne_nil hne
 have hp:Pure Gam 244 [.str (c::t), .str [47]] (.tup [.str (c::t), .str [], .bool false]):=by
  refine Pure.of rfl w2p rfl rfl rfl rfl rfl fun D B clk T hB hT=> ?_
  simp only[go_sem,z0,v1t]
  rw[z0a (j7s (hd c List.mem_cons_self)),j2n hd]
  simp only[go_sem,z0,Int.reduceLE,decide_false]
  rw[z0h rfl rfl]
  exact hT _
 refine Pure.of rfl w2o rfl rfl rfl rfl rfl fun D B clk T hB hT=> ?_
 simp only[go_sem,z0,v1s]
 rw[z0a hp]
 simp only[go_sem,z0,]
 rw[z0h rfl rfl]
 exact hT _
theorem j2o {s r:List Nat} (hne:s≠[]) (hd:∀ c∈s,c≠47) (hl:s.length≤1000):Pure Gam 237 [.str (s++47::r), .str [47]] (.tup [.str s, .str r, .bool true]):=by
 obtain⟨c,t,hs⟩:=List.exists_cons_of_ne_nil hne
 have hi:Pure Gam 249 [.str (s++47::r), .str [47]] (.int .i64 (s.length:Int)):=by
  rw[←k2u (r:=r) hd,hs]
  exact j7s (hd c (by rw[hs];exact List.mem_cons_self))
 have hp:Pure Gam 244 [.str (s++47::r), .str [47]] (.tup [.str s, .str r, .bool true]):=by
  refine Pure.of rfl w2p rfl rfl rfl rfl rfl fun D B clk T hB hT=> ?_
  have e1:decide (0≤(s.length:Int))=true:=by rw[decide_eq_true_iff];omega
  have e2:IntKind.i64.wrap ((s.length:Int) + 1)=((s.length + 1:Nat):Int):=z0c (by omega) (by omega)
  have e3:(s++47::r).take s.length=s:=List.take_left
  have e4:(s++47::r).drop (s.length + 1)=r:=by rw[List.drop_append,Nat.add_sub_cancel_left,List.drop_of_length_le (by omega)];rfl
  have h1:∀ h,slV h none (.str (s++47::r)) none (some (.int .i64 (s.length:Int))) none=some (.str s,h):=fun h=>by rw[w3f (by simp),e3]
  have h2:∀ h,slV h none (.str (s++47::r)) (some (.int .i64 ((s.length + 1:Nat):Int))) none none=some (.str r,h):=fun h=>by rw[k2i (by simp),e4]
  simp only[go_sem,z0,v1t]
  rw[z0a hi]
  simp only[go_sem,z0,e1,Nat.zero_add,Int.cast_ofNat_Int,e2,h1,h2]
  rw[z0h rfl rfl]
  exact hT _
 refine Pure.of rfl w2o rfl rfl rfl rfl rfl fun D B clk T hB hT=> ?_
 simp only[go_sem,z0,v1s]
 rw[z0a hp]
 simp only[go_sem,z0,]
 rw[z0h rfl rfl]
 exact hT _
def nl (n:Nat):List Nat:=if n=0 then [] else n % 1000000000::nl (n / 1000000000)
termination_by n
decreasing_by omega
theorem z8e:nl 0=[]:=by rw[nl,if_pos rfl]
theorem q8k {n:Nat} (h:0 < n):nl n=n % 1000000000::nl (n / 1000000000):=by rw[nl,if_neg (by omega)]
theorem x2q {n:Nat} (h:0 < n) (h2:n < 1000000000):nl n=[n]:=by
 rw[q8k h,Nat.mod_eq_of_lt h2,Nat.div_eq_of_lt h2,z8e]
def z7a:List Nat→Nat
 | []=>0
 | x::l=>x + 1000000000 * z7a l
theorem q2w (n:Nat):z7a (nl n)=n:=by
 induction n using Nat.strongRecOn with
 | ind n ih=>
   rcases Nat.eq_zero_or_pos n with rfl | h
   ·rw[z8e];rfl
   ·rw[q8k h,z7a,ih _ (by omega)]
    omega
theorem v2g (n:Nat):∀ x∈nl n,x < 1000000000:=by
 induction n using Nat.strongRecOn with
 | ind n ih=>
   rcases Nat.eq_zero_or_pos n with rfl | h
   ·rw[z8e];simp
   ·rw[q8k h]
    intro x hx
    rw[List.mem_cons] at hx
    rcases hx with rfl | hx
    ·omega
    ·exact ih _ (by omega) x hx
theorem q2x {a b:List Nat}:z7a (a++b)=z7a a + 1000000000 ^ a.length * z7a b:=by
 induction a with
 | nil=>simp[z7a]
 | cons x a ih=>
   simp only[List.cons_append,z7a,ih,List.length_cons,Nat.pow_succ]
   rw[Nat.mul_add,←Nat.mul_assoc,Nat.mul_comm (1000000000 ^ a.length) 1000000000]
   omega
theorem v2h {l:List Nat} (h:∀ x∈l,x < 1000000000):z7a l < 1000000000 ^ l.length:=by
 induction l with
 | nil=>simp[z7a]
 | cons x l ih=>
   have h1:=ih fun y hy=>h y (List.mem_cons_of_mem _ hy)
   have h2:=h x List.mem_cons_self
   simp only[z7a,List.length_cons,Nat.pow_succ]
   omega
theorem v2i {l:List Nat} (h:∀ x∈l,x < 1000000000) (hc:∀ l',l≠l'++[0]):nl (z7a l)=l:=by
 induction l with
 | nil=>exact z8e
 | cons x l ih=>
   have hx:=h x List.mem_cons_self
   have hl:nl (z7a l)=l:=ih (fun y hy=>h y (List.mem_cons_of_mem _ hy)) fun l' e=>hc (x::l') (by rw[e];rfl)
   have hpos:0 < x + 1000000000 * z7a l:=by
    rcases Nat.eq_zero_or_pos (z7a l) with h0 | h0
    ·rw[h0,z8e] at hl
     have:x≠0:=fun e=>hc [] (by rw[e,←hl];rfl)
     omega
    ·omega
   rw[z7a,q8k hpos]
   congr 1
   ·omega
   ·rw[show (x + 1000000000 * z7a l) / 1000000000=z7a l by omega,hl]
theorem w3x {n k:Nat} (h:n < 1000000000 ^ k):(nl n).length≤k:=by
 induction k generalizing n with
 | zero=>
   have:n=0:=by simpa using h
   rw[this,z8e];simp
 | succ k ih=>
   rcases Nat.eq_zero_or_pos n with rfl | hp
   ·rw[z8e];simp
   ·rw[q8k hp,List.length_cons]
    have:=ih (n:=n / 1000000000) (by rw[Nat.pow_succ] at h;omega)
    omega
theorem x1d:∀ {os:List (Nat×Nat)} {h:List AObj},(freezeAll h os).length=h.length
 | [],_=>rfl
 | o::os,h=>by
   simp only[freezeAll]
   rw[x1d]
   split
   ·rw[List.length_set]
   ·rfl
theorem j2p {f:Nat} {args az:List AV} {h:List AObj} {clk:Nat} {v:AV} {af:AFun} (hp:Pure Gam f az v) (hext:Gam.ext f=none) (hfn:Gam.fn f=some af) (hb:af.byref=[]) (ho:af.owned=false) (hpa:z1f h [] 0 args=some az) (hcv:cvL az=az) (hobs:z4x az=[]) (hids:idsL az=[]) (hv:v.ids=[]):
  ∃ k,z5i Gam k f args h clk=some (v,if v.flat then h else freezeAll h (z0n [] 0 args),clk):=by
 obtain⟨⟨k,hk⟩,_⟩:=hp (freezeAll h (z0n [] 0 args)) clk
 refine⟨k, ?_⟩
 have hpa2:z1f (freezeAll h (z0n [] 0 args)) [] 0 az=some az:=by rw[z1k hobs,hcv]
 have hl2:z0n [] 0 az=[]:=z5b hobs
 unfold z5i z0i at hk⊢
 simp only[hext,hfn,hb,hpa,hpa2,hl2,hids,reach,freezeAll,x1d,z3v,ho,Bool.false_eq_true,if_false] at hk⊢
 generalize z3p Gam k h.length af.body _=E at hk⊢
 match E,hk with
 | none,hk=>cases hk
 | some (.exit i,s),hk=>cases hk
 | some (.norm,s),hk=>
   simp only at hk⊢
   generalize z1j s.h s.ts af.results=R at hk⊢
   cases R with
   | none=>cases hk
   | some vs=>
     simp only at hk⊢
     generalize conv s.h (z1o vs)=W at hk⊢
     cases W with
     | none=>cases hk
     | some w=>
       simp only at hk⊢
       have hw:w=v:=by
        revert hk
        generalize List.all _ _=b
        cases b
        ·intro hk
         simp only[Bool.false_eq_true,if_false,Option.some.injEq,Prod.mk.injEq] at hk
         exact hk.1
        ·intro hk
         simp only[if_true,Option.some.injEq,Prod.mk.injEq] at hk
         exact hk.1
       subst hw
       simp only[hv,List.isEmpty_nil,Bool.and_true,List.map_nil,List.flatten_nil,List.append_nil,List.all_nil,if_true,z5n]
 | some (.ret,s),hk=>
   simp only at hk⊢
   generalize z1j s.h s.ts af.results=R at hk⊢
   cases R with
   | none=>cases hk
   | some vs=>
     simp only at hk⊢
     generalize conv s.h (z1o vs)=W at hk⊢
     cases W with
     | none=>cases hk
     | some w=>
       simp only at hk⊢
       have hw:w=v:=by
        revert hk
        generalize List.all _ _=b
        cases b
        ·intro hk
         simp only[Bool.false_eq_true,if_false,Option.some.injEq,Prod.mk.injEq] at hk
         exact hk.1
        ·intro hk
         simp only[if_true,Option.some.injEq,Prod.mk.injEq] at hk
         exact hk.1
       subst hw
       simp only[hv,List.isEmpty_nil,Bool.and_true,List.map_nil,List.flatten_nil,List.append_nil,List.all_nil,if_true,z5n]
theorem j7t {f base gg clk:Nat} {args az:List AV} {h:List AObj} {v:AV} {af:AFun} {dst:Option Nat} {os:List AOper} {ts:Tmps} {ks:List Kf} {Q:Post} (hp:Pure Gam f az v) (hext:Gam.ext f=none) (hfn:Gam.fn f=some af) (hb:af.byref=[]) (ho:af.owned=false) (hpa:z1f h [] 0 args=some az) (hcv:cvL az=az) (hobs:z4x az=[]) (hids:idsL az=[]) (hv:v.ids=[]):
  CK Gam base f args h clk .plain dst gg os ts ks Q=O Gam base .plain (gg + 1) os ⟨z8n ts dst v,if v.flat then h else freezeAll h (z0n [] 0 args),clk⟩ ks Q:=by
 obtain⟨k,hk⟩:=j2p (clk:=clk) hp hext hfn hb ho hpa hcv hobs hids hv
 unfold CK
 apply propext
 constructor
 ·rintro ⟨k',v',h',c,hc,hq⟩
  have:=q7s hk hc
  simp only[Prod.mk.injEq] at this
  obtain⟨rfl,rfl,rfl⟩:=this
  exact hq
 ·intro hq
  exact⟨k,_,_,_,hk,hq⟩
def z3m (x:Nat):AV:= .int .u32 (x:Int)
theorem z2x {l:List Nat}:idsL (l.map z3m)=[]:=z0d fun _=>rfl
theorem q8l {l:List Nat}:z0u 1 (l.map z3m)=true:=z3q fun _=>⟨rfl,rfl,rfl⟩
theorem x2r {T:List Nat} {l:List Nat} {t:Tip} {R:AV→List AObj→Prop} {h:List AObj}:RV T (some [.sl (l.map z3m) t]) R h=R (.sl (l.map z3m) .no) h:=z3s rfl (by simp[AV.cv,AV.ids,z2x])
theorem q8m {T:List Nat} {l l':List Nat} {t t':Tip} {R:AV→List AObj→Prop} {h:List AObj}:RV T (some [.sl (l.map z3m) t, .sl (l'.map z3m) t']) R h=R (.tup [.sl (l.map z3m) .no, .sl (l'.map z3m) .no]) h:=z0h rfl (by simp[z1o,AV.cv,cvL,AV.ids,idsL,z2x])
theorem q0k {l:List Nat} {i:Nat} {h:List AObj} {t:Tip} {k:IntKind} (hi:i < l.length):z1t h 1 (.sl (l.map z3m) t) (.int k (i:Int))=some (.iptr [.int .u32 (l[i]:Int)] 0,h):=z5c (e:= .int .u32 (l[i]:Int)) (by simp[z3m,hi]) rfl
theorem v2j {l:List Nat} {n:Nat} {h:List AObj} (hn:n≤l.length):slV h (some 1) (.sl (l.map z3m) .no) none (some (.int .i64 (n:Int))) none=some (.sl ((l.take n).map z3m) .no,h):=by
 have hh:z4e 1 (l.map z3m)=true:=by cases l <;> rfl
 have hn':n≤(l.map z3m).length:=by rw[List.length_map];exact hn
 simp[slV,z2l,z4n,hh,hn]
theorem q9u {l:List Nat} {n:Nat} (hn:n < l.length) (h0:l[n]=0):z7a (l.take (n + 1))=z7a (l.take n):=by
 rw[List.take_succ_eq_append_getElem hn,q2x,h0]
 simp[z7a]
theorem x8a {l:List Nat} {t:Tip} (hb:∀ x∈l,x < 1000000000) (hl:l.length≤1000):Pure Gam 247 [.sl (l.map z3m) t] (.sl ((nl (z7a l)).map z3m) .no):=by
 refine Pure.of rfl w3a rfl rfl rfl (az:=[.sl (l.map z3m) .no]) rfl (by simp[idsL,AV.ids,AV.cv,z2x]) fun D B clk T hB hT=> ?_
 simp only[go_sem,z0,w2z,List.length_map]
 refine z0t (fun m q=>m≤l.length∧z7a (l.take m)=z7a l∧q.ts 0= .sl (l.map z3m) .no∧q.ts 3= .int .i64 (m:Int)∧q.h=D++[]) l.length ⟨Nat.le_refl _,by rw[List.take_length],rfl,rfl,rfl⟩ ?_
 rintro m ⟨ts,h,clk⟩ P ⟨hm,hv,h0,h3,rfl⟩ hn he hr
 dsimp only at h0 h3
 have fin:nl (z7a l)=l.take m→∀ (ts':Tmps) (clk':Nat),ts' 0= .sl (l.map z3m) .no→ts' 3= .int .i64 (m:Int)→P (.exit 0) ⟨ts',D++[],clk'⟩:=by
  intro hc ts' clk' q0 q3
  refine he _ _ ?_
  simp only[go_sem,z0,q0,q3,v2j hm]
  rw[x2r,←hc]
  exact hT _
 rcases Nat.eq_zero_or_pos m with rfl | hpos
 ·have e1:decide ((0:Int) < 0)=false:=rfl
  simp only[go_sem,z0,h0,h3,j0a,e1]
  exact fin (by rw[←hv,List.take_zero];exact z8e) _ _ h0 h3
 ·have e1:decide ((0:Int) < (m:Int))=true:=by rw[decide_eq_true_iff];omega
  have e2:IntKind.i64.wrap ((m:Int) - 1)=((m - 1:Nat):Int):=by rw[z0c (by omega) (by omega)];omega
  have hlt:m - 1 < l.length:=by omega
  by_cases hz:l[m - 1]=0
  ·have e3:decide (((l[m - 1]:Nat):Int)=0)=true:=by rw[decide_eq_true_iff];omega
   simp only[go_sem,z0,h0,h3,j0a,e1,e2,q0k hlt,e3]
   refine hn (m - 1) _ (by omega) ⟨by omega, ?_,h0,rfl,rfl⟩
   rw[←hv,←q9u hlt hz,show m - 1 + 1=m by omega]
  ·have e3:decide (((l[m - 1]:Nat):Int)=0)=false:=by rw[decide_eq_false_iff_not];omega
   simp only[go_sem,z0,h0,h3,j0a,e1,e2,q0k hlt,e3]
   refine fin ?_ _ _ h0 h3
   rw[←hv]
   refine v2i (fun x hx=>hb x (List.mem_of_mem_take hx)) fun l' e=>hz ?_
   have h1:l.take m=l.take (m - 1)++[l[m - 1]]:=by
    have:=List.take_succ_eq_append_getElem hlt
    rwa [show m - 1 + 1=m by omega] at this
   rw[h1] at e
   have:=List.append_inj' e rfl
   simpa using this.2
theorem u64_in {n:Int} (h1:0≤n) (h2:n≤18446744073709551615):IntKind.u64.wrap n=n:=IntWalk.u64_in _ ⟨h1,h2⟩
theorem u32_in {n:Int} (h1:0≤n) (h2:n≤4294967295):IntKind.u32.wrap n=n:=IntWalk.u32_in _ ⟨h1,h2⟩
theorem x1e (l:List Nat) (k:Nat):z7a l=z7a (l.take k) + 1000000000 ^ (l.take k).length * z7a (l.drop k):=by
 rw[←q2x,List.take_append_drop]
theorem x5j {a b:List Nat} {k:Nat} (ha:∀ x∈a,x < 1000000000) (hl:a.length=b.length) (hka:k < a.length) (hkb:k < b.length) (hd:a.drop (k + 1)=b.drop (k + 1)) (h:a[k] < b[k]):z7a a < z7a b:=by
 rw[x1e a k,x1e b k,List.drop_eq_getElem_cons hka,List.drop_eq_getElem_cons hkb,hd]
 have h1:(a.take k).length=k:=by simp;omega
 have h2:(b.take k).length=k:=by simp;omega
 have h3:=v2h (l:=a.take k) fun x hx=>ha x (List.mem_of_mem_take hx)
 rw[h1] at h3
 rw[h1,h2]
 have h4:1000000000 ^ k * (1 + z7a (a[k]::b.drop (k + 1)))≤1000000000 ^ k * z7a (b[k]::b.drop (k + 1)):=Nat.mul_le_mul_left _ (by simp only[z7a];omega)
 rw[Nat.mul_add] at h4
 omega
theorem x5k {x y:Nat} (h:x≤y):(nl x).length≤(nl y).length:=by
 induction y using Nat.strongRecOn generalizing x with
 | ind y ih=>
   rcases Nat.eq_zero_or_pos x with rfl | hx
   ·rw[z8e];simp
   ·rw[q8k hx,q8k (n:=y) (by omega),List.length_cons,List.length_cons]
    have:=ih (y / 1000000000) (by omega) (x:=x / 1000000000) (Nat.div_le_div_right h)
    omega
theorem z2v {base:Nat} {b:ACode} {ks:List Kf} {s:St} {Q:Post} (h:K Gam base b (.seq (.loop b)::ks) s Q):K Gam base (.loop b) ks s Q:=by
 rw[←k7t] at h
 have:∀ Q,W Gam base (.seq b (.loop b)) s Q=W Gam base (.loop b) s Q:=fun Q=>by
  apply propext
  constructor
  ·rintro ⟨k,e,s',h,hq⟩
   cases k with
   | zero=>cases h
   | succ k=>exact⟨k + 1,e,s',h,hq⟩
  ·rintro ⟨k,e,s',h,hq⟩
   cases k with
   | zero=>cases h
   | succ k=>exact⟨k + 1,e,s',h,hq⟩
 rw[v5k this] at h
 exact h
theorem z2e {h:List AObj} {K k:IntKind} {n:Int} {xs:List AV} {t:Tip}:z1t h 1 (.sl (.int K n::xs) t) (.int k 0)=some (.iptr [.int K n] 0,h):=z5c (i:=0) (e:= .int K n) rfl rfl
theorem v2k {x y:Nat} (hx:(nl x).length≤1000) (hy:(nl y).length≤1000):∃ r:Int,(r < 0↔x < y)∧(r=0↔x=y)∧Pure Gam 255 [.sl ((nl x).map z3m) .no, .sl ((nl y).map z3m) .no] (.int .i64 r):=by
 have hbx:=v2g x
 have hby:=v2g y
 by_cases hl:(nl x).length=(nl y).length
 ·
  have e1:decide (((nl x).length:Int)=((nl y).length:Int))=true:=by rw[decide_eq_true_iff];omega
  have key:∀ m,m≤(nl x).length→(nl x).drop m=(nl y).drop m→∃ r:Int,(r < 0↔x < y)∧(r=0↔x=y)∧∀ (D:List AObj) (B clk:Nat) (T:AV→List AObj→Prop) (ks:List Kf) (ts:Tmps) (Q:Post),ts 0= .sl ((nl x).map z3m) .no→ts 1= .sl ((nl y).map z3m) .no→ts 5= .int .i64 ((m:Int) - 1)→
    (∀ ts' clk',ts' 4= .int .i64 r→K Gam B .ret ks ⟨ts',D++[],clk'⟩ Q)→(r=0→∀ ts' clk',K Gam B (.exit 0) ks ⟨ts',D++[],clk'⟩ Q)→K Gam B (.loop x5d) ks ⟨ts,D++[],clk⟩ Q:=by
   intro m
   induction m with
   | zero=>
     intro _ hd
     have hxy:x=y:=by
      rw[List.drop_zero,List.drop_zero] at hd
      rw[←q2w x,←q2w y,hd]
     refine⟨0,by omega,by simp[hxy],fun D B clk T ks ts Q h0 h1 h5 _ hx=> ?_⟩
     refine z0t (fun _ q=>q.ts 5= .int .i64 (-1)∧q.h=D++[]) 0 ⟨by simpa using h5,rfl⟩ ?_
     rintro m ⟨ts,h,clk⟩ P ⟨h5,rfl⟩ hn he hr
     dsimp only at h5
     simp only[go_sem,z0,h5,x5d,Int.reduceLE,Int.reduceNeg,decide_false]
     exact he _ _ (hx rfl _ _)
   | succ m ih=>
     intro hm hd
     have hkx:m < (nl x).length:=by omega
     have hky:m < (nl y).length:=by omega
     have e2:decide ((0:Int)≤((m + 1:Nat):Int) - 1)=true:=by rw[decide_eq_true_iff];omega
     have e3:((m + 1:Nat):Int) - 1=(m:Int):=by omega
     have e4:decide ((0:Int)≤(m:Int))=true:=by rw[decide_eq_true_iff];omega
     have hxm:=hbx _ (List.getElem_mem hkx)
     have hym:=hby _ (List.getElem_mem hky)
     have w1:∀ z:Nat,z < 1000000000→IntKind.i64.wrap (z:Int)=(z:Int):=fun z hz=>z0c (by omega) (by omega)
     have w2:=w1 _ hxm
     have w3:=w1 _ hym
     by_cases hne:(nl x)[m]=(nl y)[m]
     ·obtain⟨r,h1,h2,h3⟩:=ih (by omega) (by rw[List.drop_eq_getElem_cons hkx,List.drop_eq_getElem_cons hky,hd,hne])
      refine⟨r,h1,h2,fun D B clk T ks ts Q q0 q1 q5 hr hx=> ?_⟩
      rw[e3] at q5
      have e5:decide (((nl x)[m]:Int)=((nl y)[m]:Int))=true:=by rw[decide_eq_true_iff];omega
      have e6:IntKind.i64.wrap ((m:Int) - 1)=(m:Int) - 1:=z0c (by omega) (by omega)
      refine z2v ?_
      simp only[go_sem,z0,q0,q1,q5,x5d,e4,q0k hkx,q0k hky,e5,Bool.not_true,e6]
      exact h3 D B _ T ks _ Q (by simp[z0b,q0]) (by simp[z0b,q1]) (by simp[z0b]) hr hx
     ·refine⟨((nl x)[m]:Int) - ((nl y)[m]:Int), ?_, ?_,fun D B clk T ks ts Q q0 q1 q5 hr hx=> ?_⟩
      ·constructor
       ·intro h
        have:=x5j hbx hl hkx hky hd (by omega)
        rwa [q2w,q2w] at this
       ·intro h
        refine Classical.byContradiction fun hc=> ?_
        have:=x5j hby hl.symm hky hkx hd.symm (by omega)
        rw[q2w,q2w] at this
        omega
      ·constructor
       ·intro h;omega
       ·intro h;subst h;omega
      ·rw[e3] at q5
       have e5:decide (((nl x)[m]:Int)=((nl y)[m]:Int))=false:=by rw[decide_eq_false_iff_not];omega
       have e6:IntKind.i64.wrap (((nl x)[m]:Int) - ((nl y)[m]:Int))=((nl x)[m]:Int) - ((nl y)[m]:Int):=z0c (by omega) (by omega)
       refine z2v ?_
       simp only[go_sem,z0,q0,q1,q5,x5d,e4,q0k hkx,q0k hky,e5,Bool.not_false,w2,w3,e6]
       exact hr _ _ (by simp[z0b])
  obtain⟨r,h1,h2,h3⟩:=key (nl x).length (Nat.le_refl _) (by rw[List.drop_length,hl,List.drop_length])
  refine⟨r,h1,h2,Pure.of rfl w3d rfl rfl rfl (az:=[.sl ((nl x).map z3m) .no, .sl ((nl y).map z3m) .no]) rfl (by simp[idsL,AV.ids,AV.cv,z2x]) fun D B clk T hB hT=> ?_⟩
  have e2:IntKind.i64.wrap (((nl x).length:Int) - 1)=((nl x).length:Int) - 1:=z0c (by omega) (by omega)
  have e3:IntKind.i64.wrap (((nl y).length:Int) - 1)=((nl x).length:Int) - 1:=by rw[z0c (by omega) (by omega)];omega
  simp only[go_sem,z0,v1v,List.length_map,e1,Bool.not_true,e2]
  refine h3 D B _ T _ _ _ (by simp[z0b,z2m]) (by simp[z0b,z6o,z2m]) (by simp[z0b]) (fun ts' clk' q4=> ?_) (fun hr0 ts' clk'=> ?_)
  ·simp only[go_sem,z0,q4]
   rw[z2h]
   exact hT _
  ·simp only[go_sem,z0,]
   rw[z2h,←hr0]
   exact hT _
 ·have e1:decide (((nl x).length:Int)=((nl y).length:Int))=false:=by rw[decide_eq_false_iff_not];omega
  have e2:IntKind.i64.wrap (((nl x).length:Int) - ((nl y).length:Int))=((nl x).length:Int) - ((nl y).length:Int):=z0c (by omega) (by omega)
  refine⟨((nl x).length:Int) - ((nl y).length:Int), ?_, ?_,Pure.of rfl w3d rfl rfl rfl (az:=[.sl ((nl x).map z3m) .no, .sl ((nl y).map z3m) .no]) rfl (by simp[idsL,AV.ids,AV.cv,z2x]) fun D B clk T hB hT=> ?_⟩
  ·constructor
   ·intro h
    refine Classical.byContradiction fun hc=> ?_
    have:=x5k (x:=y) (y:=x) (by omega)
    omega
   ·intro h
    have:=x5k (x:=x) (y:=y) (by omega)
    omega
  ·constructor
   ·intro h;omega
   ·intro h;subst h;omega
  ·simp only[go_sem,z0,v1v,List.length_map,e1,Bool.not_false,e2]
   rw[z2h]
   exact hT _
theorem v2l {l:List Nat}:Pure Gam 242 [.sl (l.map z3m) .no] (.bool (decide (l=[1]))):=by
 refine Pure.of rfl y1g rfl rfl rfl (az:=[.sl (l.map z3m) .no]) rfl (by simp[idsL,AV.ids,AV.cv,z2x]) fun D B clk T hB hT=> ?_
 match l with
 | []=>
   simp only[go_sem,z0,k2h,List.map_nil,Int.cast_ofNat_Int,Int.reduceEq,decide_false]
   rw[z0f]
   exact hT _
 | [x]=>
   have e:decide ((x:Int)=1)=decide ([x]=[1]):=by rw[decide_eq_decide];simp;omega
   simp only[go_sem,z0,k2h,z3m,List.map_cons,List.map_nil,Nat.zero_add,Int.cast_ofNat_Int,decide_true,z2e,e]
   rw[z0f]
   exact hT _
 | x::y::l=>
   have e:decide (((l.length + 1 + 1:Nat):Int)=1)=false:=by rw[decide_eq_false_iff_not];omega
   have e2:decide (x::y::l=[1])=false:=by simp
   rw[e2] at hT
   simp only[go_sem,z0,k2h,List.length_map,List.map_cons,e]
   rw[z0f]
   exact hT _
end Go.Proofs.YtmkblnlafljljaaGreatDoor.Am
