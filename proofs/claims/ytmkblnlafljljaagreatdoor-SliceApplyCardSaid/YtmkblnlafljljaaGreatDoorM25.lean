/- Functions of the abstract machine's program Walking: frames with objects of their own, and the generator's choices -/
import Derived.Test.YtmkblnlafljljaaGreatDoorM23
open Nat renaming reduceBEq → z0,reduceAdd → z1,reduceLeDiff → z2,reduceSub → z3
set_option linter.all false
namespace Go.Proofs.YtmkblnlafljljaaGreatDoor.Am
open Go
set_option maxRecDepth 100000
section
open Sh
def v0l:ACode:=(.seq (.seq (.region 6 [M 17 5,N 18 (.binOp .gtr (.one .int) (.tmp 17) (I 0)),M 19 18,V 20 (.move (.tmp 3)) 19,V 21 (.call 42 [.tmp 20]) 19,N 22 (.pick (.tmp 19) (.tmp 21) (.const (.bool false)))] []) (.cond (.tmp 22) .skip (.exit 0))) (.seq (.block 1 (.region 13 [A 25 4 1,L 26 25,M 27 3,A 28 4 0,L 29 28,M 30 3,N 31 (.call 26 [(.tmp 30),(I 4)]),N 32 (.binOp .eql (.one .int) (.tmp 31) (I 0)),N 33 (.call 43 [(.tmp 27),(.tmp 29),(.tmp 32)]),N 34 (.buildSlice 2 false (.agg [(.sl [] .nil),(.sl [] .nil),(.sl [] .nil),(.str []),(.sl [] .nil)]) 1 [(0,(.tmp 33))]),N 35 (.append 3 5 112 false (.tmp 26) (.tmp 34)),A 36 4 1,S 1 36 35] [(1,6),(4,6),(1,8),(1,9)])) (.region 3 [M 23 5,N 24 (.binOp .sub (.one .int) (.tmp 23) (I 1)),M 5 24] [])))
def y4p:AFun:=
 {ntmps:=38,nslots:=4,results:=[.cell 2 (some 2)],byref:=[],owned:=false,
  body:=(.seq (.region 1 [N 2 (.alloc 0 (.agg [(.sl [] .nil),(.sl [] .nil)]))] []) (.seq (.region 3 [M 6 0,N 7 (.call 25 [.tmp 6]),M 3 7] []) (.seq (.region 8 [N 8 (.call 41 []),M 9 3,N 10 (.call 26 [(.tmp 9),(I 4)]),N 11 (.binOp .add (.one .int) (I 2) (.tmp 10)),N 12 (.slice (some 3) (.tmp 8) none (some (.tmp 11)) none),N 13 (.build [(.sl [] .nil),(.sl [] .nil)] [(0,1,(.tmp 12))]),N 4 (.alloc 1 (.agg [(.sl [] .nil),(.sl [] .nil)])),S 2 4 13] []) (.seq (.seq (.region 4 [M 14 3,N 15 (.call 26 [(.tmp 14),(I 8)]),N 16 (.binOp .add (.one .int) (I 1) (.tmp 15)),M 5 16] []) (.block 0 (.loop v0l))) (.seq (.region 2 [N 37 (.load (some 2) (.tmp 4)),S 2 2 37] []) .ret)))))}
theorem y7u:Gam.fn 17=some y4p:=by kernel_rfl
def k1p:AFun:=
 {ntmps:=10,nslots:=1,results:=[.tmp 2],byref:=[],owned:=false,
  body:=(.seq (.region 1 [N 2 (.move (.const .nilptr))] []) (.seq (.region 8 [M 3 0,M 4 0,N 5 (.len .sl (.tmp 4)),N 6 (.minmax false (.tmp 5) (I 400)),N 7 (.slice (some 1) (.tmp 3) none (some (.tmp 6)) none),N 8 (.build [(.sl [] .nil),(.int .i64 0)] [(0,1,(.tmp 7))]),N 9 (.box 0 (.tmp 8)),M 2 9] []) .ret))}
theorem y7v:Gam.fn 25=some k1p:=by kernel_rfl
def y4q:AFun:=
 {ntmps:=35,nslots:=0,results:=[.tmp 4],byref:=[],owned:=false,
  body:=(.seq (.region 1 [N 4 (.move (I 0))] []) (.seq (.seq (.region 10 [M 5 0,N 6 (.nilCheck (.tmp 5)),A 7 6 1,L 8 7,M 9 0,N 10 (.nilCheck (.tmp 9)),A 11 10 0,L 12 11,N 13 (.len .sl (.tmp 12)),N 14 (.binOp .geq (.one .int) (.tmp 8) (.tmp 13))] []) (.cond (.tmp 14) (.seq (.region 1 [N 4 (.move (I 0))] []) .ret) .skip)) (.seq (.region 8 [M 15 0,N 16 (.nilCheck (.tmp 15)),A 17 16 1,L 18 17,N 19 (.binOp .add (.one .int) (.tmp 18) (I 1)),N 20 (.nilCheck (.tmp 15)),A 21 20 1,S 1 21 19] []) (.seq (.region 14 [M 22 0,N 23 (.nilCheck (.tmp 22)),A 24 23 0,L 25 24,M 26 0,N 27 (.nilCheck (.tmp 26)),A 28 27 1,L 29 28,N 30 (.binOp .sub (.one .int) (.tmp 29) (I 1)),N 31 (.indexAddr none 1 (.tmp 25) (.tmp 30)),L 32 31,M 33 1,N 34 (.call 49 [(.tmp 32),(.tmp 33)]),M 4 34] []) .ret))))}
theorem y7w:Gam.fn 26=some y4q:=by kernel_rfl
def w6f:AFun:=
 {ntmps:=39,nslots:=2,results:=[.cell 4 (some 5)],byref:=[],owned:=false,
  body:=(.seq (.region 1 [N 4 (.alloc 0 (.agg [(.int .i64 0),(.bool false),(.str []),(.sl [] .nil),(.sl [] .nil)]))] []) (.seq (.seq (.region 1 [M 6 1] []) (.block 0 (.seq (.region 2 [N 8 (.binOp .eql (.one .int) (.tmp 6) (I 1)),M 7 8] []) (.cond (.tmp 7) (.seq (.region 6 [M 9 1,M 10 0,N 11 (.call 26 [(.tmp 10),(I 2)]),N 12 (.binOp .eql (.one .int) (.tmp 11) (I 1)),N 13 (.build [(.int .i64 0),(.bool false),(.str []),(.sl [] .nil),(.sl [] .nil)] [(0,1,(.tmp 9)),(1,1,(.tmp 12))]),S 5 4 13] []) .ret) (.seq (.region 2 [N 15 (.binOp .eql (.one .int) (.tmp 6) (I 4)),M 14 15] []) (.cond (.tmp 14) (.seq (.region 7 [M 16 1,M 17 0,N 18 (.call 26 [(.tmp 17),(I 3)]),N 19 (.call 50 [.tmp 18]),N 20 (.build [(.int .i64 0),(.bool false),(.str []),(.sl [] .nil),(.sl [] .nil)] [(0,1,(.tmp 16)),(2,1,(.tmp 19))]),N 5 (.alloc 1 (.agg [(.int .i64 0),(.bool false),(.str []),(.sl [] .nil),(.sl [] .nil)])),S 5 5 20] []) (.seq (.region 12 [N 22 (.load (some 5) (.tmp 5)),M 23 0,N 24 (.call 26 [(.tmp 23),(I 3)]),N 25 (.call 50 [.tmp 24]),M 26 0,N 27 (.call 26 [(.tmp 26),(I 3)]),N 28 (.call 50 [.tmp 27]),N 29 (.call 51 [(.tmp 22),(.tmp 25),(.tmp 28)]),M 21 29,E 30 21 0,E 31 21 1,S 5 5 30] [(0,2),(0,3),(0,5),(0,6)]) (.seq (.region 2 [N 32 (.load (some 5) (.tmp 5)),S 5 4 32] []) .ret))) .skip)))))) (.seq (.region 7 [M 33 1,M 34 0,N 35 (.call 26 [(.tmp 34),(I 6)]),N 36 (.binOp .sub (.one .int) (.tmp 35) (I 2)),N 37 (.call 50 [.tmp 36]),N 38 (.build [(.int .i64 0),(.bool false),(.str []),(.sl [] .nil),(.sl [] .nil)] [(0,1,(.tmp 33)),(2,1,(.tmp 37))]),S 5 4 38] []) .ret)))}
theorem y7x:Gam.fn 27=some w6f:=by kernel_rfl
def y4r:AFun:=
 {ntmps:=13,nslots:=0,results:=[.tmp 2],byref:=[],owned:=false,
  body:=(.seq (.region 1 [N 2 (.move (.const (.bool false)))] []) (.seq (.region 11 [M 3 0,N 4 (.nilCheck (.tmp 3)),A 5 4 1,L 6 5,M 7 0,N 8 (.nilCheck (.tmp 7)),A 9 8 0,L 10 9,N 11 (.len .sl (.tmp 10)),N 12 (.binOp .lss (.one .int) (.tmp 6) (.tmp 11)),M 2 12] []) .ret))}
theorem y7y:Gam.fn 42=some y4r:=by kernel_rfl
def v0m:ACode:=(.seq (.seq (.region 2 [M 33 11,N 34 (.binOp .gtr (.one .int) (.tmp 33) (I 0))] []) (.cond (.tmp 34) .skip (.exit 2))) (.seq (.block 3 (.region 10 [A 37 10 1,L 38 37,M 39 0,M 40 1,M 41 8,N 42 (.call 88 [(.tmp 39),(.tmp 40),(.tmp 41)]),N 43 (.buildSlice 4 false (.agg [(.str []),(.sl [] .nil)]) 1 [(0,(.tmp 42))]),N 44 (.append 5 2 40 false (.tmp 38) (.tmp 43)),A 45 10 1,S 1 45 44] [(1,5),(1,6)])) (.region 3 [M 35 11,N 36 (.binOp .sub (.one .int) (.tmp 35) (I 1)),M 11 36] [])))
def v0n:ACode:=(.seq (.seq (.region 4 [M 13 9,M 14 7,N 15 (.len .sl (.tmp 14)),N 16 (.binOp .lss (.one .int) (.tmp 13) (.tmp 15))] []) (.cond (.tmp 16) .skip (.exit 0))) (.seq (.block 1 (.seq (.region 3 [M 19 0,N 20 (.call 26 [(.tmp 19),(I 3)]),N 21 (.binOp .gtr (.one .int) (.tmp 20) (I 0))] []) (.cond (.tmp 21) (.region 8 [M 22 8,M 23 7,M 24 9,N 25 (.indexAddr none 2 (.tmp 23) (.tmp 24)),N 26 (.load (some 2) (.tmp 25)),N 27 (.buildSlice 1 false (.agg [(.str []),(.int .i64 0)]) 1 [(0,(.tmp 26))]),N 28 (.append 2 2 24 false (.tmp 22) (.tmp 27)),M 8 28] []) .skip))) (.region 3 [M 17 9,N 18 (.binOp .add (.one .int) (.tmp 17) (I 1)),M 9 18] [])))
def y4s:AFun:=
 {ntmps:=58,nslots:=6,results:=[.cell 6 (some 5)],byref:=[],owned:=false,
  body:=(.seq (.region 1 [N 6 (.alloc 0 (.agg [(.sl [] .nil),(.sl [] .nil),(.sl [] .nil),(.str []),(.sl [] .nil)]))] []) (.seq (.region 2 [N 12 (.call 87 []),M 7 12] []) (.seq (.region 1 [N 8 (.move (.const (.sl [] .nil)))] []) (.seq (.seq (.region 1 [N 9 (.move (I 0))] []) (.block 0 (.loop v0n))) (.seq (.region 4 [M 29 8,N 30 (.build [(.sl [] .nil),(.sl [] .nil),(.sl [] .nil),(.str []),(.sl [] .nil)] [(0,1,(.tmp 29))]),N 10 (.alloc 3 (.agg [(.sl [] .nil),(.sl [] .nil),(.sl [] .nil),(.str []),(.sl [] .nil)])),S 5 10 30] []) (.seq (.seq (.region 3 [M 31 0,N 32 (.call 26 [(.tmp 31),(I 3)]),M 11 32] []) (.block 2 (.loop v0m))) (.seq (.region 5 [M 46 0,M 47 8,N 48 (.call 89 [(.tmp 46),(I 3),(.tmp 47)]),A 49 10 2,S 1 49 48] []) (.seq (.seq (.region 2 [M 50 2,N 51 (.unOp .not (.tmp 50))] []) (.cond (.tmp 51) (.region 6 [M 52 0,M 53 1,M 54 8,N 55 (.call 88 [(.tmp 52),(.tmp 53),(.tmp 54)]),A 56 10 3,S 2 56 55] []) .skip)) (.seq (.region 2 [N 57 (.load (some 5) (.tmp 10)),S 5 6 57] []) .ret)))))))))}
theorem y7z:Gam.fn 43=some y4s:=by kernel_rfl
def y4t:AFun:=
 {ntmps:=11,nslots:=0,results:=[.tmp 4],byref:=[],owned:=false,
  body:=(.seq (.region 1 [N 4 (.move (I 0))] []) (.seq (.region 7 [M 5 0,N 6 (.cInt .u64 (.tmp 5)),M 7 1,N 8 (.cInt .u64 (.tmp 7)),N 9 (.binOp .rem (.one .int) (.tmp 6) (.tmp 8)),N 10 (.cInt .i64 (.tmp 9)),M 4 10] []) .ret))}
theorem y8a:Gam.fn 49=some y4t:=by kernel_rfl
def j6a:ACode:=(.seq (.seq (.region 6 [M 7 4,N 8 (.binOp .neq (.one .int) (.tmp 7) (I 0)),M 9 8,U 10 (.move (.tmp 3)) 9,U 11 (.binOp .eql (.one .str) (.tmp 10) (.const (.str []))) 9,N 12 (.pick (.tmp 9) (.const (.bool true)) (.tmp 11))] []) (.cond (.tmp 12) .skip (.exit 0))) (.seq (.block 1 (.seq (.region 3 [M 15 4,N 16 (.binOp .rem (.one .int) (.tmp 15) (I 10)),M 5 16] []) (.seq (.seq (.region 2 [M 17 5,N 18 (.binOp .lss (.one .int) (.tmp 17) (I 0))] []) (.cond (.tmp 18) (.region 3 [M 19 5,N 20 (.unOp .neg (.tmp 19)),M 5 20] []) .skip)) (.region 8 [M 21 5,N 22 (.binOp .add (.one .int) (I 48) (.tmp 21)),N 23 (.cInt .u8 (.tmp 22)),N 24 (.buildSlice 0 false (.int .u8 0) 1 [(0,(.tmp 23))]),N 25 (.ofBytes (.tmp 24)),M 26 3,N 27 (.binOp .add (.one .str) (.tmp 25) (.tmp 26)),M 3 27] [])))) (.region 3 [M 13 4,N 14 (.binOp .quo (.one .int) (.tmp 13) (I 10)),M 4 14] [])))
def y4u:AFun:=
 {ntmps:=33,nslots:=1,results:=[.tmp 2],byref:=[],owned:=false,
  body:=(.seq (.region 1 [N 2 (.move (.const (.str [])))] []) (.seq (.region 1 [N 3 (.move (.const (.str [])))] []) (.seq (.seq (.region 2 [M 6 0,M 4 6] []) (.block 0 (.loop j6a))) (.seq (.seq (.region 2 [M 28 0,N 29 (.binOp .lss (.one .int) (.tmp 28) (I 0))] []) (.cond (.tmp 29) (.seq (.region 3 [M 30 3,N 31 (.binOp .add (.one .str) (.const (.str [45])) (.tmp 30)),M 2 31] []) .ret) .skip)) (.seq (.region 2 [M 32 3,M 2 32] []) .ret)))))}
theorem y8b:Gam.fn 50=some y4u:=by kernel_rfl
def w0q:ACode:=(.seq (.seq (.region 5 [M 20 9,A 21 7 1,L 22 21,N 23 (.len .sl (.tmp 22)),N 24 (.binOp .lss (.one .int) (.tmp 20) (.tmp 23))] []) (.cond (.tmp 24) .skip (.exit 0))) (.seq (.block 1 (.region 14 [A 27 8 1,L 28 27,M 29 0,A 30 7 1,L 31 30,M 32 9,N 33 (.indexAddr none 1 (.tmp 31) (.tmp 32)),L 34 33,M 35 2,N 36 (.call 129 [(.tmp 29),(.tmp 34),(.tmp 35)]),N 37 (.buildSlice 3 false (.sl [] .nil) 1 [(0,(.tmp 36))]),N 38 (.append 4 1 24 false (.tmp 28) (.tmp 37)),A 39 8 1,S 1 39 38] [(1,9),(1,10)])) (.region 3 [M 25 9,N 26 (.binOp .add (.one .int) (.tmp 25) (I 1)),M 9 26] [])))
def y4v:AFun:=
 {ntmps:=41,nslots:=5,results:=[.cell 6 (some 2)],byref:=[],owned:=false,
  body:=(.seq (.region 1 [N 6 (.alloc 0 (.agg [(.str []),(.sl [] .nil)]))] []) (.seq (.region 9 [M 10 1,M 11 0,M 12 1,N 13 (.len .sl (.tmp 12)),N 14 (.call 26 [(.tmp 11),(.tmp 13)]),N 15 (.indexAddr none 3 (.tmp 10) (.tmp 14)),N 16 (.load (some 3) (.tmp 15)),N 7 (.alloc 1 (.agg [(.str []),(.sl [] .nil),(.int .i64 0)])),S 3 7 16] []) (.seq (.region 5 [A 17 7 0,L 18 17,N 19 (.build [(.str []),(.sl [] .nil)] [(0,1,(.tmp 18))]),N 8 (.alloc 2 (.agg [(.str []),(.sl [] .nil)])),S 2 8 19] []) (.seq (.seq (.region 1 [N 9 (.move (I 0))] []) (.block 0 (.loop w0q))) (.seq (.region 2 [N 40 (.load (some 2) (.tmp 8)),S 2 6 40] []) .ret)))))}
theorem y8c:Gam.fn 88=some y4v:=by kernel_rfl
def y4w:AFun:=
 {ntmps:=82,nslots:=5,results:=[.tmp 6],byref:=[],owned:=false,
  body:=(.seq (.region 1 [N 6 (.move (.const (.sl [] .nil)))] []) (.seq (.region 3 [M 8 0,N 9 (.call 26 [(.tmp 8),(I 6)]),M 7 9] []) (.seq (.seq (.region 10 [M 10 1,N 11 (.binOp .leq (.one .int) (.tmp 10) (I 0)),M 12 11,V 13 (.move (.tmp 7)) 12,V 14 (.binOp .eql (.one .int) (.tmp 13) (I 3)) 12,V 15 (.move (.tmp 14)) 12,U 16 (.move (.tmp 7)) 15,U 17 (.binOp .eql (.one .int) (.tmp 16) (I 4)) 15,V 18 (.pick (.tmp 15) (.const (.bool true)) (.tmp 17)) 12,N 19 (.pick (.tmp 12) (.tmp 18) (.const (.bool false)))] []) (.cond (.tmp 19) (.region 1 [N 7 (.move (I 0))] []) .skip)) (.seq (.seq (.region 1 [M 20 7] []) (.block 0 (.seq (.region 2 [N 22 (.binOp .eql (.one .int) (.tmp 20) (I 0)),M 21 22] []) (.cond (.tmp 21) (.seq (.region 2 [N 23 (.call 120 [(.const (.bool true))]),M 6 23] []) .ret) (.seq (.region 2 [N 25 (.binOp .eql (.one .int) (.tmp 20) (I 1)),M 24 25] []) (.cond (.tmp 24) (.seq (.region 10 [M 26 0,M 27 2,N 28 (.call 131 [(.tmp 26),(I 2),(.tmp 27)]),M 29 0,N 30 (.call 26 [(.tmp 29),(I 5)]),N 31 (.call 50 [.tmp 30]),N 32 (.call 132 [(I 2),(.tmp 31)]),N 33 (.buildSlice 0 false (.sl [] .nil) 2 [(0,(.tmp 28)),(1,(.tmp 32))]),N 34 (.call 130 [(I 12),(.tmp 33)]),M 6 34] []) .ret) (.seq (.region 2 [N 36 (.binOp .eql (.one .int) (.tmp 20) (I 2)),M 35 36] []) (.cond (.tmp 35) (.seq (.region 15 [M 37 0,M 38 2,N 39 (.call 131 [(.tmp 37),(I 2),(.tmp 38)]),M 40 0,M 41 2,N 42 (.call 131 [(.tmp 40),(I 2),(.tmp 41)]),M 43 0,N 44 (.call 26 [(.tmp 43),(I 3)]),N 45 (.call 50 [.tmp 44]),N 46 (.call 132 [(I 2),(.tmp 45)]),N 47 (.buildSlice 1 false (.sl [] .nil) 2 [(0,(.tmp 42)),(1,(.tmp 46))]),N 48 (.call 130 [(I 14),(.tmp 47)]),N 49 (.buildSlice 2 false (.sl [] .nil) 2 [(0,(.tmp 39)),(1,(.tmp 48))]),N 50 (.call 130 [(I 11),(.tmp 49)]),M 6 50] []) .ret) (.seq (.region 2 [N 52 (.binOp .eql (.one .int) (.tmp 20) (I 3)),M 51 52] []) (.cond (.tmp 51) (.seq (.region 13 [M 53 0,M 54 1,N 55 (.binOp .sub (.one .int) (.tmp 54) (I 1)),M 56 2,N 57 (.call 89 [(.tmp 53),(.tmp 55),(.tmp 56)]),M 58 0,M 59 1,N 60 (.binOp .sub (.one .int) (.tmp 59) (I 1)),M 61 2,N 62 (.call 89 [(.tmp 58),(.tmp 60),(.tmp 61)]),N 63 (.buildSlice 3 false (.sl [] .nil) 2 [(0,(.tmp 57)),(1,(.tmp 62))]),N 64 (.call 130 [(I 7),(.tmp 63)]),M 6 64] []) .ret) (.seq (.region 2 [N 66 (.binOp .eql (.one .int) (.tmp 20) (I 4)),M 65 66] []) (.cond (.tmp 65) (.seq (.region 13 [M 67 0,M 68 1,N 69 (.binOp .sub (.one .int) (.tmp 68) (I 1)),M 70 2,N 71 (.call 89 [(.tmp 67),(.tmp 69),(.tmp 70)]),M 72 0,M 73 1,N 74 (.binOp .sub (.one .int) (.tmp 73) (I 1)),M 75 2,N 76 (.call 89 [(.tmp 72),(.tmp 74),(.tmp 75)]),N 77 (.buildSlice 4 false (.sl [] .nil) 2 [(0,(.tmp 71)),(1,(.tmp 76))]),N 78 (.call 130 [(I 8),(.tmp 77)]),M 6 78] []) .ret) .skip)))))))))))) (.seq (.region 4 [M 79 0,M 80 2,N 81 (.call 133 [(.tmp 79),(I 2),(.tmp 80)]),M 6 81] []) .ret)))))}
theorem y4x:Gam.fn 89=some y4w:=by kernel_rfl
def w0r:AFun:=
 {ntmps:=18,nslots:=0,results:=[.tmp 6],byref:=[],owned:=false,
  body:=(.seq (.region 1 [N 6 (.move (.const (.sl [] .nil)))] []) (.seq (.seq (.region 3 [M 7 0,N 8 (.call 26 [(.tmp 7),(I 4)]),N 9 (.binOp .eql (.one .int) (.tmp 8) (I 0))] []) (.cond (.tmp 9) (.seq (.region 5 [M 10 0,M 11 1,M 12 2,N 13 (.call 170 [(.tmp 10),(.tmp 11),(I 1),(.tmp 12)]),M 6 13] []) .ret) .skip)) (.seq (.region 5 [M 14 0,M 15 1,M 16 2,N 17 (.call 131 [(.tmp 14),(.tmp 15),(.tmp 16)]),M 6 17] []) .ret)))}
theorem w9s:Gam.fn 129=some w0r:=by kernel_rfl
def w0s:AFun:=
 {ntmps:=8,nslots:=2,results:=[.tmp 2],byref:=[],owned:=false,
  body:=(.seq (.region 1 [N 2 (.move (.const (.sl [] .nil)))] []) (.seq (.seq (.region 1 [M 3 0] []) (.cond (.tmp 3) (.seq (.region 3 [N 4 (.build [(.int .i64 0),(.int .i64 0),(.str []),(.str []),(.int .i64 0)] [(0,1,(I 1))]),N 5 (.buildSlice 0 false (.agg [(.int .i64 0),(.int .i64 0),(.str []),(.str []),(.int .i64 0)]) 1 [(0,(.tmp 4))]),M 2 5] []) .ret) .skip)) (.seq (.region 3 [N 6 (.build [(.int .i64 0),(.int .i64 0),(.str []),(.str []),(.int .i64 0)] [(0,1,(I 2))]),N 7 (.buildSlice 1 false (.agg [(.int .i64 0),(.int .i64 0),(.str []),(.str []),(.int .i64 0)]) 1 [(0,(.tmp 6))]),M 2 7] []) .ret)))}
theorem w9t:Gam.fn 120=some w0s:=by kernel_rfl
def w0t:AFun:=
 {ntmps:=9,nslots:=0,results:=[.tmp 4],byref:=[],owned:=false,
  body:=(.seq (.region 1 [N 4 (.move (.const (.sl [] .nil)))] []) (.seq (.region 5 [M 5 0,N 6 (.build [(.int .i64 0),(.int .i64 0),(.str []),(.str []),(.int .i64 0)] [(0,1,(.tmp 5))]),M 7 1,N 8 (.call 168 [(.tmp 6),(.tmp 7)]),M 4 8] []) .ret))}
theorem w9u:Gam.fn 130=some w0t:=by kernel_rfl
def k6a:ACode:=(.seq (.seq (.region 4 [M 12 8,M 13 2,N 14 (.len .sl (.tmp 13)),N 15 (.binOp .lss (.one .int) (.tmp 12) (.tmp 14))] []) (.cond (.tmp 15) .skip (.exit 0))) (.seq (.block 1 (.seq (.region 7 [M 18 2,M 19 8,N 20 (.indexAddr none 2 (.tmp 18) (.tmp 19)),A 21 20 1,L 22 21,M 23 1,N 24 (.binOp .eql (.one .int) (.tmp 22) (.tmp 23))] []) (.cond (.tmp 24) (.region 8 [M 25 7,M 26 2,M 27 8,N 28 (.indexAddr none 2 (.tmp 26) (.tmp 27)),N 29 (.load (some 2) (.tmp 28)),N 30 (.buildSlice 0 false (.agg [(.str []),(.int .i64 0)]) 1 [(0,(.tmp 29))]),N 31 (.append 1 2 24 false (.tmp 25) (.tmp 30)),M 7 31] []) .skip))) (.region 3 [M 16 8,N 17 (.binOp .add (.one .int) (.tmp 16) (I 1)),M 8 17] [])))
def w0u:AFun:=
 {ntmps:=55,nslots:=4,results:=[.tmp 6],byref:=[],owned:=false,
  body:=(.seq (.region 1 [N 6 (.move (.const (.sl [] .nil)))] []) (.seq (.region 1 [N 7 (.move (.const (.sl [] .nil)))] []) (.seq (.seq (.region 1 [N 8 (.move (I 0))] []) (.block 0 (.loop k6a))) (.seq (.seq (.region 3 [M 32 7,N 33 (.len .sl (.tmp 32)),N 34 (.binOp .eql (.one .int) (.tmp 33) (I 0))] []) (.cond (.tmp 34) (.seq (.region 9 [M 36 0,M 37 1,N 38 (.call 27 [(.tmp 36),(.tmp 37)]),N 39 (.call 171 [.tmp 38]),M 35 39,E 40 35 0,E 41 35 1,M 9 40,M 10 41] []) (.seq (.region 2 [M 42 9,M 6 42] []) .ret)) .skip)) (.seq (.region 9 [M 43 7,M 44 0,M 45 7,N 46 (.len .sl (.tmp 45)),N 47 (.call 26 [(.tmp 44),(.tmp 46)]),N 48 (.indexAddr none 2 (.tmp 43) (.tmp 47)),N 49 (.load (some 2) (.tmp 48)),N 11 (.alloc 2 (.agg [(.str []),(.int .i64 0)])),S 2 11 49] []) (.seq (.region 6 [M 50 1,A 51 11 0,L 52 51,N 53 (.build [(.int .i64 0),(.int .i64 0),(.str []),(.str []),(.int .i64 0)] [(0,1,(I 4)),(1,1,(.tmp 50)),(2,1,(.tmp 52))]),N 54 (.buildSlice 3 false (.agg [(.int .i64 0),(.int .i64 0),(.str []),(.str []),(.int .i64 0)]) 1 [(0,(.tmp 53))]),M 6 54] []) .ret))))))}
theorem w9v:Gam.fn 131=some w0u:=by kernel_rfl
def w0v:AFun:=
 {ntmps:=9,nslots:=1,results:=[.tmp 4],byref:=[],owned:=false,
  body:=(.seq (.region 1 [N 4 (.move (.const (.sl [] .nil)))] []) (.seq (.region 5 [M 5 0,M 6 1,N 7 (.build [(.int .i64 0),(.int .i64 0),(.str []),(.str []),(.int .i64 0)] [(0,1,(I 3)),(1,1,(.tmp 5)),(3,1,(.tmp 6))]),N 8 (.buildSlice 0 false (.agg [(.int .i64 0),(.int .i64 0),(.str []),(.str []),(.int .i64 0)]) 1 [(0,(.tmp 7))]),M 4 8] []) .ret))}
theorem w9w:Gam.fn 132=some w0v:=by kernel_rfl
def j6b:ACode:=(.seq (.seq (.region 2 [M 38 8,N 39 (.binOp .gtr (.one .int) (.tmp 38) (I 0))] []) (.cond (.tmp 39) .skip (.exit 1))) (.seq (.block 2 (.region 9 [M 42 7,M 43 0,M 44 1,N 45 (.binOp .sub (.one .int) (.tmp 44) (I 1)),M 46 2,N 47 (.call 133 [(.tmp 43),(.tmp 45),(.tmp 46)]),N 48 (.buildSlice 1 false (.sl [] .nil) 1 [(0,(.tmp 47))]),N 49 (.append 2 1 24 false (.tmp 42) (.tmp 48)),M 7 49] [])) (.region 3 [M 40 8,N 41 (.binOp .sub (.one .int) (.tmp 40) (I 1)),M 8 41] [])))
def v0o:AFun:=
 {ntmps:=94,nslots:=5,results:=[.tmp 6],byref:=[],owned:=false,
  body:=(.seq (.region 1 [N 6 (.move (.const (.sl [] .nil)))] []) (.seq (.seq (.region 7 [M 9 1,N 10 (.binOp .leq (.one .int) (.tmp 9) (I 0)),M 11 10,U 12 (.move (.tmp 0)) 11,U 13 (.call 42 [.tmp 12]) 11,U 14 (.unOp .not (.tmp 13)) 11,N 15 (.pick (.tmp 11) (.const (.bool true)) (.tmp 14))] []) (.cond (.tmp 15) (.seq (.region 4 [M 16 0,M 17 2,N 18 (.call 172 [(.tmp 16),(I 0),(.tmp 17)]),M 6 18] []) .ret) .skip)) (.seq (.seq (.region 2 [M 19 0,N 20 (.call 26 [(.tmp 19),(I 12)])] []) (.block 0 (.seq (.seq (.region 2 [N 22 (.binOp .eql (.one .int) (.tmp 20) (I 0)),M 21 22] []) (.cond (.tmp 21) .skip (.region 2 [N 23 (.binOp .eql (.one .int) (.tmp 20) (I 1)),M 21 23] []))) (.cond (.tmp 21) (.seq (.region 8 [M 24 0,M 25 1,N 26 (.binOp .sub (.one .int) (.tmp 25) (I 1)),M 27 2,N 28 (.call 133 [(.tmp 24),(.tmp 26),(.tmp 27)]),N 29 (.buildSlice 0 false (.sl [] .nil) 1 [(0,(.tmp 28))]),N 30 (.call 130 [(I 6),(.tmp 29)]),M 6 30] []) .ret) (.seq (.seq (.region 2 [N 32 (.binOp .eql (.one .int) (.tmp 20) (I 2)),M 31 32] []) (.cond (.tmp 31) .skip (.seq (.region 2 [N 33 (.binOp .eql (.one .int) (.tmp 20) (I 3)),M 31 33] []) (.cond (.tmp 31) .skip (.seq (.region 2 [N 34 (.binOp .eql (.one .int) (.tmp 20) (I 4)),M 31 34] []) (.cond (.tmp 31) .skip (.region 2 [N 35 (.binOp .eql (.one .int) (.tmp 20) (I 5)),M 31 35] []))))))) (.cond (.tmp 31) (.seq (.region 1 [N 7 (.move (.const (.sl [] .nil)))] []) (.seq (.seq (.region 3 [M 36 0,N 37 (.call 26 [(.tmp 36),(I 4)]),M 8 37] []) (.block 1 (.loop j6b))) (.seq (.region 6 [M 50 0,N 51 (.call 26 [(.tmp 50),(I 2)]),N 52 (.binOp .add (.one .int) (I 7) (.tmp 51)),M 53 7,N 54 (.call 130 [(.tmp 52),(.tmp 53)]),M 6 54] []) .ret))) (.seq (.region 2 [N 56 (.binOp .eql (.one .int) (.tmp 20) (I 6)),M 55 56] []) (.cond (.tmp 55) (.seq (.region 13 [M 57 0,M 58 1,N 59 (.binOp .sub (.one .int) (.tmp 58) (I 1)),M 60 2,N 61 (.call 133 [(.tmp 57),(.tmp 59),(.tmp 60)]),M 62 0,M 63 1,N 64 (.binOp .sub (.one .int) (.tmp 63) (I 1)),M 65 2,N 66 (.call 133 [(.tmp 62),(.tmp 64),(.tmp 65)]),N 67 (.buildSlice 3 false (.sl [] .nil) 2 [(0,(.tmp 61)),(1,(.tmp 66))]),N 68 (.call 130 [(I 9),(.tmp 67)]),M 6 68] []) .ret) (.seq (.region 2 [N 70 (.binOp .eql (.one .int) (.tmp 20) (I 7)),M 69 70] []) (.cond (.tmp 69) (.seq (.region 5 [M 71 0,M 72 1,M 73 2,N 74 (.call 173 [(.tmp 71),(I 1),(.tmp 72),(.tmp 73)]),M 6 74] []) .ret) (.seq (.region 2 [N 76 (.binOp .eql (.one .int) (.tmp 20) (I 8)),M 75 76] []) (.cond (.tmp 75) (.seq (.region 13 [M 77 0,M 78 1,N 79 (.binOp .sub (.one .int) (.tmp 78) (I 1)),M 80 2,N 81 (.call 133 [(.tmp 77),(.tmp 79),(.tmp 80)]),M 82 0,M 83 1,N 84 (.binOp .sub (.one .int) (.tmp 83) (I 1)),M 85 2,N 86 (.call 133 [(.tmp 82),(.tmp 84),(.tmp 85)]),N 87 (.buildSlice 4 false (.sl [] .nil) 2 [(0,(.tmp 81)),(1,(.tmp 86))]),N 88 (.call 130 [(I 11),(.tmp 87)]),M 6 88] []) .ret) .skip)))))))))))) (.seq (.region 6 [M 89 0,M 90 1,N 91 (.binOp .sub (.one .int) (.tmp 90) (I 1)),M 92 2,N 93 (.call 172 [(.tmp 89),(.tmp 91),(.tmp 92)]),M 6 93] []) .ret))))}
theorem w0w:Gam.fn 133=some v0o:=by kernel_rfl
def v0p:AFun:=
 {ntmps:=89,nslots:=2,results:=[.tmp 8],byref:=[],owned:=false,
  body:=(.seq (.region 1 [N 8 (.move (.const (.sl [] .nil)))] []) (.seq (.seq (.region 7 [M 11 2,N 12 (.binOp .leq (.one .int) (.tmp 11) (I 0)),M 13 12,U 14 (.move (.tmp 0)) 13,U 15 (.call 42 [.tmp 14]) 13,U 16 (.unOp .not (.tmp 15)) 13,N 17 (.pick (.tmp 13) (.const (.bool true)) (.tmp 16))] []) (.cond (.tmp 17) (.seq (.seq (.region 3 [M 18 0,N 19 (.call 26 [(.tmp 18),(I 3)]),N 20 (.binOp .eql (.one .int) (.tmp 19) (I 0))] []) (.cond (.tmp 20) (.seq (.region 9 [M 22 0,M 23 1,N 24 (.call 27 [(.tmp 22),(.tmp 23)]),N 25 (.call 171 [.tmp 24]),M 21 25,E 26 21 0,E 27 21 1,M 9 26,M 10 27] []) (.seq (.region 2 [M 28 9,M 8 28] []) .ret)) .skip)) (.seq (.region 5 [M 29 0,M 30 1,M 31 3,N 32 (.call 131 [(.tmp 29),(.tmp 30),(.tmp 31)]),M 8 32] []) .ret)) .skip)) (.seq (.seq (.region 1 [M 33 1] []) (.block 0 (.seq (.region 2 [N 35 (.binOp .eql (.one .int) (.tmp 33) (I 1)),M 34 35] []) (.cond (.tmp 34) (.seq (.region 5 [M 36 0,M 37 2,M 38 3,N 39 (.call 133 [(.tmp 36),(.tmp 37),(.tmp 38)]),M 8 39] []) .ret) (.seq (.region 2 [N 41 (.binOp .eql (.one .int) (.tmp 33) (I 4)),M 40 41] []) (.cond (.tmp 40) (.seq (.seq (.region 2 [M 42 0,N 43 (.call 26 [(.tmp 42),(I 5)])] []) (.block 1 (.seq (.region 2 [N 45 (.binOp .eql (.one .int) (.tmp 43) (I 0)),M 44 45] []) (.cond (.tmp 44) (.seq (.region 8 [M 46 0,M 47 2,N 48 (.binOp .sub (.one .int) (.tmp 47) (I 1)),M 49 3,N 50 (.call 170 [(.tmp 46),(I 2),(.tmp 48),(.tmp 49)]),N 51 (.buildSlice 0 false (.sl [] .nil) 1 [(0,(.tmp 50))]),N 52 (.call 130 [(I 20),(.tmp 51)]),M 8 52] []) .ret) (.seq (.seq (.region 2 [N 54 (.binOp .eql (.one .int) (.tmp 43) (I 1)),M 53 54] []) (.cond (.tmp 53) .skip (.region 2 [N 55 (.binOp .eql (.one .int) (.tmp 43) (I 2)),M 53 55] []))) (.cond (.tmp 53) (.seq (.region 18 [M 56 0,M 57 2,N 58 (.binOp .sub (.one .int) (.tmp 57) (I 1)),M 59 3,N 60 (.call 170 [(.tmp 56),(I 4),(.tmp 58),(.tmp 59)]),M 61 0,M 62 2,N 63 (.binOp .sub (.one .int) (.tmp 62) (I 1)),M 64 3,N 65 (.call 170 [(.tmp 61),(I 2),(.tmp 63),(.tmp 64)]),M 66 0,M 67 2,N 68 (.binOp .sub (.one .int) (.tmp 67) (I 1)),M 69 3,N 70 (.call 170 [(.tmp 66),(I 2),(.tmp 68),(.tmp 69)]),N 71 (.buildSlice 1 false (.sl [] .nil) 3 [(0,(.tmp 60)),(1,(.tmp 65)),(2,(.tmp 70))]),N 72 (.call 130 [(I 19),(.tmp 71)]),M 8 72] []) .ret) (.seq (.region 2 [N 74 (.binOp .eql (.one .int) (.tmp 43) (I 3)),M 73 74] []) (.cond (.tmp 73) (.seq (.region 6 [M 75 0,M 76 1,M 77 2,M 78 3,N 79 (.call 173 [(.tmp 75),(.tmp 76),(.tmp 77),(.tmp 78)]),M 8 79] []) .ret) .skip)))))))) (.seq (.region 5 [M 80 0,M 81 1,M 82 3,N 83 (.call 131 [(.tmp 80),(.tmp 81),(.tmp 82)]),M 8 83] []) .ret)) .skip)))))) (.seq (.region 6 [M 84 0,M 85 1,M 86 2,M 87 3,N 88 (.call 196 [(.tmp 84),(.tmp 85),(.tmp 86),(.tmp 87)]),M 8 88] []) .ret))))}
theorem w0x:Gam.fn 170=some v0p:=by kernel_rfl
def k6b:ACode:=(.seq (.seq (.region 4 [M 12 6,M 13 1,N 14 (.len .sl (.tmp 13)),N 15 (.binOp .lss (.one .int) (.tmp 12) (.tmp 14))] []) (.cond (.tmp 15) .skip (.exit 0))) (.seq (.block 1 (.region 7 [M 18 5,M 19 1,M 20 6,N 21 (.indexAddr none 1 (.tmp 19) (.tmp 20)),L 22 21,N 23 (.append 2 5 56 false (.tmp 18) (.tmp 22)),M 5 23] [])) (.region 3 [M 16 6,N 17 (.binOp .add (.one .int) (.tmp 16) (I 1)),M 6 17] [])))
def w0y:AFun:=
 {ntmps:=25,nslots:=3,results:=[.tmp 4],byref:=[],owned:=false,
  body:=(.seq (.region 2 [N 2 (.box 0 (.tmp 0)),N 4 (.move (.const (.sl [] .nil)))] []) (.seq (.region 4 [M 7 1,N 8 (.len .sl (.tmp 7)),A 9 2 4,S 1 9 8] []) (.seq (.region 3 [N 10 (.load (some 5) (.tmp 2)),N 11 (.buildSlice 1 false (.agg [(.int .i64 0),(.int .i64 0),(.str []),(.str []),(.int .i64 0)]) 1 [(0,(.tmp 10))]),M 5 11] []) (.seq (.seq (.region 1 [N 6 (.move (I 0))] []) (.block 0 (.loop k6b))) (.seq (.region 2 [M 24 5,M 4 24] []) .ret)))))}
theorem w9x:Gam.fn 168=some w0y:=by kernel_rfl
def w0z:AFun:=
 {ntmps:=46,nslots:=2,results:=[.tmp 6],byref:=[],owned:=false,
  body:=(.seq (.region 1 [N 6 (.move (.const (.sl [] .nil)))] []) (.seq (.region 6 [N 9 (.buildSlice 0 false (.int .i64 0) 5 [(0,(I 2)),(1,(I 2)),(2,(I 3)),(3,(I 4)),(4,(I 1))]),M 10 0,N 11 (.call 26 [(.tmp 10),(I 5)]),N 12 (.indexAddr none 1 (.tmp 9) (.tmp 11)),L 13 12,M 7 13] []) (.seq (.seq (.region 2 [M 14 7,N 15 (.binOp .eql (.one .int) (.tmp 14) (I 1))] []) (.cond (.tmp 15) (.seq (.seq (.region 3 [M 16 0,N 17 (.call 26 [(.tmp 16),(I 3)]),N 18 (.binOp .eql (.one .int) (.tmp 17) (I 0))] []) (.cond (.tmp 18) (.seq (.region 5 [M 19 0,N 20 (.call 26 [(.tmp 19),(I 2)]),N 21 (.binOp .eql (.one .int) (.tmp 20) (I 1)),N 22 (.call 120 [.tmp 21]),M 6 22] []) .ret) .skip)) (.seq (.region 5 [M 23 0,M 24 7,M 25 2,N 26 (.call 131 [(.tmp 23),(.tmp 24),(.tmp 25)]),M 6 26] []) .ret)) .skip)) (.seq (.region 1 [N 8 (.move (I 11))] []) (.seq (.seq (.region 2 [M 27 7,N 28 (.binOp .neq (.one .int) (.tmp 27) (I 4))] []) (.cond (.tmp 28) (.region 5 [M 29 8,M 30 0,N 31 (.call 26 [(.tmp 30),(I 3)]),N 32 (.binOp .add (.one .int) (.tmp 29) (.tmp 31)),M 8 32] []) .skip)) (.seq (.region 14 [M 33 8,M 34 0,M 35 7,M 36 1,M 37 2,N 38 (.call 170 [(.tmp 34),(.tmp 35),(.tmp 36),(.tmp 37)]),M 39 0,M 40 7,M 41 1,M 42 2,N 43 (.call 170 [(.tmp 39),(.tmp 40),(.tmp 41),(.tmp 42)]),N 44 (.buildSlice 1 false (.sl [] .nil) 2 [(0,(.tmp 38)),(1,(.tmp 43))]),N 45 (.call 130 [(.tmp 33),(.tmp 44)]),M 6 45] []) .ret))))))}
theorem w9y:Gam.fn 172=some w0z:=by kernel_rfl
def w1a:AFun:=
 {ntmps:=28,nslots:=1,results:=[.tmp 8],byref:=[],owned:=false,
  body:=(.seq (.region 1 [N 8 (.move (.const (.sl [] .nil)))] []) (.seq (.region 20 [M 9 0,M 10 2,N 11 (.binOp .sub (.one .int) (.tmp 10) (I 1)),M 12 3,N 13 (.call 133 [(.tmp 9),(.tmp 11),(.tmp 12)]),M 14 0,M 15 1,M 16 2,N 17 (.binOp .sub (.one .int) (.tmp 16) (I 1)),M 18 3,N 19 (.call 170 [(.tmp 14),(.tmp 15),(.tmp 17),(.tmp 18)]),M 20 0,M 21 1,M 22 2,N 23 (.binOp .sub (.one .int) (.tmp 22) (I 1)),M 24 3,N 25 (.call 170 [(.tmp 20),(.tmp 21),(.tmp 23),(.tmp 24)]),N 26 (.buildSlice 0 false (.sl [] .nil) 3 [(0,(.tmp 13)),(1,(.tmp 19)),(2,(.tmp 25))]),N 27 (.call 130 [(I 10),(.tmp 26)]),M 8 27] []) .ret))}
theorem w9z:Gam.fn 173=some w1a:=by kernel_rfl
def j6c:ACode:=(.seq (.seq (.region 2 [M 27 11,N 28 (.binOp .gtr (.one .int) (.tmp 27) (I 0))] []) (.cond (.tmp 28) .skip (.exit 1))) (.seq (.block 2 (.region 10 [M 31 10,M 32 0,M 33 1,M 34 2,N 35 (.binOp .sub (.one .int) (.tmp 34) (I 1)),M 36 3,N 37 (.call 170 [(.tmp 32),(.tmp 33),(.tmp 35),(.tmp 36)]),N 38 (.buildSlice 1 false (.sl [] .nil) 1 [(0,(.tmp 37))]),N 39 (.append 2 1 24 false (.tmp 31) (.tmp 38)),M 10 39] [])) (.region 3 [M 29 11,N 30 (.binOp .sub (.one .int) (.tmp 29) (I 1)),M 11 30] [])))
def w1b:AFun:=
 {ntmps:=122,nslots:=7,results:=[.tmp 8],byref:=[],owned:=false,
  body:=(.seq (.region 1 [N 8 (.move (.const (.sl [] .nil)))] []) (.seq (.region 3 [M 13 0,N 14 (.call 26 [(.tmp 13),(I 10)]),M 9 14] []) (.seq (.block 0 (.seq (.region 3 [M 16 9,N 17 (.binOp .lss (.one .int) (.tmp 16) (I 3)),M 15 17] []) (.cond (.tmp 15) (.seq (.region 8 [M 18 0,M 19 1,M 20 2,N 21 (.binOp .sub (.one .int) (.tmp 20) (I 1)),M 22 3,N 23 (.call 170 [(.tmp 18),(.tmp 19),(.tmp 21),(.tmp 22)]),N 24 (.buildSlice 0 false (.sl [] .nil) 1 [(0,(.tmp 23))]),M 10 24] []) (.seq (.seq (.region 3 [M 25 0,N 26 (.call 26 [(.tmp 25),(I 3)]),M 11 26] []) (.block 1 (.loop j6c))) (.seq (.region 3 [M 40 10,N 41 (.call 130 [(I 14),(.tmp 40)]),M 8 41] []) .ret))) (.seq (.region 3 [M 43 9,N 44 (.binOp .lss (.one .int) (.tmp 43) (I 5)),M 42 44] []) (.cond (.tmp 42) (.seq (.region 14 [M 45 1,M 46 0,M 47 1,N 48 (.call 208 [(.tmp 46),(.tmp 47)]),N 49 (.call 132 [(.tmp 45),(.tmp 48)]),M 50 0,M 51 1,M 52 2,N 53 (.binOp .sub (.one .int) (.tmp 52) (I 1)),M 54 3,N 55 (.call 170 [(.tmp 50),(.tmp 51),(.tmp 53),(.tmp 54)]),N 56 (.buildSlice 3 false (.sl [] .nil) 2 [(0,(.tmp 49)),(1,(.tmp 55))]),N 57 (.call 130 [(I 15),(.tmp 56)]),M 8 57] []) .ret) (.seq (.region 3 [M 59 9,N 60 (.binOp .eql (.one .int) (.tmp 59) (I 5)),M 58 60] []) (.cond (.tmp 58) (.seq (.region 6 [M 61 0,M 62 1,M 63 2,M 64 3,N 65 (.call 173 [(.tmp 61),(.tmp 62),(.tmp 63),(.tmp 64)]),M 8 65] []) .ret) (.seq (.region 7 [M 67 9,N 68 (.binOp .eql (.one .int) (.tmp 67) (I 6)),M 69 68,V 70 (.move (.tmp 1)) 69,V 71 (.binOp .eql (.one .int) (.tmp 70) (I 2)) 69,N 72 (.pick (.tmp 69) (.tmp 71) (.const (.bool false))),M 66 72] []) (.cond (.tmp 66) (.seq (.region 10 [M 73 0,N 74 (.call 26 [(.tmp 73),(I 2)]),N 75 (.binOp .add (.one .int) (I 16) (.tmp 74)),M 76 0,N 77 (.call 26 [(.tmp 76),(I 5)]),N 78 (.binOp .add (.one .int) (I 1) (.tmp 77)),N 79 (.call 50 [.tmp 78]),N 80 (.build [(.int .i64 0),(.int .i64 0),(.str []),(.str []),(.int .i64 0)] [(0,1,(.tmp 75)),(3,1,(.tmp 79))]),N 12 (.alloc 4 (.agg [(.int .i64 0),(.int .i64 0),(.str []),(.str []),(.int .i64 0)])),S 5 12 80] []) (.seq (.region 10 [N 81 (.load (some 5) (.tmp 12)),M 82 0,M 83 1,M 84 2,N 85 (.binOp .sub (.one .int) (.tmp 84) (I 1)),M 86 3,N 87 (.call 170 [(.tmp 82),(.tmp 83),(.tmp 85),(.tmp 86)]),N 88 (.buildSlice 5 false (.sl [] .nil) 1 [(0,(.tmp 87))]),N 89 (.call 168 [(.tmp 81),(.tmp 88)]),M 8 89] [(0,6),(0,7)]) .ret)) (.seq (.region 7 [M 91 9,N 92 (.binOp .eql (.one .int) (.tmp 91) (I 7)),M 93 92,V 94 (.move (.tmp 1)) 93,V 95 (.binOp .eql (.one .int) (.tmp 94) (I 2)) 93,N 96 (.pick (.tmp 93) (.tmp 95) (.const (.bool false))),M 90 96] []) (.cond (.tmp 90) (.seq (.region 14 [M 97 0,M 98 2,N 99 (.binOp .sub (.one .int) (.tmp 98) (I 1)),M 100 3,N 101 (.call 170 [(.tmp 97),(I 4),(.tmp 99),(.tmp 100)]),M 102 0,M 103 1,M 104 2,N 105 (.binOp .sub (.one .int) (.tmp 104) (I 1)),M 106 3,N 107 (.call 170 [(.tmp 102),(.tmp 103),(.tmp 105),(.tmp 106)]),N 108 (.buildSlice 6 false (.sl [] .nil) 2 [(0,(.tmp 101)),(1,(.tmp 107))]),N 109 (.call 130 [(I 18),(.tmp 108)]),M 8 109] []) .ret) (.seq (.region 3 [M 111 9,N 112 (.binOp .eql (.one .int) (.tmp 111) (I 8)),M 110 112] []) (.cond (.tmp 110) (.seq (.region 6 [M 113 1,M 114 0,M 115 1,N 116 (.call 208 [(.tmp 114),(.tmp 115)]),N 117 (.call 132 [(.tmp 113),(.tmp 116)]),M 8 117] []) .ret) .skip))))))))))))) (.seq (.region 5 [M 118 0,M 119 1,M 120 3,N 121 (.call 131 [(.tmp 118),(.tmp 119),(.tmp 120)]),M 8 121] []) .ret))))}
theorem y0a:Gam.fn 196=some w1b:=by kernel_rfl
def v0q:AFun:=
 {ntmps:=11,nslots:=0,results:=[.tmp 4],byref:=[],owned:=false,
  body:=(.seq (.region 1 [N 4 (.move (.const (.str [])))] []) (.seq (.seq (.region 2 [M 5 1,N 6 (.binOp .eql (.one .int) (.tmp 5) (I 2))] []) (.cond (.tmp 6) (.seq (.region 3 [M 7 0,N 8 (.call 213 [.tmp 7]),M 4 8] []) .ret) .skip)) (.seq (.region 3 [M 9 0,N 10 (.call 214 [.tmp 9]),M 4 10] []) .ret)))}
theorem y0b:Gam.fn 208=some v0q:=by kernel_rfl
def w1c:AFun:=
 {ntmps:=25,nslots:=0,results:=[.tmp 2],byref:=[],owned:=false,
  body:=(.seq (.region 1 [N 2 (.move (.const (.str [])))] []) (.seq (.seq (.region 2 [M 3 0,N 4 (.call 26 [(.tmp 3),(I 8)])] []) (.block 0 (.seq (.region 2 [N 6 (.binOp .eql (.one .int) (.tmp 4) (I 6)),M 5 6] []) (.cond (.tmp 5) (.seq (.region 5 [M 7 0,N 8 (.call 26 [(.tmp 7),(I 2001)]),N 9 (.binOp .sub (.one .int) (.tmp 8) (I 1000)),N 10 (.call 50 [.tmp 9]),M 2 10] []) .ret) (.seq (.region 2 [N 12 (.binOp .eql (.one .int) (.tmp 4) (I 7)),M 11 12] []) (.cond (.tmp 11) (.seq (.region 9 [M 13 0,N 14 (.call 26 [(.tmp 13),(I 1099511627776)]),N 15 (.binOp .sub (.one .int) (.tmp 14) (I 549755813888)),N 16 (.call 50 [.tmp 15]),M 17 0,N 18 (.call 26 [(.tmp 17),(I 1099511627776)]),N 19 (.call 50 [.tmp 18]),N 20 (.call 221 [(.tmp 16),(.tmp 19)]),M 2 20] []) .ret) .skip)))))) (.seq (.region 5 [M 21 0,N 22 (.call 26 [(.tmp 21),(I 9)]),N 23 (.binOp .sub (.one .int) (.tmp 22) (I 4)),N 24 (.call 50 [.tmp 23]),M 2 24] []) .ret)))}
theorem y0c:Gam.fn 213=some w1c:=by kernel_rfl
def w1d:AFun:=
 {ntmps:=10,nslots:=0,results:=[.tmp 2],byref:=[],owned:=false,
  body:=(.seq (.region 1 [N 2 (.move (.const (.str [])))] []) (.seq (.region 8 [M 3 0,N 4 (.call 213 [.tmp 3]),M 5 0,N 6 (.call 26 [(.tmp 5),(I 4)]),N 7 (.binOp .add (.one .int) (I 1) (.tmp 6)),N 8 (.call 50 [.tmp 7]),N 9 (.call 192 [(.tmp 4),(.tmp 8)]),M 2 9] []) .ret))}
theorem y0d:Gam.fn 214=some w1d:=by kernel_rfl
end
section
variable {D L:List AObj} {B k g:Nat} {o:AObj}
theorem z5j (hB:D.length=B):(D++L).set (B + k) o=D++L.set k o:=by
 subst hB
 rw[List.set_append_right _ _ (by omega)]
 congr 2
 omega
theorem z5w (hB:D.length=B):(D++L)[B + k]? =L[k]? :=by
 subst hB
 rw[List.getElem?_append_right (by omega)]
 congr 1
 omega
theorem z7b (hB:D.length=B):z2a (D++L) (B + k) g=z2a L k g:=by
 unfold z2a
 rw[z5w hB]
theorem x2h (hB:D.length=B):z5f (D++L) (B + k) g=z5f L k g:=by
 unfold z5f
 rw[z5w hB]
theorem j6d {s:Nat} (hB:D.length=B) (h:s < B):(D++L).set s o=D.set s o++L:=List.set_append_left _ _ (hB ▸ h)
theorem z0r {s:Nat} (hB:D.length=B) (h:s < B):(D++L)[s]? =D[s]? :=List.getElem?_append_left (hB ▸ h)
theorem z3y {s:Nat} (hB:D.length=B) (h:s < B):z2a (D++L) s g=z2a D s g:=by
 unfold z2a
 rw[z0r hB h]
theorem v0r {s:Nat} {es:List AV} {r w:Bool} {z:Nat} (hB:D.length=B) (h:s < B):z2a (D.set s (.blk g es r w z)++L) s g=some (es,r,w,z):=by
 rw[z3y (B:=B) (by rw[List.length_set];exact hB) h]
 subst hB
 simp[z2a,h]
theorem k1q {os:List AObj} {es:List AV} {r w:Bool} {z:Nat}:z2a (.blk g es r w z::os) 0 g=some (es,r,w,z):=by simp[z2a]
theorem k1r {os:List AObj}:z2a (o::os) (k + 1) g=z2a os k g:=by simp[z2a]
theorem z6l {s:Nat} {es:List AV} {r w:Bool} {z:Nat} (h:D[s]? =some (.blk g es r w z)):z2a D s g=some (es,r,w,z):=by simp[z2a,h]
theorem x9p {os:List AObj} {es:List (AV×AV)}:z5f (.map g es::os) 0 g=some es:=by simp[z5f]
theorem x9q {os:List AObj}:z5f (o::os) (k + 1) g=z5f os k g:=by simp[z5f]
theorem q1w {h:List AObj} {s i o sz:Nat} {v:AV}:z8x h sz v (.ptr s g i o)=match z2a h s g with
 | some (es,row,grow,fz)=>
   match es[i]?,(if row then pub h v else some (v,h)) with
   | some e,some (v',h')=>
     if v'.def? =true∧v'.cells.length=sz∧v'.cells.all AV.one=true∧(row=true→fz≤i∧ !(v.obs.map (·.1)).contains s) then
      (q0n e.cells o v'.cells).map fun cs=>(.undef,h'.set s (.blk g (es.set i (z9e e cs)) row grow fz))
     else none
   | _,_=>none
 | none=>none:=rfl
end
theorem j2e {cs:List AV} {o:Nat}:z1q cs o none=cs[o]? :=(rfl)
theorem j2f {cs:List AV} {o n:Nat}:z1q cs o (some n)=if o + n≤cs.length then some (.agg ((cs.drop o).take n)) else none:=(rfl)
attribute [go_sem] q1w k8a q0n List.all_cons List.all_nil Bool.and_true Bool.true_and Bool.and_self List.isEmpty_cons Bool.not_true Bool.not_false Bool.or_self Bool.or_false Bool.false_or Bool.false_eq_true false_implies true_and and_true and_self List.singleton_append List.cons_append List.nil_append j2e j2f List.length_cons List.length_nil List.drop_zero List.drop_succ_cons List.take_succ_cons List.take_zero List.take_nil z5j z7b x2h k1q k1r x9p x9q List.replicate_succ List.replicate_zero List.set_cons_zero List.set_cons_succ List.getElem?_cons_zero List.getElem?_cons_succ cvL AV.cv
def q0q (l:List Int):List AV:=l.map fun n=> .int .i64 n
def z4v (g:Nat) (l:List Int) (i:Nat):AObj:= .blk g [.agg [.sl (q0q l) .no, .int .i64 i]] false false 0
def q9m (l:List Int):Prop:=l.length≤400∧∀ z∈l, -9223372036854775808≤z∧z≤9223372036854775807
theorem z8y {l:List Int}:idsL (q0q l)=[]:=by
 induction l with
 | nil=>rfl
 | cons a l ih=>simpa [q0q,idsL,AV.ids] using ih
theorem q8c {g i:Nat} {l:List Int}:(z4v g l i).ids=[]:=by simp[z4v,AObj.ids,idsL,AV.ids,z8y]
theorem z5d {l:List Int}:(q0q l).length=l.length:=List.length_map _
theorem k1s {l:List Int} {i:Nat} (h:i < l.length):(q0q l)[i]? =some (.int .i64 l[i]):=by simp[q0q,h]
theorem k1t {l:List Int} {i:Nat} {h:List AObj} {t:Tip} {k:IntKind} (hi:i < l.length):z1t h 1 (.sl (q0q l) t) (.int k (i:Int))=some (.iptr [.int .i64 l[i]] 0,h):=z5c (k1s hi) rfl
def GenOk (l:List Int) (f:Nat) (args:List AV) (R:AV→Prop):Prop:=
 ∀ h s g i clk (Q:AV→List AObj→Nat→Prop),h[s]? =some (z4v g l i)→i≤l.length→(∀ v i',i'≤l.length→R v→Q v (h.set s (z4v g l i')) clk)→
   WC Gam f (.ptr s g 0 0::args) h clk Q∧z0v Gam f (.ptr s g 0 0::args) h=[s]
theorem GenOk.of {l:List Int} {f:Nat} {args az:List AV} {af:AFun} {R:AV→Prop} (hext:Gam.ext f=none) (hfn:Gam.fn f=some af) (hb:af.byref=[]) (ho:af.owned=false) (hobs:z4x args=[]) (has:cvL args=az) (hids:idsL az=[])
  (hw:∀ (D:List AObj) (B s g i clk:Nat) (T:AV→List AObj→Prop),D.length=B→s < B→D[s]? =some (z4v g l i)→i≤l.length→(∀ v h' i',h'[s]? =some (z4v g l i')→i'≤l.length→R v→T v h')→
   K Gam B af.body [] ⟨z9h (.ptr s g 0 0::az),D++List.replicate af.nslots .dead,clk⟩ (j4p [s] af.results T)):GenOk l f args R:=by
 intro h s g i clk Q hs hi hQ
 have hobs':z4x (.ptr s g 0 0::args)=[]:=by simp[z4x,AV.obs,hobs]
 have has':cvL (.ptr s g 0 0::args)= .ptr s g 0 0::az:=by simp[cvL,AV.cv,has]
 have hids':idsL (.ptr s g 0 0::az)=[s]:=by simp[idsL,AV.ids,hids]
 refine⟨?_, ?_⟩
 ·refine v5p hext hfn hb ho hobs' has' hids' hs q8c fun D B T hB hD hlt hT=>hw D B s g i clk T hB hlt hD hi fun v h' i' h1 h2 h3=>hT v h' _ h1 q8c (hQ v i' h2 h3)
 ·unfold z0v
  have hp:z1f h af.byref 0 (.ptr s g 0 0::args)=some (.ptr s g 0 0::az):=by rw[hb,z1k hobs',has']
  simp only[hext,hfn,hp,hobs',hids',List.map_nil,List.nil_append,reach,List.contains_nil,Bool.false_eq_true,if_false,hs,Option.map_some,q8c,Option.getD_some]
  cases h.length <;> rfl
theorem j2g {f g f' g':List Nat×List Nat} (hf1:∀ x∈f'.1,x∈f.1) (hf2:∀ x∈f'.2,x∈f.2) (hg1:∀ x∈g'.1,x∈g.1) (hg2:∀ x∈g'.2,x∈g.2) (h:apart f g=true):apart f' g'=true:=by
 simp only[apart,z0q,Bool.and_eq_true,List.all_eq_true,Bool.not_eq_true',List.contains_eq_mem,decide_eq_false_iff_not] at h⊢
 exact⟨⟨fun x hx hy=>h.1.1 x (hf2 x hx) (hg1 x hy),fun x hx hy=>h.1.2 x (hf2 x hx) (hg2 x hy)⟩,fun x hx hy=>h.2 x (hg2 x hx) (hf1 x hy)⟩
def FeetLe (fs gs:List (List Nat×List Nat)):Prop:=fs.length=gs.length∧∀ i,(∀ x∈(fs.getD i ([],[])).1,x∈(gs.getD i ([],[])).1)∧(∀ x∈(fs.getD i ([],[])).2,x∈(gs.getD i ([],[])).2)
theorem x7k {N:Nat} {ops:List AOper} {fs gs:List (List Nat×List Nat)} {ps:List (Nat×Nat)} (hl:FeetLe fs gs) (h:z1r N ops gs ps=true):z1r N ops fs ps=true:=by
 unfold z1r at h⊢
 rw[List.all_eq_true] at h⊢
 intro p hp
 have:=h p hp
 simp only[Bool.and_eq_true,Bool.or_eq_true] at this⊢
 refine⟨j2g (hl.2 p.1).1 (hl.2 p.1).2 (hl.2 p.2).1 (hl.2 p.2).2 this.1,this.2.imp id fun h2=> ?_⟩
 rw[List.all_eq_true] at h2⊢
 intro x hx
 refine h2 x ?_
 simp only[z1v,List.mem_append] at hx⊢
 rcases hx with (hx | hx) | (hx | hx)
 ·exact .inl (.inl ((hl.2 p.1).1 x hx))
 ·exact .inl (.inr ((hl.2 p.1).2 x hx))
 ·exact .inr (.inl ((hl.2 p.2).1 x hx))
 ·exact .inr (.inr ((hl.2 p.2).2 x hx))
theorem FeetLe.mid {fs gs:List (List Nat×List Nat)} {f f':List Nat×List Nat} (h1:∀ x∈f.1,x∈f'.1) (h2:∀ x∈f.2,x∈f'.2):FeetLe (fs++[f]++gs) (fs++[f']++gs):=by
 refine⟨by simp,fun i=> ?_⟩
 simp only[List.getD_eq_getElem?_getD,List.append_assoc,List.cons_append,List.nil_append]
 rcases Nat.lt_trichotomy i fs.length with h | h | h
 ·rw[List.getElem?_append_left h,List.getElem?_append_left h]
  exact⟨fun x hx=>hx,fun x hx=>hx⟩
 ·subst h
  simp only[List.getElem?_append_right (Nat.le_refl _),Nat.sub_self,List.getElem?_cons_zero,Option.getD_some]
  exact⟨h1,h2⟩
 ·obtain⟨j,rfl⟩:∃ j,i=fs.length + (j + 1):=⟨i - fs.length - 1,by omega⟩
  rw[List.getElem?_append_right (by omega),List.getElem?_append_right (by omega),show fs.length + (j + 1) - fs.length=j + 1 by omega]
  exact⟨fun x hx=>hx,fun x hx=>hx⟩
theorem j6e {base g:Nat} {os:List AOper} {s:St} {ks:List Kf} {Q:Post} {m:Md} {f f':List Nat×List Nat} (h1:∀ x∈f.1,x∈f'.1) (h2:∀ x∈f.2,x∈f'.2) (h:O Gam base (m.add f') g os s ks Q):O Gam base (m.add f) g os s ks Q:=by
 obtain⟨k,s',fs,h3,h4,h5⟩:=h
 refine⟨k,s',fs,h3, ?_,h5⟩
 cases m with
 | plain=>exact h4
 | draw N ops ps gs=>
   simp only[Md.add,q3q,Md.ok] at h4⊢
   exact x7k (FeetLe.mid h1 h2) h4
theorem z0k {l:List Int} {f base B s g i clk gg:Nat} {args:List AV} {R:AV→Prop} {D L:List AObj} {m:Md} {dst:Option Nat} {os:List AOper} {ts:Tmps} {ks:List Kf} {Q:Post} (hg:GenOk l f args R) (hB:D.length=B) (hs:s < B) (hD:D[s]? =some (z4v g l i)) (hi:i≤l.length)
  (hQ:∀ v D' i',R v→D'.length=B→D'[s]? =some (z4v g l i')→i'≤l.length→O Gam base (m.add ([s],[s])) (gg + 1) os ⟨z8n ts dst v,D'++L,clk⟩ ks Q):CK Gam base f (.ptr s g 0 0::args) (D++L) clk m dst gg os ts ks Q:=by
 unfold CK
 have hD':(D++L)[s]? =some (z4v g l i):=by rw[z0r hB hs];exact hD
 obtain⟨_,hf⟩:=hg (D++L) s g i clk (fun _ _ _=>True) hD' hi (fun _ _ _ _=>trivial)
 refine (hg (D++L) s g i clk _ hD' hi fun v i' hi' hv=> ?_).1
 refine j6e (f':=([s],[s])) ?_ ?_ ?_
 ·rw[hf];exact fun x hx=>hx
 ·rw[hf];exact fun x hx=>(List.mem_filter.1 hx).1
 ·rw[j6d hB hs]
  exact hQ v _ i' hv (by rw[List.length_set];exact hB) (by subst hB;simp[hs]) hi'
theorem x9r {z:Int}:IntKind.u64.wrap z=z % 18446744073709551616:=by simp[IntKind.wrap,IntKind.signed,IntKind.bits]
theorem w1e {z n:Int} (hn:0 < n) (hn2:n < 2 ^ 62):∃ r:Int,0≤r∧r < n∧Pure Gam 49 [.int .i64 z, .int .i64 n] (.int .i64 r):=by
 have hw:0≤IntKind.u64.wrap z:=by rw[x9r];omega
 have hwn:IntKind.u64.wrap n=n:=by rw[x9r];omega
 have h1:0≤(IntKind.u64.wrap z).tmod n:=Int.tmod_nonneg _ hw
 have h2:(IntKind.u64.wrap z).tmod n < n:=Int.tmod_lt_of_pos _ hn
 refine⟨(IntKind.u64.wrap z).tmod n,h1,h2,Pure.of rfl y8a rfl rfl rfl rfl rfl fun D B clk T hB hT=> ?_⟩
 simp only[go_sem,z0,y4t,hwn]
 rw[q7x (by omega)]
 simp only[go_sem,z0,]
 rw[z0h rfl rfl,z0c (by omega) (by omega)]
 exact hT _
theorem z3a {l:List Int} {n:Int} (hl:q9m l) (hn:0 < n) (hn2:n < 2 ^ 62):GenOk l 26 [.int .i64 n] fun v=>∃ r:Int,v= .int .i64 r∧0≤r∧r < n:=by
 refine GenOk.of rfl y7w rfl rfl rfl rfl rfl fun D B s g i clk T hB hs hD hi hT=> ?_
 have hb:=z6l (g:=g) hD
 simp only[go_sem,z0,z1,z2,z3,reduceCtorEq,↓reduceIte,y4q,z3y hB hs,hb,z5d]
 refine z7w (fun hc=> ?_) (fun hc=> ?_)
 ·simp only[go_sem,z0,z1,z2,z3,reduceCtorEq,↓reduceIte,z3y hB hs,hb,z5d]
  rw[z0h rfl rfl]
  exact hT _ _ i (by rw[z0r hB hs];exact hD) hi ⟨0,rfl,by omega,by omega⟩
 ·have hlt:i < l.length:=by simpa using hc
  have hl400:=hl.1
  have e0:IntKind.i64.wrap ((i:Int) + 1)=(i:Int) + 1:=z0c (by omega) (by omega)
  have e1:IntKind.i64.wrap ((i:Int) + 1 - 1)=(i:Int):=by rw[z0c (by omega) (by omega)];omega
  simp only[go_sem,z0,z1,z2,z3,reduceCtorEq,↓reduceIte,z3y hB hs,hb,z5d,e0,e1,j6d hB hs,v0r hB hs,k1t hlt]
  obtain⟨r,h1,h2,hp⟩:=w1e (z:=l[i]) hn hn2
  rw[z0a hp]
  simp only[go_sem,z0,z1,z2,z3,reduceCtorEq,↓reduceIte,Md.add]
  rw[z0h rfl rfl]
  exact hT _ _ (i + 1) (by rw[z0r (by rw[List.length_set];exact hB) hs];subst hB;simp[hs,z4v]) (by omega) ⟨r,rfl,h1,h2⟩
theorem v0s {l:List Int}:GenOk l 42 [] fun v=>∃ b:Bool,v= .bool b:=by
 refine GenOk.of rfl y7y rfl rfl rfl rfl rfl fun D B s g i clk T hB hs hD hi hT=> ?_
 have hb:=z6l (g:=g) hD
 simp only[go_sem,z0,z1,↓reduceIte,y4r,z3y hB hs,hb,z5d]
 rw[z0h rfl rfl]
 exact hT _ _ i (by rw[z0r hB hs];exact hD) hi ⟨_,rfl⟩
end Go.Proofs.YtmkblnlafljljaaGreatDoor.Am
