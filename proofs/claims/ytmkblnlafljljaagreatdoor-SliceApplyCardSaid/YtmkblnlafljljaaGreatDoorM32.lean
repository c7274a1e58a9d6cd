/- Functions of the abstract machine's program Walking: slices Walking: nodes are permitted, and have their sorts -/
import Derived.Test.YtmkblnlafljljaaGreatDoorM31
open Nat renaming reduceBEq → z0,reduceAdd → z1,reduceLeDiff → z2,reduceSub → z3
set_option linter.all false
namespace Go.Proofs.YtmkblnlafljljaaGreatDoor.Am
open Go
set_option maxRecDepth 100000
section
open Sh
def k2w:ACode:=(.seq (.region 1 [N 46 (.binOp .lss (.one .int) (.tmp 45) (.tmp 44))] []) (.seq (.cond (.tmp 46) .skip (.exit 2)) (.seq (.block 3 (.seq (.region 3 [N 47 (.indexAddr none 1 (.tmp 43) (.tmp 45)),L 48 47,M 12 48] []) (.region 12 [A 49 8 1,L 50 49,A 51 2 1,L 52 51,M 53 12,N 54 (.indexAddr none 5 (.tmp 52) (.tmp 53)),N 55 (.load (some 5) (.tmp 54)),N 56 (.call 31 [.tmp 55]),N 57 (.buildSlice 7 false (.agg [(.sl [] .nil),(.sl [] .nil),(.sl [] .nil),(.str []),(.sl [] .nil)]) 1 [(0,(.tmp 56))]),N 58 (.append 8 5 112 false (.tmp 50) (.tmp 57)),A 59 8 1,S 1 59 58] [(1,7),(1,8)]))) (.region 2 [N 60 (.binOp .add (.one .int) (.tmp 45) (I 1)),M 45 60] []))))
def j7x:ACode:=(.seq (.region 1 [N 28 (.binOp .lss (.one .int) (.tmp 27) (.tmp 26))] []) (.seq (.cond (.tmp 28) .skip (.exit 0)) (.seq (.block 1 (.seq (.region 4 [N 29 (.indexAddr none 3 (.tmp 25) (.tmp 27)),N 30 (.load (some 3) (.tmp 29)),N 10 (.alloc 4 (.agg [(.str []),(.sl [] .nil),(.int .i64 0)])),S 3 10 30] []) (.seq (.region 5 [N 31 (.load (some 8) (.tmp 3)),A 32 10 0,L 33 32,N 34 (.call 30 [(.tmp 31),(.tmp 33)]),N 35 (.unOp .not (.tmp 34))] []) (.cond (.tmp 35) (.region 7 [A 36 8 0,L 37 36,N 38 (.load (some 3) (.tmp 10)),N 39 (.buildSlice 5 false (.agg [(.str []),(.sl [] .nil),(.int .i64 0)]) 1 [(0,(.tmp 38))]),N 40 (.append 6 3 48 false (.tmp 37) (.tmp 39)),A 41 8 0,S 1 41 40] []) .skip)))) (.region 2 [N 42 (.binOp .add (.one .int) (.tmp 27) (I 1)),M 27 42] []))))
def y2b:AFun:=
 {ntmps:=62,nslots:=9,results:=[.cell 4 (some 2), .tmp 5],byref:=[],owned:=false,
  body:=(.seq (.region 4 [N 2 (.box 0 (.tmp 0)),N 3 (.box 1 (.tmp 1)),N 4 (.alloc 2 (.agg [(.sl [] .nil),(.sl [] .nil)])),N 5 (.move (I 0))] []) (.seq (.region 8 [N 14 (.load (some 2) (.tmp 2)),N 15 (.load (some 8) (.tmp 3)),N 16 (.call 28 [(.tmp 14),(.tmp 15)]),M 13 16,E 17 13 0,E 18 13 1,M 6 17,M 7 18] []) (.seq (.seq (.region 2 [M 19 7,N 20 (.binOp .neq (.one .int) (.tmp 19) (I 0))] []) (.cond (.tmp 20) (.seq (.region 4 [N 21 (.build [(.sl [] .nil),(.sl [] .nil)] []),M 22 7,S 2 4 21,M 5 22] []) .ret) .skip)) (.seq (.region 1 [N 8 (.alloc 3 (.agg [(.sl [] .nil),(.sl [] .nil)]))] []) (.seq (.seq (.region 5 [A 23 2 0,L 24 23,N 25 (.call 29 [.tmp 24]),N 26 (.len .sl (.tmp 25)),N 27 (.move (I 0))] []) (.block 0 (.loop j7x))) (.seq (.seq (.region 3 [M 43 6,N 44 (.len .sl (.tmp 43)),N 45 (.move (I 0))] []) (.block 2 (.loop k2w))) (.seq (.region 3 [N 61 (.load (some 2) (.tmp 8)),S 2 4 61,N 5 (.move (I 0))] []) .ret)))))))}
theorem y4z:Gam.fn 12=some y2b:=by kernel_rfl
def q9v:ACode:=(.seq (.region 1 [N 41 (.binOp .lss (.one .int) (.tmp 40) (.tmp 39))] []) (.seq (.cond (.tmp 41) .skip (.exit 0)) (.seq (.block 1 (.seq (.region 6 [M 42 40,N 43 (.indexAddr none 5 (.tmp 38) (.tmp 40)),N 44 (.load (some 5) (.tmp 43)),N 13 (.alloc 4 (.agg [(.sl [] .nil),(.sl [] .nil),(.sl [] .nil),(.str []),(.sl [] .nil)])),M 12 42,S 5 13 44] []) (.seq (.region 5 [A 45 13 1,L 46 45,M 47 9,N 48 (.call 57 [(.tmp 46),(.tmp 47)]),M 14 48] []) (.block 2 (.seq (.region 9 [M 54 9,A 55 13 3,N 56 (.load (some 2) (.tmp 55)),N 57 (.callv (.tmp 54) [.tmp 56]),M 58 57,V 59 (.move (.tmp 14)) 58,V 60 (.unOp .not (.tmp 59)) 58,N 61 (.pick (.tmp 58) (.tmp 60) (.const (.bool false))),M 53 61] []) (.cond (.tmp 53) (.seq (.region 2 [N 4 (.move (.const (.sl [] .nil))),N 5 (.move (I 8))] []) .ret) (.seq (.region 9 [M 63 7,A 64 13 3,A 65 64 0,L 66 65,N 67 (.lookup (.one .str) (.bool false) (.tmp 63) (.tmp 66) false),M 68 67,U 69 (.move (.tmp 14)) 68,N 70 (.pick (.tmp 68) (.const (.bool true)) (.tmp 69)),M 62 70] []) (.cond (.tmp 62) .skip (.seq (.region 5 [A 72 13 1,L 73 72,M 74 10,N 75 (.call 57 [(.tmp 73),(.tmp 74)]),M 71 75] []) (.cond (.tmp 71) (.seq (.region 2 [N 4 (.move (.const (.sl [] .nil))),N 5 (.move (I 8))] []) .ret) (.region 5 [M 49 11,M 50 12,N 51 (.buildSlice 5 false (.int .i64 0) 1 [(0,(.tmp 50))]),N 52 (.append 6 1 8 false (.tmp 49) (.tmp 51)),M 11 52] []))))))))))) (.region 2 [N 76 (.binOp .add (.one .int) (.tmp 40) (I 1)),M 40 76] []))))
def w4c:AFun:=
 {ntmps:=78,nslots:=7,results:=[.tmp 4, .tmp 5],byref:=[],owned:=false,
  body:=(.seq (.region 4 [N 2 (.box 0 (.tmp 0)),N 3 (.box 1 (.tmp 1)),N 4 (.move (.const (.sl [] .nil))),N 5 (.move (I 0))] []) (.seq (.region 3 [N 15 (.load (some 8) (.tmp 3)),N 6 (.alloc 2 (.agg [(.int .i64 0),(.str []),(.str []),(.int .i64 0),(.int .i64 0),(.sl [] .nil),(.sl [] .nil),(.sl [] .nil)])),S 8 6 15] []) (.seq (.region 4 [A 16 6 5,⟨none, .store 1 (.tmp 16) (.const (.sl [] .nil)),none⟩,A 17 6 6,⟨none, .store 1 (.tmp 17) (.const (.sl [] .nil)),none⟩] []) (.seq (.seq (.region 5 [N 18 (.load (some 2) (.tmp 2)),N 19 (.load (some 8) (.tmp 3)),N 20 (.load (some 8) (.tmp 6)),N 21 (.call 52 [(.tmp 18),(.tmp 19),(I 2),(.tmp 20)]),N 22 (.unOp .not (.tmp 21))] []) (.cond (.tmp 22) (.seq (.region 2 [N 4 (.move (.const (.sl [] .nil))),N 5 (.move (I 1))] []) .ret) .skip)) (.seq (.region 12 [N 24 (.load (some 2) (.tmp 2)),A 25 3 5,L 26 25,A 27 3 6,L 28 27,N 29 (.buildSlice 3 false (.sl [] .nil) 2 [(0,(.tmp 26)),(1,(.tmp 28))]),N 30 (.call 53 [(.tmp 24),(.tmp 29)]),M 23 30,E 31 23 0,E 32 23 1,M 7 31,M 8 32] []) (.seq (.seq (.region 2 [M 33 8,N 34 (.unOp .not (.tmp 33))] []) (.cond (.tmp 34) (.seq (.region 2 [N 4 (.move (.const (.sl [] .nil))),N 5 (.move (I 8))] []) .ret) .skip)) (.seq (.region 2 [N 35 (.makeFunc 54 [.tmp 3]),M 9 35] []) (.seq (.region 2 [N 36 (.makeFunc 56 [.tmp 3]),M 10 36] []) (.seq (.region 1 [N 11 (.move (.const (.sl [] .nil)))] []) (.seq (.seq (.region 4 [A 37 2 1,L 38 37,N 39 (.len .sl (.tmp 38)),N 40 (.move (I 0))] []) (.block 0 (.loop q9v))) (.seq (.region 3 [M 77 11,M 4 77,N 5 (.move (I 0))] []) .ret)))))))))))}
theorem y5a:Gam.fn 28=some w4c:=by kernel_rfl
def y2c:AFun:=
 {ntmps:=15,nslots:=1,results:=[.tmp 4],byref:=[],owned:=false,
  body:=(.seq (.region 2 [N 2 (.box 0 (.tmp 0)),N 4 (.move (.const (.bool false)))] []) (.seq (.region 11 [A 5 2 5,L 6 5,M 7 1,N 8 (.call 55 [(.tmp 6),(.tmp 7)]),M 9 8,U 10 (.fieldAddr (.tmp 2) 6) 9,U 11 (.load none (.tmp 10)) 9,U 12 (.move (.tmp 1)) 9,U 13 (.call 55 [(.tmp 11),(.tmp 12)]) 9,N 14 (.pick (.tmp 9) (.const (.bool true)) (.tmp 13)),M 4 14] []) .ret))}
theorem y8n:Gam.fn 30=some y2c:=by kernel_rfl
def y5b:AFun:=
 {ntmps:=9,nslots:=0,results:=[.tmp 4],byref:=[],owned:=false,
  body:=(.seq (.region 1 [N 4 (.move (.const (.bool false)))] []) (.seq (.region 5 [M 5 0,M 6 1,N 7 (.call 103 [(.tmp 5),(.tmp 6)]),N 8 (.binOp .geq (.one .int) (.tmp 7) (I 0)),M 4 8] []) .ret))}
theorem y8o:Gam.fn 57=some y5b:=by kernel_rfl
def x5p:ACode:=(.seq (.region 1 [N 9 (.binOp .lss (.one .int) (.tmp 8) (.tmp 7))] []) (.seq (.cond (.tmp 9) .skip (.exit 0)) (.seq (.block 1 (.seq (.region 2 [M 10 8,M 5 10] []) (.seq (.region 6 [M 11 1,M 12 0,M 13 5,N 14 (.indexAddr none 2 (.tmp 12) (.tmp 13)),N 15 (.load (some 2) (.tmp 14)),N 16 (.callv (.tmp 11) [.tmp 15])] []) (.cond (.tmp 16) (.seq (.region 2 [M 17 5,M 4 17] []) .ret) .skip)))) (.region 2 [N 18 (.binOp .add (.one .int) (.tmp 8) (I 1)),M 8 18] []))))
def w4d:AFun:=
 {ntmps:=19,nslots:=0,results:=[.tmp 4],byref:=[],owned:=false,
  body:=(.seq (.region 1 [N 4 (.move (I 0))] []) (.seq (.seq (.region 3 [M 6 0,N 7 (.len .sl (.tmp 6)),N 8 (.move (I 0))] []) (.block 0 (.loop x5p))) (.seq (.region 1 [N 4 (.move (I (-1)))] []) .ret)))}
theorem y2d:Gam.fn 103=some w4d:=by kernel_rfl
def j2r:ACode:=(.seq (.region 1 [N 14 (.binOp .lss (.one .int) (.tmp 13) (.tmp 12))] []) (.seq (.cond (.tmp 14) .skip (.exit 0)) (.seq (.block 1 (.seq (.region 3 [N 15 (.indexAddr none 1 (.tmp 11) (.tmp 13)),L 16 15,M 8 16] []) (.seq (.seq (.region 11 [M 17 6,M 18 8,N 19 (.lookup (.one .str) (.bool false) (.tmp 17) (.tmp 18) false),M 20 19,U 21 (.fieldAddr (.tmp 2) 0) 20,U 22 (.load none (.tmp 21)) 20,U 23 (.call 101 [.tmp 22]) 20,U 24 (.move (.tmp 8)) 20,U 25 (.call 55 [(.tmp 23),(.tmp 24)]) 20,U 26 (.unOp .not (.tmp 25)) 20,N 27 (.pick (.tmp 20) (.const (.bool true)) (.tmp 26))] []) (.cond (.tmp 27) (.seq (.region 2 [N 4 (.move (.const .nilmap)),N 5 (.move (.const (.bool false)))] []) .ret) .skip)) (.region 3 [M 28 6,M 29 8,⟨none, .mapUpdate (.one .str) (.tmp 28) (.tmp 29) (.const (.bool true)),none⟩] [])))) (.region 2 [N 30 (.binOp .add (.one .int) (.tmp 13) (I 1)),M 13 30] []))))
def y2e:AFun:=
 {ntmps:=32,nslots:=2,results:=[.tmp 4, .tmp 5],byref:=[],owned:=false,
  body:=(.seq (.region 3 [N 2 (.box 0 (.tmp 0)),N 4 (.move (.const .nilmap)),N 5 (.move (.const (.bool false)))] []) (.seq (.region 2 [N 9 (.makeMap 1),M 6 9] []) (.seq (.seq (.region 4 [M 10 1,N 11 (.call 100 [.tmp 10]),N 12 (.len .sl (.tmp 11)),N 13 (.move (I 0))] []) (.block 0 (.loop j2r))) (.seq (.region 3 [M 31 6,M 4 31,N 5 (.move (.const (.bool true)))] []) .ret))))}
theorem y5c:Gam.fn 53=some y2e:=by kernel_rfl
def v2x:ACode:=(.seq (.region 1 [N 9 (.binOp .lss (.one .int) (.tmp 8) (.tmp 7))] []) (.seq (.cond (.tmp 9) .skip (.exit 0)) (.seq (.block 1 (.seq (.region 4 [N 10 (.indexAddr none 3 (.tmp 6) (.tmp 8)),N 11 (.load (some 3) (.tmp 10)),N 5 (.alloc 0 (.agg [(.str []),(.sl [] .nil),(.int .i64 0)])),S 3 5 11] []) (.region 6 [M 12 3,A 13 5 0,L 14 13,N 15 (.buildSlice 1 false (.str []) 1 [(0,(.tmp 14))]),N 16 (.append 2 1 16 false (.tmp 12) (.tmp 15)),M 3 16] []))) (.region 2 [N 17 (.binOp .add (.one .int) (.tmp 8) (I 1)),M 8 17] []))))
def y5d:AFun:=
 {ntmps:=19,nslots:=3,results:=[.tmp 2],byref:=[],owned:=false,
  body:=(.seq (.region 1 [N 2 (.move (.const (.sl [] .nil)))] []) (.seq (.region 1 [N 3 (.move (.const (.sl [] .nil)))] []) (.seq (.seq (.region 3 [M 6 0,N 7 (.len .sl (.tmp 6)),N 8 (.move (I 0))] []) (.block 0 (.loop v2x))) (.seq (.region 2 [M 18 3,M 2 18] []) .ret))))}
theorem y8p:Gam.fn 101=some y5d:=by kernel_rfl
def j0f:ACode:=(.seq (.region 1 [N 28 (.binOp .lss (.one .int) (.tmp 27) (.tmp 26))] []) (.seq (.cond (.tmp 28) .skip (.exit 2)) (.seq (.block 3 (.seq (.region 3 [N 29 (.indexAddr none 1 (.tmp 25) (.tmp 27)),L 30 29,M 8 30] []) (.region 4 [M 31 6,M 32 8,N 33 (.append 0 1 16 false (.tmp 31) (.tmp 32)),M 6 33] []))) (.region 2 [N 34 (.binOp .add (.one .int) (.tmp 27) (I 1)),M 27 34] []))))
def j0g:ACode:=(.seq (.region 1 [N 12 (.binOp .lss (.one .int) (.tmp 11) (.tmp 10))] []) (.seq (.cond (.tmp 12) .skip (.exit 0)) (.seq (.block 1 (.seq (.region 3 [N 13 (.indexAddr none 1 (.tmp 9) (.tmp 11)),L 14 13,M 5 14] []) (.seq (.region 5 [M 15 3,M 16 5,N 17 (.len .sl (.tmp 16)),N 18 (.binOp .add (.one .int) (.tmp 15) (.tmp 17)),M 3 18] []) (.seq (.region 2 [M 19 3,N 20 (.binOp .lss (.one .int) (.tmp 19) (I 0))] []) (.cond (.tmp 20) (.region 2 [N 21 (.bad),⟨none, .bad,none⟩] []) .skip))))) (.region 2 [N 22 (.binOp .add (.one .int) (.tmp 11) (I 1)),M 11 22] []))))
def w4e:AFun:=
 {ntmps:=36,nslots:=1,results:=[.tmp 2],byref:=[],owned:=false,
  body:=(.seq (.region 1 [N 2 (.move (.const (.sl [] .nil)))] []) (.seq (.region 1 [N 3 (.move (I 0))] []) (.seq (.seq (.region 3 [M 9 0,N 10 (.len .sl (.tmp 9)),N 11 (.move (I 0))] []) (.block 0 (.loop j0g))) (.seq (.region 3 [M 23 3,N 24 (.call 148 [(.const (.sl [] .nil)),(.tmp 23)]),M 6 24] []) (.seq (.seq (.region 3 [M 25 0,N 26 (.len .sl (.tmp 25)),N 27 (.move (I 0))] []) (.block 2 (.loop j0f))) (.seq (.region 2 [M 35 6,M 2 35] []) .ret))))))}
theorem y2f:Gam.fn 100=some w4e:=by kernel_rfl
def q9w:AFun:=
 {ntmps:=27,nslots:=1,results:=[.tmp 4],byref:=[0],owned:=true,
  body:=(.seq (.region 1 [N 4 (.move (.const (.sl [] .nil)))] []) (.seq (.seq (.region 2 [M 5 1,N 6 (.binOp .lss (.one .int) (.tmp 5) (I 0))] []) (.cond (.tmp 6) (.region 2 [N 7 (.bad),⟨none, .bad,none⟩] []) .skip)) (.seq (.seq (.region 8 [M 8 1,M 9 0,N 10 (.len .cap (.tmp 9)),M 11 0,N 12 (.len .sl (.tmp 11)),N 13 (.binOp .sub (.one .int) (.tmp 10) (.tmp 12)),N 14 (.binOp .sub (.one .int) (.tmp 8) (.tmp 13)),M 1 14] []) (.seq (.region 2 [M 15 1,N 16 (.binOp .gtr (.one .int) (.tmp 15) (I 0))] []) (.cond (.tmp 16) (.region 10 [M 17 0,M 18 0,N 19 (.len .cap (.tmp 18)),N 20 (.slice (some 1) (.tmp 17) none (some (.tmp 19)) none),M 21 1,N 22 (.makeRow 0 (.str []) 16 (.tmp 20) (.tmp 21)),M 23 0,N 24 (.len .sl (.tmp 23)),N 25 (.slice (some 1) (.tmp 22) none (some (.tmp 24)) none),M 0 25] []) .skip))) (.seq (.region 2 [M 26 0,M 4 26] []) .ret))))}
theorem w4f:Gam.fn 148=some q9w:=by kernel_rfl
def y5e:AFun:=
 {ntmps:=9,nslots:=0,results:=[.tmp 4],byref:=[],owned:=false,
  body:=(.seq (.region 1 [N 4 (.move (.const (.bool false)))] []) (.seq (.region 5 [M 5 0,M 6 1,N 7 (.call 102 [(.tmp 5),(.tmp 6)]),N 8 (.binOp .geq (.one .int) (.tmp 7) (I 0)),M 4 8] []) .ret))}
theorem y8q:Gam.fn 55=some y5e:=by kernel_rfl
def j7y:ACode:=(.seq (.region 1 [N 9 (.binOp .lss (.one .int) (.tmp 8) (.tmp 7))] []) (.seq (.cond (.tmp 9) .skip (.exit 0)) (.seq (.block 1 (.seq (.region 2 [M 10 8,M 5 10] []) (.seq (.region 6 [M 11 1,M 12 0,M 13 5,N 14 (.indexAddr none 1 (.tmp 12) (.tmp 13)),L 15 14,N 16 (.binOp .eql (.one .str) (.tmp 11) (.tmp 15))] []) (.cond (.tmp 16) (.seq (.region 2 [M 17 5,M 4 17] []) .ret) .skip)))) (.region 2 [N 18 (.binOp .add (.one .int) (.tmp 8) (I 1)),M 8 18] []))))
def y5f:AFun:=
 {ntmps:=19,nslots:=0,results:=[.tmp 4],byref:=[],owned:=false,
  body:=(.seq (.region 1 [N 4 (.move (I 0))] []) (.seq (.seq (.region 3 [M 6 0,N 7 (.len .sl (.tmp 6)),N 8 (.move (I 0))] []) (.block 0 (.loop j7y))) (.seq (.region 1 [N 4 (.move (I (-1)))] []) .ret)))}
theorem y8r:Gam.fn 102=some y5f:=by kernel_rfl
def y5g:AFun:=
 {ntmps:=9,nslots:=1,results:=[.tmp 3],byref:=[],owned:=false,
  body:=(.seq (.region 2 [N 2 (.box 0 (.tmp 0)),N 3 (.move (.const (.bool false)))] []) (.seq (.region 6 [A 4 1 6,L 5 4,A 6 2 0,L 7 6,N 8 (.call 55 [(.tmp 5),(.tmp 7)]),M 3 8] []) .ret))}
theorem y8s:Gam.fn 54=some y5g:=by kernel_rfl
def y5h:AFun:=
 {ntmps:=9,nslots:=1,results:=[.tmp 3],byref:=[],owned:=false,
  body:=(.seq (.region 2 [N 2 (.box 0 (.tmp 0)),N 3 (.move (.const (.bool false)))] []) (.seq (.region 6 [A 4 1 5,L 5 4,A 6 2 0,L 7 6,N 8 (.call 55 [(.tmp 5),(.tmp 7)]),M 3 8] []) .ret))}
theorem y8t:Gam.fn 56=some y5h:=by kernel_rfl
def k6i:AFun:=
 {ntmps:=55,nslots:=3,results:=[.tmp 8],byref:=[],owned:=false,
  body:=(.seq (.region 4 [N 4 (.box 0 (.tmp 0)),N 5 (.box 1 (.tmp 1)),N 7 (.box 2 (.tmp 3)),N 8 (.move (.const (.bool false)))] []) (.seq (.region 47 [A 9 5 0,L 10 9,M 11 2,N 12 (.binOp .eql (.one .int) (.tmp 10) (.tmp 11)),M 13 12,V 14 (.load (some 2) (.tmp 4)) 13,V 15 (.call 18 [.tmp 14]) 13,N 16 (.pick (.tmp 13) (.tmp 15) (.const (.bool false))),M 17 16,V 18 (.fieldAddr (.tmp 7) 1) 17,V 19 (.load none (.tmp 18)) 17,V 20 (.binOp .eql (.one .str) (.tmp 19) (.const (.str []))) 17,N 21 (.pick (.tmp 17) (.tmp 20) (.const (.bool false))),M 22 21,V 23 (.fieldAddr (.tmp 7) 2) 22,V 24 (.load none (.tmp 23)) 22,V 25 (.binOp .eql (.one .str) (.tmp 24) (.const (.str []))) 22,N 26 (.pick (.tmp 22) (.tmp 25) (.const (.bool false))),M 27 26,V 28 (.fieldAddr (.tmp 7) 3) 27,V 29 (.load none (.tmp 28)) 27,V 30 (.binOp .eql (.one .int) (.tmp 29) (I 0)) 27,N 31 (.pick (.tmp 27) (.tmp 30) (.const (.bool false))),M 32 31,V 33 (.fieldAddr (.tmp 7) 4) 32,V 34 (.load none (.tmp 33)) 32,V 35 (.binOp .eql (.one .int) (.tmp 34) (I 0)) 32,N 36 (.pick (.tmp 32) (.tmp 35) (.const (.bool false))),M 37 36,V 38 (.fieldAddr (.tmp 7) 5) 37,V 39 (.load none (.tmp 38)) 37,V 40 (.len .sl (.tmp 39)) 37,V 41 (.binOp .eql (.one .int) (.tmp 40) (I 0)) 37,N 42 (.pick (.tmp 37) (.tmp 41) (.const (.bool false))),M 43 42,V 44 (.fieldAddr (.tmp 7) 6) 43,V 45 (.load none (.tmp 44)) 43,V 46 (.len .sl (.tmp 45)) 43,V 47 (.binOp .eql (.one .int) (.tmp 46) (I 0)) 43,N 48 (.pick (.tmp 43) (.tmp 47) (.const (.bool false))),M 49 48,V 50 (.fieldAddr (.tmp 7) 7) 49,V 51 (.load none (.tmp 50)) 49,V 52 (.len .sl (.tmp 51)) 49,V 53 (.binOp .eql (.one .int) (.tmp 52) (I 0)) 49,N 54 (.pick (.tmp 49) (.tmp 53) (.const (.bool false))),M 8 54] []) .ret))}
theorem w6j:Gam.fn 52=some k6i:=by kernel_rfl
def v2y:ACode:=(.seq (.region 1 [N 9 (.binOp .lss (.one .int) (.tmp 8) (.tmp 7))] []) (.seq (.cond (.tmp 9) .skip (.exit 0)) (.seq (.block 1 (.seq (.region 4 [N 10 (.indexAddr none 3 (.tmp 6) (.tmp 8)),N 11 (.load (some 3) (.tmp 10)),N 5 (.alloc 0 (.agg [(.str []),(.sl [] .nil),(.int .i64 0)])),S 3 5 11] []) (.seq (.region 5 [A 12 5 1,L 13 12,N 14 (.call 58 [.tmp 13]),A 15 5 1,S 1 15 14] []) (.region 5 [M 16 3,N 17 (.load (some 3) (.tmp 5)),N 18 (.buildSlice 1 false (.agg [(.str []),(.sl [] .nil),(.int .i64 0)]) 1 [(0,(.tmp 17))]),N 19 (.append 2 3 48 false (.tmp 16) (.tmp 18)),M 3 19] [])))) (.region 2 [N 20 (.binOp .add (.one .int) (.tmp 8) (I 1)),M 8 20] []))))
def y5i:AFun:=
 {ntmps:=22,nslots:=3,results:=[.tmp 2],byref:=[],owned:=false,
  body:=(.seq (.region 1 [N 2 (.move (.const (.sl [] .nil)))] []) (.seq (.region 1 [N 3 (.move (.const (.sl [] .nil)))] []) (.seq (.seq (.region 3 [M 6 0,N 7 (.len .sl (.tmp 6)),N 8 (.move (I 0))] []) (.block 0 (.loop v2y))) (.seq (.region 2 [M 21 3,M 2 21] []) .ret))))}
theorem y8u:Gam.fn 29=some y5i:=by kernel_rfl
def v2z:ACode:=(.seq (.region 1 [N 20 (.binOp .lss (.one .int) (.tmp 19) (.tmp 18))] []) (.seq (.cond (.tmp 20) .skip (.exit 0)) (.seq (.block 1 (.seq (.region 4 [N 21 (.indexAddr none 2 (.tmp 17) (.tmp 19)),N 22 (.load (some 2) (.tmp 21)),N 5 (.alloc 3 (.agg [(.str []),(.sl [] .nil)])),S 2 5 22] []) (.region 8 [A 23 3 1,L 24 23,N 25 (.load (some 2) (.tmp 5)),N 26 (.call 61 [.tmp 25]),N 27 (.buildSlice 4 false (.agg [(.str []),(.sl [] .nil)]) 1 [(0,(.tmp 26))]),N 28 (.append 5 2 40 false (.tmp 24) (.tmp 27)),A 29 3 1,S 1 29 28] [(1,3),(1,4)]))) (.region 2 [N 30 (.binOp .add (.one .int) (.tmp 19) (I 1)),M 19 30] []))))
def y5j:AFun:=
 {ntmps:=32,nslots:=6,results:=[.cell 2 (some 5)],byref:=[],owned:=false,
  body:=(.seq (.region 2 [N 1 (.box 0 (.tmp 0)),N 2 (.alloc 1 (.agg [(.sl [] .nil),(.sl [] .nil),(.sl [] .nil),(.str []),(.sl [] .nil)]))] []) (.seq (.region 12 [A 6 1 0,L 7 6,N 8 (.call 59 [.tmp 7]),A 9 1 2,L 10 9,N 11 (.call 60 [.tmp 10]),A 12 1 3,N 13 (.load (some 2) (.tmp 12)),N 14 (.call 61 [.tmp 13]),N 15 (.build [(.sl [] .nil),(.sl [] .nil),(.sl [] .nil),(.str []),(.sl [] .nil)] [(0,1,(.tmp 8)),(2,1,(.tmp 11)),(3,2,(.tmp 14))]),N 3 (.alloc 2 (.agg [(.sl [] .nil),(.sl [] .nil),(.sl [] .nil),(.str []),(.sl [] .nil)])),S 5 3 15] [(2,4),(2,7),(5,7),(1,10),(2,10),(4,10),(5,10),(7,10),(8,10)]) (.seq (.seq (.region 4 [A 16 1 1,L 17 16,N 18 (.len .sl (.tmp 17)),N 19 (.move (I 0))] []) (.block 0 (.loop v2z))) (.seq (.region 2 [N 31 (.load (some 5) (.tmp 3)),S 5 2 31] []) .ret))))}
theorem y8v:Gam.fn 31=some y5j:=by kernel_rfl
def y5k:AFun:=
 {ntmps:=9,nslots:=2,results:=[.cell 2 (some 2)],byref:=[],owned:=false,
  body:=(.seq (.region 2 [N 1 (.box 0 (.tmp 0)),N 2 (.alloc 1 (.agg [(.str []),(.sl [] .nil)]))] []) (.seq (.region 7 [A 3 1 0,L 4 3,A 5 1 1,L 6 5,N 7 (.call 104 [.tmp 6]),N 8 (.build [(.str []),(.sl [] .nil)] [(0,1,(.tmp 4)),(1,1,(.tmp 7))]),S 2 2 8] [(1,4)]) .ret))}
theorem y8w:Gam.fn 61=some y5k:=by kernel_rfl
def j7z:ACode:=(.seq (.region 1 [N 9 (.binOp .lss (.one .int) (.tmp 8) (.tmp 7))] []) (.seq (.cond (.tmp 9) .skip (.exit 0)) (.seq (.block 1 (.seq (.region 3 [N 10 (.indexAddr none 1 (.tmp 6) (.tmp 8)),L 11 10,M 5 11] []) (.region 6 [M 12 3,M 13 5,N 14 (.call 60 [.tmp 13]),N 15 (.buildSlice 0 false (.sl [] .nil) 1 [(0,(.tmp 14))]),N 16 (.append 1 1 24 false (.tmp 12) (.tmp 15)),M 3 16] []))) (.region 2 [N 17 (.binOp .add (.one .int) (.tmp 8) (I 1)),M 8 17] []))))
def w4g:AFun:=
 {ntmps:=19,nslots:=2,results:=[.tmp 2],byref:=[],owned:=false,
  body:=(.seq (.region 1 [N 2 (.move (.const (.sl [] .nil)))] []) (.seq (.region 1 [N 3 (.move (.const (.sl [] .nil)))] []) (.seq (.seq (.region 3 [M 6 0,N 7 (.len .sl (.tmp 6)),N 8 (.move (I 0))] []) (.block 0 (.loop j7z))) (.seq (.region 2 [M 18 3,M 2 18] []) .ret))))}
theorem y2g:Gam.fn 104=some w4g:=by kernel_rfl
def y5l:AFun:=
 {ntmps:=7,nslots:=1,results:=[.tmp 2],byref:=[],owned:=false,
  body:=(.seq (.region 2 [N 1 (.box 0 (.tmp 0)),N 2 (.move (.const (.bool false)))] []) (.seq (.region 5 [N 3 (.load (some 2) (.tmp 1)),N 4 (.call 44 [.tmp 3]),N 5 (.len .sl (.tmp 4)),N 6 (.binOp .eql (.one .int) (.tmp 5) (I 0)),M 2 6] []) .ret))}
theorem y8x:Gam.fn 18=some y5l:=by kernel_rfl
def v3a:ACode:=(.seq (.region 1 [N 45 (.binOp .lss (.one .int) (.tmp 44) (.tmp 43))] []) (.seq (.cond (.tmp 45) .skip (.exit 0)) (.seq (.block 1 (.seq (.region 2 [M 46 44,M 5 46] []) (.region 3 [M 47 3,M 48 5,N 49 (.call 95 [(.tmp 47),(.tmp 48)])] []))) (.region 2 [N 50 (.binOp .add (.one .int) (.tmp 44) (I 1)),M 44 50] []))))
def y5m:AFun:=
 {ntmps:=55,nslots:=2,results:=[.tmp 2],byref:=[],owned:=false,
  body:=(.seq (.region 2 [N 1 (.box 0 (.tmp 0)),N 2 (.move (.const (.sl [] .nil)))] []) (.seq (.region 7 [N 6 (.load (some 2) (.tmp 1)),A 7 1 0,L 8 7,N 9 (.call 90 [.tmp 8]),N 10 (.build [(.sl [] .nil),(.sl [] .nil), .nilmap,(.sl [] .nil)] [(0,2,(.tmp 6)),(2,1,(.tmp 9))]),N 11 (.box 1 (.tmp 10)),M 3 11] [(0,3)]) (.seq (.region 15 [M 12 3,N 13 (.nilCheck (.tmp 12)),A 14 13 2,L 15 14,N 16 (.len .mp (.tmp 15)),A 17 1 0,L 18 17,N 19 (.len .sl (.tmp 18)),N 20 (.binOp .lss (.one .int) (.tmp 16) (.tmp 19)),M 21 20,U 22 (.fieldAddr (.tmp 1) 0) 21,U 23 (.load none (.tmp 22)) 21,U 24 (.call 91 [(.tmp 23),(.const (.fn 92 []))]) 21,N 25 (.pick (.tmp 21) (.const (.bool true)) (.tmp 24)),M 4 25] []) (.seq (.region 3 [M 26 3,M 27 4,N 28 (.call 94 [(.tmp 26),(.tmp 27),(I (-1)),(I 1)])] []) (.seq (.region 12 [M 29 3,A 30 1 0,L 31 30,N 32 (.len .sl (.tmp 31)),N 33 (.binOp .gtr (.one .int) (.tmp 32) (I 512)),M 34 33,U 35 (.fieldAddr (.tmp 1) 1) 34,U 36 (.load none (.tmp 35)) 34,U 37 (.len .sl (.tmp 36)) 34,U 38 (.binOp .gtr (.one .int) (.tmp 37) (I 2048)) 34,N 39 (.pick (.tmp 34) (.const (.bool true)) (.tmp 38)),N 40 (.call 94 [(.tmp 29),(.tmp 39),(I (-1)),(I 6)])] []) (.seq (.seq (.region 4 [A 41 1 1,L 42 41,N 43 (.len .sl (.tmp 42)),N 44 (.move (I 0))] []) (.block 0 (.loop v3a))) (.seq (.region 5 [M 51 3,N 52 (.nilCheck (.tmp 51)),A 53 52 3,L 54 53,M 2 54] []) .ret)))))))}
theorem y8y:Gam.fn 44=some y5m:=by kernel_rfl
def j8a:ACode:=(.seq (.region 1 [N 12 (.binOp .lss (.one .int) (.tmp 11) (.tmp 10))] []) (.seq (.cond (.tmp 12) .skip (.exit 0)) (.seq (.block 1 (.seq (.region 6 [M 13 11,N 14 (.indexAddr none 3 (.tmp 9) (.tmp 11)),N 15 (.load (some 3) (.tmp 14)),N 5 (.alloc 1 (.agg [(.str []),(.sl [] .nil),(.int .i64 0)])),M 4 13,S 3 5 15] []) (.seq (.region 9 [M 17 3,A 18 5 0,L 19 18,N 20 (.lookup (.one .str) (.int .i64 0) (.tmp 17) (.tmp 19) true),M 16 20,E 21 16 0,E 22 16 1,M 6 21,M 7 22] []) (.seq (.region 2 [M 23 7,N 24 (.unOp .not (.tmp 23))] []) (.cond (.tmp 24) (.region 5 [M 25 3,A 26 5 0,L 27 26,M 28 4,⟨none, .mapUpdate (.one .str) (.tmp 25) (.tmp 27) (.tmp 28),none⟩] []) .skip))))) (.region 2 [N 29 (.binOp .add (.one .int) (.tmp 11) (I 1)),M 11 29] []))))
def w4h:AFun:=
 {ntmps:=31,nslots:=2,results:=[.tmp 2],byref:=[],owned:=false,
  body:=(.seq (.region 1 [N 2 (.move (.const .nilmap))] []) (.seq (.region 2 [N 8 (.makeMap 0),M 3 8] []) (.seq (.seq (.region 3 [M 9 0,N 10 (.len .sl (.tmp 9)),N 11 (.move (I 0))] []) (.block 0 (.loop j8a))) (.seq (.region 2 [M 30 3,M 2 30] []) .ret))))}
theorem w4i:Gam.fn 90=some w4h:=by kernel_rfl
def w4j:AFun:=
 {ntmps:=9,nslots:=0,results:=[.tmp 4],byref:=[],owned:=false,
  body:=(.seq (.region 1 [N 4 (.move (.const (.bool false)))] []) (.seq (.region 5 [M 5 0,M 6 1,N 7 (.call 134 [(.tmp 5),(.tmp 6)]),N 8 (.binOp .geq (.one .int) (.tmp 7) (I 0)),M 4 8] []) .ret))}
theorem y2h:Gam.fn 91=some w4j:=by kernel_rfl
def x5q:ACode:=(.seq (.region 1 [N 9 (.binOp .lss (.one .int) (.tmp 8) (.tmp 7))] []) (.seq (.cond (.tmp 9) .skip (.exit 0)) (.seq (.block 1 (.seq (.region 2 [M 10 8,M 5 10] []) (.seq (.region 6 [M 11 1,M 12 0,M 13 5,N 14 (.indexAddr none 3 (.tmp 12) (.tmp 13)),N 15 (.load (some 3) (.tmp 14)),N 16 (.callv (.tmp 11) [.tmp 15])] []) (.cond (.tmp 16) (.seq (.region 2 [M 17 5,M 4 17] []) .ret) .skip)))) (.region 2 [N 18 (.binOp .add (.one .int) (.tmp 8) (I 1)),M 8 18] []))))
def w4k:AFun:=
 {ntmps:=19,nslots:=0,results:=[.tmp 4],byref:=[],owned:=false,
  body:=(.seq (.region 1 [N 4 (.move (I 0))] []) (.seq (.seq (.region 3 [M 6 0,N 7 (.len .sl (.tmp 6)),N 8 (.move (I 0))] []) (.block 0 (.loop x5q))) (.seq (.region 1 [N 4 (.move (I (-1)))] []) .ret)))}
theorem y2i:Gam.fn 134=some w4k:=by kernel_rfl
def w4l:AFun:=
 {ntmps:=21,nslots:=2,results:=[],byref:=[],owned:=false,
  body:=(.seq (.region 1 [M 8 1] []) (.cond (.tmp 8) (.region 13 [M 9 0,M 10 0,N 11 (.nilCheck (.tmp 10)),A 12 11 3,L 13 12,M 14 2,M 15 3,N 16 (.build [(.int .i64 0),(.int .i64 0)] [(0,1,(.tmp 14)),(1,1,(.tmp 15))]),N 17 (.buildSlice 0 false (.agg [(.int .i64 0),(.int .i64 0)]) 1 [(0,(.tmp 16))]),N 18 (.append 1 2 16 false (.tmp 13) (.tmp 17)),N 19 (.nilCheck (.tmp 9)),A 20 19 3,S 1 20 18] []) .skip))}
theorem y2j:Gam.fn 94=some w4l:=by kernel_rfl
def w4m:AFun:=
 {ntmps:=74,nslots:=3,results:=[],byref:=[],owned:=false,
  body:=(.seq (.region 1 [N 2 (.box 0 (.tmp 0))] []) (.seq (.region 10 [L 6 2,N 7 (.nilCheck (.tmp 6)),A 8 7 0,A 9 8 1,L 10 9,M 11 1,N 12 (.indexAddr none 5 (.tmp 10) (.tmp 11)),N 13 (.load (some 5) (.tmp 12)),N 4 (.alloc 1 (.agg [(.sl [] .nil),(.sl [] .nil),(.sl [] .nil),(.str []),(.sl [] .nil)])),S 5 4 13] []) (.seq (.region 5 [A 14 4 0,L 15 14,N 16 (.call 139 [.tmp 15]),N 5 (.alloc 2 .nilmap),S 1 5 16] []) (.seq (.region 8 [L 17 2,L 18 2,A 19 4 0,L 20 19,N 21 (.call 140 [(.tmp 18),(.tmp 20)]),N 22 (.unOp .not (.tmp 21)),M 23 1,N 24 (.call 94 [(.tmp 17),(.tmp 22),(.tmp 23),(I 2)])] [(0,4)]) (.seq (.region 7 [L 25 2,A 26 4 1,L 27 26,N 28 (.makeFunc 141 [(.tmp 2),(.tmp 5)]),N 29 (.call 57 [(.tmp 27),(.tmp 28)]),M 30 1,N 31 (.call 94 [(.tmp 25),(.tmp 29),(.tmp 30),(I 3)])] [(0,4)]) (.seq (.region 8 [L 32 2,L 33 5,A 34 4 2,L 35 34,N 36 (.call 143 [(.tmp 33),(.tmp 35),(I 1)]),N 37 (.unOp .not (.tmp 36)),M 38 1,N 39 (.call 94 [(.tmp 32),(.tmp 37),(.tmp 38),(I 4)])] [(0,4)]) (.seq (.seq (.region 4 [A 40 4 3,A 41 40 0,L 42 41,N 43 (.binOp .eql (.one .str) (.tmp 42) (.const (.str [])))] []) (.cond (.tmp 43) (.region 8 [L 44 2,A 45 4 3,A 46 45 1,L 47 46,N 48 (.len .sl (.tmp 47)),N 49 (.binOp .gtr (.one .int) (.tmp 48) (I 0)),M 50 1,N 51 (.call 94 [(.tmp 44),(.tmp 49),(.tmp 50),(I 5)])] []) (.region 9 [L 52 2,L 53 2,A 54 4 3,N 55 (.load (some 2) (.tmp 54)),L 56 5,N 57 (.call 142 [(.tmp 53),(.tmp 55),(.tmp 56)]),N 58 (.unOp .not (.tmp 57)),M 59 1,N 60 (.call 94 [(.tmp 52),(.tmp 58),(.tmp 59),(I 5)])] [(0,5)]))) (.region 13 [L 61 2,A 62 4 0,L 63 62,N 64 (.len .sl (.tmp 63)),N 65 (.binOp .gtr (.one .int) (.tmp 64) (I 400)),M 66 65,U 67 (.fieldAddr (.tmp 4) 1) 66,U 68 (.load none (.tmp 67)) 66,U 69 (.len .sl (.tmp 68)) 66,U 70 (.binOp .gtr (.one .int) (.tmp 69) (I 8)) 66,N 71 (.pick (.tmp 66) (.const (.bool true)) (.tmp 70)),M 72 1,N 73 (.call 94 [(.tmp 61),(.tmp 71),(.tmp 72),(I 6)])] []))))))))}
theorem y2k:Gam.fn 95=some w4m:=by kernel_rfl
def j8b:ACode:=(.seq (.region 1 [N 10 (.binOp .lss (.one .int) (.tmp 9) (.tmp 8))] []) (.seq (.cond (.tmp 10) .skip (.exit 0)) (.seq (.block 1 (.seq (.region 4 [N 11 (.indexAddr none 2 (.tmp 7) (.tmp 9)),N 12 (.load (some 2) (.tmp 11)),N 5 (.alloc 1 (.agg [(.str []),(.int .i64 0)])),S 2 5 12] []) (.region 3 [M 13 3,N 14 (.load (some 2) (.tmp 5)),⟨none, .mapUpdate (.agg [.str, .int]) (.tmp 13) (.tmp 14) (.const (.bool true)),none⟩] []))) (.region 2 [N 15 (.binOp .add (.one .int) (.tmp 9) (I 1)),M 9 15] []))))
def w4n:AFun:=
 {ntmps:=17,nslots:=2,results:=[.tmp 2],byref:=[],owned:=false,
  body:=(.seq (.region 1 [N 2 (.move (.const .nilmap))] []) (.seq (.region 2 [N 6 (.makeMap 0),M 3 6] []) (.seq (.seq (.region 3 [M 7 0,N 8 (.len .sl (.tmp 7)),N 9 (.move (I 0))] []) (.block 0 (.loop j8b))) (.seq (.region 2 [M 16 3,M 2 16] []) .ret))))}
theorem y2l:Gam.fn 139=some w4n:=by kernel_rfl
def j8c:ACode:=(.seq (.region 1 [N 14 (.binOp .lss (.one .int) (.tmp 13) (.tmp 12))] []) (.seq (.cond (.tmp 14) .skip (.exit 0)) (.seq (.block 1 (.seq (.region 4 [N 15 (.indexAddr none 2 (.tmp 11) (.tmp 13)),N 16 (.load (some 2) (.tmp 15)),N 7 (.alloc 1 (.agg [(.str []),(.int .i64 0)])),S 2 7 16] []) (.seq (.seq (.region 12 [M 18 0,N 19 (.nilCheck (.tmp 18)),A 20 19 2,L 21 20,A 22 7 0,L 23 22,N 24 (.lookup (.one .str) (.int .i64 0) (.tmp 21) (.tmp 23) true),M 17 24,E 25 17 0,E 26 17 1,M 8 25,M 9 26] []) (.seq (.region 19 [M 27 9,M 28 27,U 29 (.move (.tmp 5)) 28,U 30 (.fieldAddr (.tmp 7) 0) 28,U 31 (.load none (.tmp 30)) 28,U 32 (.lookup (.one .str) (.bool false) (.tmp 29) (.tmp 31) false) 28,N 33 (.pick (.tmp 28) (.const (.bool true)) (.tmp 32)),M 34 33,U 35 (.fieldAddr (.tmp 7) 0) 34,U 36 (.load none (.tmp 35)) 34,U 37 (.call 135 [.tmp 36]) 34,U 38 (.unOp .not (.tmp 37)) 34,N 39 (.pick (.tmp 34) (.const (.bool true)) (.tmp 38)),M 40 39,U 41 (.fieldAddr (.tmp 7) 1) 40,U 42 (.load none (.tmp 41)) 40,U 43 (.call 138 [.tmp 42]) 40,U 44 (.unOp .not (.tmp 43)) 40,N 45 (.pick (.tmp 40) (.const (.bool true)) (.tmp 44))] []) (.cond (.tmp 45) (.seq (.region 1 [N 4 (.move (.const (.bool false)))] []) .ret) .skip))) (.region 4 [M 46 5,A 47 7 0,L 48 47,⟨none, .mapUpdate (.one .str) (.tmp 46) (.tmp 48) (.const (.bool true)),none⟩] [])))) (.region 2 [N 49 (.binOp .add (.one .int) (.tmp 13) (I 1)),M 13 49] []))))
def w4o:AFun:=
 {ntmps:=50,nslots:=2,results:=[.tmp 4],byref:=[],owned:=false,
  body:=(.seq (.region 1 [N 4 (.move (.const (.bool false)))] []) (.seq (.region 2 [N 10 (.makeMap 0),M 5 10] []) (.seq (.seq (.region 3 [M 11 1,N 12 (.len .sl (.tmp 11)),N 13 (.move (I 0))] []) (.block 0 (.loop j8c))) (.seq (.region 1 [N 4 (.move (.const (.bool true)))] []) .ret))))}
theorem y2m:Gam.fn 140=some w4o:=by kernel_rfl
def w4p:AFun:=
 {ntmps:=10,nslots:=1,results:=[.tmp 4],byref:=[],owned:=false,
  body:=(.seq (.region 2 [N 3 (.box 0 (.tmp 0)),N 4 (.move (.const (.bool false)))] []) (.seq (.region 6 [L 5 1,N 6 (.load (some 2) (.tmp 3)),L 7 2,N 8 (.call 142 [(.tmp 5),(.tmp 6),(.tmp 7)]),N 9 (.unOp .not (.tmp 8)),M 4 9] []) .ret))}
theorem y2n:Gam.fn 141=some w4p:=by kernel_rfl
def j8d:ACode:=(.seq (.region 1 [N 43 (.binOp .lss (.one .int) (.tmp 42) (.tmp 41))] []) (.seq (.cond (.tmp 43) .skip (.exit 0)) (.seq (.block 1 (.seq (.region 5 [M 44 42,N 45 (.indexAddr none 1 (.tmp 40) (.tmp 42)),L 46 45,M 9 44,M 10 46] []) (.seq (.region 32 [M 47 0,N 48 (.nilCheck (.tmp 47)),A 49 48 0,A 50 49 0,L 51 50,M 52 7,N 53 (.indexAddr none 3 (.tmp 51) (.tmp 52)),A 54 53 1,L 55 54,M 56 9,N 57 (.indexAddr none 1 (.tmp 55) (.tmp 56)),L 58 57,N 59 (.call 138 [.tmp 58]),N 60 (.unOp .not (.tmp 59)),M 61 60,U 62 (.move (.tmp 2)) 61,U 63 (.move (.tmp 10)) 61,U 64 (.move (.tmp 0)) 61,U 65 (.nilCheck (.tmp 64)) 61,U 66 (.fieldAddr (.tmp 65) 0) 61,U 67 (.fieldAddr (.tmp 66) 0) 61,U 68 (.load none (.tmp 67)) 61,U 69 (.move (.tmp 7)) 61,U 70 (.indexAddr none 3 (.tmp 68) (.tmp 69)) 61,U 71 (.fieldAddr (.tmp 70) 1) 61,U 72 (.load none (.tmp 71)) 61,U 73 (.move (.tmp 9)) 61,U 74 (.indexAddr none 1 (.tmp 72) (.tmp 73)) 61,U 75 (.load none (.tmp 74)) 61,U 76 (.call 143 [(.tmp 62),(.tmp 63),(.tmp 75)]) 61,U 77 (.unOp .not (.tmp 76)) 61,N 78 (.pick (.tmp 61) (.const (.bool true)) (.tmp 77))] []) (.cond (.tmp 78) (.seq (.region 1 [N 6 (.move (.const (.bool false)))] []) .ret) .skip)))) (.region 2 [N 79 (.binOp .add (.one .int) (.tmp 42) (I 1)),M 42 79] []))))
def w4q:AFun:=
 {ntmps:=80,nslots:=1,results:=[.tmp 6],byref:=[],owned:=false,
  body:=(.seq (.region 2 [N 4 (.box 0 (.tmp 1)),N 6 (.move (.const (.bool false)))] []) (.seq (.region 12 [M 12 0,N 13 (.nilCheck (.tmp 12)),A 14 13 2,L 15 14,A 16 4 0,L 17 16,N 18 (.lookup (.one .str) (.int .i64 0) (.tmp 15) (.tmp 17) true),M 11 18,E 19 11 0,E 20 11 1,M 7 19,M 8 20] []) (.seq (.seq (.region 18 [M 21 8,N 22 (.unOp .not (.tmp 21)),M 23 22,U 24 (.fieldAddr (.tmp 4) 1) 23,U 25 (.load none (.tmp 24)) 23,U 26 (.len .sl (.tmp 25)) 23,U 27 (.move (.tmp 0)) 23,U 28 (.nilCheck (.tmp 27)) 23,U 29 (.fieldAddr (.tmp 28) 0) 23,U 30 (.fieldAddr (.tmp 29) 0) 23,U 31 (.load none (.tmp 30)) 23,U 32 (.move (.tmp 7)) 23,U 33 (.indexAddr none 3 (.tmp 31) (.tmp 32)) 23,U 34 (.fieldAddr (.tmp 33) 1) 23,U 35 (.load none (.tmp 34)) 23,U 36 (.len .sl (.tmp 35)) 23,U 37 (.binOp .neq (.one .int) (.tmp 26) (.tmp 36)) 23,N 38 (.pick (.tmp 23) (.const (.bool true)) (.tmp 37))] []) (.cond (.tmp 38) (.seq (.region 1 [N 6 (.move (.const (.bool false)))] []) .ret) .skip)) (.seq (.seq (.region 4 [A 39 4 1,L 40 39,N 41 (.len .sl (.tmp 40)),N 42 (.move (I 0))] []) (.block 0 (.loop j8d))) (.seq (.region 1 [N 6 (.move (.const (.bool true)))] []) .ret)))))}
theorem y2o:Gam.fn 142=some w4q:=by kernel_rfl
def w4r:AFun:=
 {ntmps:=22,nslots:=1,results:=[.tmp 6],byref:=[],owned:=false,
  body:=(.seq (.region 2 [N 3 (.box 0 (.tmp 0)),N 6 (.move (.const (.bool false)))] []) (.seq (.seq (.region 10 [M 7 1,N 8 (.call 177 [.tmp 7]),M 9 2,N 10 (.binOp .neq (.one .int) (.tmp 8) (.tmp 9)),M 11 10,U 12 (.move (.tmp 1)) 11,U 13 (.call 178 [.tmp 12]) 11,U 14 (.len .sl (.tmp 13)) 11,U 15 (.binOp .gtr (.one .int) (.tmp 14) (I 0)) 11,N 16 (.pick (.tmp 11) (.const (.bool true)) (.tmp 15))] []) (.cond (.tmp 16) (.seq (.region 1 [N 6 (.move (.const (.bool false)))] []) .ret) .skip)) (.seq (.region 6 [M 17 1,N 18 (.call 180 [.tmp 17]),N 19 (.makeFunc 181 [.tmp 3]),N 20 (.call 179 [(.tmp 18),(.tmp 19)]),N 21 (.unOp .not (.tmp 20)),M 6 21] []) .ret)))}
theorem y2p:Gam.fn 143=some w4r:=by kernel_rfl
def w4s:AFun:=
 {ntmps:=9,nslots:=0,results:=[.tmp 4],byref:=[],owned:=false,
  body:=(.seq (.region 1 [N 4 (.move (.const (.bool false)))] []) (.seq (.region 5 [M 5 0,M 6 1,N 7 (.call 199 [(.tmp 5),(.tmp 6)]),N 8 (.binOp .geq (.one .int) (.tmp 7) (I 0)),M 4 8] []) .ret))}
theorem y2q:Gam.fn 179=some w4s:=by kernel_rfl
def x5r:ACode:=(.seq (.region 1 [N 9 (.binOp .lss (.one .int) (.tmp 8) (.tmp 7))] []) (.seq (.cond (.tmp 9) .skip (.exit 0)) (.seq (.block 1 (.seq (.region 2 [M 10 8,M 5 10] []) (.seq (.region 6 [M 11 1,M 12 0,M 13 5,N 14 (.indexAddr none 2 (.tmp 12) (.tmp 13)),N 15 (.load (some 2) (.tmp 14)),N 16 (.callv (.tmp 11) [.tmp 15])] []) (.cond (.tmp 16) (.seq (.region 2 [M 17 5,M 4 17] []) .ret) .skip)))) (.region 2 [N 18 (.binOp .add (.one .int) (.tmp 8) (I 1)),M 8 18] []))))
def w4t:AFun:=
 {ntmps:=19,nslots:=0,results:=[.tmp 4],byref:=[],owned:=false,
  body:=(.seq (.region 1 [N 4 (.move (I 0))] []) (.seq (.seq (.region 3 [M 6 0,N 7 (.len .sl (.tmp 6)),N 8 (.move (I 0))] []) (.block 0 (.loop x5r))) (.seq (.region 1 [N 4 (.move (I (-1)))] []) .ret)))}
theorem y2r:Gam.fn 199=some w4t:=by kernel_rfl
def v3b:AFun:=
 {ntmps:=8,nslots:=1,results:=[.tmp 3],byref:=[],owned:=false,
  body:=(.seq (.region 2 [N 2 (.box 0 (.tmp 0)),N 3 (.move (.const (.bool false)))] []) (.seq (.region 5 [L 4 1,N 5 (.load (some 2) (.tmp 2)),N 6 (.lookup (.agg [.str, .int]) (.bool false) (.tmp 4) (.tmp 5) false),N 7 (.unOp .not (.tmp 6)),M 3 7] []) .ret))}
theorem y2s:Gam.fn 181=some v3b:=by kernel_rfl
def w4u:AFun:=
 {ntmps:=9,nslots:=0,results:=[.tmp 2],byref:=[],owned:=false,
  body:=(.seq (.region 1 [N 2 (.move (.const (.bool false)))] []) (.seq (.region 7 [M 3 0,N 4 (.binOp .geq (.one .int) (.tmp 3) (I 1)),M 5 4,V 6 (.move (.tmp 0)) 5,V 7 (.binOp .leq (.one .int) (.tmp 6) (I 4)) 5,N 8 (.pick (.tmp 5) (.tmp 7) (.const (.bool false))),M 2 8] []) .ret))}
theorem y2t:Gam.fn 138=some w4u:=by kernel_rfl
end
theorem k2x {α:Type} {enc:α→AV} {xs:List α} {S:List (Nat×AObj)} {c:Nat} {cap:List AV} {P:α→Bool} {t:Tip} (hE:∀ x,(enc x).cells.length=1) (hld:∀ x h,q0z h none (.iptr (enc x).cells 0)=some (enc x,h)) (hid:∀ x,(enc x).ids=[]) (hl:xs.length≤2 ^ 20) (hC:Cov S (idsL cap)) (hP:∀ x∈xs,Reads S c (enc x::cap) (.bool (P x))):
  ∃ r:Int,decide (0≤r)=xs.any P∧Reads S 176 [.sl (xs.map enc) t, .fn c cap] (.int .i64 r):=by
 have hC':Cov S (idsL [.sl (xs.map enc) .no, .fn c cap]):=by
  have:idsL [.sl (xs.map enc) .no, .fn c cap]=idsL cap:=by simp[idsL,AV.ids,z0d hid]
  rw[this];exact hC
 have key:∀ n,n≤xs.length→∃ r:Int,decide (0≤r)=(xs.drop (xs.length - n)).any P∧∀ (D L:List AObj) (B clk:Nat) (ks:List Kf) (ts:Tmps) (Q:Post),Has S D→ts 0= .sl (xs.map enc) .no→ts 1= .fn c cap→ts 7= .int .i64 (xs.length:Int)→ts 8= .int .i64 ((xs.length - n:Nat):Int)→
   (∀ ts' clk',ts' 4= .int .i64 r→K Gam B .ret ks ⟨ts',D++L,clk'⟩ Q)→(r= -1→∀ ts' clk',K Gam B (.exit 0) ks ⟨ts',D++L,clk'⟩ Q)→K Gam B (.loop x5h) ks ⟨ts,D++L,clk⟩ Q:=by
  intro n
  induction n with
  | zero=>
    intro _
    refine⟨-1,by simp,fun D L B clk ks ts Q hS h0 h1 h7 h8 _ hx=> ?_⟩
    have e1:decide (((xs.length - 0:Nat):Int) < (xs.length:Int))=false:=by rw[decide_eq_false_iff_not];omega
    refine z2v ?_
    simp only[go_sem,z0,h0,h1,h7,h8,x5h,e1]
    exact hx rfl _ _
  | succ n ih=>
    intro hn
    have hk:xs.length - (n + 1) < xs.length:=by omega
    have hdr:xs.drop (xs.length - (n + 1))=xs[xs.length - (n + 1)]::xs.drop (xs.length - n):=by
     rw[List.drop_eq_getElem_cons hk]
     congr 2
     omega
    have e1:decide (((xs.length - (n + 1):Nat):Int) < (xs.length:Int))=true:=by rw[decide_eq_true_iff];omega
    have hpx:=hP _ (List.getElem_mem hk)
    generalize hxx:xs[xs.length - (n + 1)]=x at hdr hpx
    have hidx:∀ h,z1t h 1 (.sl (xs.map enc) .no) (.int .i64 ((xs.length - (n + 1):Nat):Int))=some (.iptr (enc x).cells 0,h):=fun h=>by
     rw[←hxx]
     exact z5c (by simp[hk]) (hE _)
    have hcx:∀ h,q0z h none (.iptr (enc x).cells 0)=some (enc x,h):=hld x
    cases hpb:P x with
    | true=>
      refine⟨((xs.length - (n + 1):Nat):Int), ?_,fun D L B clk ks ts Q hS h0 h1 h7 h8 hr _=> ?_⟩
      ·rw[hdr,List.any_cons,hpb,Bool.true_or,decide_eq_true_iff];omega
      ·refine z2v ?_
       rw[hpb] at hpx
       simp only[go_sem,z0,z1,z2,z3,reduceCtorEq,↓reduceIte,h0,h1,h7,h8,x5h,e1,hidx,hcx,z0w hpx hS.app]
       exact hr _ _ (by simp[z0b])
    | false=>
      obtain⟨r,h1',h2'⟩:=ih (by omega)
      refine⟨r,by rw[h1',hdr,List.any_cons,hpb,Bool.false_or],fun D L B clk ks ts Q hS h0 h1 h7 h8 hr hx=> ?_⟩
      have e2:IntKind.i64.wrap (((xs.length - (n + 1):Nat):Int) + 1)=((xs.length - n:Nat):Int):=by rw[z0c (by omega) (by omega)];omega
      refine z2v ?_
      rw[hpb] at hpx
      simp only[go_sem,z0,z1,z2,z3,reduceCtorEq,↓reduceIte,h0,h1,h7,h8,x5h,e1,hidx,hcx,z0w hpx hS.app,e2]
      exact h2' D L B _ ks _ Q hS (by simp[z0b,h0]) (by simp[z0b,h1]) (by simp[z0b,h7]) (by simp[z0b]) hr hx
 obtain⟨r,h1,h2⟩:=key xs.length (Nat.le_refl _)
 rw[Nat.sub_self,List.drop_zero] at h1
 refine⟨r,h1,Reads.of rfl y1z rfl rfl rfl rfl (by simpa [cvL,AV.cv] using hC') fun D B clk T hB hS hlt hT=> ?_⟩
 simp only[go_sem,z0,w3w,List.length_map]
 refine h2 D _ B _ _ _ _ hS (by simp[z0b,z2m]) (by simp[z0b,z6o,z2m]) (by simp[z0b]) (by simp[z0b]) (fun ts' clk' q4=> ?_) (fun hr0 ts' clk'=> ?_)
 ·simp only[go_sem,z0,q4]
  rw[z2h]
  exact hT _ hS.app
 ·simp only[go_sem,z0,]
  rw[z2h,←hr0]
  exact hT _ hS.app
theorem k2y {α:Type} {enc:α→AV} {xs:List α} {S:List (Nat×AObj)} {c:Nat} {cap:List AV} {P:α→Bool} {t:Tip} (hE:∀ x,(enc x).cells.length=1) (hld:∀ x h,q0z h none (.iptr (enc x).cells 0)=some (enc x,h)) (hid:∀ x,(enc x).ids=[]) (hl:xs.length≤2 ^ 20) (hC:Cov S (idsL cap)) (hP:∀ x∈xs,Reads S c (enc x::cap) (.bool (P x))):
  Reads S 136 [.sl (xs.map enc) t, .fn c cap] (.bool (xs.any P)):=by
 obtain⟨r,h1,h2⟩:=k2x (t:= .no) hE hld hid hl hC hP
 have hC':Cov S (idsL [.sl (xs.map enc) .no, .fn c cap]):=by
  have:idsL [.sl (xs.map enc) .no, .fn c cap]=idsL cap:=by simp[idsL,AV.ids,z0d hid]
  rw[this];exact hC
 refine Reads.of rfl y1y rfl rfl rfl rfl (by simpa [cvL,AV.cv] using hC') fun D B clk T hB hS hlt hT=> ?_
 simp only[go_sem,z0,w3v,z0w h2 hS.app,h1]
 rw[z0f]
 exact hT _ hS.app
theorem k2z {α:Type} {enc:α→AV} {xs:List α} {S:List (Nat×AObj)} {c:Nat} {cap:List AV} {P:α→Bool} {t:Tip} (hE:∀ x,(enc x).cells.length=2) (hld:∀ x h,q0z h (some 2) (.iptr (enc x).cells 0)=some (enc x,h)) (hid:∀ x,(enc x).ids=[]) (hl:xs.length≤2 ^ 20) (hC:Cov S (idsL cap)) (hP:∀ x∈xs,Reads S c (enc x::cap) (.bool (P x))):
  ∃ r:Int,decide (0≤r)=xs.any P∧Reads S 103 [.sl (xs.map enc) t, .fn c cap] (.int .i64 r):=by
 have hC':Cov S (idsL [.sl (xs.map enc) .no, .fn c cap]):=by
  have:idsL [.sl (xs.map enc) .no, .fn c cap]=idsL cap:=by simp[idsL,AV.ids,z0d hid]
  rw[this];exact hC
 have key:∀ n,n≤xs.length→∃ r:Int,decide (0≤r)=(xs.drop (xs.length - n)).any P∧∀ (D L:List AObj) (B clk:Nat) (ks:List Kf) (ts:Tmps) (Q:Post),Has S D→ts 0= .sl (xs.map enc) .no→ts 1= .fn c cap→ts 7= .int .i64 (xs.length:Int)→ts 8= .int .i64 ((xs.length - n:Nat):Int)→
   (∀ ts' clk',ts' 4= .int .i64 r→K Gam B .ret ks ⟨ts',D++L,clk'⟩ Q)→(r= -1→∀ ts' clk',K Gam B (.exit 0) ks ⟨ts',D++L,clk'⟩ Q)→K Gam B (.loop x5p) ks ⟨ts,D++L,clk⟩ Q:=by
  intro n
  induction n with
  | zero=>
    intro _
    refine⟨-1,by simp,fun D L B clk ks ts Q hS h0 h1 h7 h8 _ hx=> ?_⟩
    have e1:decide (((xs.length - 0:Nat):Int) < (xs.length:Int))=false:=by rw[decide_eq_false_iff_not];omega
    refine z2v ?_
    simp only[go_sem,z0,h0,h1,h7,h8,x5p,e1]
    exact hx rfl _ _
  | succ n ih=>
    intro hn
    have hk:xs.length - (n + 1) < xs.length:=by omega
    have hdr:xs.drop (xs.length - (n + 1))=xs[xs.length - (n + 1)]::xs.drop (xs.length - n):=by
     rw[List.drop_eq_getElem_cons hk]
     congr 2
     omega
    have e1:decide (((xs.length - (n + 1):Nat):Int) < (xs.length:Int))=true:=by rw[decide_eq_true_iff];omega
    have hpx:=hP _ (List.getElem_mem hk)
    generalize hxx:xs[xs.length - (n + 1)]=x at hdr hpx
    have hidx:∀ h,z1t h 2 (.sl (xs.map enc) .no) (.int .i64 ((xs.length - (n + 1):Nat):Int))=some (.iptr (enc x).cells 0,h):=fun h=>by
     rw[←hxx]
     exact z5c (by simp[hk]) (hE _)
    have hcx:∀ h,q0z h (some 2) (.iptr (enc x).cells 0)=some (enc x,h):=hld x
    cases hpb:P x with
    | true=>
      refine⟨((xs.length - (n + 1):Nat):Int), ?_,fun D L B clk ks ts Q hS h0 h1 h7 h8 hr _=> ?_⟩
      ·rw[hdr,List.any_cons,hpb,Bool.true_or,decide_eq_true_iff];omega
      ·refine z2v ?_
       rw[hpb] at hpx
       simp only[go_sem,z0,z1,z2,z3,reduceCtorEq,↓reduceIte,h0,h1,h7,h8,x5p,e1,hidx,hcx,z0w hpx hS.app]
       exact hr _ _ (by simp[z0b])
    | false=>
      obtain⟨r,h1',h2'⟩:=ih (by omega)
      refine⟨r,by rw[h1',hdr,List.any_cons,hpb,Bool.false_or],fun D L B clk ks ts Q hS h0 h1 h7 h8 hr hx=> ?_⟩
      have e2:IntKind.i64.wrap (((xs.length - (n + 1):Nat):Int) + 1)=((xs.length - n:Nat):Int):=by rw[z0c (by omega) (by omega)];omega
      refine z2v ?_
      rw[hpb] at hpx
      simp only[go_sem,z0,z1,z2,z3,reduceCtorEq,↓reduceIte,h0,h1,h7,h8,x5p,e1,hidx,hcx,z0w hpx hS.app,e2]
      exact h2' D L B _ ks _ Q hS (by simp[z0b,h0]) (by simp[z0b,h1]) (by simp[z0b,h7]) (by simp[z0b]) hr hx
 obtain⟨r,h1,h2⟩:=key xs.length (Nat.le_refl _)
 rw[Nat.sub_self,List.drop_zero] at h1
 refine⟨r,h1,Reads.of rfl y2d rfl rfl rfl rfl (by simpa [cvL,AV.cv] using hC') fun D B clk T hB hS hlt hT=> ?_⟩
 simp only[go_sem,z0,w4d,List.length_map]
 refine h2 D _ B _ _ _ _ hS (by simp[z0b,z2m]) (by simp[z0b,z6o,z2m]) (by simp[z0b]) (by simp[z0b]) (fun ts' clk' q4=> ?_) (fun hr0 ts' clk'=> ?_)
 ·simp only[go_sem,z0,q4]
  rw[z2h]
  exact hT _ hS.app
 ·simp only[go_sem,z0,]
  rw[z2h,←hr0]
  exact hT _ hS.app
theorem x8d {α:Type} {enc:α→AV} {xs:List α} {S:List (Nat×AObj)} {c:Nat} {cap:List AV} {P:α→Bool} {t:Tip} (hE:∀ x,(enc x).cells.length=2) (hld:∀ x h,q0z h (some 2) (.iptr (enc x).cells 0)=some (enc x,h)) (hid:∀ x,(enc x).ids=[]) (hl:xs.length≤2 ^ 20) (hC:Cov S (idsL cap)) (hP:∀ x∈xs,Reads S c (enc x::cap) (.bool (P x))):
  Reads S 57 [.sl (xs.map enc) t, .fn c cap] (.bool (xs.any P)):=by
 obtain⟨r,h1,h2⟩:=k2z (t:= .no) hE hld hid hl hC hP
 have hC':Cov S (idsL [.sl (xs.map enc) .no, .fn c cap]):=by
  have:idsL [.sl (xs.map enc) .no, .fn c cap]=idsL cap:=by simp[idsL,AV.ids,z0d hid]
  rw[this];exact hC
 refine Reads.of rfl y8o rfl rfl rfl rfl (by simpa [cvL,AV.cv] using hC') fun D B clk T hB hS hlt hT=> ?_
 simp only[go_sem,z0,y5b,z0w h2 hS.app,h1]
 rw[z0f]
 exact hT _ hS.app
theorem k3a {α:Type} {enc:α→AV} {xs:List α} {S:List (Nat×AObj)} {c:Nat} {cap:List AV} {P:α→Bool} {t:Tip} (hE:∀ x,(enc x).cells.length=3) (hld:∀ x h,q0z h (some 3) (.iptr (enc x).cells 0)=some (enc x,h)) (hid:∀ x,(enc x).ids=[]) (hl:xs.length≤2 ^ 20) (hC:Cov S (idsL cap)) (hP:∀ x∈xs,Reads S c (enc x::cap) (.bool (P x))):
  ∃ r:Int,decide (0≤r)=xs.any P∧Reads S 134 [.sl (xs.map enc) t, .fn c cap] (.int .i64 r):=by
 have hC':Cov S (idsL [.sl (xs.map enc) .no, .fn c cap]):=by
  have:idsL [.sl (xs.map enc) .no, .fn c cap]=idsL cap:=by simp[idsL,AV.ids,z0d hid]
  rw[this];exact hC
 have key:∀ n,n≤xs.length→∃ r:Int,decide (0≤r)=(xs.drop (xs.length - n)).any P∧∀ (D L:List AObj) (B clk:Nat) (ks:List Kf) (ts:Tmps) (Q:Post),Has S D→ts 0= .sl (xs.map enc) .no→ts 1= .fn c cap→ts 7= .int .i64 (xs.length:Int)→ts 8= .int .i64 ((xs.length - n:Nat):Int)→
   (∀ ts' clk',ts' 4= .int .i64 r→K Gam B .ret ks ⟨ts',D++L,clk'⟩ Q)→(r= -1→∀ ts' clk',K Gam B (.exit 0) ks ⟨ts',D++L,clk'⟩ Q)→K Gam B (.loop x5q) ks ⟨ts,D++L,clk⟩ Q:=by
  intro n
  induction n with
  | zero=>
    intro _
    refine⟨-1,by simp,fun D L B clk ks ts Q hS h0 h1 h7 h8 _ hx=> ?_⟩
    have e1:decide (((xs.length - 0:Nat):Int) < (xs.length:Int))=false:=by rw[decide_eq_false_iff_not];omega
    refine z2v ?_
    simp only[go_sem,z0,h0,h1,h7,h8,x5q,e1]
    exact hx rfl _ _
  | succ n ih=>
    intro hn
    have hk:xs.length - (n + 1) < xs.length:=by omega
    have hdr:xs.drop (xs.length - (n + 1))=xs[xs.length - (n + 1)]::xs.drop (xs.length - n):=by
     rw[List.drop_eq_getElem_cons hk]
     congr 2
     omega
    have e1:decide (((xs.length - (n + 1):Nat):Int) < (xs.length:Int))=true:=by rw[decide_eq_true_iff];omega
    have hpx:=hP _ (List.getElem_mem hk)
    generalize hxx:xs[xs.length - (n + 1)]=x at hdr hpx
    have hidx:∀ h,z1t h 3 (.sl (xs.map enc) .no) (.int .i64 ((xs.length - (n + 1):Nat):Int))=some (.iptr (enc x).cells 0,h):=fun h=>by
     rw[←hxx]
     exact z5c (by simp[hk]) (hE _)
    have hcx:∀ h,q0z h (some 3) (.iptr (enc x).cells 0)=some (enc x,h):=hld x
    cases hpb:P x with
    | true=>
      refine⟨((xs.length - (n + 1):Nat):Int), ?_,fun D L B clk ks ts Q hS h0 h1 h7 h8 hr _=> ?_⟩
      ·rw[hdr,List.any_cons,hpb,Bool.true_or,decide_eq_true_iff];omega
      ·refine z2v ?_
       rw[hpb] at hpx
       simp only[go_sem,z0,z1,z2,z3,reduceCtorEq,↓reduceIte,h0,h1,h7,h8,x5q,e1,hidx,hcx,z0w hpx hS.app]
       exact hr _ _ (by simp[z0b])
    | false=>
      obtain⟨r,h1',h2'⟩:=ih (by omega)
      refine⟨r,by rw[h1',hdr,List.any_cons,hpb,Bool.false_or],fun D L B clk ks ts Q hS h0 h1 h7 h8 hr hx=> ?_⟩
      have e2:IntKind.i64.wrap (((xs.length - (n + 1):Nat):Int) + 1)=((xs.length - n:Nat):Int):=by rw[z0c (by omega) (by omega)];omega
      refine z2v ?_
      rw[hpb] at hpx
      simp only[go_sem,z0,z1,z2,z3,reduceCtorEq,↓reduceIte,h0,h1,h7,h8,x5q,e1,hidx,hcx,z0w hpx hS.app,e2]
      exact h2' D L B _ ks _ Q hS (by simp[z0b,h0]) (by simp[z0b,h1]) (by simp[z0b,h7]) (by simp[z0b]) hr hx
 obtain⟨r,h1,h2⟩:=key xs.length (Nat.le_refl _)
 rw[Nat.sub_self,List.drop_zero] at h1
 refine⟨r,h1,Reads.of rfl y2i rfl rfl rfl rfl (by simpa [cvL,AV.cv] using hC') fun D B clk T hB hS hlt hT=> ?_⟩
 simp only[go_sem,z0,w4k,List.length_map]
 refine h2 D _ B _ _ _ _ hS (by simp[z0b,z2m]) (by simp[z0b,z6o,z2m]) (by simp[z0b]) (by simp[z0b]) (fun ts' clk' q4=> ?_) (fun hr0 ts' clk'=> ?_)
 ·simp only[go_sem,z0,q4]
  rw[z2h]
  exact hT _ hS.app
 ·simp only[go_sem,z0,]
  rw[z2h,←hr0]
  exact hT _ hS.app
theorem k3b {α:Type} {enc:α→AV} {xs:List α} {S:List (Nat×AObj)} {c:Nat} {cap:List AV} {P:α→Bool} {t:Tip} (hE:∀ x,(enc x).cells.length=3) (hld:∀ x h,q0z h (some 3) (.iptr (enc x).cells 0)=some (enc x,h)) (hid:∀ x,(enc x).ids=[]) (hl:xs.length≤2 ^ 20) (hC:Cov S (idsL cap)) (hP:∀ x∈xs,Reads S c (enc x::cap) (.bool (P x))):
  Reads S 91 [.sl (xs.map enc) t, .fn c cap] (.bool (xs.any P)):=by
 obtain⟨r,h1,h2⟩:=k3a (t:= .no) hE hld hid hl hC hP
 have hC':Cov S (idsL [.sl (xs.map enc) .no, .fn c cap]):=by
  have:idsL [.sl (xs.map enc) .no, .fn c cap]=idsL cap:=by simp[idsL,AV.ids,z0d hid]
  rw[this];exact hC
 refine Reads.of rfl y2h rfl rfl rfl rfl (by simpa [cvL,AV.cv] using hC') fun D B clk T hB hS hlt hT=> ?_
 simp only[go_sem,z0,w4j,z0w h2 hS.app,h1]
 rw[z0f]
 exact hT _ hS.app
theorem k3c {α:Type} {enc:α→AV} {xs:List α} {S:List (Nat×AObj)} {c:Nat} {cap:List AV} {P:α→Bool} {t:Tip} (hE:∀ x,(enc x).cells.length=2) (hld:∀ x h,q0z h (some 2) (.iptr (enc x).cells 0)=some (enc x,h)) (hid:∀ x,(enc x).ids=[]) (hl:xs.length≤2 ^ 20) (hC:Cov S (idsL cap)) (hP:∀ x∈xs,Reads S c (enc x::cap) (.bool (P x))):
  ∃ r:Int,decide (0≤r)=xs.any P∧Reads S 199 [.sl (xs.map enc) t, .fn c cap] (.int .i64 r):=by
 have hC':Cov S (idsL [.sl (xs.map enc) .no, .fn c cap]):=by
  have:idsL [.sl (xs.map enc) .no, .fn c cap]=idsL cap:=by simp[idsL,AV.ids,z0d hid]
  rw[this];exact hC
 have key:∀ n,n≤xs.length→∃ r:Int,decide (0≤r)=(xs.drop (xs.length - n)).any P∧∀ (D L:List AObj) (B clk:Nat) (ks:List Kf) (ts:Tmps) (Q:Post),Has S D→ts 0= .sl (xs.map enc) .no→ts 1= .fn c cap→ts 7= .int .i64 (xs.length:Int)→ts 8= .int .i64 ((xs.length - n:Nat):Int)→
   (∀ ts' clk',ts' 4= .int .i64 r→K Gam B .ret ks ⟨ts',D++L,clk'⟩ Q)→(r= -1→∀ ts' clk',K Gam B (.exit 0) ks ⟨ts',D++L,clk'⟩ Q)→K Gam B (.loop x5r) ks ⟨ts,D++L,clk⟩ Q:=by
  intro n
  induction n with
  | zero=>
    intro _
    refine⟨-1,by simp,fun D L B clk ks ts Q hS h0 h1 h7 h8 _ hx=> ?_⟩
    have e1:decide (((xs.length - 0:Nat):Int) < (xs.length:Int))=false:=by rw[decide_eq_false_iff_not];omega
    refine z2v ?_
    simp only[go_sem,z0,h0,h1,h7,h8,x5r,e1]
    exact hx rfl _ _
  | succ n ih=>
    intro hn
    have hk:xs.length - (n + 1) < xs.length:=by omega
    have hdr:xs.drop (xs.length - (n + 1))=xs[xs.length - (n + 1)]::xs.drop (xs.length - n):=by
     rw[List.drop_eq_getElem_cons hk]
     congr 2
     omega
    have e1:decide (((xs.length - (n + 1):Nat):Int) < (xs.length:Int))=true:=by rw[decide_eq_true_iff];omega
    have hpx:=hP _ (List.getElem_mem hk)
    generalize hxx:xs[xs.length - (n + 1)]=x at hdr hpx
    have hidx:∀ h,z1t h 2 (.sl (xs.map enc) .no) (.int .i64 ((xs.length - (n + 1):Nat):Int))=some (.iptr (enc x).cells 0,h):=fun h=>by
     rw[←hxx]
     exact z5c (by simp[hk]) (hE _)
    have hcx:∀ h,q0z h (some 2) (.iptr (enc x).cells 0)=some (enc x,h):=hld x
    cases hpb:P x with
    | true=>
      refine⟨((xs.length - (n + 1):Nat):Int), ?_,fun D L B clk ks ts Q hS h0 h1 h7 h8 hr _=> ?_⟩
      ·rw[hdr,List.any_cons,hpb,Bool.true_or,decide_eq_true_iff];omega
      ·refine z2v ?_
       rw[hpb] at hpx
       simp only[go_sem,z0,z1,z2,z3,reduceCtorEq,↓reduceIte,h0,h1,h7,h8,x5r,e1,hidx,hcx,z0w hpx hS.app]
       exact hr _ _ (by simp[z0b])
    | false=>
      obtain⟨r,h1',h2'⟩:=ih (by omega)
      refine⟨r,by rw[h1',hdr,List.any_cons,hpb,Bool.false_or],fun D L B clk ks ts Q hS h0 h1 h7 h8 hr hx=> ?_⟩
      have e2:IntKind.i64.wrap (((xs.length - (n + 1):Nat):Int) + 1)=((xs.length - n:Nat):Int):=by rw[z0c (by omega) (by omega)];omega
      refine z2v ?_
      rw[hpb] at hpx
      simp only[go_sem,z0,z1,z2,z3,reduceCtorEq,↓reduceIte,h0,h1,h7,h8,x5r,e1,hidx,hcx,z0w hpx hS.app,e2]
      exact h2' D L B _ ks _ Q hS (by simp[z0b,h0]) (by simp[z0b,h1]) (by simp[z0b,h7]) (by simp[z0b]) hr hx
 obtain⟨r,h1,h2⟩:=key xs.length (Nat.le_refl _)
 rw[Nat.sub_self,List.drop_zero] at h1
 refine⟨r,h1,Reads.of rfl y2r rfl rfl rfl rfl (by simpa [cvL,AV.cv] using hC') fun D B clk T hB hS hlt hT=> ?_⟩
 simp only[go_sem,z0,w4t,List.length_map]
 refine h2 D _ B _ _ _ _ hS (by simp[z0b,z2m]) (by simp[z0b,z6o,z2m]) (by simp[z0b]) (by simp[z0b]) (fun ts' clk' q4=> ?_) (fun hr0 ts' clk'=> ?_)
 ·simp only[go_sem,z0,q4]
  rw[z2h]
  exact hT _ hS.app
 ·simp only[go_sem,z0,]
  rw[z2h,←hr0]
  exact hT _ hS.app
theorem k3d {α:Type} {enc:α→AV} {xs:List α} {S:List (Nat×AObj)} {c:Nat} {cap:List AV} {P:α→Bool} {t:Tip} (hE:∀ x,(enc x).cells.length=2) (hld:∀ x h,q0z h (some 2) (.iptr (enc x).cells 0)=some (enc x,h)) (hid:∀ x,(enc x).ids=[]) (hl:xs.length≤2 ^ 20) (hC:Cov S (idsL cap)) (hP:∀ x∈xs,Reads S c (enc x::cap) (.bool (P x))):
  Reads S 179 [.sl (xs.map enc) t, .fn c cap] (.bool (xs.any P)):=by
 obtain⟨r,h1,h2⟩:=k3c (t:= .no) hE hld hid hl hC hP
 have hC':Cov S (idsL [.sl (xs.map enc) .no, .fn c cap]):=by
  have:idsL [.sl (xs.map enc) .no, .fn c cap]=idsL cap:=by simp[idsL,AV.ids,z0d hid]
  rw[this];exact hC
 refine Reads.of rfl y2q rfl rfl rfl rfl (by simpa [cvL,AV.cv] using hC') fun D B clk T hB hS hlt hT=> ?_
 simp only[go_sem,z0,w4s,z0w h2 hS.app,h1]
 rw[z0f]
 exact hT _ hS.app
theorem x8e {D L:List AObj} {B k:Nat} {o:AObj} (hB:D.length=B) (hL:L[k]? =some o):Has [(B + k,o)] (D++L):=by
 refine Has.cons ?_ Has.nil
 rw[z5w hB]
 exact hL
theorem k3e {s g:Nat} {x y:Int}:Reads [(s, .blk g [.int .i64 y] false false 0)] 233 [.int .i64 x, .ptr s g 0 0] (.bool (!decide (x=y))):=by
 refine Reads.of rfl y1x rfl rfl rfl rfl (Cov.one rfl) fun D B clk T hB hS hlt hT=> ?_
 have hs:=hlt _ List.mem_cons_self
 have hb:=z6l (g:=g) (hS _ List.mem_cons_self)
 dsimp only at hs hb
 simp only[go_sem,z0,w3u,z3y hB hs,hb]
 rw[z0f]
 exact hT _ hS.app
theorem q1h {ss:List Nat} {s:Nat} {t:Tip} (h:∀ x∈ss,x=s) (hl:ss.length≤2 ^ 20):Pure Gam 228 [.sl (ss.map nat) t,nat s] (.bool true):=by
 refine Pure.of rfl y1w rfl rfl rfl (az:=[.sl (ss.map nat) .no,nat s]) rfl (by simp[idsL,AV.ids,z0d (f:=nat) fun _=>z3h,z3h]) fun D B clk T hB hT=> ?_
 have hr:∀ g,Reads [(B + 0, .blk g [.int .i64 (s:Int)] false false 0)] 136 [.sl (ss.map nat) .no, .fn 233 [.ptr (B + 0) g 0 0]] (.bool (ss.any fun x=> !decide ((x:Int)=(s:Int)))):=fun g=>
  k2y (enc:=nat) (P:=fun x=> !decide ((x:Int)=(s:Int))) (fun _=>rfl) (fun _ _=>rfl) (fun _=>rfl) hl (Cov.one rfl) fun x _=>k3e
 have e:(ss.any fun x=> !decide ((x:Int)=(s:Int)))=false:=by
  rw[List.any_eq_false]
  intro x hx
  simp[h x hx]
 rw[e] at hr
 simp only[go_sem,z0,w3t,nat,hB]
 rw[z0w (hr _) (x8e hB rfl)]
 simp only[go_sem,z0,Bool.not_false]
 rw[z0f]
 exact hT _
theorem z2f {s:Int}:Pure Gam 227 [.bool true, .int .i64 s] (.int .i64 s):=by
 refine Pure.of rfl y1v rfl rfl rfl rfl rfl fun D B clk T hB hT=> ?_
 simp only[go_sem,z0,w3s]
 rw[z2h]
 exact hT _
theorem x8f {s:Nat} (hs:s=2∨s=3):Pure Gam 229 [nat s] (.bool true):=by
 refine Pure.of rfl y2a rfl rfl rfl rfl rfl fun D B clk T hB hT=> ?_
 rcases hs with rfl | rfl
 ·simp only[go_sem,z0,v2e,nat,Int.cast_ofNat_Int,Int.reduceEq,decide_true,decide_false]
  rw[z0f]
  exact hT _
 ·simp only[go_sem,z0,v2e,nat,Int.cast_ofNat_Int,Int.reduceEq,decide_true,decide_false]
  rw[z0f]
  exact hT _
theorem v3c {s:Nat} (h1:1≤s) (h4:s≤4):Pure Gam 223 [nat s] (.bool true):=by
 refine Pure.of rfl y1s rfl rfl rfl rfl rfl fun D B clk T hB hT=> ?_
 have e1:decide ((1:Int)≤(s:Int))=true:=by rw[decide_eq_true_iff];omega
 have e2:decide ((s:Int)≤4)=true:=by rw[decide_eq_true_iff];omega
 simp only[go_sem,z0,w3q,nat,e1,e2]
 rw[z0f]
 exact hT _
theorem j8e {v:Var} (hv:v∈z0o):Pure Gam 135 [.str v.name] (.bool true):=by
 refine Pure.tab (tab:=x8s) rfl rfl ?_
 simp only[z0o,List.mem_cons,List.not_mem_nil,or_false] at hv
 rcases hv with rfl | rfl | rfl | rfl | rfl | rfl | rfl | rfl <;> rfl
theorem q4b {v:Var} (hv:v∈z0o):1≤v.sort∧v.sort≤4:=by
 simp only[z0o,List.mem_cons,List.not_mem_nil,or_false] at hv
 rcases hv with rfl | rfl | rfl | rfl | rfl | rfl | rfl | rfl <;> exact⟨by decide,by decide⟩
theorem z9r {h:List AObj} {K k:IntKind} {n:Int} {a:AV} {xs:List AV} {t:Tip}:z1t h 1 (.sl (a:: .int K n::xs) t) (.int k 1)=some (.iptr [.int K n] 0,h):=z5c (i:=1) (e:= .int K n) rfl rfl
theorem q8p {h:List AObj} {K k:IntKind} {n:Int} {a b:AV} {xs:List AV} {t:Tip}:z1t h 1 (.sl (a::b:: .int K n::xs) t) (.int k 2)=some (.iptr [.int K n] 0,h):=z5c (i:=2) (e:= .int K n) rfl rfl
theorem z2k {o k:Nat} (ho:o=1∨o=2∨o=6∨o=7∨o=8∨o=9∨o=10∨o=11∨o=12∨o=13∨o=14∨o=15∨o=18∨o=19∨o=20):Pure Gam 215 [eNode (bare o k)] (.bool true):=by
 refine Pure.of rfl j7q rfl rfl rfl rfl rfl fun D B clk T hB hT=> ?_
 have e1:decide ((o:Int)=3)=false:=by rw[decide_eq_false_iff_not];omega
 have e2:decide ((o:Int)=4)=false:=by rw[decide_eq_false_iff_not];omega
 have e3:decide ((o:Int)=5)=false:=by rw[decide_eq_false_iff_not];omega
 have e4:decide ((o:Int)=16)=false:=by rw[decide_eq_false_iff_not];omega
 have e5:decide ((o:Int)=17)=false:=by rw[decide_eq_false_iff_not];omega
 have e6:decide ((1:Int)≤(o:Int))=true:=by rw[decide_eq_true_iff];omega
 have e7:decide ((o:Int)≤20)=true:=by rw[decide_eq_true_iff];omega
 have e8:decide (((0:Nat):Int)=0)=true:=rfl
 simp only[go_sem,z0,z1,↓reduceIte,x7z,hB,eNode,bare,nat,e1,e2,e3,e4,e5,e6,e7,e8,decide_true]
 rw[z0f]
 exact hT _
theorem v3d {V:List Var} {n:Node} {ss:List Nat} {s:Nat} {ks:Term} (hn:NodeOk V n ss s ks) (hV:∀ v∈V,v∈z0o):Pure Gam 215 [eNode n] (.bool true):=by
 cases hn with
 | bool h=>exact z2k (by omega)
 | not=>exact z2k (by omega)
 | andor h=>exact z2k (by omega)
 | imp=>exact z2k (by omega)
 | ite h1 h2=>exact z2k (by omega)
 | eq h1 h2=>exact z2k (by omega)
 | cmp h hs=>exact z2k (by omega)
 | add h hs=>exact z2k (by omega)
 | mul hs hn=>exact z2k (by omega)
 | select=>exact z2k (by omega)
 | store=>exact z2k (by omega)
 | const=>exact z2k (by omega)
 | int h=>
   refine Pure.of rfl j7q rfl rfl rfl rfl rfl fun D B clk T hB hT=> ?_
   simp only[go_sem,z0,z1,↓reduceIte,x7z,hB,eNode,nat,Int.cast_ofNat_Int,Int.reduceEq,decide_true,decide_false,z0a (x8c h)]
   rw[z0f]
   exact hT _
 | real h=>
   refine Pure.of rfl j7q rfl rfl rfl rfl rfl fun D B clk T hB hT=> ?_
   simp only[go_sem,z0,z1,↓reduceIte,x7z,hB,eNode,nat,Int.cast_ofNat_Int,Int.reduceEq,decide_true,decide_false,z0a (x5o h)]
   rw[z0f]
   exact hT _
 | var h=>
   refine Pure.of rfl j7q rfl rfl rfl rfl rfl fun D B clk T hB hT=> ?_
   have hs:=q4b (hV _ h)
   have h1:=v3c hs.1 hs.2
   rw[nat] at h1
   simp only[go_sem,z0,z1,↓reduceIte,x7z,hB,eNode,nat,Int.cast_ofNat_Int,Int.reduceEq,decide_true,decide_false,z0a h1,z0a (j8e (hV _ h))]
   rw[z0f]
   exact hT _
 | @div o k _ ho h1 h5=>
   refine Pure.of rfl j7q rfl rfl rfl rfl rfl fun D B clk T hB hT=> ?_
   have hp1:Pure Gam 224 [.str (dec k)] (.bool true):=by
    have:=j7r (z:=(k:Int)) (by rw[Int.natAbs_natCast,z8z (by omega)];simp)
    rwa [z2s,if_neg (by omega),Int.natAbs_natCast] at this
   have hp2:=v2w h1 h5
   have e1:decide ((o:Int)=3)=false:=by rw[decide_eq_false_iff_not];omega
   have e2:decide ((o:Int)=4)=false:=by rw[decide_eq_false_iff_not];omega
   have e3:decide ((o:Int)=5)=false:=by rw[decide_eq_false_iff_not];omega
   have e8:decide (((0:Nat):Int)=0)=true:=rfl
   rcases ho with rfl | rfl
   ·simp only[go_sem,z0,z1,↓reduceIte,x7z,hB,eNode,nat,Int.cast_ofNat_Int,Int.reduceEq,Int.reduceLT,decide_true,decide_false,e8,z0a hp1,z0a hp2]
    rw[z0f]
    exact hT _
   ·simp only[go_sem,z0,z1,↓reduceIte,x7z,hB,eNode,nat,Int.cast_ofNat_Int,Int.reduceEq,Int.reduceLT,decide_true,decide_false,e8,z0a hp1,z0a hp2]
    rw[z0f]
    exact hT _
end Go.Proofs.YtmkblnlafljljaaGreatDoor.Am
