/- Functions of the abstract machine's program Walking: where subtrees end, where children begin Walking: a clause at values Walking: facts of nodes, compared Walking: a tree is checked Objects put into  -/
import Derived.Test.YtkollgjffkdliaaGreatDoorK29
open Bool renaming false_eq_true → j9,not_false → x6,not_true → z8
open Int renaming reduceEq → z7
open List renaming all_eq_true → y9,drop_eq_getElem_cons → b6,getD_eq_getElem?_getD → n8,getElem?_eq_getElem → v9,getElem?_set_self → n5,getElem_mem → x8,length_map → z6,length_set → y5,length_singleton → v6,map_append → v8,map_cons → j4,mem_cons_of_mem → v7,mem_cons_self → j7,mem_iff_getElem → d5,mem_map → w0
open Nat renaming le_trans → j1,zero_add → k6
set_option linter.all false
namespace Go.Proofs.YtkollgjffkdliaaGreatDoor.Am
open Go
set_option maxRecDepth 100000
section
open Sh
def v3w:AFun:=
 {ntmps:=13,nslots:=0,results:=[.tmp 2],byref:=[],owned:=false,
  body:=(.seq (.region 1 [N 2 (.move (.const (.bool false)))] []) (.seq (.region 11 [M 3 0,N 4 (.len .sl (.tmp 3)),N 5 (.binOp .leq (.one .int) (.tmp 4) (I 4096)),M 6 5,V 7 (.move (.tmp 0)) 6,V 8 (.call 130 [(.tmp 7),(I 0)]) 6,V 9 (.move (.tmp 0)) 6,V 10 (.len .sl (.tmp 9)) 6,V 11 (.binOp .eql (.one .int) (.tmp 8) (.tmp 10)) 6,N 12 (.pick (.tmp 6) (.tmp 11) (.const (.bool false))),M 2 12] []) .ret))}
theorem y3l:Gam.fn 129=some v3w:=by kernel_rfl
def x1d:ACode:=(.seq (.seq (.region 2 [M 32 5,N 33 (.binOp .gtr (.one .int) (.tmp 32) (I 0))] []) (.cond (.tmp 33) .skip (.exit 0))) (.seq (.block 1 (.seq (.seq (.region 22 [M 36 1,M 37 0,N 38 (.len .sl (.tmp 37)),N 39 (.binOp .geq (.one .int) (.tmp 36) (.tmp 38)),M 40 39,U 41 (.move (.tmp 0)) 40,U 42 (.move (.tmp 1)) 40,U 43 (.indexAddr none 3 (.tmp 41) (.tmp 42)) 40,U 44 (.fieldAddr (.tmp 43) 2) 40,U 45 (.load none (.tmp 44)) 40,U 46 (.binOp .lss (.one .int) (.tmp 45) (I 0)) 40,N 47 (.pick (.tmp 40) (.const (.bool true)) (.tmp 46)),M 48 47,U 49 (.move (.tmp 0)) 48,U 50 (.move (.tmp 1)) 48,U 51 (.indexAddr none 3 (.tmp 49) (.tmp 50)) 48,U 52 (.fieldAddr (.tmp 51) 2) 48,U 53 (.load none (.tmp 52)) 48,U 54 (.move (.tmp 0)) 48,U 55 (.len .sl (.tmp 54)) 48,U 56 (.binOp .gtr (.one .int) (.tmp 53) (.tmp 55)) 48,N 57 (.pick (.tmp 48) (.const (.bool true)) (.tmp 56))] []) (.cond (.tmp 57) (.seq (.region 1 [N 4 (.move (I (-1)))] []) .ret) .skip)) (.region 9 [M 58 5,M 59 0,M 60 1,N 61 (.indexAddr none 3 (.tmp 59) (.tmp 60)),A 62 61 2,L 63 62,N 64 (.binOp .sub (.one .int) (.tmp 63) (I 1)),N 65 (.binOp .add (.one .int) (.tmp 58) (.tmp 64)),M 5 65] []))) (.region 3 [M 34 1,N 35 (.binOp .add (.one .int) (.tmp 34) (I 1)),M 1 35] [])))
def j5n:AFun:=
 {ntmps:=67,nslots:=0,results:=[.tmp 4],byref:=[],owned:=false,
  body:=(.seq (.region 1 [N 4 (.move (I 0))] []) (.seq (.seq (.region 26 [M 6 1,N 7 (.binOp .lss (.one .int) (.tmp 6) (I 0)),M 8 7,U 9 (.move (.tmp 1)) 8,U 10 (.move (.tmp 0)) 8,U 11 (.len .sl (.tmp 10)) 8,U 12 (.binOp .geq (.one .int) (.tmp 9) (.tmp 11)) 8,N 13 (.pick (.tmp 8) (.const (.bool true)) (.tmp 12)),M 14 13,U 15 (.move (.tmp 0)) 14,U 16 (.move (.tmp 1)) 14,U 17 (.indexAddr none 3 (.tmp 15) (.tmp 16)) 14,U 18 (.fieldAddr (.tmp 17) 2) 14,U 19 (.load none (.tmp 18)) 14,U 20 (.binOp .lss (.one .int) (.tmp 19) (I 0)) 14,N 21 (.pick (.tmp 14) (.const (.bool true)) (.tmp 20)),M 22 21,U 23 (.move (.tmp 0)) 22,U 24 (.move (.tmp 1)) 22,U 25 (.indexAddr none 3 (.tmp 23) (.tmp 24)) 22,U 26 (.fieldAddr (.tmp 25) 2) 22,U 27 (.load none (.tmp 26)) 22,U 28 (.move (.tmp 0)) 22,U 29 (.len .sl (.tmp 28)) 22,U 30 (.binOp .gtr (.one .int) (.tmp 27) (.tmp 29)) 22,N 31 (.pick (.tmp 22) (.const (.bool true)) (.tmp 30))] []) (.cond (.tmp 31) (.seq (.region 1 [N 4 (.move (I (-1)))] []) .ret) .skip)) (.seq (.seq (.region 1 [N 5 (.move (I 1))] []) (.block 0 (.loop x1d))) (.seq (.region 2 [M 66 1,M 4 66] []) .ret))))}
theorem y3m:Gam.fn 130=some j5n:=by kernel_rfl
def j1v:ACode:=(.seq (.seq (.region 7 [M 10 7,M 11 0,M 12 1,N 13 (.indexAddr none 3 (.tmp 11) (.tmp 12)),A 14 13 2,L 15 14,N 16 (.binOp .lss (.one .int) (.tmp 10) (.tmp 15))] []) (.cond (.tmp 16) .skip (.exit 0))) (.seq (.block 1 (.seq (.region 5 [M 19 5,M 20 6,N 21 (.buildSlice 0 false (.int .i64 0) 1 [(0,(.tmp 20))]),N 22 (.append 1 1 8 false (.tmp 19) (.tmp 21)),M 5 22] []) (.region 4 [M 23 0,M 24 6,N 25 (.call 130 [(.tmp 23),(.tmp 24)]),M 6 25] []))) (.region 3 [M 17 7,N 18 (.binOp .add (.one .int) (.tmp 17) (I 1)),M 7 18] [])))
def v3x:AFun:=
 {ntmps:=27,nslots:=2,results:=[.tmp 4],byref:=[],owned:=false,
  body:=(.seq (.region 1 [N 4 (.move (.const (.sl [] .nil)))] []) (.seq (.region 1 [N 5 (.move (.const (.sl [] .nil)))] []) (.seq (.region 3 [M 8 1,N 9 (.binOp .add (.one .int) (.tmp 8) (I 1)),M 6 9] []) (.seq (.seq (.region 1 [N 7 (.move (I 0))] []) (.block 0 (.loop j1v))) (.seq (.region 2 [M 26 5,M 4 26] []) .ret)))))}
theorem y3n:Gam.fn 75=some v3x:=by kernel_rfl
def j1w:ACode:=(.seq (.seq (.region 4 [M 61 6,M 62 1,N 63 (.len .sl (.tmp 62)),N 64 (.binOp .lss (.one .int) (.tmp 61) (.tmp 63))] []) (.cond (.tmp 64) .skip (.exit 3))) (.seq (.block 4 (.seq (.region 17 [A 67 2 1,L 68 67,M 69 1,M 70 6,N 71 (.indexAddr none 3 (.tmp 69) (.tmp 70)),A 72 71 0,L 73 72,N 74 (.indexAddr none 5 (.tmp 68) (.tmp 73)),A 75 74 0,L 76 75,M 77 1,M 78 6,N 79 (.indexAddr none 3 (.tmp 77) (.tmp 78)),A 80 79 1,L 81 80,N 82 (.call 51 [(.tmp 76),(.tmp 81)]),N 83 (.unOp .not (.tmp 82))] []) (.cond (.tmp 83) (.seq (.region 1 [N 4 (.move (I 3))] []) .ret) .skip))) (.region 3 [M 65 6,N 66 (.binOp .add (.one .int) (.tmp 65) (I 1)),M 6 66] [])))
def j1x:ACode:=(.seq (.seq (.region 4 [M 19 5,M 20 1,N 21 (.len .sl (.tmp 20)),N 22 (.binOp .lss (.one .int) (.tmp 19) (.tmp 21))] []) (.cond (.tmp 22) .skip (.exit 1))) (.seq (.block 2 (.seq (.region 36 [M 25 1,M 26 5,N 27 (.indexAddr none 3 (.tmp 25) (.tmp 26)),A 28 27 0,L 29 28,N 30 (.binOp .lss (.one .int) (.tmp 29) (I 0)),M 31 30,U 32 (.move (.tmp 1)) 31,U 33 (.move (.tmp 5)) 31,U 34 (.indexAddr none 3 (.tmp 32) (.tmp 33)) 31,U 35 (.fieldAddr (.tmp 34) 0) 31,U 36 (.load none (.tmp 35)) 31,U 37 (.fieldAddr (.tmp 2) 1) 31,U 38 (.load none (.tmp 37)) 31,U 39 (.len .sl (.tmp 38)) 31,U 40 (.binOp .geq (.one .int) (.tmp 36) (.tmp 39)) 31,N 41 (.pick (.tmp 31) (.const (.bool true)) (.tmp 40)),M 42 41,U 43 (.move (.tmp 1)) 42,U 44 (.move (.tmp 5)) 42,U 45 (.indexAddr none 3 (.tmp 43) (.tmp 44)) 42,U 46 (.fieldAddr (.tmp 45) 2) 42,U 47 (.load none (.tmp 46)) 42,U 48 (.fieldAddr (.tmp 2) 1) 42,U 49 (.load none (.tmp 48)) 42,U 50 (.move (.tmp 1)) 42,U 51 (.move (.tmp 5)) 42,U 52 (.indexAddr none 3 (.tmp 50) (.tmp 51)) 42,U 53 (.fieldAddr (.tmp 52) 0) 42,U 54 (.load none (.tmp 53)) 42,U 55 (.indexAddr none 5 (.tmp 49) (.tmp 54)) 42,U 56 (.fieldAddr (.tmp 55) 1) 42,U 57 (.load none (.tmp 56)) 42,U 58 (.len .sl (.tmp 57)) 42,U 59 (.binOp .neq (.one .int) (.tmp 47) (.tmp 58)) 42,N 60 (.pick (.tmp 42) (.const (.bool true)) (.tmp 59))] []) (.cond (.tmp 60) (.seq (.region 1 [N 4 (.move (I 8))] []) .ret) .skip))) (.region 3 [M 23 5,N 24 (.binOp .add (.one .int) (.tmp 23) (I 1)),M 5 24] [])))
def v3y:AFun:=
 {ntmps:=84,nslots:=1,results:=[.tmp 4],byref:=[],owned:=false,
  body:=(.seq (.region 2 [N 2 (.box 0 (.tmp 0)),N 4 (.move (I 0))] []) (.seq (.block 0 (.seq (.region 4 [N 8 (.load (some 2) (.tmp 2)),N 9 (.call 35 [.tmp 8]),N 10 (.unOp .not (.tmp 9)),M 7 10] []) (.cond (.tmp 7) (.seq (.region 1 [N 4 (.move (I 1))] []) .ret) (.seq (.region 4 [M 12 1,N 13 (.len .sl (.tmp 12)),N 14 (.binOp .gtr (.one .int) (.tmp 13) (I 4096)),M 11 14] []) (.cond (.tmp 11) (.seq (.region 1 [N 4 (.move (I 6))] []) .ret) (.seq (.region 4 [M 16 1,N 17 (.call 129 [.tmp 16]),N 18 (.unOp .not (.tmp 17)),M 15 18] []) (.cond (.tmp 15) (.seq (.region 1 [N 4 (.move (I 8))] []) .ret) .skip))))))) (.seq (.seq (.region 1 [N 5 (.move (I 0))] []) (.block 1 (.loop j1x))) (.seq (.seq (.region 1 [N 6 (.move (I 0))] []) (.block 3 (.loop j1w))) (.seq (.region 1 [N 4 (.move (I 0))] []) .ret)))))}
theorem y3o:Gam.fn 74=some v3y:=by kernel_rfl
def k3x:AFun:=
 {ntmps:=17,nslots:=2,results:=[.tmp 4],byref:=[],owned:=false,
  body:=(.seq (.region 3 [N 2 (.box 0 (.tmp 0)),N 3 (.box 1 (.tmp 1)),N 4 (.move (.const (.bool false)))] []) (.seq (.region 13 [A 5 2 0,L 6 5,A 7 3 0,L 8 7,N 9 (.binOp .eql (.one .str) (.tmp 6) (.tmp 8)),M 10 9,V 11 (.fieldAddr (.tmp 2) 1) 10,V 12 (.load none (.tmp 11)) 10,V 13 (.fieldAddr (.tmp 3) 1) 10,V 14 (.load none (.tmp 13)) 10,V 15 (.call 131 [(.tmp 12),(.tmp 14)]) 10,N 16 (.pick (.tmp 10) (.tmp 15) (.const (.bool false))),M 4 16] []) .ret))}
theorem y3p:Gam.fn 76=some k3x:=by kernel_rfl
def v3z:AFun:=
 {ntmps:=33,nslots:=3,results:=[.cell 6 (some 2)],byref:=[],owned:=false,
  body:=(.seq (.region 2 [N 3 (.box 0 (.tmp 0)),N 6 (.alloc 1 (.agg [(.str []),(.sl [] .nil)]))] []) (.seq (.seq (.region 4 [M 8 2,M 9 1,N 10 (.len .sl (.tmp 9)),N 11 (.binOp .geq (.one .int) (.tmp 8) (.tmp 10))] []) (.cond (.tmp 11) (.seq (.region 2 [N 12 (.build [(.str []),(.sl [] .nil)] []),S 2 6 12] []) .ret) .skip)) (.seq (.region 11 [A 13 3 1,L 14 13,M 15 1,M 16 2,N 17 (.indexAddr none 3 (.tmp 15) (.tmp 16)),A 18 17 0,L 19 18,N 20 (.indexAddr none 5 (.tmp 14) (.tmp 19)),N 21 (.load (some 5) (.tmp 20)),N 7 (.alloc 2 (.agg [(.sl [] .nil),(.sl [] .nil),(.sl [] .nil),(.str []),(.sl [] .nil)])),S 5 7 21] [(1,9),(4,9),(6,9),(7,9),(8,9)]) (.seq (.region 12 [A 22 7 3,N 23 (.load (some 2) (.tmp 22)),A 24 7 0,L 25 24,M 26 1,M 27 2,N 28 (.indexAddr none 3 (.tmp 26) (.tmp 27)),A 29 28 1,L 30 29,N 31 (.call 52 [(.tmp 25),(.tmp 30)]),N 32 (.call 55 [(.tmp 23),(.tmp 31)]),S 2 6 32] [(1,9)]) .ret))))}
theorem y3q:Gam.fn 33=some v3z:=by kernel_rfl
def x6f:ACode:=(.seq (.seq (.region 4 [M 48 10,M 49 9,N 50 (.len .sl (.tmp 49)),N 51 (.binOp .lss (.one .int) (.tmp 48) (.tmp 50))] []) (.cond (.tmp 51) .skip (.exit 2))) (.seq (.block 3 (.seq (.region 16 [A 54 7 1,L 55 54,M 56 10,N 57 (.indexAddr none 2 (.tmp 55) (.tmp 56)),N 58 (.load (some 2) (.tmp 57)),M 59 8,N 60 (.call 55 [(.tmp 58),(.tmp 59)]),N 61 (.load (some 2) (.tmp 2)),M 62 1,M 63 9,M 64 10,N 65 (.indexAddr none 1 (.tmp 63) (.tmp 64)),L 66 65,N 67 (.call 33 [(.tmp 61),(.tmp 62),(.tmp 66)]),N 68 (.call 76 [(.tmp 60),(.tmp 67)]),N 69 (.unOp .not (.tmp 68))] [(6,7),(6,11),(6,12)]) (.cond (.tmp 69) (.seq (.region 1 [N 4 (.move (I 11))] []) .ret) .skip))) (.region 3 [M 52 10,N 53 (.binOp .add (.one .int) (.tmp 52) (I 1)),M 10 53] [])))
def x6g:ACode:=(.seq (.seq (.region 4 [M 17 6,M 18 1,N 19 (.len .sl (.tmp 18)),N 20 (.binOp .lss (.one .int) (.tmp 17) (.tmp 19))] []) (.cond (.tmp 20) .skip (.exit 0))) (.seq (.block 1 (.seq (.region 11 [A 23 2 1,L 24 23,M 25 1,M 26 6,N 27 (.indexAddr none 3 (.tmp 25) (.tmp 26)),A 28 27 0,L 29 28,N 30 (.indexAddr none 5 (.tmp 24) (.tmp 29)),N 31 (.load (some 5) (.tmp 30)),N 7 (.alloc 1 (.agg [(.sl [] .nil),(.sl [] .nil),(.sl [] .nil),(.str []),(.sl [] .nil)])),S 5 7 31] [(1,9),(4,9),(6,9),(7,9),(8,9)]) (.seq (.region 9 [A 32 7 0,L 33 32,M 34 1,M 35 6,N 36 (.indexAddr none 3 (.tmp 34) (.tmp 35)),A 37 36 1,L 38 37,N 39 (.call 52 [(.tmp 33),(.tmp 38)]),M 8 39] []) (.seq (.seq (.region 5 [A 40 7 2,L 41 40,M 42 8,N 43 (.call 53 [(.tmp 41),(.tmp 42),(.const (.sl [] .nil))]),N 44 (.unOp .not (.tmp 43))] []) (.cond (.tmp 44) (.seq (.region 1 [N 4 (.move (I 11))] []) .ret) .skip)) (.seq (.region 4 [M 45 1,M 46 6,N 47 (.call 75 [(.tmp 45),(.tmp 46)]),M 9 47] []) (.seq (.region 1 [N 10 (.move (I 0))] []) (.block 2 (.loop x6f)))))))) (.region 3 [M 21 6,N 22 (.binOp .add (.one .int) (.tmp 21) (I 1)),M 6 22] [])))
def v4a:AFun:=
 {ntmps:=70,nslots:=2,results:=[.tmp 4],byref:=[],owned:=false,
  body:=(.seq (.region 2 [N 2 (.box 0 (.tmp 0)),N 4 (.move (I 0))] []) (.seq (.seq (.region 4 [N 11 (.load (some 2) (.tmp 2)),M 12 1,N 13 (.call 74 [(.tmp 11),(.tmp 12)]),M 5 13] []) (.seq (.region 2 [M 14 5,N 15 (.binOp .neq (.one .int) (.tmp 14) (I 0))] []) (.cond (.tmp 15) (.seq (.region 2 [M 16 5,M 4 16] []) .ret) .skip))) (.seq (.seq (.region 1 [N 6 (.move (I 0))] []) (.block 0 (.loop x6g))) (.seq (.region 1 [N 4 (.move (I 0))] []) .ret))))}
theorem v4b:Gam.fn 32=some v4a:=by kernel_rfl
def v4c:AFun:=
 {ntmps:=17,nslots:=2,results:=[.cell 4 (some 2), .tmp 5],byref:=[],owned:=false,
  body:=(.seq (.region 3 [N 2 (.box 0 (.tmp 0)),N 4 (.alloc 1 (.agg [(.str []),(.sl [] .nil)])),N 5 (.move (I 0))] []) (.seq (.seq (.region 4 [N 7 (.load (some 2) (.tmp 2)),M 8 1,N 9 (.call 32 [(.tmp 7),(.tmp 8)]),M 6 9] []) (.seq (.region 2 [M 10 6,N 11 (.binOp .neq (.one .int) (.tmp 10) (I 0))] []) (.cond (.tmp 11) (.seq (.region 4 [N 12 (.build [(.str []),(.sl [] .nil)] []),M 13 6,S 2 4 12,M 5 13] []) .ret) .skip))) (.seq (.region 5 [N 14 (.load (some 2) (.tmp 2)),M 15 1,N 16 (.call 33 [(.tmp 14),(.tmp 15),(I 0)]),S 2 4 16,N 5 (.move (I 0))] []) .ret)))}
theorem v4d:Gam.fn 73=some v4c:=by kernel_rfl
def j1y:ACode:=(.seq (.seq (.region 4 [M 15 8,M 16 1,N 17 (.len .sl (.tmp 16)),N 18 (.binOp .lss (.one .int) (.tmp 15) (.tmp 17))] []) (.cond (.tmp 18) .skip (.exit 0))) (.seq (.block 1 (.region 8 [M 21 7,N 22 (.load (some 2) (.tmp 2)),M 23 1,M 24 8,N 25 (.call 33 [(.tmp 22),(.tmp 23),(.tmp 24)]),N 26 (.buildSlice 1 false (.agg [(.str []),(.sl [] .nil)]) 1 [(0,(.tmp 25))]),N 27 (.append 2 2 40 false (.tmp 21) (.tmp 26)),M 7 27] [])) (.region 3 [M 19 8,N 20 (.binOp .add (.one .int) (.tmp 19) (I 1)),M 8 20] [])))
def v4e:AFun:=
 {ntmps:=29,nslots:=3,results:=[.tmp 4, .tmp 5],byref:=[],owned:=false,
  body:=(.seq (.region 3 [N 2 (.box 0 (.tmp 0)),N 4 (.move (.const (.sl [] .nil))),N 5 (.move (I 0))] []) (.seq (.seq (.region 4 [N 9 (.load (some 2) (.tmp 2)),M 10 1,N 11 (.call 32 [(.tmp 9),(.tmp 10)]),M 6 11] []) (.seq (.region 2 [M 12 6,N 13 (.binOp .neq (.one .int) (.tmp 12) (I 0))] []) (.cond (.tmp 13) (.seq (.region 3 [M 14 6,N 4 (.move (.const (.sl [] .nil))),M 5 14] []) .ret) .skip))) (.seq (.region 1 [N 7 (.move (.const (.sl [] .nil)))] []) (.seq (.seq (.region 1 [N 8 (.move (I 0))] []) (.block 0 (.loop j1y))) (.seq (.region 3 [M 28 7,M 4 28,N 5 (.move (I 0))] []) .ret)))))}
theorem y3r:Gam.fn 9=some v4e:=by kernel_rfl
def x6h:ACode:=(.seq (.seq (.region 4 [M 11 5,M 12 0,N 13 (.len .sl (.tmp 12)),N 14 (.binOp .lss (.one .int) (.tmp 11) (.tmp 13))] []) (.cond (.tmp 14) .skip (.exit 0))) (.seq (.block 1 (.seq (.region 10 [M 17 0,M 18 5,N 19 (.indexAddr none 5 (.tmp 17) (.tmp 18)),N 20 (.load (some 5) (.tmp 19)),M 21 1,M 22 5,N 23 (.indexAddr none 5 (.tmp 21) (.tmp 22)),N 24 (.load (some 5) (.tmp 23)),N 25 (.call 205 [(.tmp 20),(.tmp 24)]),N 26 (.unOp .not (.tmp 25))] []) (.cond (.tmp 26) (.seq (.region 1 [N 4 (.move (.const (.bool false)))] []) .ret) .skip))) (.region 3 [M 15 5,N 16 (.binOp .add (.one .int) (.tmp 15) (I 1)),M 5 16] [])))
def k3y:AFun:=
 {ntmps:=27,nslots:=0,results:=[.tmp 4],byref:=[],owned:=false,
  body:=(.seq (.region 1 [N 4 (.move (.const (.bool false)))] []) (.seq (.seq (.region 5 [M 6 0,N 7 (.len .sl (.tmp 6)),M 8 1,N 9 (.len .sl (.tmp 8)),N 10 (.binOp .neq (.one .int) (.tmp 7) (.tmp 9))] []) (.cond (.tmp 10) (.seq (.region 1 [N 4 (.move (.const (.bool false)))] []) .ret) .skip)) (.seq (.seq (.region 1 [N 5 (.move (I 0))] []) (.block 0 (.loop x6h))) (.seq (.region 1 [N 4 (.move (.const (.bool true)))] []) .ret))))}
theorem y3s:Gam.fn 131=some k3y:=by kernel_rfl
def q6r:ACode:=(.seq (.seq (.region 4 [M 17 9,M 18 2,N 19 (.len .sl (.tmp 18)),N 20 (.binOp .lss (.one .int) (.tmp 17) (.tmp 19))] []) (.cond (.tmp 20) .skip (.exit 2))) (.seq (.block 3 (.seq (.region 25 [A 23 4 1,L 24 23,M 25 8,N 26 (.indexAddr none 1 (.tmp 24) (.tmp 25)),L 27 26,N 28 (.indexAddr none 5 (.tmp 27) (I 0)),A 29 28 0,L 30 29,N 31 (.binOp .eql (.one .int) (.tmp 30) (I 4)),M 32 31,V 33 (.fieldAddr (.tmp 4) 1) 32,V 34 (.load none (.tmp 33)) 32,V 35 (.move (.tmp 8)) 32,V 36 (.indexAddr none 1 (.tmp 34) (.tmp 35)) 32,V 37 (.load none (.tmp 36)) 32,V 38 (.indexAddr none 5 (.tmp 37) (I 0)) 32,V 39 (.fieldAddr (.tmp 38) 2) 32,V 40 (.load none (.tmp 39)) 32,V 41 (.move (.tmp 2)) 32,V 42 (.move (.tmp 9)) 32,V 43 (.indexAddr none 2 (.tmp 41) (.tmp 42)) 32,V 44 (.fieldAddr (.tmp 43) 0) 32,V 45 (.load none (.tmp 44)) 32,V 46 (.binOp .eql (.one .str) (.tmp 40) (.tmp 45)) 32,N 47 (.pick (.tmp 32) (.tmp 46) (.const (.bool false)))] []) (.cond (.tmp 47) (.region 9 [M 48 3,M 49 9,A 50 5 1,L 51 50,M 52 8,N 53 (.indexAddr none 5 (.tmp 51) (.tmp 52)),N 54 (.load (some 5) (.tmp 53)),N 55 (.indexAddr none 5 (.tmp 48) (.tmp 49)),S 5 55 54] []) .skip))) (.region 3 [M 21 9,N 22 (.binOp .add (.one .int) (.tmp 21) (I 1)),M 9 22] [])))
def x1e:ACode:=(.seq (.seq (.region 5 [M 10 8,A 11 4 1,L 12 11,N 13 (.len .sl (.tmp 12)),N 14 (.binOp .lss (.one .int) (.tmp 10) (.tmp 13))] []) (.cond (.tmp 14) .skip (.exit 0))) (.seq (.block 1 (.seq (.region 1 [N 9 (.move (I 0))] []) (.block 2 (.loop q6r)))) (.region 3 [M 15 8,N 16 (.binOp .add (.one .int) (.tmp 15) (I 1)),M 8 16] [])))
def k3z:AFun:=
 {ntmps:=56,nslots:=2,results:=[],byref:=[3],owned:=false,
  body:=(.seq (.region 2 [N 4 (.box 0 (.tmp 0)),N 5 (.box 1 (.tmp 1))] []) (.seq (.region 1 [N 8 (.move (I 0))] []) (.block 0 (.loop x1e))))}
theorem v4f:Gam.fn 72=some k3z:=by kernel_rfl
def x6i:ACode:=(.seq (.seq (.region 7 [M 54 14,M 55 0,N 56 (.nilCheck (.tmp 55)),A 57 56 1,L 58 57,N 59 (.len .sl (.tmp 58)),N 60 (.binOp .lss (.one .int) (.tmp 54) (.tmp 59))] []) (.cond (.tmp 60) .skip (.exit 4))) (.seq (.block 5 (.seq (.region 15 [M 63 0,N 64 (.nilCheck (.tmp 63)),A 65 64 1,L 66 65,M 67 14,N 68 (.indexAddr none 2 (.tmp 66) (.tmp 67)),A 69 68 0,L 70 69,A 71 8 1,L 72 71,M 73 12,N 74 (.indexAddr none 2 (.tmp 72) (.tmp 73)),A 75 74 0,L 76 75,N 77 (.binOp .eql (.one .str) (.tmp 70) (.tmp 76))] []) (.cond (.tmp 77) (.region 5 [M 78 13,M 79 14,N 80 (.buildSlice 5 false (.int .i64 0) 1 [(0,(.tmp 79))]),N 81 (.append 6 1 8 false (.tmp 78) (.tmp 80)),M 13 81] []) .skip))) (.region 3 [M 61 14,N 62 (.binOp .add (.one .int) (.tmp 61) (I 1)),M 14 62] [])))
def j1z:ACode:=(.seq (.seq (.region 5 [M 47 12,A 48 8 1,L 49 48,N 50 (.len .sl (.tmp 49)),N 51 (.binOp .lss (.one .int) (.tmp 47) (.tmp 50))] []) (.cond (.tmp 51) .skip (.exit 2))) (.seq (.block 3 (.seq (.region 1 [N 13 (.move (.const (.sl [] .nil)))] []) (.seq (.seq (.region 1 [N 14 (.move (I 0))] []) (.block 4 (.loop x6i))) (.seq (.seq (.region 3 [M 82 13,N 83 (.len .sl (.tmp 82)),N 84 (.binOp .eql (.one .int) (.tmp 83) (I 0))] []) (.cond (.tmp 84) .ret .skip)) (.seq (.region 8 [M 85 13,M 86 2,M 87 13,N 88 (.len .sl (.tmp 87)),N 89 (.call 25 [(.tmp 86),(.tmp 88)]),N 90 (.indexAddr none 1 (.tmp 85) (.tmp 89)),L 91 90,M 15 91] []) (.seq (.region 16 [A 92 8 1,L 93 92,M 94 12,N 95 (.indexAddr none 2 (.tmp 93) (.tmp 94)),N 96 (.load (some 2) (.tmp 95)),M 97 0,N 98 (.nilCheck (.tmp 97)),A 99 98 1,L 100 99,M 101 15,N 102 (.indexAddr none 2 (.tmp 100) (.tmp 101)),N 103 (.load (some 2) (.tmp 102)),A 104 8 0,L 105 104,M 106 9,N 107 (.call 72 [(.tmp 96),(.tmp 103),(.tmp 105),(.tmp 106)])] []) (.region 10 [M 108 11,M 109 0,N 110 (.nilCheck (.tmp 109)),A 111 110 0,L 112 111,M 113 15,N 114 (.indexAddr none 1 (.tmp 112) (.tmp 113)),L 115 114,N 116 (.append 7 3 40 true (.tmp 108) (.tmp 115)),M 11 116] []))))))) (.region 3 [M 52 12,N 53 (.binOp .add (.one .int) (.tmp 52) (I 1)),M 12 53] [])))
def j2a:ACode:=(.seq (.seq (.region 5 [M 23 10,A 24 8 0,L 25 24,N 26 (.len .sl (.tmp 25)),N 27 (.binOp .lss (.one .int) (.tmp 23) (.tmp 26))] []) (.cond (.tmp 27) .skip (.exit 0))) (.seq (.block 1 (.region 12 [M 30 9,M 31 2,A 32 8 0,L 33 32,M 34 10,N 35 (.indexAddr none 2 (.tmp 33) (.tmp 34)),A 36 35 1,L 37 36,N 38 (.call 16 [(.tmp 31),(.tmp 37)]),N 39 (.buildSlice 2 false (.agg [(.int .i64 0),(.bool false),(.str []),(.sl [] .nil),(.sl [] .nil)]) 1 [(0,(.tmp 38))]),N 40 (.append 3 5 80 true (.tmp 30) (.tmp 39)),M 9 40] [])) (.region 3 [M 28 10,N 29 (.binOp .add (.one .int) (.tmp 28) (I 1)),M 10 29] [])))
def v4g:AFun:=
 {ntmps:=156,nslots:=13,results:=[],byref:=[],owned:=false,
  body:=(.seq (.region 1 [N 5 (.box 0 (.tmp 1))] []) (.seq (.region 7 [A 18 5 1,L 19 18,M 20 3,N 21 (.indexAddr none 5 (.tmp 19) (.tmp 20)),N 22 (.load (some 5) (.tmp 21)),N 8 (.alloc 1 (.agg [(.sl [] .nil),(.sl [] .nil),(.sl [] .nil),(.str []),(.sl [] .nil)])),S 5 8 22] []) (.seq (.region 1 [N 9 (.move (.const (.sl [] .nil)))] []) (.seq (.seq (.region 1 [N 10 (.move (I 0))] []) (.block 0 (.loop j2a))) (.seq (.region 7 [M 41 3,A 42 8 1,L 43 42,N 44 (.len .sl (.tmp 43)),N 45 (.build [(.int .i64 0),(.sl [] .nil),(.int .i64 0)] [(0,1,(.tmp 41)),(2,1,(.tmp 44))]),N 46 (.buildSlice 4 true (.agg [(.int .i64 0),(.sl [] .nil),(.int .i64 0)]) 1 [(0,(.tmp 45))]),M 11 46] []) (.seq (.seq (.region 1 [N 12 (.move (I 0))] []) (.block 2 (.loop j1z))) (.seq (.region 5 [M 117 11,M 118 9,N 119 (.indexAddr none 3 (.tmp 117) (I 0)),A 120 119 1,S 1 120 118] []) (.seq (.seq (.region 9 [M 121 11,N 122 (.len .sl (.tmp 121)),N 123 (.binOp .gtr (.one .int) (.tmp 122) (I 40)),M 124 123,U 125 (.load (some 2) (.tmp 5)) 124,U 126 (.move (.tmp 11)) 124,U 127 (.call 32 [(.tmp 125),(.tmp 126)]) 124,U 128 (.binOp .neq (.one .int) (.tmp 127) (I 0)) 124,N 129 (.pick (.tmp 124) (.const (.bool true)) (.tmp 128))] []) (.cond (.tmp 129) .ret .skip)) (.seq (.region 9 [N 131 (.load (some 2) (.tmp 5)),M 132 11,N 133 (.call 73 [(.tmp 131),(.tmp 132)]),M 130 133,E 134 130 0,E 135 130 1,N 16 (.alloc 8 (.agg [(.str []),(.sl [] .nil)])),S 2 16 134,M 17 135] []) (.region 22 [M 136 0,M 137 0,M 138 0,N 139 (.nilCheck (.tmp 138)),A 140 139 0,L 141 140,M 142 11,N 143 (.buildSlice 9 false (.sl [] .nil) 1 [(0,(.tmp 142))]),N 144 (.append 10 1 24 false (.tmp 141) (.tmp 143)),M 145 0,N 146 (.nilCheck (.tmp 145)),A 147 146 1,L 148 147,N 149 (.load (some 2) (.tmp 16)),N 150 (.buildSlice 11 false (.agg [(.str []),(.sl [] .nil)]) 1 [(0,(.tmp 149))]),N 151 (.append 12 2 40 false (.tmp 148) (.tmp 150)),N 152 (.nilCheck (.tmp 136)),A 153 152 0,S 1 153 144,N 154 (.nilCheck (.tmp 137)),A 155 154 1,S 1 155 151] [(5,7),(7,12),(8,12),(7,13),(8,13),(5,14),(7,14),(8,14),(12,14)]))))))))))}
theorem y3t:Gam.fn 31=some v4g:=by kernel_rfl
def x1f:ACode:=(.seq (.seq (.region 14 [M 11 7,N 12 (.binOp .lss (.one .int) (.tmp 11) (I 60)),M 13 12,V 14 (.fieldAddr (.tmp 2) 1) 13,V 15 (.load none (.tmp 14)) 13,V 16 (.len .sl (.tmp 15)) 13,V 17 (.binOp .gtr (.one .int) (.tmp 16) (I 0)) 13,N 18 (.pick (.tmp 13) (.tmp 17) (.const (.bool false))),M 19 18,V 20 (.fieldAddr (.tmp 6) 0) 19,V 21 (.load none (.tmp 20)) 19,V 22 (.len .sl (.tmp 21)) 19,V 23 (.binOp .lss (.one .int) (.tmp 22) (I 20)) 19,N 24 (.pick (.tmp 19) (.tmp 23) (.const (.bool false)))] []) (.cond (.tmp 24) .skip (.exit 0))) (.seq (.block 1 (.seq (.region 6 [M 27 7,A 28 2 1,L 29 28,N 30 (.len .sl (.tmp 29)),N 31 (.binOp .rem (.one .int) (.tmp 27) (.tmp 30)),M 8 31] []) (.seq (.seq (.region 2 [M 32 5,N 33 (.call 26 [.tmp 32])] []) (.cond (.tmp 33) (.region 6 [M 34 5,A 35 2 1,L 36 35,N 37 (.len .sl (.tmp 36)),N 38 (.call 25 [(.tmp 34),(.tmp 37)]),M 8 38] []) .skip)) (.region 4 [N 39 (.load (some 2) (.tmp 2)),M 40 5,M 41 8,N 42 (.call 31 [(.tmp 6),(.tmp 39),(.tmp 40),(.tmp 41)])] [])))) (.region 3 [M 25 7,N 26 (.binOp .add (.one .int) (.tmp 25) (I 1)),M 7 26] [])))
def v4h:AFun:=
 {ntmps:=44,nslots:=3,results:=[.cell 4 (some 2)],byref:=[],owned:=false,
  body:=(.seq (.region 2 [N 2 (.box 0 (.tmp 0)),N 4 (.alloc 1 (.agg [(.sl [] .nil),(.sl [] .nil)]))] []) (.seq (.region 3 [M 9 1,N 10 (.call 15 [.tmp 9]),M 5 10] []) (.seq (.region 1 [N 6 (.alloc 2 (.agg [(.sl [] .nil),(.sl [] .nil)]))] []) (.seq (.seq (.region 1 [N 7 (.move (I 0))] []) (.block 0 (.loop x1f))) (.seq (.region 2 [N 43 (.load (some 2) (.tmp 6)),S 2 4 43] []) .ret)))))}
theorem y3u:Gam.fn 8=some v4h:=by kernel_rfl
def x1g:ACode:=(.seq (.seq (.region 14 [M 68 14,A 69 6 5,L 70 69,N 71 (.len .sl (.tmp 70)),N 72 (.binOp .lss (.one .int) (.tmp 68) (.tmp 71)),M 73 72,V 74 (.fieldAddr (.tmp 8) 1) 73,V 75 (.load none (.tmp 74)) 73,V 76 (.move (.tmp 9)) 73,V 77 (.indexAddr none 2 (.tmp 75) (.tmp 76)) 73,V 78 (.fieldAddr (.tmp 77) 0) 73,V 79 (.load none (.tmp 78)) 73,V 80 (.binOp .eql (.one .str) (.tmp 79) (.const (.str []))) 73,N 81 (.pick (.tmp 73) (.tmp 80) (.const (.bool false)))] []) (.cond (.tmp 81) .skip (.exit 6))) (.seq (.block 7 (.seq (.region 11 [A 84 6 5,L 85 84,M 86 14,N 87 (.indexAddr none 1 (.tmp 85) (.tmp 86)),L 88 87,M 89 10,M 90 12,N 91 (.indexAddr none 2 (.tmp 89) (.tmp 90)),A 92 91 0,L 93 92,N 94 (.binOp .eql (.one .str) (.tmp 88) (.tmp 93))] []) (.cond (.tmp 94) (.seq (.region 1 [N 4 (.move (.const (.bool false)))] []) .ret) .skip))) (.region 3 [M 82 14,N 83 (.binOp .add (.one .int) (.tmp 82) (I 1)),M 14 83] [])))
def j2b:ACode:=(.seq (.seq (.region 5 [M 50 13,A 51 6 6,L 52 51,N 53 (.len .sl (.tmp 52)),N 54 (.binOp .lss (.one .int) (.tmp 50) (.tmp 53))] []) (.cond (.tmp 54) .skip (.exit 4))) (.seq (.block 5 (.seq (.region 11 [A 57 6 6,L 58 57,M 59 13,N 60 (.indexAddr none 1 (.tmp 58) (.tmp 59)),L 61 60,M 62 10,M 63 12,N 64 (.indexAddr none 2 (.tmp 62) (.tmp 63)),A 65 64 0,L 66 65,N 67 (.binOp .eql (.one .str) (.tmp 61) (.tmp 66))] []) (.cond (.tmp 67) (.seq (.region 1 [N 4 (.move (.const (.bool false)))] []) .ret) .skip))) (.region 3 [M 55 13,N 56 (.binOp .add (.one .int) (.tmp 55) (I 1)),M 13 56] [])))
def j2c:ACode:=(.seq (.seq (.region 4 [M 44 12,M 45 10,N 46 (.len .sl (.tmp 45)),N 47 (.binOp .lss (.one .int) (.tmp 44) (.tmp 46))] []) (.cond (.tmp 47) .skip (.exit 2))) (.seq (.block 3 (.seq (.seq (.region 1 [N 13 (.move (I 0))] []) (.block 4 (.loop j2b))) (.seq (.region 1 [N 14 (.move (I 0))] []) (.block 6 (.loop x1g))))) (.region 3 [M 48 12,N 49 (.binOp .add (.one .int) (.tmp 48) (I 1)),M 12 49] [])))
def j2d:ACode:=(.seq (.seq (.region 5 [M 25 9,A 26 8 0,L 27 26,N 28 (.len .sl (.tmp 27)),N 29 (.binOp .lss (.one .int) (.tmp 25) (.tmp 28))] []) (.cond (.tmp 29) .skip (.exit 0))) (.seq (.block 1 (.seq (.region 12 [N 33 (.load (some 2) (.tmp 5)),A 34 8 0,L 35 34,M 36 9,N 37 (.indexAddr none 1 (.tmp 35) (.tmp 36)),L 38 37,N 39 (.call 9 [(.tmp 33),(.tmp 38)]),M 32 39,E 40 32 0,E 41 32 1,M 10 40,M 11 41] []) (.seq (.seq (.region 2 [M 42 11,N 43 (.binOp .neq (.one .int) (.tmp 42) (I 0))] []) (.cond (.tmp 43) (.seq (.region 1 [N 4 (.move (.const (.bool false)))] []) .ret) .skip)) (.seq (.region 1 [N 12 (.move (I 0))] []) (.block 2 (.loop j2c)))))) (.region 3 [M 30 9,N 31 (.binOp .add (.one .int) (.tmp 30) (I 1)),M 9 31] [])))
def v4i:AFun:=
 {ntmps:=100,nslots:=3,results:=[.tmp 4],byref:=[],owned:=false,
  body:=(.seq (.region 1 [N 4 (.move (.const (.bool false)))] []) (.seq (.region 4 [M 15 0,N 16 (.call 6 [.tmp 15]),N 5 (.alloc 0 (.agg [(.sl [] .nil),(.sl [] .nil)])),S 2 5 16] []) (.seq (.region 8 [N 18 (.load (some 2) (.tmp 5)),N 19 (.call 7 [.tmp 18]),M 17 19,E 20 17 0,E 21 17 1,N 6 (.alloc 1 (.agg [(.int .i64 0),(.str []),(.str []),(.int .i64 0),(.int .i64 0),(.sl [] .nil),(.sl [] .nil),(.sl [] .nil)])),S 8 6 20,M 7 21] []) (.seq (.region 5 [N 22 (.load (some 2) (.tmp 5)),M 23 1,N 24 (.call 8 [(.tmp 22),(.tmp 23)]),N 8 (.alloc 2 (.agg [(.sl [] .nil),(.sl [] .nil)])),S 2 8 24] []) (.seq (.seq (.region 1 [N 9 (.move (I 0))] []) (.block 0 (.loop j2d))) (.seq (.region 6 [M 95 7,N 96 (.binOp .eql (.one .int) (.tmp 95) (I 0)),M 97 96,V 98 (.call 10 []) 97,N 99 (.pick (.tmp 97) (.tmp 98) (.const (.bool false))),M 4 99] []) .ret))))))}
theorem y3v:Gam.fn 3=some v4i:=by kernel_rfl
end
theorem j5o {t:List TN} {i:Nat} {u:Tip} (hl:t.length≤5000) (hk:∀ x∈t,x.kids≤1000000) (hi:i≤5000):Pure Gam 130 [.sl (t.map eTN) u, .int .i64 (i:Int)] (.int .i64 (x6e t i)):=by
 refine Pure.of rfl y3m rfl rfl rfl (az:=[.sl (t.map eTN) .no, .int .i64 (i:Int)]) rfl (by simp[z0i,AV.ids,z0d fun _=>x1b]) fun D B clk T hB hT=> ?_
 have e0:decide ((i:Int) < 0)=false:=by rw[n9];omega
 by_cases hlt:i < t.length
 ·have e1:decide ((t.length:Int)≤(i:Int))=false:=by rw[n9];omega
  have hx:=fun h=>x1c (l:=t) (i:=i) (h:=h) (t:= .no) (k:= .i64) hlt
  have e2:decide (((t[i].kids:Nat):Int) < 0)=false:=by rw[n9];omega
  have he:x6e t i=if t.length < t[i].kids then -1 else endF t.length (t.drop (i + 1)) (0 + t[i].kids) (i + 1):=by
   unfold x6e
   rw[b6 hlt]
   rfl
  by_cases hb:t.length < t[i].kids
  ·rw[he,if_pos hb] at hT
   have e3:decide ((t.length:Int) < (t[i].kids:Int))=true:=by rw[r8];omega
   simp only[go_sem,j5n,hB,e0,e1,e2,e3,hx,z6]
   rw[z2c]
   exact hT _
  ·have e3:decide ((t.length:Int) < (t[i].kids:Int))=false:=by rw[n9];omega
   simp only[go_sem,j5n,hB,e0,e1,e2,e3,hx,z6]
   clear e2 e3 hx hb he e1 e0
   refine z1f (fun m q=>∃ j L:Nat,j≤t.length∧m=t.length - j∧L≤1 + j * 1000000∧endF t.length (t.drop j) L j=x6e t i∧q.ts 0= .sl (t.map eTN) .no∧q.ts 1= .int .i64 (j:Int)∧q.ts 5= .int .i64 (L:Int)) _ ⟨i,1,by omega,rfl,by omega,rfl,rfl,rfl,rfl⟩ ?_
   rintro m ⟨ts,h,clk⟩ P ⟨j,L,hj,rfl,hL,hend,q0,q1,q5⟩ hnx hex hret
   dsimp only at q0 q1 q5
   cases L with
   | zero=>
     rw[q2g] at hend
     have f0:decide ((0:Int) < 0)=false:=rfl
     simp only[go_sem,x1d,q0,q1,q5,hB,f0]
     refine hex _ _ ?_
     rw[←hend] at hT
     simp only[go_sem,q1]
     rw[z2c]
     exact hT _
   | succ L=>
     have f0:decide ((0:Int) < ((L + 1:Nat):Int))=true:=by rw[r8];omega
     by_cases hjl:j < t.length
     ·have f1:decide ((t.length:Int)≤(j:Int))=false:=by rw[n9];omega
      have f2:decide (((t[j].kids:Nat):Int) < 0)=false:=by rw[n9];omega
      have f5:IntKind.i64.wrap ((j:Int) + 1)=((j + 1:Nat):Int):=z0c (by omega) (by omega)
      have hx:=fun h=>x1c (l:=t) (i:=j) (h:=h) (t:= .no) (k:= .i64) hjl
      have hkj:=hk _ (x8 hjl)
      rw[b6 hjl] at hend
      simp only[endF] at hend
      by_cases hb:t.length < t[j].kids
      ·rw[if_pos hb] at hend
       rw[←hend] at hT
       have f3:decide ((t.length:Int) < (t[j].kids:Int))=true:=by rw[r8];omega
       simp only[go_sem,x1d,q0,q1,q5,hB,f0,f1,f2,f3,hx,z6]
       refine hret _ ?_
       simp only[go_sem,]
       rw[z2c]
       exact hT _
      ·rw[if_neg hb] at hend
       have f3:decide ((t.length:Int) < (t[j].kids:Int))=false:=by rw[n9];omega
       have f4:IntKind.i64.wrap ((t[j].kids:Int) - 1)=(t[j].kids:Int) - 1:=z0c (by omega) (by omega)
       have f6:IntKind.i64.wrap (((L + 1:Nat):Int) + ((t[j].kids:Int) - 1))=((L + t[j].kids:Nat):Int):=by rw[z0c (by omega) (by omega)];omega
       simp only[go_sem,x1d,q0,q1,q5,hB,f0,f1,f2,f3,f4,f5,f6,hx,z6]
       exact hnx _ _ (by omega) ⟨j + 1,L + t[j].kids,hjl,rfl,by omega,hend,q0,rfl,rfl⟩
     ·have f1:decide ((t.length:Int)≤(j:Int))=true:=by rw[r8];omega
      rw[List.drop_eq_nil_of_le (by omega)] at hend
      simp only[endF] at hend
      rw[←hend] at hT
      simp only[go_sem,x1d,q0,q1,q5,hB,f0,f1,z6]
      refine hret _ ?_
      simp only[go_sem,]
      rw[z2c]
      exact hT _
 ·have e1:decide ((t.length:Int)≤(i:Int))=true:=by rw[r8];omega
  have he:x6e t i= -1:=by
   unfold x6e
   rw[List.drop_eq_nil_of_le (by omega)]
   rfl
  rw[he] at hT
  simp only[go_sem,j5n,hB,e0,e1,z6]
  rw[z2c]
  exact hT _
theorem v0f {t:List TN} {u:Tip} (hl:t.length≤4096) (hk:∀ x∈t,x.kids≤1000000):Pure Gam 129 [.sl (t.map eTN) u] (.bool (decide (x6e t 0=(t.length:Int)))):=by
 have p:Pure Gam 130 [.sl (t.map eTN) .no, .int .i64 0] (.int .i64 (x6e t 0)):=j5o (i:=0) (by omega) hk (by omega)
 have e0:decide ((t.length:Int)≤4096)=true:=by rw[r8];omega
 refine Pure.of rfl y3l rfl rfl rfl (az:=[.sl (t.map eTN) .no]) rfl (by simp[z0i,AV.ids,z0d fun _=>x1b]) fun D B clk T hB hT=> ?_
 simp only[go_sem,v3w,hB,e0,z6,z0a p]
 rw[z0e]
 exact hT _
theorem v0g {t:List TN} {i:Nat} {u:Tip} (hl:t.length≤4096) (hk:∀ x∈t,x.kids≤1000000) (hw:WfT t) (hi:i < t.length):Pure Gam 75 [.sl (t.map eTN) u, .int .i64 (i:Int)] (.sl ((q5p t (i + 1) t[i].kids).map nat) .no):=by
 obtain⟨hrun,hkl⟩:=k3v hw hi
 refine Pure.of rfl y3n rfl rfl rfl (az:=[.sl (t.map eTN) .no, .int .i64 (i:Int)]) rfl (by simp[z0i,AV.ids,z0d fun _=>x1b]) fun D B clk T hB hT=> ?_
 have e0:IntKind.i64.wrap ((i:Int) + 1)=((i + 1:Nat):Int):=z0c (by omega) (by omega)
 have hx:=fun h=>x1c (l:=t) (i:=i) (h:=h) (t:= .no) (k:= .i64) hi
 simp only[go_sem,v3x,hB,e0]
 have hkk:t[i].kids≤4096:=by omega
 generalize hkn:t[i].kids=n at *
 refine z6h n (by omega) (fun j q=>∃ (t':Tip) (o0 o1:AObj) (done:List Nat) (a:Nat),done.length=j∧a≤4096∧RunT t a (n - j)∧q5p t (i + 1) n=done++q5p t a (n - j)∧q.ts 0= .sl (t.map eTN) .no∧q.ts 1= .int .i64 (i:Int)∧q.ts 5= .sl (done.map nat) t'∧q.ts 6= .int .i64 (a:Int)∧q.ts 7= .int .i64 (j:Int)∧q.h=D++[o0,o1]∧q3e B 1 o1 t' 1) ⟨.nil,_,_,[],i + 1,rfl,by omega,hrun,rfl,rfl,rfl,rfl,rfl,rfl,rfl, .inl rfl⟩ ?_ ?_
 ·rintro j hlt f1 f2 ts h clk P ⟨t',o0,o1,done,a,hd,ha,hr,he,q0,q1,q5,q6,q7,rfl,ht⟩ hnx hex hret
  dsimp only at q0 q1 q5 q6 q7
  obtain⟨m,hm⟩:∃ m,n - j=m + 1:=⟨n - j - 1,by omega⟩
  rw[hm] at hr he
  obtain⟨r1,r2,r3⟩:=hr.step
  have p:=j5o (i:=a) (u:= .no) (t:=t) (by omega) hk (by omega)
  rw[r2] at p
  have e8:done.map nat++[a].map nat=(done++[a]).map nat:=by rw[v8]
  have hend:(x6e t a).toNat≤4096:=by
   have:=k3u (show endF t.length (t.drop a) 1 a=((x6e t a).toNat:Int) from r2)
   rw[List.length_drop] at this
   omega
  simp only[q5p] at he
  generalize (x6e t a).toNat=a' at *
  simp only[go_sem,j1v,q0,q1,q5,q6,q7,hB,f1,hx,hkn,f2]
  rw[show [AV.int .i64 (a:Int)]=[a].map nat from rfl,z1c hB rfl ht (z1u fun _=>⟨rfl,rfl,rfl⟩) (z1u fun _=>⟨rfl,rfl,rfl⟩) (by simp only[z6,v6];omega),e8]
  simp only[go_sem,q0,q1,q5,q6,q7,hB,f2,z0a p]
  exact hnx _ ⟨_,_,_,done++[a],a',by simp[hd],hend,by rw[show n - (j + 1)=m by omega];exact r3,by rw[show n - (j + 1)=m by omega,List.append_assoc];exact he,q0,q1,rfl,rfl,rfl,rfl, .inr (.inr ⟨_,rfl,rfl⟩)⟩
 ·rintro f1 ts h clk P ⟨t',o0,o1,done,a,hd,ha,hr,he,q0,q1,q5,q6,q7,rfl,ht⟩ hex hret
  dsimp only at q0 q1 q5 q6 q7
  rw[Nat.sub_self] at he
  simp only[q5p,List.append_nil] at he
  rw[←he] at q5
  simp only[go_sem,j1v,q0,q1,q5,q6,q7,hB,f1,hx,hkn]
  refine hex _ _ ?_
  simp only[go_sem,q5]
  rw[z2y rfl (by simp[AV.cv,AV.ids,z0d fun _=>z3f])]
  exact hT _
theorem q5q:(z1z.map (·.name)).Nodup:=by decide
theorem z8v {l:List Clause} {i:Nat} {h:List AObj} {t:Tip} {k:IntKind} (hi:i < l.length):z1v h 5 (.sl (l.map z0j) t) (.int k (i:Int))=some (.iptr [.sl (l[i].vars.map z2b) .no, .sl (l[i].body.map z4q) .no, .sl (l[i].guard.map eNode) .no, .str l[i].head.pred, .sl (l[i].head.args.map z0w) .no] 0,h):=z3v hi rfl rfl
section
def k4a (a b:List Val):Bool:=decide (a.length=b.length) && (List.zipWith q6o a b).all id
def x6j (a:List Val):Prop:=∀ v∈a,∃ m s,VOk m s v∧m≤330000
theorem v0h {a b:List Val} {u w:Tip} (ha:x6j a) (hl:a.length≤1000):Pure Gam 131 [.sl (a.map eV) u, .sl (b.map eV) w] (.bool (k4a a b)):=by
 refine Pure.of rfl y3s rfl rfl rfl (az:=[.sl (a.map eV) .no, .sl (b.map eV) .no]) rfl (by simp[z0i,AV.ids,z2q]) fun D B clk T hB hT=> ?_
 unfold k4a at hT
 by_cases hlen:a.length=b.length
 ·have e0:decide ((a.length:Int)=(b.length:Int))=true:=by rw[r8];omega
  rw[decide_eq_true hlen,Bool.true_and] at hT
  simp only[go_sem,k3y,hB,z6,e0,z8]
  refine z6h a.length (by omega) (fun i q=>(∀ j,j < i→(h:j < (List.zipWith q6o a b).length)→(List.zipWith q6o a b)[j]=true)∧q.ts 0= .sl (a.map eV) .no∧q.ts 1= .sl (b.map eV) .no∧q.ts 5= .int .i64 (i:Int)) ⟨fun j h=>by omega,rfl,rfl,rfl⟩ ?_ ?_
  ·rintro i hlt f1 f2 ts hh clk P ⟨hall,q0,q1,q5⟩ hnx he hr
   dsimp only at q0 q1 q5
   have hlb:i < b.length:=by omega
   have hx:=fun h=>x9c (vs:=a) (i:=i) (h:=h) (t:= .no) (k:= .i64) hlt
   have hy:=fun h=>x9c (vs:=b) (i:=i) (h:=h) (t:= .no) (k:= .i64) hlb
   obtain⟨m,s,hv,hm⟩:=ha _ (x8 hlt)
   have p:=v3u (b:=b[i]) hv hm
   have hzi:i < (List.zipWith q6o a b).length:=by rw[List.length_zipWith];omega
   have hz:(List.zipWith q6o a b)[i]=q6o a[i] b[i]:=List.getElem_zipWith
   simp only[eV,value,nat] at p
   cases hb:q6o a[i] b[i] <;> rw[hb] at p hz
   ·have hf:(List.zipWith q6o a b).all id=false:=List.all_eq_false.2 ⟨_,x8 hzi,by rw[hz];simp⟩
    rw[hf] at hT
    simp only[go_sem,x6h,nat,q0,q1,q5,hB,f1,z6,hx,hy,z0a p,x6]
    refine hr _ ?_
    simp only[go_sem,]
    rw[z0e]
    exact hT _
   ·simp only[go_sem,x6h,nat,q0,q1,q5,hB,f1,f2,z6,hx,hy,z0a p,z8]
    refine hnx _ ⟨fun j hj h=> ?_,q0,q1,rfl⟩
    by_cases hji:j < i
    ·exact hall j hji h
    ·obtain rfl:j=i:=by omega
     exact hz
  ·rintro f1 ts hh clk P ⟨hall,q0,q1,q5⟩ he hr
   dsimp only at q0 q1 q5
   have hf:(List.zipWith q6o a b).all id=true:=by
    rw[y9]
    intro x hx
    obtain⟨j,hj,rfl⟩:=d5.1 hx
    exact hall j (by rw[List.length_zipWith] at hj;omega) hj
   rw[hf] at hT
   simp only[go_sem,x6h,q0,q1,q5,hB,f1,z6]
   refine he _ _ ?_
   simp only[go_sem,]
   rw[z0e]
   exact hT _
 ·have e0:decide ((a.length:Int)=(b.length:Int))=false:=by rw[n9];omega
  rw[decide_eq_false hlen,Bool.false_and] at hT
  simp only[go_sem,k3y,hB,z6,e0,x6]
  rw[z0e]
  exact hT _
abbrev Fct:=List Nat×List Val
def eF (f:Fct):AV:=q3a f.1 f.2
theorem j8a {f:Fct}:(eF f).ids=[]:=v0e
def x9f (f g:Fct):Bool:=decide (f.1=g.1) && k4a f.2 g.2
theorem v0i {f g:Fct} (ha:x6j f.2) (hl:f.2.length≤1000):Pure Gam 76 [eF f,eF g] (.bool (x9f f g)):=by
 have p:=v0h (b:=g.2) (u:= .no) (w:= .no) ha hl
 refine Pure.of rfl y3p rfl rfl rfl (az:=[eF f,eF g]) rfl (by simp[z0i,j8a]) fun D B clk T hB hT=> ?_
 unfold x9f at hT
 cases h1:decide (f.1=g.1) <;> rw[h1] at hT
 ·simp only[go_sem,k3x,hB,eF,q3a,h1]
  rw[z0e]
  exact hT _
 ·simp only[go_sem,k3x,hB,eF,q3a,h1,z0a p]
  rw[z0e]
  exact hT _
structure FitM (K:Nat) (V:List Var) (vs:List Val):Prop where
 len:vs.length=V.length
 ok:∀ i (h:i < V.length) (h2:i < vs.length),VM K V[i].sort vs[i]
theorem FitM.k {K:Nat} {V:List Var} {vs:List Val} (h:FitM K V vs) (hK:1≤K):FitK K V vs:=⟨h.len,fun i h1 h2=>(h.ok i h1 h2).ok hK⟩
theorem FitM.up {K K':Nat} {V:List Var} {vs:List Val} (h:FitM K V vs) (hK:K≤K'):FitM K' V vs:=⟨h.len,fun i h1 h2=>(h.ok i h1 h2).up hK⟩
theorem u1b {K:Nat} {V:List Var} {vs:List Val} (hK:1≤K) (hn:(V.map (·.name)).Nodup) (h:FitM K V vs):v3v K V (q2f V vs):=by
 refine⟨hK,fun v hv=> ?_⟩
 obtain⟨i,hi,rfl⟩:=d5.1 hv
 have hi2:i < vs.length:=by rw[h.len];exact hi
 have hie:i < (q2f V vs).length:=by rw[q6q h.len];exact hi
 refine⟨vs[i], ?_,h.ok i hi hi2⟩
 rw[List.find?_eq_some_iff_getElem]
 refine⟨by simp,i,hie,x3o hie hi hi2,fun j hj=> ?_⟩
 rw[x3o (by omega) (by omega) (by omega)]
 have:V[j].name≠V[i].name:=fun e=>by
  have:=(List.getElem_inj (xs:=V.map (·.name)) (i:=j) (j:=i) (h₀:=by simp;omega) (h₁:=by simpa using hi) hn).1 (by simpa using e)
  omega
 simp[this]
def KOk (K:Nat):Prop:=1≤K∧K * 3201≤330000
noncomputable section
def x3q (s:Sys) (x:TN):List (List Nat×Val):=q2f (clOf s x.cl).vars x.vals
def x3r (env:List (List Nat×Val)) (a:App):Fct:=(a.pred,a.args.map (q0e env))
def headF (s:Sys) (x:TN):Fct:=x3r (x3q s x) (clOf s x.cl).head
def j8b (s:Sys) (x:TN) (j:Nat):Fct:=x3r (x3q s x) ((clOf s x.cl).body.getD j ⟨[],[]⟩)
def tnAt (t:List TN) (i:Nat):TN:=t.getD i ⟨0,[],0⟩
def y3w (t:List TN) (i j:Nat):Nat:=(q5p t (i + 1) (tnAt t i).kids).getD j 0
def k4b (s:Sys) (t:List TN) (i:Nat):Bool:=(q0e (x3q s (tnAt t i)) (clOf s (tnAt t i).cl).guard).b && (List.range (tnAt t i).kids).all fun j=>x9f (j8b s (tnAt t i) j) (headF s (tnAt t (y3w t i j)))
def treeB (s:Sys) (t:List TN):Bool:=(List.range t.length).all (k4b s t)
end
structure NodeT (s:Sys) (K:Nat) (x:TN):Prop where
 cl:x.cl < s.clauses.length
 kids:x.kids=(clOf s x.cl).body.length
 fit:FitM K (clOf s x.cl).vars x.vals
structure TreeT (s:Sys) (K:Nat) (t:List TN):Prop where
 len:t.length≤4096
 nodes:∀ x∈t,NodeT s K x
 wf:WfT t
theorem q2h {s:Sys} {n:Nat} (h:n < s.clauses.length):clOf s n=s.clauses[n]:=by simp[clOf,n8,v9 h]
theorem j2e {t:List TN} {i:Nat} (h:i < t.length):tnAt t i=t[i]:=by simp[tnAt,n8,v9 h]
section
variable {s:Sys} {K:Nat} {x:TN}
theorem q2z (hs:SysV s) (hK:KOk K) (hx:NodeT s K x):ClauseOk s.preds (clOf s x.cl)∧(∀ v∈(clOf s x.cl).vars,v∈z1z)∧v3v K (clOf s x.cl).vars (x3q s x)∧q7n K (clOf s x.cl).vars (x3q s x)∧(∀ p∈x3q s x,∃ m s,VOk m s p.2∧m≤330000)∧(x3q s x).length≤1000∧(clOf s x.cl).vars.length≤8:=by
 have hc:=hs.clauses _ (x8 hx.cl)
 rw[←q2h hx.cl] at hc
 obtain⟨hK1,hK2⟩:=hK
 have hvl:(clOf s x.cl).vars.length≤8:=hc.1.length_le
 have hnd:((clOf s x.cl).vars.map (·.name)).Nodup:=q5q.sublist (hc.1.map _)
 have hfk:=hx.fit.k hK1
 exact⟨hc,fun v h=>hc.1.mem h,u1b hK1 hnd hx.fit,y3j (by omega) hnd hfk,v0b (by omega) hfk,by unfold x3q;rw[q6q hfk.len];omega,hvl⟩
theorem q5r {ps:List Func} {V:List Var} {env:List (List Nat×Val)} {a:App} (hp:PrOk ps) (hK:KOk K) (he:v3v K V env) (ha:AppOk ps V a):(x3r env a).2.length≤40∧(∀ t∈a.args,∃ s,u1a K V s t)∧∃ f∈ps,a.pred=f.name∧a.args.length=f.args.length∧∀ i (h1:i < f.args.length) (h2:i < (x3r env a).2.length),VM (K + 5) f.args[i] (x3r env a).2[i]:=by
 obtain⟨f,hf,hn,hl,hz⟩:=ha
 obtain⟨hK1,hK2⟩:=hK
 have h40:=(hp.args f hf).1
 have key:∀ i (h1:i < f.args.length) (h2:i < a.args.length),GT V f.args[i] 5 66 a.args[i]:=fun i h1 h2=>by
  have hm:(f.args[i],a.args[i])∈f.args.zip a.args:=by
   have:(f.args.zip a.args)[i]? =some (f.args[i],a.args[i]):=by simp[List.getElem?_zip_eq_some,h1,h2]
   exact List.mem_of_getElem? this
  exact hz _ hm
 refine⟨by simp[x3r];omega,fun t ht=> ?_,f,hf,hn,hl,fun i h1 h2=> ?_⟩
 ·obtain⟨i,hi,rfl⟩:=d5.1 ht
  obtain⟨g1,g2,g3,g4⟩:=key i (by omega) hi
  refine⟨_,5,g1,by omega, ?_,by omega,g3⟩
  refine j1 (Nat.mul_le_mul_left _ (show a.args[i].length + 1≤3201 by omega)) hK2
 ·have hi:i < a.args.length:=by simpa [x3r] using h2
  obtain⟨g1,g2,g3,g4⟩:=key i h1 hi
  have:=v0a he g1 (by omega)
  simpa [x3r] using this
theorem VM.small {m s:Nat} {v:Val} (h:VM m s v) (h1:1≤m) (h2:m≤330000):∃ m s,VOk m s v∧m≤330000:=⟨_,_,h.ok h1,h2⟩
theorem v0j {ps:List Func} {V:List Var} {env:List (List Nat×Val)} {a:App} (hp:PrOk ps) (hK:KOk K) (he:v3v K V env) (ha:AppOk ps V a):x6j (x3r env a).2:=by
 obtain⟨h1,_,f,_,_,hl,h2⟩:=q5r hp hK he ha
 intro v hv
 obtain⟨i,hi,rfl⟩:=d5.1 hv
 have hif:i < f.args.length:=by simp[x3r] at hi;omega
 exact (h2 i hif hi).small (by omega) (by have:=hK.2;omega)
theorem j5p (hs:SysV s) (hK:KOk K) (hx:NodeT s K x) {a:App} (ha:AppOk s.preds (clOf s x.cl).vars a):Pure Gam 55 [z4q a, .sl ((x3q s x).map eB) .no] (eF (x3r (x3q s x) a)):=by
 obtain⟨_,hV,hM,he,hev,hel,_⟩:=q2z hs hK hx
 obtain⟨h40,hev2,_⟩:=q5r hs.pr hK hM ha
 exact j5l hV he hev hel (by simp[x3r] at h40;omega) hev2
theorem k4c (hs:SysV s) (hK:KOk K) (hx:NodeT s K x):Pure Gam 55 [z4q (clOf s x.cl).head, .sl ((x3q s x).map eB) .no] (eF (headF s x)):=by
 obtain⟨hc,hV,hM,he,hev,hel,_⟩:=q2z hs hK hx
 rcases hc.2.2.2.2 with ⟨_,h2⟩ | h
 ·exact j5l hV he hev hel (by rw[h2];simp) (by rw[h2];simp)
 ·exact j5p hs hK hx h
end
theorem x6k {s:Sys} {K:Nat} {t:List TN} {i:Nat} {u:Tip} (hs:SysV s) (hK:KOk K) (ht:TreeT s K t) (hi:i < t.length):Pure Gam 33 [z4e s, .sl (t.map eTN) u, .int .i64 (i:Int)] (eF (headF s t[i])):=by
 have hx:=ht.nodes _ (x8 hi)
 have p24:=k4c hs hK hx
 obtain⟨hc,hV,hM,he,hev,hel,hvl⟩:=q2z hs hK hx
 have p21:=j5k (V:=(clOf s t[i].cl).vars) (vs:=t[i].vals) (u:= .no) (w:= .no) (by omega) hx.fit.len
 have htl:=ht.len
 have hix:=fun h=>x1c (l:=t) (i:=i) (h:=h) (t:= .no) (k:= .i64) hi
 have hcl:=fun h=>z8v (l:=s.clauses) (i:=t[i].cl) (h:=h) (t:= .no) (k:= .i64) hx.cl
 have e1:decide ((t.length:Int)≤(i:Int))=false:=by rw[n9];omega
 unfold x3q at p24
 rw[←q2h hx.cl] at hcl
 generalize clOf s t[i].cl=c at *
 generalize headF s t[i]=f at *
 generalize t[i]=x at *
 simp only[z4q] at p24
 refine Pure.of rfl y3q rfl rfl rfl (az:=[z4e s, .sl (t.map eTN) .no, .int .i64 (i:Int)]) rfl (by simp[z0i,z4j,AV.ids,z0d fun _=>x1b]) fun D B clk T hB hT=> ?_
 rw[eF,q3a] at hT p24
 simp only[go_sem,v3z,hB,z4e,z6,e1,z1p,hix,hcl]
 refine⟨by simp[z1r,apart,z0q,z1n,z1t,AOp.isCall,hB,AV.ids,z0i,z0d z5g,z0d z4b,z0d fun _=>x1b,z2q,z0d z5z,z0d z4r,z0d z2x,z0d z3z], ?_⟩
 simp only[go_sem,hB,hix,z1p,z0a p21,z0a p24,z0t,z0s,z0g]
 refine⟨by simp[z1r,apart,z0q,z1n,z1t,AOp.isCall,hB,AV.ids,z0i,z0d q0z,z2q,z0d z5z,z0d z4r,z0d z2x,z0d z3z], ?_⟩
 rw[z2y rfl (by simp[-List.map_map,AV.cv,cvL,AV.ids,z0i,z2q])]
 exact hT _
end
theorem q1a {l:List TN}:z0i (l.map eTN)=[]:=z0d fun _=>x1b
theorem v0k {s:Sys} {K:Nat} {t:List TN} {u:Tip} (hs:SysV s) (hK:KOk K) (ht:TreeT s K t):Pure Gam 74 [z4e s, .sl (t.map eTN) u] (.int .i64 0):=by
 have p28:=y2y hs
 have hkb:∀ x∈t,x.kids≤1000000:=fun x hx=>by
  have h1:=(ht.nodes x hx).kids
  have h2:=hs.clauses _ (x8 (ht.nodes x hx).cl)
  rw[←q2h (ht.nodes x hx).cl] at h2
  have:=h2.2.1
  omega
 have p86:=v0f (u:= .no) ht.len hkb
 rw[decide_eq_true (show x6e t 0=(t.length:Int) from ht.wf)] at p86
 have htl:=ht.len
 rw[z4e] at p28
 have e0:decide ((4096:Int) < (t.length:Int))=false:=by rw[n9];omega
 refine Pure.of rfl y3o rfl rfl rfl (az:=[z4e s, .sl (t.map eTN) .no]) rfl (by simp[z0i,z4j,AV.ids,q1a]) fun D B clk T hB hT=> ?_
 simp only[go_sem,v3y,hB,z4e,z0a p28,z0a p86,e0,z6,z8]
 refine z6h t.length (by omega) (fun i q=>∃ g0:Nat,q.ts 1= .sl (t.map eTN) .no∧q.ts 2= .ptr (B + 0) g0 0 0∧q.ts 5= .int .i64 (i:Int)∧q.h=D++[.blk g0 [.agg [.sl (s.preds.map z1m) .no, .sl (s.clauses.map z0j) .no]] false false 0]) ⟨_,rfl,rfl,rfl,rfl⟩ ?_ ?_
 ·rintro i hlt f1 f2 ts h clk P ⟨g0,q1,q2,q5,rfl⟩ hnx hex hret
  dsimp only at q1 q2 q5
  have hx:=ht.nodes _ (x8 hlt)
  have hix:=fun h=>x1c (l:=t) (i:=i) (h:=h) (t:= .no) (k:= .i64) hlt
  have hcl:=fun h=>z8v (l:=s.clauses) (i:=t[i].cl) (h:=h) (t:= .no) (k:= .i64) hx.cl
  have e1:decide (((t[i].cl:Nat):Int) < 0)=false:=by rw[n9];omega
  have e2:decide ((s.clauses.length:Int)≤(t[i].cl:Int))=false:=by rw[n9];have:=hx.cl;omega
  have hxc:=hx.cl
  have e3:decide ((t[i].kids:Int)=(s.clauses[t[i].cl].body.length:Int))=true:=by rw[r8,←q2h hx.cl,hx.kids]
  simp only[go_sem,j1x,q1,q2,q5,hB,f1,f2,e1,e2,e3,hix,hcl,z6,z8]
  exact hnx _ ⟨g0,q1,q2,rfl,rfl⟩
 ·rintro f1 ts h clk P ⟨g0,q1,q2,q5,rfl⟩ hex hret
  dsimp only at q1 q2 q5
  simp only[go_sem,j1x,q1,q2,q5,hB,f1,z6]
  refine hex _ _ ?_
  simp only[go_sem,hB]
  refine z6h t.length (by omega) (fun i q=>∃ g0:Nat,q.ts 1= .sl (t.map eTN) .no∧q.ts 2= .ptr (B + 0) g0 0 0∧q.ts 6= .int .i64 (i:Int)∧q.h=D++[.blk g0 [.agg [.sl (s.preds.map z1m) .no, .sl (s.clauses.map z0j) .no]] false false 0]) ⟨g0,by simp[z0b,q1],by simp[z0b,q2],by simp[z0b],rfl⟩ ?_ ?_
  ·clear q1 q2 q5 f1
   rintro i hlt f1 f2 ts h clk P ⟨g0,q1,q2,q6,rfl⟩ hnx hex2 hret2
   dsimp only at q1 q2 q6
   have hx:=ht.nodes _ (x8 hlt)
   have hix:=fun h=>x1c (l:=t) (i:=i) (h:=h) (t:= .no) (k:= .i64) hlt
   have hcl:=fun h=>z8v (l:=s.clauses) (i:=t[i].cl) (h:=h) (t:= .no) (k:= .i64) hx.cl
   have hvl:=(q2z hs hK hx).2.2.2.2.2.2
   have p20:=v0c (u:= .no) (w:= .no) (by omega) (hx.fit.k hK.1) (by have:=hK.2;omega)
   rw[q2h hx.cl] at p20
   simp only[go_sem,j1w,q1,q2,q6,hB,f1,f2,hix,hcl,z6,z0a p20,z8]
   exact hnx _ ⟨g0,q1,q2,rfl,rfl⟩
  ·rintro f1 ts h clk P ⟨g0,q1,q2,q6,rfl⟩ hex2 hret2
   dsimp only at q1 q2 q6
   simp only[go_sem,j1w,q1,q2,q6,hB,f1,z6]
   refine hex2 _ _ ?_
   simp only[go_sem,hB]
   rw[z2c]
   exact hT _
theorem x9g {n:Nat} {f:Nat→Bool}:(List.range n).all f=true↔∀ i,i < n→f i=true:=by simp[y9]
theorem x9h {n i:Nat} {f:Nat→Bool} (h:i < n) (hf:f i=false):(List.range n).all f=false:=by
 rw[List.all_eq_false]
 exact⟨i,List.mem_range.2 h,by simp[hf]⟩
theorem x6l {s:Sys} {K:Nat} {t:List TN} {u:Tip} (hs:SysV s) (hK:KOk K) (ht:TreeT s K t):Pure Gam 32 [z4e s, .sl (t.map eTN) u] (.int .i64 (if treeB s t=true then 0 else 11)):=by
 have p88:=v0k (u:= .no) hs hK ht
 have htl:=ht.len
 have hkb:∀ x∈t,x.kids≤1000000:=fun x hx=>by
  have h1:=(ht.nodes x hx).kids
  have h2:=hs.clauses _ (x8 (ht.nodes x hx).cl)
  rw[←q2h (ht.nodes x hx).cl] at h2
  have:=h2.2.1
  omega
 have p87:=fun {i} hi=>x6k (i:=i) (u:= .no) hs hK ht hi
 rw[z4e] at p88 p87
 refine Pure.of rfl v4b rfl rfl rfl (az:=[z4e s, .sl (t.map eTN) .no]) rfl (by simp[z0i,z4j,AV.ids,q1a]) fun D B clk T hB hT=> ?_
 simp only[go_sem,v4a,hB,z4e,z0a p88,z7,decide_true,z8]
 refine z6h t.length (by omega) (fun i q=>∃ (g0:Nat) (o1:AObj),(∀ j,j < i→k4b s t j=true)∧q.ts 1= .sl (t.map eTN) .no∧q.ts 2= .ptr (B + 0) g0 0 0∧q.ts 6= .int .i64 (i:Int)∧q.h=D++[.blk g0 [.agg [.sl (s.preds.map z1m) .no, .sl (s.clauses.map z0j) .no]] false false 0,o1]) ⟨_,_,fun j h=>by omega,rfl,rfl,rfl,rfl⟩ ?_ ?_
 ·rintro i hlt f1 f2 ts h clk P ⟨g0,o1,hall,q1,q2,q6,rfl⟩ hnx hex hret
  dsimp only at q1 q2 q6
  have hx:=ht.nodes _ (x8 hlt)
  obtain⟨hc,hV,hM,he,hev,hel,hvl⟩:=q2z hs hK hx
  have hix:=fun h=>x1c (l:=t) (i:=i) (h:=h) (t:= .no) (k:= .i64) hlt
  have hcl:=fun h=>z8v (l:=s.clauses) (i:=t[i].cl) (h:=h) (t:= .no) (k:= .i64) hx.cl
  rw[←q2h hx.cl] at hcl
  have p21:Pure Gam 52 [.sl ((clOf s t[i].cl).vars.map z2b) .no, .sl (t[i].vals.map eV) .no] (.sl ((x3q s t[i]).map eB) .no):=j5k (by omega) hx.fit.len
  obtain⟨g1,g2,g3,g4⟩:=hc.2.2.2.1
  have p22:=k9w (U:=z1z) (u:= .no) (w:= .no) (x:= .nil) hV he hev hel (by omega) (j1 (Nat.mul_le_mul_left _ (by omega)) hK.2) (by omega) g1
  have p90:=v0g (u:= .no) htl hkb ht.wf hlt
  obtain⟨hrun,hkl⟩:=k3v ht.wf hlt
  have hklt:=k3w hrun
  have hkn:(q5p t (i + 1) t[i].kids).length=t[i].kids:=j5m
  have hkids:=hx.kids
  have hnb:k4b s t i=((q0e (x3q s t[i]) (clOf s t[i].cl).guard).b && (List.range t[i].kids).all fun j=>x9f (j8b s t[i] j) (headF s (tnAt t ((q5p t (i + 1) t[i].kids).getD j 0)))):=by
   unfold k4b y3w
   rw[j2e hlt]
  have hwalk:∀ a∈(clOf s t[i].cl).body,Pure Gam 55 [z4q a, .sl ((x3q s t[i]).map eB) .no] (eF (x3r (x3q s t[i]) a))∧x6j (x3r (x3q s t[i]) a).2∧(x3r (x3q s t[i]) a).2.length≤40:=fun a ha=>⟨j5p hs hK hx (hc.2.2.1 a ha),v0j hs.pr hK hM (hc.2.2.1 a ha),(q5r hs.pr hK hM (hc.2.2.1 a ha)).1⟩
  have hbF:∀ j (h:j < (clOf s t[i].cl).body.length),j8b s t[i] j=x3r (x3q s t[i]) (clOf s t[i].cl).body[j]:=fun j h=>by
   unfold j8b
   rw[n8,v9 h]
   rfl
  have hbl:=hc.2.1
  have hend:k4b s t i=false→T (.int .i64 (if treeB s t=true then 0 else 11))=T (.int .i64 11):=fun h=>by
   have:treeB s t=false:=x9h hlt h
   rw[this]
   rfl
  clear hc hV hM he hev hel g1 hrun hx
  generalize x3q s t[i]=env at *
  generalize clOf s t[i].cl=c at *
  generalize t[i]=x at *
  generalize q5p t (i + 1) x.kids=ks at *
  generalize hgv:q0e env c.guard=gv at *
  cases hg:gv.b with
  | false=>
    rw[hg] at p22 hnb
    rw[hend (by rw[hnb];rfl)] at hT
    simp only[go_sem,x6g,q1,q2,q6,hB,f1,hix,hcl,z6,z1p,x6]
    refine⟨by simp[z1r,apart,z0q,z1n,z1t,AOp.isCall,hB,AV.ids,z0i,z0d z5g,z0d z4b,q1a,q2t,z2q,z0d z5z,z0d z4r,z0d z2x,z0d z3z], ?_⟩
    simp only[go_sem,q1,q2,q6,hB,hix,z0a p21,z0a p22,x6]
    refine hret _ ?_
    simp only[go_sem,]
    rw[z2c]
    exact hT _
  | true=>
    rw[hg] at p22 hnb
    rw[Bool.true_and] at hnb
    simp only[go_sem,x6g,q1,q2,q6,hB,f1,hix,hcl,z6,z1p,z8]
    refine⟨by simp[z1r,apart,z0q,z1n,z1t,AOp.isCall,hB,AV.ids,z0i,z0d z5g,z0d z4b,q1a,q2t,z2q,z0d z5z,z0d z4r,z0d z2x,z0d z3z], ?_⟩
    simp only[go_sem,q1,q2,q6,hB,hix,z0a p21,z0a p22,z0a p90,z8]
    have hkb2:ks.length=c.body.length:=by omega
    clear p21 p22 p90 hix hcl
    refine z6h ks.length (by omega) (fun j q=>∃ (g0 g1:Nat),(∀ m,m < j→x9f (j8b s x m) (headF s (tnAt t (ks.getD m 0)))=true)∧q.ts 1= .sl (t.map eTN) .no∧q.ts 2= .ptr (B + 0) g0 0 0∧q.ts 6= .int .i64 (i:Int)∧q.ts 7= .ptr (B + 1) g1 0 0∧q.ts 8= .sl (env.map eB) .no∧q.ts 9= .sl (ks.map nat) .no∧q.ts 10= .int .i64 (j:Int)∧q.h=D++[.blk g0 [.agg [.sl (s.preds.map z1m) .no, .sl (s.clauses.map z0j) .no]] false false 0, .blk g1 [.agg [.sl (c.vars.map z2b) .no, .sl (c.body.map z4q) .no, .sl (c.guard.map eNode) .no, .str c.head.pred, .sl (c.head.args.map z0w) .no]] false false 0]) ⟨_,_,fun j h=>by omega,by simp[z0b,q1],by simp[z0b,q2],by simp[z0b,q6],by simp[z0b],by simp[z0b],by simp[z0b],by simp[z0b],rfl⟩ ?_ ?_
    ·clear q1 q2 q6 f1 f2
     rintro j hjl f1 f2 ts h clk P ⟨g0,g1,hall2,q1,q2,q6,q7,q8,q9,q10,rfl⟩ hnx2 hex2 hret2
     dsimp only at q1 q2 q6 q7 q8 q9 q10
     have hjb:j < c.body.length:=by omega
     have hy:∀ h,z1v h 2 (.sl (c.body.map z4q) .no) (.int .i64 (j:Int))=some (.iptr [.str c.body[j].pred, .sl (c.body[j].args.map z0w) .no] 0,h):=fun h=>z3v hjb rfl rfl
     have hn:=fun h=>q6d (l:=ks) (i:=j) (h:=h) (t:= .no) (k:= .i64) hjl
     obtain⟨w1,w2,w3⟩:=hwalk _ (x8 hjb)
     have hkj:=hklt _ (x8 hjl)
     have p87':=p87 hkj
     have p83:=v0i (f:=x3r env c.body[j]) (g:=headF s t[ks[j]]) w2 (by omega)
     have hval:x9f (j8b s x j) (headF s (tnAt t (ks.getD j 0)))=x9f (x3r env c.body[j]) (headF s t[ks[j]]):=by
      rw[hbF j hjb,n8,v9 hjl,Option.getD_some,j2e hkj]
     simp only[z4q,eF,q3a] at w1 p87' p83
     simp only[nat] at hn
     cases hb:x9f (x3r env c.body[j]) (headF s t[ks[j]]) with
     | false=>
       rw[hb] at p83 hval
       rw[hend (by rw[hnb];exact x9h (i:=j) (by omega) hval)] at hT
       simp only[go_sem,x6f,q1,q2,q6,q7,q8,q9,q10,hB,f1,z6,z1p,hy,hn,z0a w1,z0a p87',z0a p83,x6]
       refine⟨by simp[-List.map_map,z1r,apart,z0q,z1n,z1t,AOp.isCall,hB,AV.ids,z0i,z2q,z0d z5g,z0d z4b,q1a,q2t,z2q,z0d z5z,z0d z4r,z0d z2x,z0d z3z], ?_⟩
       refine hret2 _ ?_
       simp only[go_sem,]
       refine hret _ ?_
       simp only[go_sem,]
       rw[z2c]
       exact hT _
     | true=>
       rw[hb] at p83 hval
       simp only[go_sem,x6f,q1,q2,q6,q7,q8,q9,q10,hB,f1,f2,z6,z1p,hy,hn,z0a w1,z0a p87',z0a p83,z8]
       refine⟨by simp[-List.map_map,z1r,apart,z0q,z1n,z1t,AOp.isCall,hB,AV.ids,z0i,z2q,z0d z5g,z0d z4b,q1a,q2t,z2q,z0d z5z,z0d z4r,z0d z2x,z0d z3z], ?_⟩
       refine hnx2 _ ⟨g0,g1,fun m hm=> ?_,q1,q2,q6,q7,q8,q9,rfl,rfl⟩
       by_cases hmj:m < j
       ·exact hall2 m hmj
       ·obtain rfl:m=j:=by omega
        exact hval
    ·clear q1 q2 q6 f1
     rintro f1 ts h clk P ⟨g0,g1,hall2,q1,q2,q6,q7,q8,q9,q10,rfl⟩ hex2 hret2
     dsimp only at q1 q2 q6 q7 q8 q9 q10
     simp only[go_sem,x6f,q1,q2,q6,q7,q8,q9,q10,hB,f1,z6]
     refine hex2 _ _ ?_
     simp only[go_sem,q1,q2,q6,hB,f2]
     refine hnx _ ⟨g0,_,fun m hm=> ?_,q1,q2,rfl,rfl⟩
     by_cases hmi:m < i
     ·exact hall m hmi
     ·obtain rfl:m=i:=by omega
      rw[hnb,x9g]
      intro j hj
      exact hall2 j (by omega)
 ·rintro f1 ts h clk P ⟨g0,o1,hall,q1,q2,q6,rfl⟩ hex hret
  dsimp only at q1 q2 q6
  have hf:treeB s t=true:=x9g.2 hall
  rw[hf] at hT
  simp only[go_sem,x6g,q1,q2,q6,hB,f1,z6]
  refine hex _ _ ?_
  simp only[go_sem,hB]
  rw[z2c]
  exact hT _
theorem v0l {s:Sys} {K:Nat} {t:List TN} {u:Tip} (hs:SysV s) (hK:KOk K) (ht:TreeT s K t) (h0:0 < t.length) (hb:treeB s t=true):Pure Gam 73 [z4e s, .sl (t.map eTN) u] (.tup [eF (headF s t[0]), .int .i64 0]):=by
 have p82:=x6l (u:= .no) hs hK ht
 have p87:Pure Gam 33 [z4e s, .sl (t.map eTN) .no, .int .i64 0] (eF (headF s t[0])):=x6k (i:=0) hs hK ht h0
 rw[if_pos hb] at p82
 rw[z4e] at p82 p87
 refine Pure.of rfl v4d rfl rfl rfl (az:=[z4e s, .sl (t.map eTN) .no]) rfl (by simp[z0i,z4j,AV.ids,q1a]) fun D B clk T hB hT=> ?_
 generalize headF s t[0]=f at *
 rw[eF,q3a] at hT p87
 simp only[go_sem,v4c,hB,z4e,z0a p82,z0a p87,z7,decide_true,z8,z0t,z0s,z0g]
 rw[z0h rfl (by simp[z1k,AV.cv,cvL,AV.ids,z0i,z2q])]
 exact hT _
noncomputable def q1e (s:Sys) (t:List TN):List Fct:=t.map (headF s)
theorem z6z {l:List Fct}:z0r 2 (l.map eF)=true:=z1u fun _=>⟨rfl,rfl,rfl⟩
theorem q2i {l:List Fct}:z0i (l.map eF)=[]:=z0d fun _=>j8a
theorem v0m {s:Sys} {K:Nat} {t:List TN} {u:Tip} (hs:SysV s) (hK:KOk K) (ht:TreeT s K t) (hb:treeB s t=true):Pure Gam 9 [z4e s, .sl (t.map eTN) u] (.tup [.sl ((q1e s t).map eF) .no, .int .i64 0]):=by
 have p82:=x6l (u:= .no) hs hK ht
 have p87:=fun {i} hi=>x6k (i:=i) (u:= .no) hs hK ht hi
 have htl:=ht.len
 have hfl:(q1e s t).length=t.length:=z6 _
 have hfa:∀ i (h:i < t.length) (h2:i < (q1e s t).length),(q1e s t)[i]=headF s t[i]:=fun i h h2=>List.getElem_map _
 rw[if_pos hb] at p82
 rw[z4e] at p82 p87
 refine Pure.of rfl y3r rfl rfl rfl (az:=[z4e s, .sl (t.map eTN) .no]) rfl (by simp[z0i,z4j,AV.ids,q1a]) fun D B clk T hB hT=> ?_
 generalize q1e s t=fs at *
 simp only[go_sem,v4e,hB,z4e,z0a p82,z7,decide_true,z8]
 refine z6h t.length (by omega) (fun i q=>∃ (g0:Nat) (t':Tip) (o1 o2:AObj),q.ts 1= .sl (t.map eTN) .no∧q.ts 2= .ptr (B + 0) g0 0 0∧q.ts 7= .sl ((fs.take i).map eF) t'∧q.ts 8= .int .i64 (i:Int)∧q.h=D++[.blk g0 [.agg [.sl (s.preds.map z1m) .no, .sl (s.clauses.map z0j) .no]] false false 0,o1,o2]∧q3e B 2 o2 t' 2) ⟨_, .nil,_,_,rfl,rfl,rfl,rfl,rfl, .inl rfl⟩ ?_ ?_
 ·rintro i hlt f1 f2 ts h clk P ⟨g0,t',o1,o2,q1,q2,q7,q8,rfl,htip⟩ hnx hex hret
  dsimp only at q1 q2 q7 q8
  have hif:i < fs.length:=by omega
  have p:=p87 hlt
  rw[←hfa i hlt hif] at p
  have e8:(fs.take i).map eF++[fs[i]].map eF=(fs.take (i + 1)).map eF:=by rw[List.take_succ_eq_append_getElem hif,v8]
  generalize fs[i]=f at *
  rw[eF,q3a] at p
  simp only[go_sem,j1y,q1,q2,q7,q8,hB,f1,z6,z0a p]
  rw[show [AV.agg [.str f.1, .sl (f.2.map eV) .no]]=[f].map eF from rfl,z1c hB rfl htip z6z z6z (by simp only[z6,v6,List.length_take];omega),e8]
  simp only[go_sem,q1,q2,q7,q8,hB,f2]
  exact hnx _ ⟨g0,_,_,_,q1,q2,rfl,rfl,rfl, .inr (.inr ⟨_,rfl,rfl⟩)⟩
 ·rintro f1 ts h clk P ⟨g0,t',o1,o2,q1,q2,q7,q8,rfl,htip⟩ hex hret
  dsimp only at q1 q2 q7 q8
  rw[List.take_of_length_le (by omega)] at q7
  simp only[go_sem,j1y,q1,q2,q7,q8,hB,f1,z6]
  refine hex _ _ ?_
  simp only[go_sem,q7,hB]
  rw[z0h rfl (by simp[z1k,AV.cv,cvL,AV.ids,z0i,q2i])]
  exact hT _
def z4n (h:List AObj):List (Nat×AObj)→List AObj
 | []=>h
 | p::S=>z4n (h.set p.1 p.2) S
theorem x3s {hr:List AObj}:∀ {S:List (Nat×AObj)} {h:List AObj},(∀ p∈S,p.1 < h.length)→(∀ p∈S,hr[p.1]? =some p.2)→∀ i,(z4n h S)[i]? =if i∈S.map (·.1) then hr[i]? else h[i]?
 | [],h,_,_,i=>by simp[z4n]
 | p::S,h,hl,hg,i=>by
   rw[z4n,x3s (fun q hq=>by rw[y5];exact hl q (v7 _ hq)) (fun q hq=>hg q (v7 _ hq))]
   by_cases hi:i∈S.map (·.1)
   ·rw[if_pos hi,if_pos (by rw[j4];exact v7 _ hi)]
   ·rw[if_neg hi]
    by_cases hip:i=p.1
    ·subst hip
     rw[if_pos (by rw[j4];exact j7),n5 (hl p j7),hg p j7]
    ·rw[if_neg (by rw[j4,List.mem_cons];exact fun h=>h.elim hip hi),List.getElem?_set_ne (Ne.symm hip)]
def RVL (x:Option (List AV)) (R:AV→List AObj→Nat→Prop) (h:List AObj) (c:Nat):Prop:=
 match x with
 | some vs=>(z1k vs).obs=[]∧(z1k vs).cv.ids=[]∧R (z1k vs).cv h c
 | none=>False
def y3x (rs:List ARes) (R:AV→List AObj→Nat→Prop):Post:=fun e s=>(∀ i,e≠ .exit i)∧RVL (z1s s.h s.ts rs) R s.h s.clk
theorem v0n {rs:List ARes} {R:AV→List AObj→Nat→Prop} {ts:Tmps} {h:List AObj} {c:Nat}:y3x rs R .ret ⟨ts,h,c⟩=RVL (z1s h ts rs) R h c:=by simp[y3x]
theorem k4d {rs:List ARes} {R:AV→List AObj→Nat→Prop} {ts:Tmps} {h:List AObj} {c:Nat}:y3x rs R .norm ⟨ts,h,c⟩=RVL (z1s h ts rs) R h c:=by simp[y3x]
theorem q4e {R:AV→List AObj→Nat→Prop} {h:List AObj} {c:Nat}:RVL (some []) R h c=R (.tup []) h c:=by simp[RVL,z1k,AV.obs,z4u,AV.cv,cvL,AV.ids,z0i]
attribute [go_sem] v0n k4d
theorem j2f {S:List (Nat×AObj)} {f:Nat} {args az:List AV} {h:List AObj} {clk:Nat} {af:AFun} {Q:AV→List AObj→Nat→Prop} (hext:Gam.ext f=none) (hfn:Gam.fn f=some af) (ho:af.owned=false) (hp:z1q h af.byref 0 args=some az) (hl:z0p af.byref 0 args=[]) (hC:Cov S (z0i az)) (hS:Has S h)
  (hw:∀ (D:List AObj) (B:Nat) (R:AV→List AObj→Nat→Prop),D.length=B→B=h.length→Has S D→(∀ v h' c S',S'.map (·.1)=S.map (·.1)→Has S' h'→(((∀ p∈S',∀ i∈p.2.ids,i < B)∧Q v (z4n h S') clk)∨((∃ p∈S',∃ i∈p.2.ids,B≤i)∧Q v (z4n h S'++h'.drop B) c))→R v h' c)→K Gam B af.body [] ⟨q0f az,D++List.replicate af.nslots .dead,clk⟩ (y3x af.results R)):WC Gam f args h clk Q:=by
 have hTS:∀ i∈reach h (h.length + 1) [] (z0i az),i∈S.map (·.1):=q1x hS hC.closed (by simp) hC.root
 have hST:∀ i∈S.map (·.1),i∈reach h (h.length + 1) [] (z0i az):=fun i hi=>by
  obtain⟨p,hp',rfl⟩:=w0.1 hi
  exact hC.cover h hS p hp'
 have hmask:Has S (maskFrom (reach h (h.length + 1) [] (z0i az)) 0 h):=fun p hp'=>by
  rw[q1m (by rw[k6,List.contains_eq_mem];exact decide_eq_true (hC.cover h hS p hp'))]
  exact hS p hp'
 obtain⟨k,e,s1,he,hne,hend⟩:=hw (maskFrom (reach h (h.length + 1) [] (z0i az)) 0 h) h.length (fun v h' c=>∃ S':List (Nat×AObj),S'.map (·.1)=S.map (·.1)∧Has S' h'∧(((∀ p∈S',∀ i∈p.2.ids,i < h.length)∧Q v (z4n h S') clk)∨((∃ p∈S',∃ i∈p.2.ids,h.length≤i)∧Q v (z4n h S'++h'.drop h.length) c))) z4h rfl hmask (fun v h' c S' h1 h2 h3=>⟨S',h1,h2,h3⟩)
 obtain⟨vs,hr,hobs,hids,S',h1,h2,hQ⟩:∃ vs,z1s s1.h s1.ts af.results=some vs∧(z1k vs).obs=[]∧(z1k vs).cv.ids=[]∧∃ S':List (Nat×AObj),S'.map (·.1)=S.map (·.1)∧Has S' s1.h∧(((∀ p∈S',∀ i∈p.2.ids,i < h.length)∧Q (z1k vs).cv (z4n h S') clk)∨((∃ p∈S',∃ i∈p.2.ids,h.length≤i)∧Q (z1k vs).cv (z4n h S'++s1.h.drop h.length) s1.clk)):=by
  unfold RVL at hend
  split at hend
  ·rename_i vs hr
   exact⟨vs,hr,hend⟩
  ·exact hend.elim
 generalize hT:reach h (h.length + 1) [] (z0i az)=T at *
 have hlt:∀ p∈S',p.1 < h.length:=fun p hp'=>by
  have:p.1∈S.map (·.1):=by rw[←h1];exact List.mem_map_of_mem hp'
  obtain⟨q,hq,e⟩:=w0.1 this
  rw[←e]
  exact hS.lt q hq
 have hm:z0n T 0 h s1.h=z4n h S':=by
  refine List.ext_getElem? fun i=> ?_
  rw[x3s (hr:=s1.h) hlt h2,h1]
  by_cases hi:i < h.length
  ·rw[z9u,v9 hi,k6]
   dsimp only
   by_cases hk:i∈S.map (·.1)
   ·rw[if_pos hk]
    have hc':T.contains i=true:=by rw[List.contains_eq_mem];exact decide_eq_true (hST i hk)
    obtain⟨p,hp',rfl⟩:=w0.1 (h1 ▸ hk)
    simp[h2 p hp',hST _ hk]
   ·rw[if_neg hk]
    have hc':i∉T:=fun hm=>hk (hTS i hm)
    cases s1.h[i]? <;> simp[hc',hi]
  ·rw[z9u,List.getElem?_eq_none (by omega)]
   dsimp only
   have hk:i∉S.map (·.1):=fun hm=>by
    obtain⟨q,hq,e⟩:=w0.1 hm
    exact hi (e ▸ hS.lt q hq)
   rw[if_neg hk]
 have hcv:conv s1.h (z1k vs)=some (z1k vs).cv:=q0q hobs
 have hcut:((z1k vs).cv.ids++(List.map (fun i=>(Option.map AObj.ids s1.h[i]?).getD []) T).flatten).all (fun x=>decide (x < h.length))=decide (∀ p∈S',∀ i∈p.2.ids,i < h.length):=by
  rw[hids,List.nil_append]
  by_cases hall:∀ p∈S',∀ i∈p.2.ids,i < h.length
  ·rw[decide_eq_true hall,y9]
   intro x hx
   rw[List.mem_flatten] at hx
   obtain⟨l,hl',hx⟩:=hx
   obtain⟨i,hi,rfl⟩:=w0.1 hl'
   obtain⟨p,hp',rfl⟩:=w0.1 (h1 ▸ hTS i hi)
   rw[h2 p hp'] at hx
   exact decide_eq_true (hall p hp' x (by simpa using hx))
  ·rw[decide_eq_false hall,List.all_eq_false]
   have:∃ p∈S',∃ i∈p.2.ids,¬ i < h.length:=by
    refine Classical.byContradiction fun hn=>hall fun p hp' i hi=> ?_
    exact Classical.byContradiction fun hlt=>hn ⟨p,hp',i,hi,hlt⟩
   obtain⟨p,hp',i,hi,hn⟩:=this
   refine⟨i,List.mem_flatten.2 ⟨p.2.ids,w0.2 ⟨p.1,hST _ (h1 ▸ List.mem_map_of_mem hp'),by rw[h2 p hp'];rfl⟩,hi⟩,by simpa using hn⟩
 rcases hQ with ⟨h3,hQ⟩ | ⟨⟨p,hp',i,hi,hge⟩,hQ⟩
 ·rw[decide_eq_true h3] at hcut
  refine⟨k,(z1k vs).cv,z4n h S',clk, ?_,hQ⟩
  unfold z5w z0k
  simp only[hext,hfn,hp,hl,freezeAll,hT,he,ho,j9,if_false,hr,hcv,hobs,ite_self,hm]
  cases e with
  | exit i=>exact absurd rfl (hne i)
  | norm=>simp only[hcut,j9,if_true,if_false]
  | ret=>simp only[hcut,j9,if_true,if_false]
 ·rw[decide_eq_false (fun h=>absurd (h p hp' i hi) (by omega))] at hcut
  refine⟨k,(z1k vs).cv,z4n h S'++s1.h.drop h.length,s1.clk, ?_,hQ⟩
  unfold z5w z0k
  simp only[hext,hfn,hp,hl,freezeAll,hT,he,ho,j9,if_false,hr,hcv,hobs,ite_self,hm]
  cases e with
  | exit i=>exact absurd rfl (hne i)
  | norm=>simp only[hcut,j9,if_true,if_false]
  | ret=>simp only[hcut,j9,if_true,if_false]
theorem v0o {h:List AObj} {s g i n fz:Nat} {vs:List Val} {K:IntKind} {w:Bool} (hL:h[s]? =some (.blk g (vs.map eV) true w fz)) (hi:i < vs.length) (hn:vs.length=n):z1v h 5 (.ob s g 0 n) (.int K (i:Int))=some (.ptr s g i 0,h):=by
 have hb:z2f h s g=some (vs.map eV,true,w,fz):=z2m hL
 have hx:(vs.map eV)[i]? =some (eV vs[i]):=by simp[hi]
 have hc:(eV vs[i]).cells.length=5:=rfl
 have hin:i < n:=by omega
 simp only[z1v,Int.natCast_nonneg,if_true,hb,Int.toNat_natCast,k6,hx,hin,hc,and_self]
theorem u1c {x:Val}:(eV x).cv=eV x:=rfl
theorem k4e {x:Val}:(eV x).obs=[]:=rfl
theorem j8c {h:List AObj} {s g i:Nat} {vs:List Val} {x:Val} {w:Bool} (hL:h[s]? =some (.blk g (vs.map eV) true w 0)) (hi:i < vs.length):z8n h 5 (eV x) (.ptr s g i 0)=some (.undef,h.set s (.blk g ((vs.set i x).map eV) true w 0)):=by
 have hb:z2f h s g=some (vs.map eV,true,w,0):=z2m hL
 have hx:(vs.map eV)[i]? =some (eV vs[i]):=by simp[hi]
 have hp:pub h (eV x)=some (eV x,h):=by
  unfold pub
  rw[q0q k4e,u1c,k4e]
  rfl
 rw[z6f,hb]
 simp only[hx,if_true,hp]
 rw[if_pos ⟨rfl,rfl,rfl,fun _=>⟨Nat.zero_le _,by rw[k4e];rfl⟩⟩]
 have:z7m (eV vs[i]).cells 0 (eV x).cells=some (eV x).cells:=rfl
 rw[this,Option.map_some,List.map_set]
 rfl
def isVar (t:Term) (v:Var):Bool:=match t with
 | n::_=>decide (n.op=4) && decide (n.name=v.name)
 | []=>false
theorem v0p {V:List Var} {n:Node} {ss:List Nat} {s:Nat} {ks:Term} (h:NodeOk V n ss s ks) (h4:n.op=4):∃ v∈V,v.name=n.name∧v.sort=s:=by
 cases h <;> simp[bare] at h4 <;> first | exact⟨_, ‹_∈V›,rfl,rfl⟩ | omega
theorem j8d {V:List Var} {s:Nat} {t:Term} {v:Var} {d m:Nat} (hn:(V.map (·.name)).Nodup) (hv:v∈V) (ht:GT V s d m t) (h:isVar t v=true):v.sort=s:=by
 obtain⟨h1,_⟩:=ht
 cases t with
 | nil=>simp[isVar] at h
 | cons n r=>
   simp only[isVar,Bool.and_eq_true,decide_eq_true_eq] at h
   obtain⟨ss,ks,h2⟩:=k3s h1
   obtain⟨w,hw,e1,e2⟩:=v0p h2 h.1
   obtain⟨i,hi,rfl⟩:=d5.1 hv
   obtain⟨j,hj,rfl⟩:=d5.1 hw
   have:j=i:=(List.getElem_inj (xs:=V.map (·.name)) (i:=j) (j:=i) (h₀:=by simpa using hj) (h₁:=by simpa using hi) hn).1 (by simp[e1,h.2])
   subst this
   exact e2
theorem FitM.set {K:Nat} {V:List Var} {vs:List Val} {i:Nat} {x:Val} (h:FitM K V vs) (hi:i < V.length) (hx:VM K V[i].sort x):FitM K V (vs.set i x):=by
 refine⟨by rw[y5];exact h.len,fun j h1 h2=> ?_⟩
 rw[List.getElem_set]
 split
 ·rename_i e;subst e;exact hx
 ·exact h.ok j h1 (by simpa using h2)
structure Match (K:Nat) (V:List Var) (a:App) (f:Fct):Prop where
 len:a.args.length=f.2.length
 small:a.args.length≤1000
 ne:∀ t∈a.args,t≠[]
 ok:∀ k (h1:k < a.args.length) (h2:k < f.2.length),∀ v∈V,isVar a.args[k] v=true→VM K v.sort f.2[k]
theorem y3y {K:Nat} {a:App} {f:Fct} {V:List Var} {vals:List Val} {u:Tip} {sv gv:Nat} {h:List AObj} {clk:Nat} {Q:AV→List AObj→Nat→Prop} (hm:Match K V a f) (hV:V.length≤1000) (hf:FitM K V vals) (hs:h[sv]? =some (.blk gv (vals.map eV) true true 0)) (hQ:∀ vals',FitM K V vals'→Q (.tup []) (h.set sv (.blk gv (vals'.map eV) true true 0)) clk):WC Gam 72 [z4q a,eF f, .sl (V.map z2b) u, .ob sv gv 0 vals.length] h clk Q:=by
 have hvl:=hf.len
 refine j2f (S:=[(sv, .blk gv (vals.map eV) true true 0)]) (az:=[z4q a,eF f, .sl (V.map z2b) .no, .ob sv gv 0 vals.length]) rfl v4f rfl rfl rfl ?_ (Has.cons hs Has.nil) fun D B R hB _ hD hR=> ?_
 ·have:z0i [z4q a,eF f, .sl (V.map z2b) .no, .ob sv gv 0 vals.length]=[sv]:=by simp[z0i,AV.ids,z4r,j8a,z0d z5z]
  rw[this]
  exact Cov.one (by simp[AObj.ids,z2q])
 have hDs:D[sv]? =some (.blk gv (vals.map eV) true true 0):=hD _ j7
 have hsB:sv < B:=by
  obtain⟨h1,_⟩:=List.getElem?_eq_some_iff.1 hDs
  omega
 have hal:=hm.len
 have has:=hm.small
 simp only[go_sem,k3z,hB,z4q,eF,q3a]
 refine z6h a.args.length (by omega) (fun k q=>∃ (D':List AObj) (g0 g1:Nat) (vs:List Val),D'.length=B∧D'[sv]? =some (.blk gv (vs.map eV) true true 0)∧FitM K V vs∧q.ts 2= .sl (V.map z2b) .no∧q.ts 3= .ob sv gv 0 vals.length∧q.ts 4= .ptr (B + 0) g0 0 0∧q.ts 5= .ptr (B + 1) g1 0 0∧q.ts 8= .int .i64 (k:Int)∧q.h=D'++[.blk g0 [.agg [.str a.pred, .sl (a.args.map z0w) .no]] false false 0, .blk g1 [.agg [.str f.1, .sl (f.2.map eV) .no]] false false 0]) ⟨D,_,_,vals,hB,hDs,hf,rfl,rfl,rfl,rfl,rfl,rfl⟩ ?_ ?_
 ·clear hDs hf hB hD
  rintro k hlt f1 f2 ts h' clk' P ⟨D,g0,g1,vs,hB,hDs,hfit,q2,q3,q4,q5,q8,rfl⟩ hnx hex hret
  dsimp only at q2 q3 q4 q5 q8
  have hk2:k < f.2.length:=by omega
  have hix:=fun h=>q5b (l:=a.args) (i:=k) (h:=h) (t:= .no) (k:= .i64) hlt
  have hiv:=fun h=>x9c (vs:=f.2) (i:=k) (h:=h) (t:= .no) (k:= .i64) hk2
  have hok:=hm.ok k hlt hk2
  obtain⟨n,r,hnr⟩:∃ n r,a.args[k]=n::r:=by
   have:=hm.ne _ (x8 hlt)
   cases hx:a.args[k] with
   | nil=>exact absurd hx this
   | cons n r=>exact⟨n,r,rfl⟩
  rw[hnr] at hix hok
  have hi0:∀ h,z1v h 5 (z0w (n::r)) (.int .i64 0)=some (.iptr [nat n.op,nat n.sort, .str n.name, .str n.num,nat n.kids] 0,h):=fun h=>rfl
  simp only[go_sem,x1e,q2,q3,q4,q5,q8,hB,f1,z6]
  refine z6h V.length (by omega) (fun v q=>∃ (D':List AObj) (g0 g1:Nat) (vs:List Val),D'.length=B∧D'[sv]? =some (.blk gv (vs.map eV) true true 0)∧FitM K V vs∧q.ts 2= .sl (V.map z2b) .no∧q.ts 3= .ob sv gv 0 vals.length∧q.ts 4= .ptr (B + 0) g0 0 0∧q.ts 5= .ptr (B + 1) g1 0 0∧q.ts 8= .int .i64 (k:Int)∧q.ts 9= .int .i64 (v:Int)∧q.h=D'++[.blk g0 [.agg [.str a.pred, .sl (a.args.map z0w) .no]] false false 0, .blk g1 [.agg [.str f.1, .sl (f.2.map eV) .no]] false false 0]) ⟨D,g0,g1,vs,hB,hDs,hfit,by simp[z0b,q2],by simp[z0b,q3],by simp[z0b,q4],by simp[z0b,q5],by simp[z0b,q8],by simp[z0b],rfl⟩ ?_ ?_
  ·clear hDs hfit hB q2 q3 q4 q5 q8 f1
   rintro v hvlt f1 f3 ts h' clk' P ⟨D,g0,g1,vs,hB,hDs,hfit,q2,q3,q4,q5,q8,q9,rfl⟩ hnx2 hex2 hret2
   dsimp only at q2 q3 q4 q5 q8 q9
   have hvi:=fun h=>z6r (l:=V) (i:=v) (h:=h) (t:= .no) (k:= .i64) hvlt
   have hvs:v < vs.length:=by rw[hfit.len];exact hvlt
   have hri:∀ L:List AObj,z1v (D++L) 5 (.ob sv gv 0 vals.length) (.int .i64 (v:Int))=some (.ptr sv gv v 0,D++L):=fun L=>v0o (by rw[z0m hB hsB];exact hDs) hvs (by rw[hfit.len,hvl])
   have hrs:∀ (L:List AObj) (x:Val),z8n (D++L) 5 (eV x) (.ptr sv gv v 0)=some (.undef,D.set sv (.blk gv ((vs.set v x).map eV) true true 0)++L):=fun L x=>by rw[j8c (by rw[z0m hB hsB];exact hDs) hvs,q1o hB hsB]
   have hokv:=hok _ (x8 hvlt)
   generalize hVv:V[v]=w at *
   simp only[isVar] at hokv
   have d1:decide ((n.op:Int)=4)=decide (n.op=4):=by
    have:((n.op:Int)=4)↔n.op=4:=by omega
    simp[this]
   simp only[nat] at hi0
   cases h1:decide (n.op=4) with
   | false=>
     rw[h1] at d1
     simp only[go_sem,q6r,q2,q3,q4,q5,q8,q9,hB,f1,f3,hix,hi0,hvi,z6,d1]
     refine hnx2 _ ?_
     exact⟨D,g0,g1,vs,hB,hDs,hfit,q2,q3,q4,q5,q8,rfl,rfl⟩
   | true=>
     rw[h1] at d1 hokv
     cases h2:decide (n.name=w.name) with
     | false=>
       simp only[go_sem,q6r,q2,q3,q4,q5,q8,q9,hB,f1,f3,hix,hi0,hvi,z6,d1,h2]
       exact hnx2 _ ⟨D,g0,g1,vs,hB,hDs,hfit,q2,q3,q4,q5,q8,rfl,rfl⟩
     | true=>
       rw[h2] at hokv
       have hvm:=hokv rfl
       generalize f.2[k]=x at *
       have hrs':=fun L=>hrs L x
       simp only[eV,value,nat] at hrs' hiv
       simp only[go_sem,q6r,q2,q3,q4,q5,q8,q9,hB,f1,f3,hix,hi0,hvi,hiv,hri,hrs',z6,d1,h2]
       exact hnx2 _ ⟨D.set sv (.blk gv ((vs.set v x).map eV) true true 0),g0,g1,vs.set v x,by rw[y5];exact hB,by rw[n5 (by omega)],hfit.set hvlt (by rw[hVv];exact hvm),q2,q3,q4,q5,q8,rfl,rfl⟩
  ·clear hDs hfit hB q2 q3 q4 q5 q8 f1
   rintro f1 ts h' clk' P ⟨D,g0,g1,vs,hB,hDs,hfit,q2,q3,q4,q5,q8,q9,rfl⟩ hex2 hret2
   dsimp only at q2 q3 q4 q5 q8 q9
   simp only[go_sem,q6r,q2,q3,q4,q5,q8,q9,hB,f1,z6]
   refine hex2 _ _ ?_
   simp only[go_sem,q2,q3,q4,q5,q8,hB,f2]
   exact hnx _ ⟨D,g0,g1,vs,hB,hDs,hfit,q2,q3,q4,q5,rfl,rfl⟩
 ·clear hDs hf hB hD
  rintro f1 ts h' clk' P ⟨D,g0,g1,vs,hB,hDs,hfit,q2,q3,q4,q5,q8,rfl⟩ hex hret
  dsimp only at q2 q3 q4 q5 q8
  simp only[go_sem,x1e,q2,q3,q4,q5,q8,hB,f1,z6]
  refine hex _ _ ?_
  simp only[go_sem,]
  rw[q4e]
  refine hR _ _ _ [(sv, .blk gv (vs.map eV) true true 0)] rfl (Has.cons (by rw[z0m hB hsB];exact hDs) Has.nil) (.inl ⟨?_,hQ vs hfit⟩)
  intro p hp i hi
  rw[List.mem_singleton.1 hp] at hi
  simp[AObj.ids,z2q] at hi
theorem w1w {a:App} {f:Fct} {V:List Var} {u:Tip} {h:List AObj} {clk:Nat} {Q:AV→List AObj→Nat→Prop} (hV:V=[]) (hl:a.args.length≤1000) (hQ:Q (.tup []) h clk):WC Gam 72 [z4q a,eF f, .sl (V.map z2b) u, .sl [] .nil] h clk Q:=by
 subst hV
 refine j2f (S:=[]) (az:=[z4q a,eF f, .sl [] .no, .sl [] .nil]) rfl v4f rfl rfl rfl ?_ Has.nil fun D B R hB _ hD hR=> ?_
 ·have:z0i [z4q a,eF f, .sl [] .no, .sl [] .nil]=[]:=by simp[z0i,AV.ids,z4r,j8a]
  rw[this]
  exact⟨by simp,by simp,fun h _ p hp=>by simp at hp⟩
 simp only[go_sem,k3z,hB,z4q,eF,q3a]
 refine z6h a.args.length (by omega) (fun k q=>∃ (g0 g1:Nat),q.ts 2= .sl [] .no∧q.ts 4= .ptr (B + 0) g0 0 0∧q.ts 5= .ptr (B + 1) g1 0 0∧q.ts 8= .int .i64 (k:Int)∧q.h=D++[.blk g0 [.agg [.str a.pred, .sl (a.args.map z0w) .no]] false false 0, .blk g1 [.agg [.str f.1, .sl (f.2.map eV) .no]] false false 0]) ⟨_,_,rfl,rfl,rfl,rfl,rfl⟩ ?_ ?_
 ·rintro k hlt f1 f2 ts h' clk' P ⟨g0,g1,q2,q4,q5,q8,rfl⟩ hnx hex hret
  dsimp only at q2 q4 q5 q8
  simp only[go_sem,x1e,q2,q4,q5,q8,hB,f1,z6]
  refine z6h 0 (by omega) (fun v q=>∃ (g0 g1:Nat),q.ts 2= .sl [] .no∧q.ts 4= .ptr (B + 0) g0 0 0∧q.ts 5= .ptr (B + 1) g1 0 0∧q.ts 8= .int .i64 (k:Int)∧q.ts 9= .int .i64 (v:Int)∧q.h=D++[.blk g0 [.agg [.str a.pred, .sl (a.args.map z0w) .no]] false false 0, .blk g1 [.agg [.str f.1, .sl (f.2.map eV) .no]] false false 0]) ⟨g0,g1,by simp[z0b,q2],by simp[z0b,q4],by simp[z0b,q5],by simp[z0b,q8],by simp[z0b],rfl⟩ ?_ ?_
  ·rintro v hv
   omega
  ·clear q2 q4 q5 q8 f1
   rintro f1 ts h' clk' P ⟨g0,g1,q2,q4,q5,q8,q9,rfl⟩ hex2 hret2
   dsimp only at q2 q4 q5 q8 q9
   have f0:decide ((0:Int) < 0)=false:=rfl
   simp only[go_sem,q6r,q2,q4,q5,q8,q9,hB,f0,List.length_nil]
   refine hex2 _ _ ?_
   simp only[go_sem,q2,q4,q5,q8,hB,f2]
   exact hnx _ ⟨g0,g1,q2,q4,q5,rfl,rfl⟩
 ·rintro f1 ts h' clk' P ⟨g0,g1,q2,q4,q5,q8,rfl⟩ hex hret
  dsimp only at q2 q4 q5 q8
  simp only[go_sem,x1e,q2,q4,q5,q8,hB,f1,z6]
  refine hex _ _ ?_
  simp only[go_sem,]
  rw[q4e]
  exact hR _ _ _ [] rfl Has.nil (.inl ⟨by simp,hQ⟩)
end Go.Proofs.YtkollgjffkdliaaGreatDoor.Am
