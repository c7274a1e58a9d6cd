/- All tables are borne out Short forms of operations, for the printed functions Functions of the abstract machine's program Loops of a function of the abstract machine, by their numbers Functions of the -/
import Derived.Attr
import Derived.Test.YtahdahokpjigiaaGreatDoorM11
import Derived.Test.YtahdahokpjigiaaGreatDoorM12
import Derived.Test.YtahdahokpjigiaaGreatDoorM13
import Derived.Test.YtahdahokpjigiaaGreatDoorM14
import Derived.Test.YtahdahokpjigiaaGreatDoorM15
import Derived.Test.YtahdahokpjigiaaGreatDoorM16
import Derived.Test.YtahdahokpjigiaaGreatDoorM17
import Derived.Test.YtahdahokpjigiaaGreatDoorM18
import Derived.Test.YtahdahokpjigiaaGreatDoorM20
import Derived.Test.YtahdahokpjigiaaGreatDoorM21
import Derived.Test.YtahdahokpjigiaaGreatDoorM22
import Derived.Test.YtahdahokpjigiaaGreatDoorM23
import Derived.Test.YtahdahokpjigiaaGreatDoorM24
import Derived.Test.YtahdahokpjigiaaGreatDoorM25
open Nat renaming reduceBEq → z0,reduceAdd → z1,reduceLeDiff → z2,reduceSub → z3
set_option linter.all false
namespace Go.Proofs.YtahdahokpjigiaaGreatDoor.Am
open Go
set_option maxRecDepth 100000
section
open Tw
theorem b54:Borne [] 100 t54:= .cons y3a (.nil)
theorem b55:Borne [] 101 t55:= .cons y3b (.nil)
theorem b56:Borne [] 102 t56:= .cons y3c (.cons y3d (.cons y3e (.cons y3f (.cons y3g (.cons y3h (.cons y3i (.cons y3j (.cons y3k (.cons y3l (.cons w2m (.cons w2n (.cons w2o (.cons w2p (.cons w2q (.cons w2r (.cons w2s (.cons w2t (.cons w2u (.cons w2v (.cons w2w (.cons g2d (.cons g2e (.cons g2f (.cons g2g (.cons g2h (.nil))))))))))))))))))))))))))
theorem u3z:Borne [] 165 y9n:= .cons w2x (.cons w2y (.cons w2z (.cons w3a (.cons w3b (.cons w3c (.cons w3d (.cons w3e (.cons w3f (.cons w3g (.cons v4f (.nil)))))))))))
theorem b11:Borne [] 30 t11:= .cons g3k (.nil)
theorem b15:Borne [] 10 t15:= .cons g3l (.nil)
theorem k5f:Told tw1:=((((((z4b).snoc (b15.told z4b)).snoc (b11.told z4b)).snoc (u3z.told z4b)).snoc (b56.told z4b)).snoc (b55.told z4b)).snoc (b54.told z4b)
theorem u4a:Borne tw1 328 y9o:= .cons w3h (.cons w3i (.cons w3j (.cons w3k (.cons w3l (.cons w3m (.cons w3n (.nil)))))))
theorem u4b:Borne tw1 162 y9p:= .cons w3o (.cons w3p (.cons g2i (.nil)))
theorem b28:Borne tw1 44 t28:= .cons y3o (.cons y3p (.cons y3q (.cons y3r (.nil))))
theorem w4u:Told tw2:=(((k5f).snoc (b28.told k5f)).snoc (u4b.told k5f)).snoc (u4a.told k5f)
theorem u4c:Borne tw2 164 y9q:= .cons w3q (.cons w3r (.cons w3s (.nil)))
theorem y4h:Told tw3:=(w4u).snoc (u4c.told w4u)
theorem b73:Borne [] 60 z6i:= .chunks (n:=27) (m:=1) (by decide) (by decide) fun i hi=>match i,hi with
 | 0,_=>y3x
 | 1,_=>y3y
 | 2,_=>y3z
 | 3,_=>y4a
 | 4,_=>y4b
 | 5,_=>y4c
 | 6,_=>y4d
 | 7,_=>y4e
 | 8,_=>y4f
 | 9,_=>y4g
 | 10,_=>w3t
 | 11,_=>w3u
 | 12,_=>w3v
 | 13,_=>w3w
 | 14,_=>w3x
 | 15,_=>w3y
 | 16,_=>w3z
 | 17,_=>w4a
 | 18,_=>w4b
 | 19,_=>w4c
 | 20,_=>w4d
 | 21,_=>w4e
 | 22,_=>w4f
 | 23,_=>w4g
 | 24,_=>w4h
 | 25,_=>w4i
 | 26,_=>w4j
 | n + 27,h=>absurd h (by omega)
theorem u4d:Borne [] 244 z2r:= .chunks (n:=35) (m:=1) (by decide) (by decide) fun i hi=>match i,hi with
 | 0,_=>w4k
 | 1,_=>w4l
 | 2,_=>w4m
 | 3,_=>w4n
 | 4,_=>w4o
 | 5,_=>w4p
 | 6,_=>w4q
 | 7,_=>w4r
 | 8,_=>w4s
 | 9,_=>w4t
 | 10,_=>v4g
 | 11,_=>v4h
 | 12,_=>v4i
 | 13,_=>v4j
 | 14,_=>v4k
 | 15,_=>v4l
 | 16,_=>v4m
 | 17,_=>v4n
 | 18,_=>v4o
 | 19,_=>v4p
 | 20,_=>v4q
 | 21,_=>v4r
 | 22,_=>v4s
 | 23,_=>v4t
 | 24,_=>v4u
 | 25,_=>v4v
 | 26,_=>v4w
 | 27,_=>v4x
 | 28,_=>v4y
 | 29,_=>v4z
 | 30,_=>v5a
 | 31,_=>v5b
 | 32,_=>v5c
 | 33,_=>v5d
 | 34,_=>v5e
 | n + 35,h=>absurd h (by omega)
theorem k5g:Told w0a:=(((((((((z4b).snoc ((Borne.cons k9 .nil).told y4h)).snoc (u3y.told z4b)).snoc (y3w.told z4b)).snoc (y3v.told z4b)).snoc (u4d.told z4b)).snoc (b73.told z4b)).snoc (y3u.told z4b)).snoc (y3t.told z4b)).snoc (y3s.told z4b)
theorem v5f:ProgOk Tryz.prog x3m Gam:=w1t (T:=w0a) k5g
theorem v5g:q1a Tryz.prog Gam:=w1s (T:=w0a)
end
namespace Sh
@[go_sem] def M (d s:Nat):AOper:=⟨some d, .move (.tmp s),none⟩
@[go_sem] def N (d:Nat) (o:AOp):AOper:=⟨some d,o,none⟩
@[go_sem] def U (d:Nat) (o:AOp) (g:Nat):AOper:=⟨some d,o,some (g,false)⟩
@[go_sem] def V (d:Nat) (o:AOp) (g:Nat):AOper:=⟨some d,o,some (g,true)⟩
@[go_sem] def A (d s o:Nat):AOper:=⟨some d, .fieldAddr (.tmp s) o,none⟩
@[go_sem] def L (d s:Nat):AOper:=⟨some d, .load none (.tmp s),none⟩
@[go_sem] def S (n a b:Nat):AOper:=⟨none, .store n (.tmp a) (.tmp b),none⟩
@[go_sem] def E (d s o:Nat):AOper:=⟨some d, .extract (.tmp s) o,none⟩
@[go_sem] def I (n:Int):AOpd:= .const (.int .i64 n)
end Sh
section
open Sh
def u9t:ACode:=(.seq (.seq (.region 5 [M 19 5,A 20 1 0,L 21 20,N 22 (.len .sl (.tmp 21)),N 23 (.binOp .lss (.one .int) (.tmp 19) (.tmp 22))] []) (.cond (.tmp 23) .skip (.exit 2))) (.seq (.block 3 (.seq (.region 4 [N 26 (.load (some 2) (.tmp 1)),M 27 5,M 28 4,N 29 (.call 90 [(.tmp 26),(.tmp 27),(.tmp 28)])] []) (.cond (.tmp 29) (.seq (.region 15 [A 30 1 0,L 31 30,M 32 5,N 33 (.indexAddr none 3 (.tmp 31) (.tmp 32)),A 34 33 0,L 35 34,A 36 1 0,L 37 36,M 38 4,N 39 (.indexAddr none 3 (.tmp 37) (.tmp 38)),A 40 39 0,L 41 40,N 42 (.build [(.int .i64 0),(.str []),(.str []),(.int .i64 0),(.int .i64 0),(.sl [] .nil),(.sl [] .nil),(.sl [] .nil)] [(0,1,(I 6)),(1,1,(.tmp 35)),(2,1,(.tmp 41))]),S 8 2 42,N 3 (.move (I 0))] []) .ret) .skip))) (.region 3 [M 24 5,N 25 (.binOp .add (.one .int) (.tmp 24) (I 1)),M 5 25] [])))
def g1g:ACode:=(.seq (.seq (.region 5 [M 10 4,A 11 1 0,L 12 11,N 13 (.len .sl (.tmp 12)),N 14 (.binOp .lss (.one .int) (.tmp 10) (.tmp 13))] []) (.cond (.tmp 14) .skip (.exit 0))) (.seq (.block 1 (.seq (.region 3 [M 17 4,N 18 (.binOp .add (.one .int) (.tmp 17) (I 1)),M 5 18] []) (.block 2 (.loop u9t)))) (.region 3 [M 15 4,N 16 (.binOp .add (.one .int) (.tmp 15) (I 1)),M 4 16] [])))
def g4j:AFun:=
 {ntmps:=44,nslots:=2,results:=[.cell 2 (some 8), .tmp 3],byref:=[],owned:=true,
  body:=(.seq (.region 3 [N 1 (.box 0 (.tmp 0)),N 2 (.alloc 1 (.agg [(.int .i64 0),(.str []),(.str []),(.int .i64 0),(.int .i64 0),(.sl [] .nil),(.sl [] .nil),(.sl [] .nil)])),N 3 (.move (I 0))] []) (.seq (.seq (.region 3 [N 6 (.load (some 2) (.tmp 1)),N 7 (.call 44 [.tmp 6]),N 8 (.unOp .not (.tmp 7))] []) (.cond (.tmp 8) (.seq (.region 3 [N 9 (.build [(.int .i64 0),(.str []),(.str []),(.int .i64 0),(.int .i64 0),(.sl [] .nil),(.sl [] .nil),(.sl [] .nil)] []),S 8 2 9,N 3 (.move (I 1))] []) .ret) .skip)) (.seq (.seq (.region 1 [N 4 (.move (I 0))] []) (.block 0 (.loop g1g))) (.seq (.region 3 [N 43 (.build [(.int .i64 0),(.str []),(.str []),(.int .i64 0),(.int .i64 0),(.sl [] .nil),(.sl [] .nil),(.sl [] .nil)] []),S 8 2 43,N 3 (.move (I 8))] []) .ret))))}
theorem g5o:Gam.fn 36=some g4j:=by kernel_rfl
def u8w:ACode:=(.seq (.seq (.region 5 [M 49 11,A 50 9 1,L 51 50,N 52 (.len .sl (.tmp 51)),N 53 (.binOp .lss (.one .int) (.tmp 49) (.tmp 52))] []) (.cond (.tmp 53) .skip (.exit 2))) (.seq (.block 3 (.seq (.region 7 [A 56 9 1,L 57 56,M 58 11,N 59 (.indexAddr none 2 (.tmp 57) (.tmp 58)),N 60 (.load (some 2) (.tmp 59)),N 12 (.alloc 6 (.agg [(.str []),(.sl [] .nil)])),S 2 12 60] []) (.seq (.seq (.region 9 [A 61 12 0,L 62 61,M 63 5,N 64 (.binOp .eql (.one .str) (.tmp 62) (.tmp 63)),M 65 64,V 66 (.move (.tmp 3)) 65,V 67 (.call 35 [(.tmp 66),(I 2)]) 65,V 68 (.binOp .eql (.one .int) (.tmp 67) (I 0)) 65,N 69 (.pick (.tmp 65) (.tmp 68) (.const (.bool false)))] []) (.cond (.tmp 69) (.region 2 [A 70 12 0,⟨none, .store 1 (.tmp 70) (.const (.str [78])),none⟩] []) .skip)) (.region 5 [M 71 10,N 72 (.load (some 2) (.tmp 12)),N 73 (.buildSlice 7 false (.agg [(.str []),(.sl [] .nil)]) 1 [(0,(.tmp 72))]),N 74 (.append 8 2 40 false (.tmp 71) (.tmp 73)),M 10 74] [])))) (.region 3 [M 54 11,N 55 (.binOp .add (.one .int) (.tmp 54) (I 1)),M 11 55] [])))
def u8x:ACode:=(.seq (.seq (.region 5 [M 37 8,A 38 4 1,L 39 38,N 40 (.len .sl (.tmp 39)),N 41 (.binOp .lss (.one .int) (.tmp 37) (.tmp 40))] []) (.cond (.tmp 41) .skip (.exit 0))) (.seq (.block 1 (.seq (.region 7 [A 44 4 1,L 45 44,M 46 8,N 47 (.indexAddr none 5 (.tmp 45) (.tmp 46)),N 48 (.load (some 5) (.tmp 47)),N 9 (.alloc 5 (.agg [(.sl [] .nil),(.sl [] .nil),(.sl [] .nil),(.str []),(.sl [] .nil)])),S 5 9 48] []) (.seq (.region 1 [N 10 (.move (.const (.sl [] .nil)))] []) (.seq (.seq (.region 1 [N 11 (.move (I 0))] []) (.block 2 (.loop u8w))) (.seq (.region 7 [A 75 4 1,L 76 75,M 77 8,M 78 10,N 79 (.indexAddr none 5 (.tmp 76) (.tmp 77)),A 80 79 1,S 1 80 78] []) (.seq (.region 5 [A 81 9 3,A 82 81 0,L 83 82,M 84 5,N 85 (.binOp .eql (.one .str) (.tmp 83) (.tmp 84))] []) (.cond (.tmp 85) (.seq (.region 3 [A 86 9 3,A 87 86 0,⟨none, .store 1 (.tmp 87) (.const (.str [78])),none⟩] []) (.seq (.region 3 [M 88 3,N 89 (.call 35 [(.tmp 88),(I 12)]),N 90 (.binOp .gtr (.one .int) (.tmp 89) (I 0))] []) (.cond (.tmp 90) (.region 5 [M 91 7,N 92 (.load (some 5) (.tmp 9)),N 93 (.buildSlice 9 false (.agg [(.sl [] .nil),(.sl [] .nil),(.sl [] .nil),(.str []),(.sl [] .nil)]) 1 [(0,(.tmp 92))]),N 94 (.append 10 5 112 false (.tmp 91) (.tmp 93)),M 7 94] []) .skip))) .skip))))))) (.region 3 [M 42 8,N 43 (.binOp .add (.one .int) (.tmp 42) (I 1)),M 8 43] [])))
def g4k:AFun:=
 {ntmps:=101,nslots:=12,results:=[.cell 2 (some 2)],byref:=[],owned:=false,
  body:=(.seq (.region 1 [N 2 (.alloc 0 (.agg [(.sl [] .nil),(.sl [] .nil)]))] []) (.seq (.region 3 [M 13 0,N 14 (.call 20 [.tmp 13]),M 3 14] []) (.seq (.region 4 [M 15 0,N 16 (.call 14 [.tmp 15]),N 4 (.alloc 1 (.agg [(.sl [] .nil),(.sl [] .nil)])),S 2 4 16] []) (.seq (.region 6 [A 17 4 0,L 18 17,N 19 (.indexAddr none 3 (.tmp 18) (I 0)),A 20 19 0,L 21 20,M 5 21] []) (.seq (.seq (.region 3 [M 22 3,N 23 (.call 35 [(.tmp 22),(I 6)]),N 24 (.binOp .eql (.one .int) (.tmp 23) (I 0))] []) (.cond (.tmp 24) (.seq (.region 2 [N 25 (.load (some 2) (.tmp 4)),S 2 2 25] []) .ret) .skip)) (.seq (.region 6 [A 26 4 0,L 27 26,N 28 (.indexAddr none 3 (.tmp 27) (I 0)),N 29 (.load (some 3) (.tmp 28)),N 6 (.alloc 2 (.agg [(.str []),(.sl [] .nil),(.int .i64 0)])),S 3 6 29] []) (.seq (.region 2 [A 30 6 0,⟨none, .store 1 (.tmp 30) (.const (.str [78])),none⟩] []) (.seq (.region 7 [A 31 4 0,L 32 31,N 33 (.load (some 3) (.tmp 6)),N 34 (.buildSlice 3 false (.agg [(.str []),(.sl [] .nil),(.int .i64 0)]) 1 [(0,(.tmp 33))]),N 35 (.append 4 3 48 false (.tmp 32) (.tmp 34)),A 36 4 0,S 1 36 35] []) (.seq (.region 1 [N 7 (.move (.const (.sl [] .nil)))] []) (.seq (.seq (.region 1 [N 8 (.move (I 0))] []) (.block 0 (.loop u8x))) (.seq (.region 6 [A 95 4 1,L 96 95,M 97 7,N 98 (.append 11 5 112 false (.tmp 96) (.tmp 97)),A 99 4 1,S 1 99 98] []) (.seq (.region 2 [N 100 (.load (some 2) (.tmp 4)),S 2 2 100] []) .ret))))))))))))}
theorem g5p:Gam.fn 8=some g4k:=by kernel_rfl
def g4l:AFun:=
 {ntmps:=143,nslots:=10,results:=[.cell 6 (some 8)],byref:=[],owned:=false,
  body:=(.seq (.region 2 [N 3 (.box 0 (.tmp 0)),N 6 (.alloc 1 (.agg [(.int .i64 0),(.str []),(.str []),(.int .i64 0),(.int .i64 0),(.sl [] .nil),(.sl [] .nil),(.sl [] .nil)]))] []) (.seq (.region 3 [M 14 1,N 15 (.call 20 [.tmp 14]),M 7 15] []) (.seq (.region 8 [N 17 (.load (some 2) (.tmp 3)),N 18 (.call 36 [.tmp 17]),M 16 18,E 19 16 0,E 20 16 1,N 8 (.alloc 2 (.agg [(.int .i64 0),(.str []),(.str []),(.int .i64 0),(.int .i64 0),(.sl [] .nil),(.sl [] .nil),(.sl [] .nil)])),S 8 8 19,M 9 20] []) (.seq (.seq (.region 2 [M 21 2,N 22 (.unOp .not (.tmp 21))] []) (.cond (.tmp 22) (.seq (.region 2 [N 23 (.load (some 8) (.tmp 8)),S 8 6 23] []) .ret) .skip)) (.seq (.region 2 [N 24 (.buildSlice 3 false (.str []) 7 [(0,(.const (.str [80]))),(1,(.const (.str [81]))),(2,(.const (.str [82]))),(3,(.const (.str [90]))),(4,(.const (.str [83]))),(5,(.const (.str [78]))),(6,(.const (.str [])))]),M 10 24] []) (.seq (.seq (.region 2 [M 25 7,N 26 (.call 35 [(.tmp 25),(I 10)])] []) (.block 0 (.seq (.region 2 [N 37 (.binOp .eql (.one .int) (.tmp 26) (I 0)),M 36 37] []) (.cond (.tmp 36) (.region 4 [M 38 7,N 39 (.call 35 [(.tmp 38),(I 8)]),A 40 8 0,S 1 40 39] []) (.seq (.region 2 [N 42 (.binOp .eql (.one .int) (.tmp 26) (I 1)),M 41 42] []) (.cond (.tmp 41) (.region 7 [M 43 10,M 44 7,N 45 (.call 35 [(.tmp 44),(I 7)]),N 46 (.indexAddr none 1 (.tmp 43) (.tmp 45)),L 47 46,A 48 8 1,S 1 48 47] []) (.seq (.region 2 [N 50 (.binOp .eql (.one .int) (.tmp 26) (I 2)),M 49 50] []) (.cond (.tmp 49) (.region 7 [M 51 10,M 52 7,N 53 (.call 35 [(.tmp 52),(I 7)]),N 54 (.indexAddr none 1 (.tmp 51) (.tmp 53)),L 55 54,A 56 8 2,S 1 56 55] []) (.seq (.region 2 [N 58 (.binOp .eql (.one .int) (.tmp 26) (I 3)),M 57 58] []) (.cond (.tmp 57) (.region 10 [M 59 7,N 60 (.call 35 [(.tmp 59),(I 9)]),N 61 (.binOp .sub (.one .int) (.tmp 60) (I 1)),M 62 7,N 63 (.call 35 [(.tmp 62),(I 4)]),N 64 (.binOp .sub (.one .int) (.tmp 63) (I 1)),A 65 8 3,S 1 65 61,A 66 8 4,S 1 66 64] []) (.seq (.region 2 [N 68 (.binOp .eql (.one .int) (.tmp 26) (I 4)),M 67 68] []) (.cond (.tmp 67) (.region 11 [A 69 8 5,L 70 69,M 71 10,M 72 7,N 73 (.call 35 [(.tmp 72),(I 7)]),N 74 (.indexAddr none 1 (.tmp 71) (.tmp 73)),L 75 74,N 76 (.buildSlice 4 false (.str []) 1 [(0,(.tmp 75))]),N 77 (.append 5 1 16 false (.tmp 70) (.tmp 76)),A 78 8 5,S 1 78 77] [(1,4),(1,7)]) (.seq (.region 2 [N 80 (.binOp .eql (.one .int) (.tmp 26) (I 5)),M 79 80] []) (.cond (.tmp 79) (.region 11 [A 81 8 6,L 82 81,M 83 10,M 84 7,N 85 (.call 35 [(.tmp 84),(I 7)]),N 86 (.indexAddr none 1 (.tmp 83) (.tmp 85)),L 87 86,N 88 (.buildSlice 6 false (.str []) 1 [(0,(.tmp 87))]),N 89 (.append 7 1 16 false (.tmp 82) (.tmp 88)),A 90 8 6,S 1 90 89] [(1,4),(1,7)]) (.seq (.region 2 [N 92 (.binOp .eql (.one .int) (.tmp 26) (I 6)),M 91 92] []) (.cond (.tmp 91) (.region 22 [A 93 8 7,L 94 93,M 95 10,M 96 7,N 97 (.call 35 [(.tmp 96),(I 7)]),N 98 (.indexAddr none 1 (.tmp 95) (.tmp 97)),L 99 98,M 100 7,N 101 (.call 35 [(.tmp 100),(I 3)]),M 102 7,N 103 (.call 35 [(.tmp 102),(I 2)]),N 104 (.binOp .eql (.one .int) (.tmp 103) (I 0)),M 105 7,M 106 7,N 107 (.call 35 [(.tmp 106),(I 4)]),N 108 (.binOp .add (.one .int) (I 1) (.tmp 107)),N 109 (.call 21 [(.tmp 105),(.tmp 108)]),N 110 (.build [(.str []),(.int .i64 0),(.bool false),(.int .i64 0),(.bool false),(.str []),(.sl [] .nil),(.sl [] .nil)] [(0,1,(.tmp 99)),(1,1,(.tmp 101)),(2,1,(.tmp 104)),(3,5,(.tmp 109))]),N 111 (.buildSlice 8 false (.agg [(.str []),(.int .i64 0),(.bool false),(.int .i64 0),(.bool false),(.str []),(.sl [] .nil),(.sl [] .nil)]) 1 [(0,(.tmp 110))]),N 112 (.append 9 8 112 false (.tmp 94) (.tmp 111)),A 113 8 7,S 1 113 112] [(1,4),(1,8),(5,8),(6,8),(1,10),(5,10),(6,10),(1,14),(5,14),(6,14),(1,16),(5,16),(6,16),(1,18)]) (.seq (.region 2 [N 115 (.binOp .eql (.one .int) (.tmp 26) (I 7)),M 114 115] []) (.cond (.tmp 114) (.seq (.region 4 [A 116 8 7,L 117 116,N 118 (.len .sl (.tmp 117)),M 11 118] []) (.seq (.region 2 [M 119 11,N 120 (.binOp .gtr (.one .int) (.tmp 119) (I 0))] []) (.cond (.tmp 120) (.region 8 [A 121 8 7,L 122 121,M 123 7,M 124 11,N 125 (.call 35 [(.tmp 123),(.tmp 124)]),N 126 (.slice (some 8) (.tmp 122) (some (.tmp 125)) none none),A 127 8 7,S 1 127 126] [(1,4)]) .skip))) (.seq (.region 2 [N 129 (.binOp .eql (.one .int) (.tmp 26) (I 8)),M 128 129] []) (.cond (.tmp 128) (.seq (.region 4 [A 130 8 5,L 131 130,N 132 (.len .sl (.tmp 131)),M 12 132] []) (.seq (.region 2 [M 133 12,N 134 (.binOp .gtr (.one .int) (.tmp 133) (I 0))] []) (.cond (.tmp 134) (.region 8 [A 135 8 5,L 136 135,M 137 7,M 138 12,N 139 (.call 35 [(.tmp 137),(.tmp 138)]),N 140 (.slice (some 1) (.tmp 136) (some (.tmp 139)) none none),A 141 8 5,S 1 141 140] [(1,4)]) .skip))) (.seq (.region 4 [A 27 8 6,L 28 27,N 29 (.len .sl (.tmp 28)),M 13 29] []) (.seq (.region 2 [M 30 13,N 31 (.binOp .gtr (.one .int) (.tmp 30) (I 0))] []) (.cond (.tmp 31) (.region 5 [A 32 8 6,L 33 32,N 34 (.slice (some 1) (.tmp 33) (some (I 1)) none none),A 35 8 6,S 1 35 34] []) .skip))))))))))))))))))))))) (.seq (.region 2 [N 142 (.load (some 8) (.tmp 8)),S 8 6 142] []) .ret)))))))}
theorem g4m:Gam.fn 9=some g4l:=by kernel_rfl
def u8y:ACode:=(.seq (.region 1 [N 68 (.binOp .lss (.one .int) (.tmp 67) (.tmp 66))] []) (.seq (.cond (.tmp 68) .skip (.exit 4)) (.seq (.block 5 (.seq (.region 6 [M 69 67,N 70 (.indexAddr none 2 (.tmp 65) (.tmp 67)),N 71 (.load (some 2) (.tmp 70)),N 16 (.alloc 9 (.agg [(.str []),(.sl [] .nil)])),M 15 69,S 2 16 71] []) (.region 8 [A 72 14 1,L 73 72,M 74 15,N 75 (.load (some 2) (.tmp 8)),N 76 (.load (some 2) (.tmp 16)),N 77 (.call 40 [(.tmp 75),(.tmp 76)]),N 78 (.indexAddr none 2 (.tmp 73) (.tmp 74)),S 2 78 77] [(1,5)]))) (.region 2 [N 79 (.binOp .add (.one .int) (.tmp 67) (I 1)),M 67 79] []))))
def u9u:ACode:=(.seq (.region 1 [N 55 (.binOp .lss (.one .int) (.tmp 54) (.tmp 53))] []) (.seq (.cond (.tmp 55) .skip (.exit 2)) (.seq (.block 3 (.seq (.region 3 [N 56 (.indexAddr none 1 (.tmp 52) (.tmp 54)),L 57 56,M 13 57] []) (.seq (.region 8 [A 58 2 1,L 59 58,M 60 13,N 61 (.indexAddr none 5 (.tmp 59) (.tmp 60)),N 62 (.load (some 5) (.tmp 61)),N 63 (.call 39 [.tmp 62]),N 14 (.alloc 8 (.agg [(.sl [] .nil),(.sl [] .nil),(.sl [] .nil),(.str []),(.sl [] .nil)])),S 5 14 63] []) (.seq (.seq (.region 4 [A 64 14 1,L 65 64,N 66 (.len .sl (.tmp 65)),N 67 (.move (I 0))] []) (.block 4 (.loop u8y))) (.region 7 [A 80 9 1,L 81 80,N 82 (.load (some 5) (.tmp 14)),N 83 (.buildSlice 10 false (.agg [(.sl [] .nil),(.sl [] .nil),(.sl [] .nil),(.str []),(.sl [] .nil)]) 1 [(0,(.tmp 82))]),N 84 (.append 11 5 112 false (.tmp 81) (.tmp 83)),A 85 9 1,S 1 85 84] []))))) (.region 2 [N 86 (.binOp .add (.one .int) (.tmp 54) (I 1)),M 54 86] []))))
def u8z:ACode:=(.seq (.region 1 [N 37 (.binOp .lss (.one .int) (.tmp 36) (.tmp 35))] []) (.seq (.cond (.tmp 37) .skip (.exit 0)) (.seq (.block 1 (.seq (.region 4 [N 38 (.indexAddr none 3 (.tmp 34) (.tmp 36)),N 39 (.load (some 3) (.tmp 38)),N 11 (.alloc 5 (.agg [(.str []),(.sl [] .nil),(.int .i64 0)])),S 3 11 39] []) (.seq (.region 5 [A 40 11 0,L 41 40,A 42 3 1,L 43 42,N 44 (.binOp .neq (.one .str) (.tmp 41) (.tmp 43))] []) (.cond (.tmp 44) (.region 7 [A 45 9 0,L 46 45,N 47 (.load (some 3) (.tmp 11)),N 48 (.buildSlice 6 false (.agg [(.str []),(.sl [] .nil),(.int .i64 0)]) 1 [(0,(.tmp 47))]),N 49 (.append 7 3 48 false (.tmp 46) (.tmp 48)),A 50 9 0,S 1 50 49] []) .skip)))) (.region 2 [N 51 (.binOp .add (.one .int) (.tmp 36) (I 1)),M 36 51] []))))
def g3m:AFun:=
 {ntmps:=88,nslots:=12,results:=[.cell 4 (some 2), .tmp 5],byref:=[],owned:=false,
  body:=(.seq (.region 4 [N 2 (.box 0 (.tmp 0)),N 3 (.box 1 (.tmp 1)),N 4 (.alloc 2 (.agg [(.sl [] .nil),(.sl [] .nil)])),N 5 (.move (I 0))] []) (.seq (.region 8 [N 18 (.load (some 2) (.tmp 2)),N 19 (.load (some 8) (.tmp 3)),N 20 (.call 37 [(.tmp 18),(.tmp 19)]),M 17 20,E 21 17 0,E 22 17 1,M 6 21,M 7 22] []) (.seq (.seq (.region 2 [M 23 7,N 24 (.binOp .neq (.one .int) (.tmp 23) (I 0))] []) (.cond (.tmp 24) (.seq (.region 4 [N 25 (.build [(.sl [] .nil),(.sl [] .nil)] []),M 26 7,S 2 4 25,M 5 26] []) .ret) .skip)) (.seq (.region 7 [A 27 3 1,L 28 27,A 29 3 2,L 30 29,N 31 (.build [(.str []),(.str [])] [(0,1,(.tmp 28)),(1,1,(.tmp 30))]),N 8 (.alloc 3 (.agg [(.str []),(.str [])])),S 2 8 31] []) (.seq (.region 1 [N 9 (.alloc 4 (.agg [(.sl [] .nil),(.sl [] .nil)]))] []) (.seq (.seq (.region 5 [A 32 2 0,L 33 32,N 34 (.call 38 [.tmp 33]),N 35 (.len .sl (.tmp 34)),N 36 (.move (I 0))] []) (.block 0 (.loop u8z))) (.seq (.seq (.region 3 [M 52 6,N 53 (.len .sl (.tmp 52)),N 54 (.move (I 0))] []) (.block 2 (.loop u9u))) (.seq (.region 3 [N 87 (.load (some 2) (.tmp 9)),S 2 4 87,N 5 (.move (I 0))] []) .ret))))))))}
theorem g5q:Gam.fn 10=some g3m:=by kernel_rfl
def af4:AFun:=
 {ntmps:=82,nslots:=7,results:=[.tmp 4],byref:=[],owned:=false,
  body:=(.seq (.region 1 [N 4 (.move (.const (.bool false)))] []) (.seq (.region 4 [M 16 0,N 17 (.call 8 [.tmp 16]),N 5 (.alloc 0 (.agg [(.sl [] .nil),(.sl [] .nil)])),S 2 5 17] []) (.seq (.region 10 [N 18 (.load (some 2) (.tmp 5)),M 19 1,N 20 (.call 9 [(.tmp 18),(.tmp 19),(.const (.bool false))]),N 21 (.load (some 2) (.tmp 5)),M 22 1,N 23 (.call 9 [(.tmp 21),(.tmp 22),(.const (.bool true))]),N 6 (.alloc 1 (.agg [(.int .i64 0),(.str []),(.str []),(.int .i64 0),(.int .i64 0),(.sl [] .nil),(.sl [] .nil),(.sl [] .nil)])),N 7 (.alloc 2 (.agg [(.int .i64 0),(.str []),(.str []),(.int .i64 0),(.int .i64 0),(.sl [] .nil),(.sl [] .nil),(.sl [] .nil)])),S 8 6 20,S 8 7 23] [(2,3),(0,6),(2,6),(3,6),(5,6),(0,7),(2,7),(3,7),(5,7),(6,7)]) (.seq (.region 9 [N 25 (.load (some 2) (.tmp 5)),N 26 (.load (some 8) (.tmp 6)),N 27 (.call 10 [(.tmp 25),(.tmp 26)]),M 24 27,E 28 24 0,E 29 24 1,N 8 (.alloc 3 (.agg [(.sl [] .nil),(.sl [] .nil)])),S 2 8 28,M 9 29] []) (.seq (.region 9 [N 31 (.load (some 2) (.tmp 5)),N 32 (.load (some 8) (.tmp 6)),N 33 (.call 11 [(.tmp 31),(.tmp 32)]),M 30 33,E 34 30 0,E 35 30 1,N 10 (.alloc 4 (.agg [(.sl [] .nil),(.sl [] .nil)])),S 2 10 34,M 11 35] []) (.seq (.region 9 [N 37 (.load (some 2) (.tmp 5)),N 38 (.load (some 8) (.tmp 7)),N 39 (.call 10 [(.tmp 37),(.tmp 38)]),M 36 39,E 40 36 0,E 41 36 1,N 12 (.alloc 5 (.agg [(.sl [] .nil),(.sl [] .nil)])),S 2 12 40,M 13 41] []) (.seq (.region 9 [N 43 (.load (some 2) (.tmp 5)),N 44 (.load (some 8) (.tmp 7)),N 45 (.call 11 [(.tmp 43),(.tmp 44)]),M 42 45,E 46 42 0,E 47 42 1,N 14 (.alloc 6 (.agg [(.sl [] .nil),(.sl [] .nil)])),S 2 14 46,M 15 47] []) (.seq (.region 35 [M 48 9,M 49 11,N 50 (.binOp .eql (.one .int) (.tmp 48) (.tmp 49)),M 51 50,V 52 (.load (some 2) (.tmp 8)) 51,V 53 (.load (some 2) (.tmp 10)) 51,V 54 (.call 12 [(.tmp 52),(.tmp 53)]) 51,N 55 (.pick (.tmp 51) (.tmp 54) (.const (.bool false))),M 56 55,V 57 (.move (.tmp 13)) 56,V 58 (.move (.tmp 15)) 56,V 59 (.binOp .eql (.one .int) (.tmp 57) (.tmp 58)) 56,N 60 (.pick (.tmp 56) (.tmp 59) (.const (.bool false))),M 61 60,V 62 (.load (some 2) (.tmp 12)) 61,V 63 (.load (some 2) (.tmp 14)) 61,V 64 (.call 12 [(.tmp 62),(.tmp 63)]) 61,N 65 (.pick (.tmp 61) (.tmp 64) (.const (.bool false))),M 66 65,V 67 (.fieldAddr (.tmp 6) 0) 66,V 68 (.load none (.tmp 67)) 66,V 69 (.binOp .eql (.one .int) (.tmp 68) (I 0)) 66,V 70 (.move (.tmp 69)) 66,U 71 (.move (.tmp 9)) 70,U 72 (.binOp .eql (.one .int) (.tmp 71) (I 0)) 70,V 73 (.pick (.tmp 70) (.const (.bool true)) (.tmp 72)) 66,V 74 (.move (.tmp 73)) 66,U 75 (.move (.tmp 9)) 74,U 76 (.binOp .eql (.one .int) (.tmp 75) (I 6)) 74,V 77 (.pick (.tmp 74) (.const (.bool true)) (.tmp 76)) 66,N 78 (.pick (.tmp 66) (.tmp 77) (.const (.bool false))),M 79 78,V 80 (.call 13 []) 79,N 81 (.pick (.tmp 79) (.tmp 80) (.const (.bool false))),M 4 81] []) .ret))))))))}
theorem fn4:Gam.fn 3=some af4:=by kernel_rfl
end
def lps:ACode→List ACode
 | .seq a b=>lps a++lps b
 | .cond _ a b=>lps a++lps b
 | .block _ b=>lps b
 | .loop b=>b::lps b
 | .rangeB _ _ _ a b=>lps a++lps b
 | _=>[]
def lp (f:AFun) (k:Nat):ACode:=(lps f.body).getD k .skip
def fla:ACode→List ACode→ACode×List ACode
 | .seq a b,l=>let r:=fla a l;let q:=fla b r.2;(.seq r.1 q.1,q.2)
 | .cond x a b,l=>let r:=fla a l;let q:=fla b r.2;(.cond x r.1 q.1,q.2)
 | .block i b,l=>let r:=fla b l;(.block i r.1,r.2)
 | .loop b,c::l=>(.loop c,l.drop (lps b).length)
 | .rangeB x p q a b,l=>let r:=fla a l;let t:=fla b r.2;(.rangeB x p q r.1 t.1,t.2)
 | c,l=>(c,l)
def fl (l:List ACode) (c:ACode):ACode:=(fla c l).1
def flF (l:List ACode) (f:AFun):AFun:={f with body:=fl l f.body}
section
open Sh
set_option maxHeartbeats 0
noncomputable def q26:AFun:=(fun (a:AFun) (_:Gam.fn 14=some a)=>a) _ (by conv=>lhs;reduce;simp only[Int.reduceOfNat,Int.reduceNegSucc])
noncomputable def k5l:ACode:=(fun (a:ACode) (_:fl [] (lp q26 0)=a)=>a) _ (by conv=>lhs;reduce;simp only[Int.reduceOfNat,Int.reduceNegSucc])
attribute [local irreducible] k5l
noncomputable def u0p:AFun:=(fun (a:AFun) (_:flF [k5l] q26=a)=>a) _ (by conv=>lhs;reduce;simp only[Int.reduceOfNat,Int.reduceNegSucc])
theorem u4u:Gam.fn 14=some u0p:=by kernel_rfl
noncomputable def k5m:AFun:=(fun (a:AFun) (_:Gam.fn 20=some a)=>a) _ (by conv=>lhs;reduce;simp only[Int.reduceOfNat,Int.reduceNegSucc])
theorem u4v:Gam.fn 20=some k5m:=by kernel_rfl
noncomputable def u0q:AFun:=(fun (a:AFun) (_:Gam.fn 35=some a)=>a) _ (by conv=>lhs;reduce;simp only[Int.reduceOfNat,Int.reduceNegSucc])
theorem u4w:Gam.fn 35=some u0q:=by kernel_rfl
noncomputable def y1t:AFun:=(fun (a:AFun) (_:Gam.fn 21=some a)=>a) _ (by conv=>lhs;reduce;simp only[Int.reduceOfNat,Int.reduceNegSucc])
theorem u4x:Gam.fn 21=some y1t:=by kernel_rfl
noncomputable def u0r:AFun:=(fun (a:AFun) (_:Gam.fn 46=some a)=>a) _ (by conv=>lhs;reduce;simp only[Int.reduceOfNat,Int.reduceNegSucc])
theorem u4y:Gam.fn 46=some u0r:=by kernel_rfl
noncomputable def q53:AFun:=(fun (a:AFun) (_:Gam.fn 47=some a)=>a) _ (by conv=>lhs;reduce;simp only[Int.reduceOfNat,Int.reduceNegSucc])
noncomputable def j9z:ACode:=(fun (a:ACode) (_:fl [] (lp q53 1)=a)=>a) _ (by conv=>lhs;reduce;simp only[Int.reduceOfNat,Int.reduceNegSucc])
attribute [local irreducible] j9z
noncomputable def k5n:ACode:=(fun (a:ACode) (_:fl [j9z] (lp q53 0)=a)=>a) _ (by conv=>lhs;reduce;simp only[Int.reduceOfNat,Int.reduceNegSucc])
attribute [local irreducible] k5n
noncomputable def u0s:AFun:=(fun (a:AFun) (_:flF [k5n,j9z] q53=a)=>a) _ (by conv=>lhs;reduce;simp only[Int.reduceOfNat,Int.reduceNegSucc])
theorem u4z:Gam.fn 47=some u0s:=by kernel_rfl
noncomputable def u0t:AFun:=(fun (a:AFun) (_:Gam.fn 89=some a)=>a) _ (by conv=>lhs;reduce;simp only[Int.reduceOfNat,Int.reduceNegSucc])
theorem u5a:Gam.fn 89=some u0t:=by kernel_rfl
noncomputable def q72:AFun:=(fun (a:AFun) (_:Gam.fn 59=some a)=>a) _ (by conv=>lhs;reduce;simp only[Int.reduceOfNat,Int.reduceNegSucc])
noncomputable def j6e:ACode:=(fun (a:ACode) (_:fl [] (lp q72 0)=a)=>a) _ (by conv=>lhs;reduce;simp only[Int.reduceOfNat,Int.reduceNegSucc])
attribute [local irreducible] j6e
noncomputable def u0u:AFun:=(fun (a:AFun) (_:flF [j6e] q72=a)=>a) _ (by conv=>lhs;reduce;simp only[Int.reduceOfNat,Int.reduceNegSucc])
theorem u5b:Gam.fn 59=some u0u:=by kernel_rfl
noncomputable def q97:AFun:=(fun (a:AFun) (_:Gam.fn 107=some a)=>a) _ (by conv=>lhs;reduce;simp only[Int.reduceOfNat,Int.reduceNegSucc])
noncomputable def v5l:ACode:=(fun (a:ACode) (_:fl [] (lp q97 0)=a)=>a) _ (by conv=>lhs;reduce;simp only[Int.reduceOfNat,Int.reduceNegSucc])
attribute [local irreducible] v5l
noncomputable def u0v:AFun:=(fun (a:AFun) (_:flF [v5l] q97=a)=>a) _ (by conv=>lhs;reduce;simp only[Int.reduceOfNat,Int.reduceNegSucc])
theorem u5c:Gam.fn 107=some u0v:=by kernel_rfl
noncomputable def u0w:AFun:=(fun (a:AFun) (_:Gam.fn 108=some a)=>a) _ (by conv=>lhs;reduce;simp only[Int.reduceOfNat,Int.reduceNegSucc])
theorem u0x:Gam.fn 108=some u0w:=by kernel_rfl
noncomputable def g4n:AFun:=(fun (a:AFun) (_:Gam.fn 45=some a)=>a) _ (by conv=>lhs;reduce;simp only[Int.reduceOfNat,Int.reduceNegSucc])
theorem g5r:Gam.fn 45=some g4n:=by kernel_rfl
noncomputable def w5o:AFun:=(fun (a:AFun) (_:Gam.fn 171=some a)=>a) _ (by conv=>lhs;reduce;simp only[Int.reduceOfNat,Int.reduceNegSucc])
theorem y5h:Gam.fn 171=some w5o:=by kernel_rfl
noncomputable def w5p:AFun:=(fun (a:AFun) (_:Gam.fn 54=some a)=>a) _ (by conv=>lhs;reduce;simp only[Int.reduceOfNat,Int.reduceNegSucc])
theorem y5i:Gam.fn 54=some w5p:=by kernel_rfl
noncomputable def w5q:AFun:=(fun (a:AFun) (_:Gam.fn 118=some a)=>a) _ (by conv=>lhs;reduce;simp only[Int.reduceOfNat,Int.reduceNegSucc])
theorem y5j:Gam.fn 118=some w5q:=by kernel_rfl
noncomputable def u0y:AFun:=(fun (a:AFun) (_:Gam.fn 172=some a)=>a) _ (by conv=>lhs;reduce;simp only[Int.reduceOfNat,Int.reduceNegSucc])
noncomputable def k0a:ACode:=(fun (a:ACode) (_:fl [] (lp u0y 0)=a)=>a) _ (by conv=>lhs;reduce;simp only[Int.reduceOfNat,Int.reduceNegSucc])
attribute [local irreducible] k0a
noncomputable def w5r:AFun:=(fun (a:AFun) (_:flF [k0a] u0y=a)=>a) _ (by conv=>lhs;reduce;simp only[Int.reduceOfNat,Int.reduceNegSucc])
theorem y5k:Gam.fn 172=some w5r:=by kernel_rfl
noncomputable def w5s:AFun:=(fun (a:AFun) (_:Gam.fn 173=some a)=>a) _ (by conv=>lhs;reduce;simp only[Int.reduceOfNat,Int.reduceNegSucc])
theorem y5l:Gam.fn 173=some w5s:=by kernel_rfl
noncomputable def u0z:AFun:=(fun (a:AFun) (_:Gam.fn 53=some a)=>a) _ (by conv=>lhs;reduce;simp only[Int.reduceOfNat,Int.reduceNegSucc])
noncomputable def j2w:ACode:=(fun (a:ACode) (_:fl [] (lp u0z 0)=a)=>a) _ (by conv=>lhs;reduce;simp only[Int.reduceOfNat,Int.reduceNegSucc])
attribute [local irreducible] j2w
noncomputable def v5m:AFun:=(fun (a:AFun) (_:flF [j2w] u0z=a)=>a) _ (by conv=>lhs;reduce;simp only[Int.reduceOfNat,Int.reduceNegSucc])
theorem v5n:Gam.fn 53=some v5m:=by kernel_rfl
noncomputable def v5o:AFun:=(fun (a:AFun) (_:Gam.fn 178=some a)=>a) _ (by conv=>lhs;reduce;simp only[Int.reduceOfNat,Int.reduceNegSucc])
theorem w5t:Gam.fn 178=some v5o:=by kernel_rfl
noncomputable def u1a:AFun:=(fun (a:AFun) (_:Gam.fn 147=some a)=>a) _ (by conv=>lhs;reduce;simp only[Int.reduceOfNat,Int.reduceNegSucc])
noncomputable def k0b:ACode:=(fun (a:ACode) (_:fl [] (lp u1a 0)=a)=>a) _ (by conv=>lhs;reduce;simp only[Int.reduceOfNat,Int.reduceNegSucc])
attribute [local irreducible] k0b
noncomputable def w5u:AFun:=(fun (a:AFun) (_:flF [k0b] u1a=a)=>a) _ (by conv=>lhs;reduce;simp only[Int.reduceOfNat,Int.reduceNegSucc])
theorem y5m:Gam.fn 147=some w5u:=by kernel_rfl
noncomputable def w5v:AFun:=(fun (a:AFun) (_:Gam.fn 117=some a)=>a) _ (by conv=>lhs;reduce;simp only[Int.reduceOfNat,Int.reduceNegSucc])
theorem y5n:Gam.fn 117=some w5v:=by kernel_rfl
noncomputable def w5w:AFun:=(fun (a:AFun) (_:Gam.fn 119=some a)=>a) _ (by conv=>lhs;reduce;simp only[Int.reduceOfNat,Int.reduceNegSucc])
theorem y5o:Gam.fn 119=some w5w:=by kernel_rfl
noncomputable def u1b:AFun:=(fun (a:AFun) (_:Gam.fn 247=some a)=>a) _ (by conv=>lhs;reduce;simp only[Int.reduceOfNat,Int.reduceNegSucc])
noncomputable def j2x:ACode:=(fun (a:ACode) (_:fl [] (lp u1b 0)=a)=>a) _ (by conv=>lhs;reduce;simp only[Int.reduceOfNat,Int.reduceNegSucc])
attribute [local irreducible] j2x
noncomputable def w5x:AFun:=(fun (a:AFun) (_:flF [j2x] u1b=a)=>a) _ (by conv=>lhs;reduce;simp only[Int.reduceOfNat,Int.reduceNegSucc])
theorem y5p:Gam.fn 247=some w5x:=by kernel_rfl
noncomputable def v5p:AFun:=(fun (a:AFun) (_:Gam.fn 300=some a)=>a) _ (by conv=>lhs;reduce;simp only[Int.reduceOfNat,Int.reduceNegSucc])
theorem y5q:Gam.fn 300=some v5p:=by kernel_rfl
noncomputable def w5y:AFun:=(fun (a:AFun) (_:Gam.fn 335=some a)=>a) _ (by conv=>lhs;reduce;simp only[Int.reduceOfNat,Int.reduceNegSucc])
theorem y5r:Gam.fn 335=some w5y:=by kernel_rfl
noncomputable def w5z:AFun:=(fun (a:AFun) (_:Gam.fn 336=some a)=>a) _ (by conv=>lhs;reduce;simp only[Int.reduceOfNat,Int.reduceNegSucc])
theorem y5s:Gam.fn 336=some w5z:=by kernel_rfl
end
section
variable {D L:List AObj} {B k g:Nat} {o:AObj}
theorem z5i (hB:D.length=B):(D++L).set (B + k) o=D++L.set k o:=by
 subst hB
 rw[List.set_append_right _ _ (by omega)]
 congr 2
 omega
theorem z6k (hB:D.length=B):(D++L)[B + k]? =L[k]? :=by
 subst hB
 rw[List.getElem?_append_right (by omega)]
 congr 1
 omega
theorem z6w (hB:D.length=B):z2a (D++L) (B + k) g=z2a L k g:=by
 unfold z2a
 rw[z6k hB]
theorem x4d (hB:D.length=B):z5m (D++L) (B + k) g=z5m L k g:=by
 unfold z5m
 rw[z6k hB]
theorem k0c {s:Nat} (hB:D.length=B) (h:s < B):(D++L).set s o=D.set s o++L:=List.set_append_left _ _ (hB ▸ h)
theorem z0u {s:Nat} (hB:D.length=B) (h:s < B):(D++L)[s]? =D[s]? :=List.getElem?_append_left (hB ▸ h)
theorem z4e {s:Nat} (hB:D.length=B) (h:s < B):z2a (D++L) s g=z2a D s g:=by
 unfold z2a
 rw[z0u hB h]
theorem v5q {s:Nat} {es:List AV} {r w:Bool} {z:Nat} (hB:D.length=B) (h:s < B):z2a (D.set s (.blk g es r w z)++L) s g=some (es,r,w,z):=by
 rw[z4e (B:=B) (by rw[List.length_set];exact hB) h]
 subst hB
 simp[z2a,h]
theorem k5o {os:List AObj} {es:List AV} {r w:Bool} {z:Nat}:z2a (.blk g es r w z::os) 0 g=some (es,r,w,z):=by simp[z2a]
theorem k5p {os:List AObj}:z2a (o::os) (k + 1) g=z2a os k g:=by simp[z2a]
theorem z5z {s:Nat} {es:List AV} {r w:Bool} {z:Nat} (h:D[s]? =some (.blk g es r w z)):z2a D s g=some (es,r,w,z):=by simp[z2a,h]
theorem j2y {os:List AObj} {es:List (AV×AV)}:z5m (.map g es::os) 0 g=some es:=by simp[z5m]
theorem j2z {os:List AObj}:z5m (o::os) (k + 1) g=z5m os k g:=by simp[z5m]
theorem q0h {h:List AObj} {s i o sz:Nat} {v:AV}:z8s h sz v (.ptr s g i o)=match z2a h s g with
 | some (es,row,grow,fz)=>
   match es[i]?,(if row then pub h v else some (v,h)) with
   | some e,some (v',h')=>
     if v'.def? =true∧v'.cells.length=sz∧v'.cells.all AV.one=true∧(row=true→fz≤i∧ !(v.obs.map (·.1)).contains s) then
      (z9z e.cells o v'.cells).map fun cs=>(.undef,h'.set s (.blk g (es.set i (z9j e cs)) row grow fz))
     else none
   | _,_=>none
 | none=>none:=rfl
theorem u6y {h:List AObj} {s o sz:Nat} {v e:AV} (hb:z2a h s g=some ([e],false,false,0)) (hv:v.def? =true) (hl:v.cells.length=sz) (ho:v.cells.all AV.one=true) (hs:o + sz≤e.cells.length):
  z8s h sz v (.ptr s g 0 o)=some (.undef,h.set s (.blk g [z9j e (e.cells.take o++v.cells++e.cells.drop (o + sz))] false false 0)):=by
 rw[q0h,hb]
 simp only[List.getElem?_cons_zero,Bool.false_eq_true,if_false,hv,hl,ho,true_and,false_implies,and_self,if_true,z9z,hs,List.set_cons_zero,Option.map_some]
end
theorem j6f {cs:List AV} {o:Nat}:z1q cs o none=cs[o]? :=(rfl)
theorem j6g {cs:List AV} {o n:Nat}:z1q cs o (some n)=if o + n≤cs.length then some (.agg ((cs.drop o).take n)) else none:=(rfl)
attribute [go_sem] q0h v3i z9z List.all_cons List.all_nil Bool.and_true Bool.true_and Bool.and_self List.isEmpty_cons Bool.not_true Bool.not_false Bool.or_self Bool.or_false Bool.false_or Bool.false_eq_true false_implies true_and and_true and_self List.singleton_append List.cons_append List.nil_append j6f j6g List.length_cons List.length_nil List.drop_zero List.drop_succ_cons List.take_succ_cons List.take_zero List.take_nil z5i z6w x4d k5o k5p j2y j2z List.replicate_succ List.replicate_zero List.set_cons_zero List.set_cons_succ List.getElem?_cons_zero List.getElem?_cons_succ cvL AV.cv
def z9y (l:List Int):List AV:=l.map fun n=> .int .i64 n
def z5c (g:Nat) (l:List Int) (i:Nat):AObj:= .blk g [.agg [.sl (z9y l) .no, .int .i64 i]] false false 0
def q7q (l:List Int):Prop:=l.length≤400∧∀ z∈l, -9223372036854775808≤z∧z≤9223372036854775807
theorem z8d {l:List Int}:idsL (z9y l)=[]:=by
 induction l with
 | nil=>rfl
 | cons a l ih=>simpa [z9y,idsL,AV.ids] using ih
theorem q9g {g i:Nat} {l:List Int}:(z5c g l i).ids=[]:=by simp[z5c,AObj.ids,idsL,AV.ids,z8d]
theorem z5r {l:List Int}:(z9y l).length=l.length:=List.length_map _
theorem k5q {l:List Int} {i:Nat} (h:i < l.length):(z9y l)[i]? =some (.int .i64 l[i]):=by simp[z9y,h]
theorem k5r {l:List Int} {i:Nat} {h:List AObj} {t:Tip} {k:IntKind} (hi:i < l.length):z1m h 1 (.sl (z9y l) t) (.int k (i:Int))=some (.iptr [.int .i64 l[i]] 0,h):=z5q (k5q hi) rfl
def GenOk (l:List Int) (f:Nat) (args:List AV) (R:AV→Prop):Prop:=
 ∀ h s g i clk (Q:AV→List AObj→Nat→Prop),h[s]? =some (z5c g l i)→i≤l.length→(∀ v i',i'≤l.length→R v→Q v (h.set s (z5c g l i')) clk)→
   WC Gam f (.ptr s g 0 0::args) h clk Q∧z0v Gam f (.ptr s g 0 0::args) h=[s]
theorem GenOk.of {l:List Int} {f:Nat} {args az:List AV} {af:AFun} {R:AV→Prop} (hext:Gam.ext f=none) (hfn:Gam.fn f=some af) (hb:af.byref=[]) (ho:af.owned=false) (hobs:z4k args=[]) (has:cvL args=az) (hids:idsL az=[])
  (hw:∀ (D:List AObj) (B s g i clk:Nat) (T:AV→List AObj→Prop),D.length=B→s < B→D[s]? =some (z5c g l i)→i≤l.length→(∀ v h' i',h'[s]? =some (z5c g l i')→i'≤l.length→R v→T v h')→
   K Gam B af.body [] ⟨q0b (.ptr s g 0 0::az),D++List.replicate af.nslots .dead,clk⟩ (j8w [s] af.results T)):GenOk l f args R:=by
 intro h s g i clk Q hs hi hQ
 have hobs':z4k (.ptr s g 0 0::args)=[]:=by simp[z4k,AV.obs,hobs]
 have has':cvL (.ptr s g 0 0::args)= .ptr s g 0 0::az:=by simp[cvL,AV.cv,has]
 have hids':idsL (.ptr s g 0 0::az)=[s]:=by simp[idsL,AV.ids,hids]
 refine⟨?_, ?_⟩
 ·refine w0o hext hfn hb ho hobs' has' hids' hs q9g fun D B T hB hD hlt hT=>hw D B s g i clk T hB hlt hD hi fun v h' i' h1 h2 h3=>hT v h' _ h1 q9g (hQ v i' h2 h3)
 ·unfold z0v
  have hp:z1n h af.byref 0 (.ptr s g 0 0::args)=some (.ptr s g 0 0::az):=by rw[hb,z1j hobs',has']
  simp only[hext,hfn,hp,hobs',hids',List.map_nil,List.nil_append,reach,List.contains_nil,Bool.false_eq_true,if_false,hs,Option.map_some,q9g,Option.getD_some]
  cases h.length <;> rfl
theorem j6h {f g f' g':List Nat×List Nat} (hf1:∀ x∈f'.1,x∈f.1) (hf2:∀ x∈f'.2,x∈f.2) (hg1:∀ x∈g'.1,x∈g.1) (hg2:∀ x∈g'.2,x∈g.2) (h:apart f g=true):apart f' g'=true:=by
 simp only[apart,z0i,Bool.and_eq_true,List.all_eq_true,Bool.not_eq_true',List.contains_eq_mem,decide_eq_false_iff_not] at h⊢
 exact⟨⟨fun x hx hy=>h.1.1 x (hf2 x hx) (hg1 x hy),fun x hx hy=>h.1.2 x (hf2 x hx) (hg2 x hy)⟩,fun x hx hy=>h.2 x (hg2 x hx) (hf1 x hy)⟩
def FeetLe (fs gs:List (List Nat×List Nat)):Prop:=fs.length=gs.length∧∀ i,(∀ x∈(fs.getD i ([],[])).1,x∈(gs.getD i ([],[])).1)∧(∀ x∈(fs.getD i ([],[])).2,x∈(gs.getD i ([],[])).2)
theorem x9v {N:Nat} {ops:List AOper} {fs gs:List (List Nat×List Nat)} {ps:List (Nat×Nat)} (hl:FeetLe fs gs) (h:z1f N ops gs ps=true):z1f N ops fs ps=true:=by
 unfold z1f at h⊢
 rw[List.all_eq_true] at h⊢
 intro p hp
 have:=h p hp
 simp only[Bool.and_eq_true,Bool.or_eq_true] at this⊢
 refine⟨j6h (hl.2 p.1).1 (hl.2 p.1).2 (hl.2 p.2).1 (hl.2 p.2).2 this.1,this.2.imp id fun h2=> ?_⟩
 rw[List.all_eq_true] at h2⊢
 intro x hx
 refine h2 x ?_
 simp only[z1h,List.mem_append] at hx⊢
 rcases hx with (hx | hx) | (hx | hx)
 ·exact .inl (.inl ((hl.2 p.1).1 x hx))
 ·exact .inl (.inr ((hl.2 p.1).2 x hx))
 ·exact .inr (.inl ((hl.2 p.2).1 x hx))
 ·exact .inr (.inr ((hl.2 p.2).2 x hx))
theorem FeetLe.mid {fs gs:List (List Nat×List Nat)} {f f':List Nat×List Nat} (h1:∀ x∈f.1,x∈f'.1) (h2:∀ x∈f.2,x∈f'.2):FeetLe (fs++[f]++gs) (fs++[f']++gs):=by
 refine⟨by simp,fun i=> ?_⟩
 simp only[List.getD_eq_getElem?_getD,List.append_assoc,List.cons_append,List.nil_append]
 rcases Nat.lt_trichotomy i fs.length with h | h | h
 ·rw[List.getElem?_append_left h,List.getElem?_append_left h]
  exact⟨fun x hx=>hx,fun x hx=>hx⟩
 ·subst h
  simp only[List.getElem?_append_right (Nat.le_refl _),Nat.sub_self,List.getElem?_cons_zero,Option.getD_some]
  exact⟨h1,h2⟩
 ·obtain⟨j,rfl⟩:∃ j,i=fs.length + (j + 1):=⟨i - fs.length - 1,by omega⟩
  rw[List.getElem?_append_right (by omega),List.getElem?_append_right (by omega),show fs.length + (j + 1) - fs.length=j + 1 by omega]
  exact⟨fun x hx=>hx,fun x hx=>hx⟩
theorem k0d {base g:Nat} {os:List AOper} {s:St} {ks:List Kf} {Q:Post} {m:Md} {f f':List Nat×List Nat} (h1:∀ x∈f.1,x∈f'.1) (h2:∀ x∈f.2,x∈f'.2) (h:O Gam base (m.add f') g os s ks Q):O Gam base (m.add f) g os s ks Q:=by
 obtain⟨k,s',fs,h3,h4,h5⟩:=h
 refine⟨k,s',fs,h3, ?_,h5⟩
 cases m with
 | plain=>exact h4
 | draw N ops ps gs=>
   simp only[Md.add,q4q,Md.ok] at h4⊢
   exact x9v (FeetLe.mid h1 h2) h4
theorem z0o {l:List Int} {f base B s g i clk gg:Nat} {args:List AV} {R:AV→Prop} {D L:List AObj} {m:Md} {dst:Option Nat} {os:List AOper} {ts:Tmps} {ks:List Kf} {Q:Post} (hg:GenOk l f args R) (hB:D.length=B) (hs:s < B) (hD:D[s]? =some (z5c g l i)) (hi:i≤l.length)
  (hQ:∀ v D' i',R v→D'.length=B→D'[s]? =some (z5c g l i')→i'≤l.length→O Gam base (m.add ([s],[s])) (gg + 1) os ⟨z9f ts dst v,D'++L,clk⟩ ks Q):CK Gam base f (.ptr s g 0 0::args) (D++L) clk m dst gg os ts ks Q:=by
 unfold CK
 have hD':(D++L)[s]? =some (z5c g l i):=by rw[z0u hB hs];exact hD
 obtain⟨_,hf⟩:=hg (D++L) s g i clk (fun _ _ _=>True) hD' hi (fun _ _ _ _=>trivial)
 refine (hg (D++L) s g i clk _ hD' hi fun v i' hi' hv=> ?_).1
 refine k0d (f':=([s],[s])) ?_ ?_ ?_
 ·rw[hf];exact fun x hx=>hx
 ·rw[hf];exact fun x hx=>(List.mem_filter.1 hx).1
 ·rw[k0c hB hs]
  exact hQ v _ i' hv (by rw[List.length_set];exact hB) (by subst hB;simp[hs]) hi'
theorem j3a {z:Int}:IntKind.u64.wrap z=z % 18446744073709551616:=by simp[IntKind.wrap,IntKind.signed,IntKind.bits]
theorem w6a {z n:Int} (hn:0 < n) (hn2:n < 2 ^ 62):∃ r:Int,0≤r∧r < n∧Pure Gam 89 [.int .i64 z, .int .i64 n] (.int .i64 r):=by
 have hw:0≤IntKind.u64.wrap z:=by rw[j3a];omega
 have hwn:IntKind.u64.wrap n=n:=by rw[j3a];omega
 have h1:0≤(IntKind.u64.wrap z).tmod n:=Int.tmod_nonneg _ hw
 have h2:(IntKind.u64.wrap z).tmod n < n:=Int.tmod_lt_of_pos _ hn
 refine⟨(IntKind.u64.wrap z).tmod n,h1,h2,Pure.of rfl u5a rfl rfl rfl rfl rfl fun D B clk T hB hT=> ?_⟩
 simp only[go_sem,u0t,hwn]
 rw[q6y (by omega)]
 simp only[go_sem,]
 rw[z0h rfl rfl,z0d (by omega) (by omega)]
 exact hT _
theorem z3h {l:List Int} {n:Int} (hl:q7q l) (hn:0 < n) (hn2:n < 2 ^ 62):GenOk l 35 [.int .i64 n] fun v=>∃ r:Int,v= .int .i64 r∧0≤r∧r < n:=by
 refine GenOk.of rfl u4w rfl rfl rfl rfl rfl fun D B s g i clk T hB hs hD hi hT=> ?_
 have hb:=z5z (g:=g) hD
 simp only[go_sem,u0q,z4e hB hs,hb,z5r]
 refine z8c (fun hc=> ?_) (fun hc=> ?_)
 ·simp only[go_sem,z4e hB hs,hb,z5r]
  rw[z0h rfl rfl]
  exact hT _ _ i (by rw[z0u hB hs];exact hD) hi ⟨0,rfl,by omega,by omega⟩
 ·have hlt:i < l.length:=by simpa using hc
  have hl400:=hl.1
  have e0:IntKind.i64.wrap ((i:Int) + 1)=(i:Int) + 1:=z0d (by omega) (by omega)
  have e1:IntKind.i64.wrap ((i:Int) + 1 - 1)=(i:Int):=by rw[z0d (by omega) (by omega)];omega
  simp only[go_sem,z4e hB hs,hb,z5r,e0,e1,k0c hB hs,v5q hB hs,k5r hlt]
  obtain⟨r,h1,h2,hp⟩:=w6a (z:=l[i]) hn hn2
  rw[z0a hp]
  simp only[go_sem,Md.add]
  rw[z0h rfl rfl]
  exact hT _ _ (i + 1) (by rw[z0u (by rw[List.length_set];exact hB) hs];subst hB;simp[hs,z5c]) (by omega) ⟨r,rfl,h1,h2⟩
theorem v5r {l:List Int}:GenOk l 46 [] fun v=>∃ b:Bool,v= .bool b:=by
 refine GenOk.of rfl u4y rfl rfl rfl rfl rfl fun D B s g i clk T hB hs hD hi hT=> ?_
 have hb:=z5z (g:=g) hD
 simp only[go_sem,u0r,z4e hB hs,hb,z5r]
 rw[z0h rfl rfl]
 exact hT _ _ i (by rw[z0u hB hs];exact hD) hi ⟨_,rfl⟩
section
variable {h:List AObj} {base g k:Nat} {ts:Tmps} {z:AV}
theorem k0e {n:Nat} {ps:List (Nat×AOpd)} (hz:z.def? =true) (hp:ps.map (·.1)=List.range n) (ho:z4k (ps.map fun p=>p.2.ev ts)=[])
  (hv:∀ v∈cvL (ps.map fun p=>p.2.ev ts),v.def? =true∧v.cells.length=z.cells.length):prim h base g ts (.buildSlice k false z n ps)=some (.sl (cvL (ps.map fun p=>p.2.ev ts)) .full,h):=by
 have key:∀ (vs es:List AV) (j:Nat),(∀ v∈vs,v.def? =true∧v.cells.length=z.cells.length)→es.length=j + vs.length→z5n z.cells.length es ((List.range vs.length).map (· + j)) vs=some (es.take j++vs):=by
  intro vs
  induction vs with
  | nil=>intro es j _ hl;simp[z5n];rw[List.take_of_length_le (by simp at hl;omega)]
  | cons v vs ih=>
    intro es j hv hl
    have hlt:j < es.length:=by simp at hl;omega
    have h1:=hv v List.mem_cons_self
    rw[List.length_cons,List.range_succ_eq_map]
    simp only[List.map_cons,List.map_map,Nat.zero_add,z5n,hlt,h1,and_self,if_true]
    have:=ih (es.set j v) (j + 1) (fun w hw=>hv w (List.mem_cons_of_mem _ hw)) (by simp at hl⊢;omega)
    rw[show (List.range vs.length).map ((fun x=>x + j)∘Nat.succ)=(List.range vs.length).map (· + (j + 1)) from List.map_congr_left fun a _=>by simp only[Function.comp];omega,this]
    congr 1
    rw[List.take_add_one,List.getElem?_set_self (by omega),List.take_set_of_le (Nat.le_refl _)]
    simp
 have hn:n=(cvL (ps.map fun p=>p.2.ev ts)).length:=by
  have h1:=congrArg List.length hp
  simp only[List.length_map,List.length_range] at h1
  have h2:∀ l:List AV,(cvL l).length=l.length:=fun l=>by induction l with
   | nil=>rfl
   | cons a l ih=>simp[cvL,ih]
  rw[h2,List.length_map,h1]
 have h3:=key _ (List.replicate n z) 0 hv (by rw[List.length_replicate];omega)
 rw[←hn] at h3
 simp only[Nat.add_zero,List.map_id',List.take_zero,List.nil_append] at h3
 simp only[prim,hz,Bool.not_true,Bool.false_eq_true,if_false,q7p ho,hp,h3,ho,freezeAll,Option.map_some]
def bsV (h:List AObj) (z:AV) (n:Nat) (js:List Nat) (vs:List AV):Option (AV×List AObj):=
 if !z.def? then none else match z9t h vs with
  | some ws=>(z5n z.cells.length (List.replicate n z) js ws).map fun es=>(.sl es .full,freezeAll h (z4k vs))
  | none=>none
theorem y1u {n:Nat} {ps:List (Nat×AOpd)}:prim h base g ts (.buildSlice k false z n ps)=bsV h z n (ps.map (·.1)) (ps.map fun p=>p.2.ev ts):=by
 simp only[prim,bsV,Bool.false_eq_true,if_false]
 rfl
section
variable {v v2 v3 v4:AV}
theorem y1v (hz:z.def? =true) (ho:v.obs=[]) (hd:v.cv.def? =true) (hl:v.cv.cells.length=z.cells.length):bsV h z 1 [0] [v]=some (.sl [v.cv] .full,h):=by
 have:=k0e (h:=h) (base:=0) (g:=0) (k:=0) (ts:=fun _=>v) (z:=z) (n:=1) (ps:=[(0, .const v)]) hz rfl (by simp[z4k,ho,AOpd.ev]) (by simp[cvL,hd,hl,AOpd.ev])
 rw[y1u] at this
 simpa [cvL,AOpd.ev] using this
theorem u5d (hz:z.def? =true) (ho:v.obs=[]) (hd:v.cv.def? =true) (hl:v.cv.cells.length=z.cells.length) (ho2:v2.obs=[]) (hd2:v2.cv.def? =true) (hl2:v2.cv.cells.length=z.cells.length):bsV h z 2 [0,1] [v,v2]=some (.sl [v.cv,v2.cv] .full,h):=by
 have:=k0e (h:=h) (base:=0) (g:=0) (k:=0) (ts:=fun _=>v) (z:=z) (n:=2) (ps:=[(0, .const v),(1, .const v2)]) hz rfl (by simp[z4k,ho,ho2,AOpd.ev]) (by simp[cvL,hd,hl,hd2,hl2,AOpd.ev])
 rw[y1u] at this
 simpa [cvL,AOpd.ev] using this
theorem u1c (hz:z.def? =true) (ho:v.obs=[]) (hd:v.cv.def? =true) (hl:v.cv.cells.length=z.cells.length) (ho2:v2.obs=[]) (hd2:v2.cv.def? =true) (hl2:v2.cv.cells.length=z.cells.length) (ho3:v3.obs=[]) (hd3:v3.cv.def? =true) (hl3:v3.cv.cells.length=z.cells.length):bsV h z 3 [0,1,2] [v,v2,v3]=some (.sl [v.cv,v2.cv,v3.cv] .full,h):=by
 have:=k0e (h:=h) (base:=0) (g:=0) (k:=0) (ts:=fun _=>v) (z:=z) (n:=3) (ps:=[(0, .const v),(1, .const v2),(2, .const v3)]) hz rfl (by simp[z4k,ho,ho2,ho3,AOpd.ev]) (by simp[cvL,hd,hl,hd2,hl2,hd3,hl3,AOpd.ev])
 rw[y1u] at this
 simpa [cvL,AOpd.ev] using this
end
section
variable {dst:Option Nat} {os:List AOper} {clk:Nat} {ks:List Kf} {Q:Post}
theorem u5e {n:Nat} {ps:List (Nat×AOpd)}:O Gam base .plain g (⟨dst, .buildSlice k false z n ps,none⟩::os) ⟨ts,h,clk⟩ ks Q=PP Gam base (bsV h z n (ps.map (·.1)) (ps.map fun p=>p.2.ev ts)) dst g os ts clk ks Q:=by rw[q3c rfl,y1u]
end
theorem v5s {cs:List AV}:(AV.agg cs).obs=z4k cs:=(rfl)
theorem w6b {cs:List AV} {t:Tip}:(AV.sl cs t).obs=[]:=(rfl)
theorem x9w {k:IntKind} {n:Int}:(AV.int k n).obs=[]:=(rfl)
theorem v5t {n:List Nat}:(AV.str n).obs=[]:=(rfl)
theorem j3b {n:Bool}:(AV.bool n).obs=[]:=(rfl)
theorem k5s:z4k []=[]:=(rfl)
theorem k0f {v:AV} {vs:List AV}:z4k (v::vs)=v.obs++z4k vs:=(rfl)
attribute [go_sem] u5e y1v u5d u1c z5v v5s w6b x9w v5t j3b k5s k0f
section
variable {dst:Option Nat} {os:List AOper} {clk:Nat} {ks:List Kf} {Q:Post}
def v0w (h:List AObj):AV→Option (AV×List AObj)
 | .str _=>none
 | x=>((z5a h x).bind z7e).map fun s=>(.str s,h)
theorem v5u {xs:List AV} {t:Tip}:v0w h (.sl xs t)=(z7e xs).map fun s=>(.str s,h):=(rfl)
def u1d (h:List AObj):AV→Option (AV×List AObj)
 | .str s=>some (.sl (s.map fun (b:Nat)=> .int .u8 (Int.ofNat b)) .no,h)
 | _=>none
theorem k5t {s:List Nat}:u1d h (.str s)=some (.sl (s.map fun (b:Nat)=> .int .u8 (Int.ofNat b)) .no,h):=(rfl)
def mmV (h:List AObj) (mx:Bool):AV→AV→Option (AV×List AObj)
 | .int k a, .int _ b=>some (.int k (if mx then (if b > a then b else a) else (if b < a then b else a)),h)
 | _,_=>none
theorem v5v {mx:Bool} {k j:IntKind} {a b:Int}:mmV h mx (.int k a) (.int j b)=some (.int k (if mx then (if b > a then b else a) else (if b < a then b else a)),h):=(rfl)
def lkV (h:List AObj) (t:ETy) (z:AV) (ok:Bool) (es:Option (List (AV×AV))) (ix:AV):Option (AV×List AObj):=
 match es with
 | some es=>if (ix.eqv t ix).isSome=true then (findKey t ix es).map fun r=>(q7f ok z r,h) else none
 | none=>none
def muV (h:List AObj) (t:ETy) (k v:AV):AV→Option (AV×List AObj)
 | .mp s g=>match z5m h s g,pub h v with
   | some es,some (v',h')=>if (k.eqv t k).isSome=true then (z7o t k v' es).map fun es'=>(.undef,h'.set s (.map g es')) else none
   | _,_=>none
 | _=>none
def msV (h:List AObj) (s g:Nat) (z:AV) (bytes:Nat):AV→AV→Option (AV×List AObj)
 | .int _ n, .int _ c=>
   if 0≤n∧n≤c∧c * (bytes + 1)≤z1c∧z.def? =true then some (.ob s g 0 n.toNat,h.set s (.blk g (List.replicate c.toNat z) true false 0)) else none
 | _,_=>none
def slV (h:List AObj) (esz:Option Nat) (x:AV) (lo hi mx:Option AV):Option (AV×List AObj):=(z2v h esz x lo hi mx).map (·,h)
theorem k0g {x:AOpd}:O Gam base .plain g (⟨dst, .ofBytes x,none⟩::os) ⟨ts,h,clk⟩ ks Q=PP Gam base (v0w h (x.ev ts)) dst g os ts clk ks Q:=by
 rw[q3c rfl];congr 1
theorem k0h {x:AOpd}:O Gam base .plain g (⟨dst, .toBytes x,none⟩::os) ⟨ts,h,clk⟩ ks Q=PP Gam base (u1d h (x.ev ts)) dst g os ts clk ks Q:=by
 rw[q3c rfl];congr 1
theorem k5u {x y:AOpd} {mx:Bool}:O Gam base .plain g (⟨dst, .minmax mx x y,none⟩::os) ⟨ts,h,clk⟩ ks Q=PP Gam base (mmV h mx (x.ev ts) (y.ev ts)) dst g os ts clk ks Q:=by
 rw[q3c rfl];congr 1
theorem k5v {t:ETy} {z:AV} {x ix:AOpd} {ok:Bool}:O Gam base .plain g (⟨dst, .lookup t z x ix ok,none⟩::os) ⟨ts,h,clk⟩ ks Q=PP Gam base (lkV h t z ok (x5p h (x.ev ts)) (ix.ev ts)) dst g os ts clk ks Q:=by
 rw[q3c rfl];rfl
theorem x9x {t:ETy} {m k v:AOpd}:O Gam base .plain g (⟨dst, .mapUpdate t m k v,none⟩::os) ⟨ts,h,clk⟩ ks Q=PP Gam base (muV h t (k.ev ts) (v.ev ts) (m.ev ts)) dst g os ts clk ks Q:=by
 rw[q3c rfl];congr 1
theorem x9y {k:Nat} {z:AV} {b:Nat} {n c:AOpd}:O Gam base .plain g (⟨dst, .makeSlice k z b n c,none⟩::os) ⟨ts,h,clk⟩ ks Q=PP Gam base (msV h (base + k) g z b (n.ev ts) (c.ev ts)) dst g os ts clk ks Q:=by
 rw[q3c rfl];congr 1
theorem v5w {esz:Option Nat} {x:AOpd} {lo hi mx:Option AOpd}:O Gam base .plain g (⟨dst, .slice esz x lo hi mx,none⟩::os) ⟨ts,h,clk⟩ ks Q=PP Gam base (slV h esz (x.ev ts) (lo.map (·.ev ts)) (hi.map (·.ev ts)) (mx.map (·.ev ts))) dst g os ts clk ks Q:=by
 rw[q3c rfl];rfl
end
attribute [go_sem] v5u k5t v5v k0g k0h k5u k5v x9x x9y v5w
section
variable {dst:Option Nat} {os os0:List AOper} {clk N:Nat} {ks:List Kf} {Q:Post} {ps:List (Nat×Nat)} {fs:List (List Nat×List Nat)}
theorem w6c {x:AOpd}:O Gam base (.draw N os0 ps fs) g (⟨dst,(.move x),none⟩::os) ⟨ts,h,clk⟩ ks Q=PO Gam base (some (x.ev ts,h)) (([],[])) (.draw N os0 ps fs) dst g os ts clk ks Q:=by rw[z6v rfl];congr 1
theorem w6d {c a b:AOpd}:O Gam base (.draw N os0 ps fs) g (⟨dst,(.pick c a b),none⟩::os) ⟨ts,h,clk⟩ ks Q=PO Gam base (j8y h (c.ev ts) (a.ev ts) (b.ev ts)) (([],[])) (.draw N os0 ps fs) dst g os ts clk ks Q:=by rw[z6v rfl];congr 1;exact k9l
theorem v5x {k:Nat} {z:AV}:O Gam base (.draw N os0 ps fs) g (⟨dst,(.alloc k z),none⟩::os) ⟨ts,h,clk⟩ ks Q=PO Gam base (v3i h (base + k) g z) (([],[base + k])) (.draw N os0 ps fs) dst g os ts clk ks Q:=by rw[z6v rfl];congr 1
theorem y5t {k:Nat} {x:AOpd}:O Gam base (.draw N os0 ps fs) g (⟨dst,(.box k x),none⟩::os) ⟨ts,h,clk⟩ ks Q=PO Gam base (v3i h (base + k) g (x.ev ts)) (([],[base + k])) (.draw N os0 ps fs) dst g os ts clk ks Q:=by rw[z6v rfl];congr 1
theorem v5y {z:List AV} {qs:List (Nat×Nat×AOpd)}:O Gam base (.draw N os0 ps fs) g (⟨dst,(.build z qs),none⟩::os) ⟨ts,h,clk⟩ ks Q=PO Gam base ((z5v z (qs.map fun p=>(p.1,p.2.1,p.2.2.ev ts))).map fun cs=>(.agg cs,h)) (([],[])) (.draw N os0 ps fs) dst g os ts clk ks Q:=by rw[z6v rfl];congr 1
theorem u5f {k n:Nat} {z:AV} {qs:List (Nat×AOpd)}:O Gam base (.draw N os0 ps fs) g (⟨dst,(.buildSlice k false z n qs),none⟩::os) ⟨ts,h,clk⟩ ks Q=PO Gam base (bsV h z n (qs.map (·.1)) (qs.map fun p=>p.2.ev ts)) (([],(z4k (qs.map fun p=>p.2.ev ts)).map (·.1))) (.draw N os0 ps fs) dst g os ts clk ks Q:=by rw[z6v rfl];congr 1
theorem w6e {sz:Option Nat} {a:AOpd}:O Gam base (.draw N os0 ps fs) g (⟨dst,(.load sz a),none⟩::os) ⟨ts,h,clk⟩ ks Q=PO Gam base (q1u h sz (a.ev ts)) (((a.ev ts).ids,[])) (.draw N os0 ps fs) dst g os ts clk ks Q:=by rw[z6v rfl];congr 1
theorem v5z {sz:Nat} {a x:AOpd}:O Gam base (.draw N os0 ps fs) g (⟨dst,(.store sz a x),none⟩::os) ⟨ts,h,clk⟩ ks Q=PO Gam base (z8s h sz (x.ev ts) (a.ev ts)) (([],(a.ev ts).ids++(x.ev ts).obs.map (·.1))) (.draw N os0 ps fs) dst g os ts clk ks Q:=by rw[z6v rfl];congr 1
theorem j6i {x:AOpd}:O Gam base (.draw N os0 ps fs) g (⟨dst,(.nilCheck x),none⟩::os) ⟨ts,h,clk⟩ ks Q=PO Gam base (k4q h (x.ev ts)) (([],[])) (.draw N os0 ps fs) dst g os ts clk ks Q:=by rw[z6v rfl];congr 1
theorem v6a {op:BinOp} {t:ETy} {x y:AOpd}:O Gam base (.draw N os0 ps fs) g (⟨dst,(.binOp op t x y),none⟩::os) ⟨ts,h,clk⟩ ks Q=PO Gam base (z7d h op t (x.ev ts) (y.ev ts)) (([],[])) (.draw N os0 ps fs) dst g os ts clk ks Q:=by rw[z6v rfl];congr 1
theorem x9z {x:AOpd} {o:Nat}:O Gam base (.draw N os0 ps fs) g (⟨dst,(.fieldAddr x o),none⟩::os) ⟨ts,h,clk⟩ ks Q=PO Gam base (j8z h o (x.ev ts)) (([],[])) (.draw N os0 ps fs) dst g os ts clk ks Q:=by rw[z6v rfl];congr 1
theorem k0i {x:AOpd} {i:Nat}:O Gam base (.draw N os0 ps fs) g (⟨dst,(.extract x i),none⟩::os) ⟨ts,h,clk⟩ ks Q=PO Gam base (y1r h i (x.ev ts)) (([],[])) (.draw N os0 ps fs) dst g os ts clk ks Q:=by rw[z6v rfl];congr 1
theorem j0a {esz:Nat} {x ix:AOpd}:O Gam base (.draw N os0 ps fs) g (⟨dst,(.indexAddr none esz x ix),none⟩::os) ⟨ts,h,clk⟩ ks Q=PO Gam base (z1m h esz (x.ev ts) (ix.ev ts)) (((x.ev ts).ids,[])) (.draw N os0 ps fs) dst g os ts clk ks Q:=by rw[z6v rfl];congr 1;exact q9a
theorem k5w {k esz b:Nat} {mu:Bool} {x y:AOpd}:O Gam base (.draw N os0 ps fs) g (⟨dst,(.append k esz b mu x y),none⟩::os) ⟨ts,h,clk⟩ ks Q=PO Gam base (z1g h (base + k) g esz b mu (x.ev ts) (y.ev ts)) (((y.ev ts).ids,(base + k)::(x.ev ts).ids)) (.draw N os0 ps fs) dst g os ts clk ks Q:=by rw[z6v rfl];congr 1
theorem v6b {esz:Option Nat} {x:AOpd} {lo hi mx:Option AOpd}:O Gam base (.draw N os0 ps fs) g (⟨dst,(.slice esz x lo hi mx),none⟩::os) ⟨ts,h,clk⟩ ks Q=PO Gam base (slV h esz (x.ev ts) (lo.map (·.ev ts)) (hi.map (·.ev ts)) (mx.map (·.ev ts))) (((x.ev ts).ids,[])) (.draw N os0 ps fs) dst g os ts clk ks Q:=by rw[z6v rfl];congr 1
theorem j6j {f:Nat} {cap:List AOpd}:O Gam base (.draw N os0 ps fs) g (⟨dst,(.makeFunc f cap),none⟩::os) ⟨ts,h,clk⟩ ks Q=PO Gam base (some (.fn f (cap.map (·.ev ts)),h)) (([],[])) (.draw N os0 ps fs) dst g os ts clk ks Q:=by rw[z6v rfl];congr 1
theorem w6f {op:UnOp} {x:AOpd}:O Gam base (.draw N os0 ps fs) g (⟨dst, .unOp op x,none⟩::os) ⟨ts,h,clk⟩ ks Q=PO Gam base (unV h op (x.ev ts)) ([],[]) (.draw N os0 ps fs) dst g os ts clk ks Q:=by rw[z6v rfl];congr 1
theorem u5g {v:AV} {f:List Nat×List Nat} {m:Md} {d:Nat}:PO Gam base (some (v,h)) f m (some d) g os ts clk ks Q=O Gam base (m.add f) (g + 1) os ⟨upd ts d v,h,clk⟩ ks Q:=(rfl)
theorem u5h {v:AV} {f:List Nat×List Nat} {m:Md}:PO Gam base (some (v,h)) f m none g os ts clk ks Q=O Gam base (m.add f) (g + 1) os ⟨ts,h,clk⟩ ks Q:=(rfl)
end
theorem v6c {a b c d:Nat}:(AV.ptr a b c d).ids=[a]:=(rfl)
theorem k5x {cs:List AV} {o:Nat}:(AV.iptr cs o).ids=idsL cs:=(rfl)
theorem k5y:idsL []=[]:=(rfl)
theorem k0j {v:AV} {vs:List AV}:idsL (v::vs)=v.ids++idsL vs:=(rfl)
theorem v6d {k:IntKind} {n:Int}:(AV.int k n).ids=[]:=(rfl)
theorem v6e {n:List Nat}:(AV.str n).ids=[]:=(rfl)
def y5u (h:List AObj) (sz:Option Nat):AV→Option AV
 | .ptr s g i o=>match z2a h s g with
   | some (es,_,_,_)=>(es[i]?).bind fun e=>z1q e.cells o sz
   | none=>none
 | _=>none
def v0x:Option AV→Option (List AV)→Option (List AV)
 | some v,some vs=>some (v::vs)
 | _,_=>none
theorem z0g {v:AV} {vs:List AV}:v0x (some v) (some vs)=some (v::vs):=(rfl)
theorem z0m {s i o:Nat} {sz:Option Nat}:y5u h sz (.ptr s g i o)=match z2a h s g with
 | some (es,_,_,_)=>(es[i]?).bind fun e=>z1q e.cells o sz
 | none=>none:=(rfl)
theorem z0n {t:Nat} {sz:Option Nat} {rs:List ARes}:z1s h ts (.cell t sz::rs)=v0x (y5u h sz (ts t)) (z1s h ts rs):=by
 simp only[z1s,y5u]
 cases ts t <;> try rfl
 rename_i s g i o
 simp only
 cases z2a h s g with
 | none=>rfl
 | some x=>
   obtain⟨es,a,b,c⟩:=x
   simp only
   cases (es[i]?).bind fun e=>z1q e.cells o sz with
   | none=>rfl
   | some v=>cases z1s h ts rs <;> rfl
attribute [go_sem] w6f w6c w6d v5x y5t v5y u5f w6e v5z j6i v6a x9z k0i j0a k5w v6b j6j u5g u5h j5p v6c k5x k5y k0j v6d v6e z0m z0g z0n Int.cast_ofNat_Int
def z8k (B k:Nat) (o:AObj) (t:Tip) (e:Nat):Prop:=t= .nil∨t= .full∨∃ g,t= .at (B + k) g∧o= .tip g e
theorem z0j {D L:List AObj} {B k esz b gen:Nat} {xs ys:List AV} {t u:Tip} {o:AObj} (hB:D.length=B) (ho:L[k]? =some o) (ht:z8k B k o t esz) (hx:z0t esz xs=true) (hy:z0t esz ys=true) (hl:(xs.length + ys.length) * (b + 1)≤2 ^ 46):
  z1g (D++L) (B + k) gen esz b false (.sl xs t) (.sl ys u)=some (.sl (xs++ys) (.at (B + k) gen),D++L.set k (.tip gen esz)):=by
 have hgt:¬ (xs.length + ys.length) * (b + 1) > z1c:=by unfold z1c;omega
 unfold z1g
 simp only[z5a,hy,Bool.not_true,Bool.false_eq_true,if_false,hx,Bool.or_false,decide_eq_true_eq,hgt]
 rcases ht with rfl | rfl | ⟨g,rfl,rfl⟩
 ·simp only[z5i hB]
 ·simp only[z5i hB]
 ·simp only[z6k hB,ho,and_self,if_true,z5i hB,List.set_set]
theorem z3o {α:Type} {f:α→AV} {n:Nat} {l:List α} (hf:∀ x,(f x).def? =true∧(f x).cells.length=n∧(f x).cells.all AV.one=true):z0t n (l.map f)=true:=by
 induction l with
 | nil=>rfl
 | cons a l ih=>simp[z0t,hf a,ih]
end
structure Node where
 op:Nat
 sort:Nat
 name:List Nat
 num:List Nat
 kids:Nat
 deriving DecidableEq,Inhabited
structure Var where
 name:List Nat
 sort:Nat
 deriving DecidableEq,Inhabited
abbrev Term:=List Node
structure App where
 pred:List Nat
 args:List Term
structure Clause where
 vars:List Var
 body:List App
 guard:Term
 head:App
structure Func where
 name:List Nat
 args:List Nat
 result:Nat
 deriving DecidableEq
structure Sys where
 preds:List Func
 clauses:List Clause
def nat (n:Nat):AV:= .int .i64 (n:Int)
def eNode (n:Node):AV:= .agg [nat n.op,nat n.sort, .str n.name, .str n.num,nat n.kids]
def z1b (v:Var):AV:= .agg [.str v.name,nat v.sort]
def z0l (t:Term):AV:= .sl (t.map eNode) .no
def z3x (a:App):AV:= .agg [.str a.pred, .sl (a.args.map z0l) .no]
def z0f (c:Clause):AV:= .agg [.sl (c.vars.map z1b) .no, .sl (c.body.map z3x) .no,z0l c.guard, .str c.head.pred, .sl (c.head.args.map z0l) .no]
def z0q (f:Func):AV:= .agg [.str f.name, .sl (f.args.map nat) .no,nat f.result]
def z0x (s:Sys):AV:= .agg [.sl (s.preds.map z0q) .no, .sl (s.clauses.map z0f) .no]
theorem z0c {α:Type} {f:α→AV} {l:List α} (hf:∀ x,(f x).ids=[]):idsL (l.map f)=[]:=by
 induction l with
 | nil=>rfl
 | cons a l ih=>simp[idsL,hf a,ih]
theorem z3c {n:Nat}:(nat n).ids=[]:=(rfl)
theorem k0k {α:Type} {f:α→AV} {l:List α} (hf:∀ x,(f x).ids=[]):(AV.sl (l.map f) .no).ids=[]:=by simp[AV.ids,z0c hf]
theorem z1y (n:Node):(eNode n).ids=[]:=(rfl)
theorem z2b (v:Var):(z1b v).ids=[]:=(rfl)
theorem z2q (t:Term):(z0l t).ids=[]:=k0k z1y
theorem z4w (a:App):(z3x a).ids=[]:=by simp[z3x,AV.ids,idsL,z0c z2q]
theorem z1z (c:Clause):(z0f c).ids=[]:=by simp[z0f,AV.ids,idsL,z0c z2b,z0c z4w,z0c z2q,z2q]
theorem z2j (f:Func):(z0q f).ids=[]:=by simp[z0q,AV.ids,idsL,z0c (f:=nat) (fun _=>z3c),z3c]
theorem z2c (s:Sys):(z0x s).ids=[]:=by simp[z0x,AV.ids,idsL,z0c z2j,z0c z1z]
theorem k5z (t:Term):(z0l t).obs=[]:=(rfl)
theorem v6f (a:App):(z3x a).obs=[]:=(rfl)
theorem j6k (c:Clause):(z0f c).obs=[]:=(rfl)
theorem k0l (n:Node):(eNode n).cv=eNode n:=(rfl)
theorem v6g (t:Term):(z0l t).cv=z0l t:=(rfl)
theorem v0y (s:Sys):(z0x s).cv=z0x s:=(rfl)
theorem z6l {l:Term}:z0t 5 (l.map eNode)=true:=z3o fun _=>⟨rfl,rfl,rfl⟩
theorem z2e {l:List Var}:z0t 2 (l.map z1b)=true:=z3o fun _=>⟨rfl,rfl,rfl⟩
theorem z3s {l:List Term}:z0t 1 (l.map z0l)=true:=z3o fun _=>⟨rfl,rfl,rfl⟩
theorem z7h {l:List App}:z0t 2 (l.map z3x)=true:=z3o fun _=>⟨rfl,rfl,rfl⟩
theorem z3l {l:List Clause}:z0t 5 (l.map z0f)=true:=z3o fun _=>⟨rfl,rfl,rfl⟩
theorem z4o {l:List Func}:z0t 3 (l.map z0q)=true:=z3o fun _=>⟨rfl,rfl,rfl⟩
theorem z3y {l:List Nat}:z0t 1 (l.map nat)=true:=z3o fun _=>⟨rfl,rfl,rfl⟩
theorem k6a {t:Term}:(z0l t).def? =true:=(rfl)
theorem k0m {t:Term}:(z0l t).cells=[z0l t]:=(rfl)
attribute [go_sem] k5z v6f j6k k0l v6g v0y z6l z2e z3s z7h z3l z4o z3y k6a k0m
theorem z2x {T:List Nat} {v:AV} {R:AV→List AObj→Prop} {h:List AObj} (ho:v.obs=[]) (hi:v.cv.ids=[]):RV T (some [v]) R h=R v.cv h:=z0h (vs:=[v]) ho hi
theorem z1a {T:List Nat} {l:Term} {R:AV→List AObj→Prop} {h:List AObj}:RV T (some [z0l l]) R h=R (z0l l) h:=z2x rfl (z2q l)
theorem k0n {T:List Nat} {l:Term} {t:Tip} {R:AV→List AObj→Prop} {h:List AObj}:RV T (some [.sl (l.map eNode) t]) R h=R (z0l l) h:=z2x rfl (z2q l)
theorem z2f {α:Type} {f:α→AV} {l:List α} {i esz:Nat} {h:List AObj} {t:Tip} {k:IntKind} {cs:List AV} (hi:i < l.length) (hc:(f l[i]).cells=cs) (hl:cs.length=esz):z1m h esz (.sl (l.map f) t) (.int k (i:Int))=some (.iptr cs 0,h):=by
 rw[z5q (e:=f l[i]) (by simp[hi]) (by rw[hc];exact hl),hc]
theorem y5v {α β:Type} {f:α→β}:([]:List β)=([]:List α).map f:=rfl
theorem q9h {b:Bool}:Pure Gam 54 [.bool b] (z0l [⟨if b then 1 else 2,0,[],[],0⟩]):=by
 refine Pure.of rfl y5i rfl rfl rfl rfl rfl fun D B clk T hB hT=> ?_
 simp only[go_sem,w5p]
 refine z8c (fun hb=> ?_) (fun hb=> ?_)
 all_goals
  simp only[go_sem,]
  rw[z0h rfl rfl]
  simp only[hb,if_true,if_false,Bool.false_eq_true] at hT
  exact hT _
theorem x4e {s:Nat} {a:List Nat}:Pure Gam 173 [nat s, .str a] (z0l [⟨3,s,[],a,0⟩]):=by
 refine Pure.of rfl y5l rfl rfl rfl rfl rfl fun D B clk T hB hT=> ?_
 simp only[go_sem,w5s,nat]
 rw[z0h rfl rfl]
 exact hT _
theorem q4u {l:List Term} {i:Nat} {h:List AObj} {t:Tip} {k:IntKind} (hi:i < l.length):z1m h 1 (.sl (l.map z0l) t) (.int k (i:Int))=some (.iptr [z0l l[i]] 0,h):=z2f hi rfl rfl
theorem k0o {n:Node} {l:List Term} {u:Tip} (hl:l.length≤2 ^ 20) (hf:l.flatten.length≤2 ^ 30):Pure Gam 147 [eNode n, .sl (l.map z0l) u] (z0l ({n with kids:=l.length}::l.flatten)):=by
 refine Pure.of rfl y5m rfl rfl rfl (az:=[eNode n, .sl (l.map z0l) .no]) rfl (by simp[idsL,z1y,AV.ids,z0c z2q]) fun D B clk T hB hT=> ?_
 simp only[go_sem,w5u,eNode,hB,nat,List.length_map]
 refine z0y (fun m s=>∃ (i:Nat) (acc:Term) (t:Tip) (a b o:AObj),i≤l.length∧m=l.length - i∧acc={n with kids:=l.length}::(l.take i).flatten∧s.ts 1= .sl (l.map z0l) .no∧s.ts 5= .sl (acc.map eNode) t∧s.ts 6= .int .i64 i∧s.h=D++[a,b,o]∧z8k B 2 o t 5) l.length ?_ ?_
 ·exact⟨0,_, .full,_,_,_,by simp,rfl,rfl,rfl,rfl,rfl,rfl, .inr (.inl rfl)⟩
 rintro m ⟨ts,h,clk⟩ P ⟨i,acc,t,a,b,o,hi,rfl,hacc,h1,h5,h6,rfl,ht⟩ hn he hr
 dsimp only at h1 h5 h6
 simp only[go_sem,h1,h5,h6,List.length_map,k0b]
 refine z8c (fun hb=> ?_) (fun hb=> ?_)
 ·have hlt:i < l.length:=by simp at hb;omega
  have hlen:(l.take i).flatten.length + (l[i]).length≤l.flatten.length:=by
   have:=congrArg (fun x=>(List.flatten x).length) (List.take_append_drop i l)
   simp only[List.flatten_append,List.length_append] at this
   rw[List.drop_eq_getElem_cons hlt] at this
   simp only[List.flatten_cons,List.length_append] at this
   omega
  have ha:acc.length=(l.take i).flatten.length + 1:=by rw[hacc];rfl
  simp only[go_sem,h1,h5,h6,q4u hlt]
  rw[z0l,z0j hB rfl ht z6l z6l (by simp only[List.length_map];omega)]
  simp only[go_sem,h1,h5,h6,←List.map_append,z0d (n:=(i:Int) + 1) (by omega) (by omega)]
  refine hn (l.length - (i + 1)) _ (by omega) ⟨i + 1,acc++l[i],_,_,_,_,hlt,rfl, ?_,h1, ?_,rfl,rfl, .inr (.inr ⟨_,rfl,rfl⟩)⟩
  ·rw[hacc,List.take_succ_eq_append_getElem hlt]
   simp only[List.flatten_append,List.flatten_cons,List.flatten_nil,List.append_nil,List.cons_append]
  ·simp only[z0b,z0,cond_true,cond_false]
 ·have hge:i=l.length:=by simp at hb;omega
  subst hge
  simp only[go_sem,h5]
  refine he _ _ ?_
  simp only[go_sem,h5]
  rw[k0n]
  rw[List.take_length] at hacc
  rw[hacc]
  exact hT _
end Go.Proofs.YtahdahokpjigiaaGreatDoor.Am
