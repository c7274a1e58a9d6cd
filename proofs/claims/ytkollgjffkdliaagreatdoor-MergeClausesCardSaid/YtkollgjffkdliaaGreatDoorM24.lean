/- All tables are borne out Short forms of operations, for the printed functions Functions of the abstract machine's program Loops of a function of the abstract machine, by their numbers Functions of the -/
import Derived.Attr
import Derived.Test.YtkollgjffkdliaaGreatDoorM09
import Derived.Test.YtkollgjffkdliaaGreatDoorM10
import Derived.Test.YtkollgjffkdliaaGreatDoorM11
import Derived.Test.YtkollgjffkdliaaGreatDoorM12
import Derived.Test.YtkollgjffkdliaaGreatDoorM13
import Derived.Test.YtkollgjffkdliaaGreatDoorM14
import Derived.Test.YtkollgjffkdliaaGreatDoorM15
import Derived.Test.YtkollgjffkdliaaGreatDoorM16
import Derived.Test.YtkollgjffkdliaaGreatDoorM18
import Derived.Test.YtkollgjffkdliaaGreatDoorM19
import Derived.Test.YtkollgjffkdliaaGreatDoorM20
import Derived.Test.YtkollgjffkdliaaGreatDoorM21
import Derived.Test.YtkollgjffkdliaaGreatDoorM22
import Derived.Test.YtkollgjffkdliaaGreatDoorM23
open Bool renaming and_eq_true → b8,false_eq_true → y6,not_true → z7
open Int renaming reduceNegSucc → z5,reduceOfNat → z4
open List renaming all_eq_true → d6,append_assoc → n0,append_nil → u5,cons_append → d4,getElem?_append_left → l8,getElem?_append_right → m0,length_append → y5,length_cons → u6,length_map → z6,mem_append → j6,nil_append → d3,replicate → j1
open Nat renaming eq_zero_or_pos → n6,le_refl → j8,mul_comm → m6,pow_succ → p8,zero_add → y4
open Option renaming getD_some → n5,map_some → k6
open Nat renaming reduceBEq → z0,reduceAdd → z1,reduceLeDiff → z2,reduceSub → z3
set_option linter.all false
namespace Go.Proofs.YtkollgjffkdliaaGreatDoor.Am
open Go
noncomputable section
set_option maxRecDepth 100000
section
open Tw
theorem b54:Borne [] 77 t54:= .cons u2s (.nil)
theorem b55:Borne [] 78 t55:= .cons u2t (.nil)
theorem b56:Borne [] 79 t56:= .cons u2u (.cons u2v (.cons u2w (.cons u2x (.cons u2y (.cons u2z (.cons u3a (.cons u3b (.cons u3c (.cons u3d (.cons w9o (.cons w9p (.cons w9q (.cons w9r (.cons w9s (.cons w9t (.cons w9u (.cons w9v (.cons w9w (.cons w9x (.cons w9y (.cons w9z (.cons y0a (.cons y0b (.cons y0c (.cons y0d (.nil))))))))))))))))))))))))))
theorem g3x:Borne [] 144 u9f:= .cons y0e (.cons y0f (.cons y0g (.cons y0h (.cons y0i (.cons y0j (.cons y0k (.cons y0l (.cons y0m (.cons y0n (.cons w0w (.nil)))))))))))
theorem b11:Borne [] 20 t11:= .cons u3e (.nil)
theorem b15:Borne [] 22 t15:= .cons u3f (.nil)
theorem k8w:Told tw1:=((((((z4h).snoc (b15.told z4h)).snoc (b11.told z4h)).snoc (g3x.told z4h)).snoc (b56.told z4h)).snoc (b55.told z4h)).snoc (b54.told z4h)
theorem g3y:Borne tw1 297 u9g:= .cons y0o (.cons y0p (.cons y0q (.cons y0r (.cons y0s (.cons y0t (.cons y0u (.nil)))))))
theorem g3z:Borne tw1 141 u9h:= .cons y0v (.cons y0w (.cons y0x (.nil)))
theorem b28:Borne tw1 35 t28:= .cons u3g (.cons u3h (.cons u3i (.cons u3j (.nil))))
theorem y2c:Told tw2:=(((k8w).snoc (b28.told k8w)).snoc (g3z.told k8w)).snoc (g3y.told k8w)
theorem g4a:Borne tw2 143 u9i:= .cons y0y (.cons y0z (.cons y1a (.nil)))
theorem u3z:Told tw3:=(y2c).snoc (g4a.told y2c)
theorem b73:Borne [] 49 z6g:= .chunks (n:=27) (m:=1) (by decide) (by decide) fun i hi=>match i,hi with
 | 0,_=>u3p
 | 1,_=>u3q
 | 2,_=>u3r
 | 3,_=>u3s
 | 4,_=>u3t
 | 5,_=>u3u
 | 6,_=>u3v
 | 7,_=>u3w
 | 8,_=>u3x
 | 9,_=>u3y
 | 10,_=>y1b
 | 11,_=>y1c
 | 12,_=>y1d
 | 13,_=>y1e
 | 14,_=>y1f
 | 15,_=>y1g
 | 16,_=>y1h
 | 17,_=>y1i
 | 18,_=>y1j
 | 19,_=>y1k
 | 20,_=>y1l
 | 21,_=>y1m
 | 22,_=>y1n
 | 23,_=>y1o
 | 24,_=>y1p
 | 25,_=>y1q
 | 26,_=>y1r
 | n + 27,h=>absurd h (by omega)
theorem g4b:Borne [] 195 z2t:= .chunks (n:=35) (m:=1) (by decide) (by decide) fun i hi=>match i,hi with
 | 0,_=>y1s
 | 1,_=>y1t
 | 2,_=>y1u
 | 3,_=>y1v
 | 4,_=>y1w
 | 5,_=>y1x
 | 6,_=>y1y
 | 7,_=>y1z
 | 8,_=>y2a
 | 9,_=>y2b
 | 10,_=>w0x
 | 11,_=>w0y
 | 12,_=>w0z
 | 13,_=>w1a
 | 14,_=>w1b
 | 15,_=>w1c
 | 16,_=>w1d
 | 17,_=>w1e
 | 18,_=>w1f
 | 19,_=>w1g
 | 20,_=>w1h
 | 21,_=>w1i
 | 22,_=>w1j
 | 23,_=>w1k
 | 24,_=>w1l
 | 25,_=>w1m
 | 26,_=>w1n
 | 27,_=>w1o
 | 28,_=>w1p
 | 29,_=>w1q
 | 30,_=>w1r
 | 31,_=>w1s
 | 32,_=>w1t
 | 33,_=>w1u
 | 34,_=>w1v
 | n + 35,h=>absurd h (by omega)
theorem k8x:Told w7e:=(((((((((z4h).snoc ((Borne.cons k9 .nil).told u3z)).snoc (g3w.told z4h)).snoc (u3o.told z4h)).snoc (u3n.told z4h)).snoc (g4b.told z4h)).snoc (b73.told z4h)).snoc (u3m.told z4h)).snoc (u3l.told z4h)).snoc (u3k.told z4h)
theorem w1w:ProgOk Tryz.prog x5c Gam:=w8v (T:=w7e) k8x
theorem w1x:q1b Tryz.prog Gam:=w8u (T:=w7e)
end
namespace Sh
@[go_sem] def M (d s:Nat):AOper:=⟨some d, .move (.tmp s),none⟩
@[go_sem] def N (d:Nat) (o:AOp):AOper:=⟨some d,o,none⟩
@[go_sem] def U (d:Nat) (o:AOp) (g:Nat):AOper:=⟨some d,o,some (g,false)⟩
@[go_sem] def V (d:Nat) (o:AOp) (g:Nat):AOper:=⟨some d,o,some (g,true)⟩
@[go_sem] def A (d s o:Nat):AOper:=⟨some d, .fieldAddr (.tmp s) o,none⟩
@[go_sem] def L (d s:Nat):AOper:=⟨some d, .load none (.tmp s),none⟩
@[go_sem] def S (n a b:Nat):AOper:=⟨none, .store n (.tmp a) (.tmp b),none⟩
@[go_sem] def E (d s o:Nat):AOper:=⟨some d, .extract (.tmp s) o,none⟩
@[go_sem] def I (n:Int):AOpd:= .const (.int .i64 n)
end Sh
section
open Sh
def x5q:ACode:=(.seq (.seq (.region 5 [M 144 24,A 145 10 1,L 146 145,N 147 (.len .sl (.tmp 146)),N 148 (.binOp .lss (.one .int) (.tmp 144) (.tmp 147))] []) (.cond (.tmp 148) .skip (.exit 4))) (.seq (.block 5 (.seq (.seq (.region 4 [M 151 24,M 152 17,N 153 (.len .sl (.tmp 152)),N 154 (.binOp .geq (.one .int) (.tmp 151) (.tmp 153))] []) (.cond (.tmp 154) (.seq (.region 1 [N 6 (.move (.const (.bool false)))] []) .ret) .skip)) (.seq (.region 13 [N 156 (.load (some 2) (.tmp 10)),N 157 (.load (some 1) (.tmp 13)),M 158 24,M 159 17,M 160 24,N 161 (.indexAddr none 1 (.tmp 159) (.tmp 160)),L 162 161,N 163 (.call 17 [(.tmp 156),(.tmp 157),(.tmp 158),(.tmp 162)]),M 155 163,E 164 155 0,E 165 155 1,M 25 164,M 26 165] []) (.seq (.region 12 [M 166 26,N 167 (.binOp .neq (.one .int) (.tmp 166) (I 0)),M 168 167,U 169 (.move (.tmp 16)) 168,U 170 (.move (.tmp 24)) 168,U 171 (.indexAddr none 1 (.tmp 169) (.tmp 170)) 168,U 172 (.load none (.tmp 171)) 168,U 173 (.move (.tmp 172)) 168,V 174 (.move (.tmp 25)) 173,V 175 (.unOp .not (.tmp 174)) 173,U 176 (.pick (.tmp 173) (.tmp 175) (.const (.bool false))) 168,N 177 (.pick (.tmp 168) (.const (.bool true)) (.tmp 176))] []) (.cond (.tmp 177) (.seq (.region 1 [N 6 (.move (.const (.bool false)))] []) .ret) .skip))))) (.region 3 [M 149 24,N 150 (.binOp .add (.one .int) (.tmp 149) (I 1)),M 24 150] [])))
def x5r:ACode:=(.seq (.seq (.region 9 [M 72 21,A 73 7 1,L 74 73,M 75 19,N 76 (.indexAddr none 5 (.tmp 74) (.tmp 75)),A 77 76 0,L 78 77,N 79 (.len .sl (.tmp 78)),N 80 (.binOp .lss (.one .int) (.tmp 72) (.tmp 79))] []) (.cond (.tmp 80) .skip (.exit 2))) (.seq (.block 3 (.region 16 [M 83 20,M 84 15,A 85 7 1,L 86 85,M 87 19,N 88 (.indexAddr none 5 (.tmp 86) (.tmp 87)),A 89 88 0,L 90 89,M 91 21,N 92 (.indexAddr none 2 (.tmp 90) (.tmp 91)),A 93 92 1,L 94 93,N 95 (.call 16 [(.tmp 84),(.tmp 94)]),N 96 (.buildSlice 6 false (.agg [(.int .i64 0),(.bool false),(.str []),(.sl [] .nil),(.sl [] .nil)]) 1 [(0,(.tmp 95))]),N 97 (.append 7 5 80 false (.tmp 83) (.tmp 96)),M 20 97] [])) (.region 3 [M 81 21,N 82 (.binOp .add (.one .int) (.tmp 81) (I 1)),M 21 82] [])))
def j2f:ACode:=(.seq (.seq (.region 5 [M 65 19,A 66 7 1,L 67 66,N 68 (.len .sl (.tmp 67)),N 69 (.binOp .lss (.one .int) (.tmp 65) (.tmp 68))] []) (.cond (.tmp 69) .skip (.exit 0))) (.seq (.block 1 (.seq (.region 1 [N 20 (.move (.const (.sl [] .nil)))] []) (.seq (.seq (.region 1 [N 21 (.move (I 0))] []) (.block 2 (.loop x5r))) (.seq (.region 10 [N 99 (.load (some 2) (.tmp 7)),N 100 (.load (some 1) (.tmp 12)),M 101 19,M 102 20,N 103 (.call 17 [(.tmp 99),(.tmp 100),(.tmp 101),(.tmp 102)]),M 98 103,E 104 98 0,E 105 98 1,M 22 104,M 23 105] []) (.seq (.seq (.region 2 [M 106 23,N 107 (.binOp .neq (.one .int) (.tmp 106) (I 0))] []) (.cond (.tmp 107) (.seq (.region 1 [N 6 (.move (.const (.bool false)))] []) .ret) .skip)) (.seq (.seq (.region 10 [A 108 7 1,L 109 108,M 110 19,N 111 (.indexAddr none 5 (.tmp 109) (.tmp 110)),A 112 111 3,A 113 112 0,L 114 113,A 115 8 1,L 116 115,N 117 (.binOp .eql (.one .str) (.tmp 114) (.tmp 116))] []) (.cond (.tmp 117) (.exit 1) .skip)) (.seq (.seq (.region 4 [M 118 18,M 119 16,N 120 (.len .sl (.tmp 119)),N 121 (.binOp .geq (.one .int) (.tmp 118) (.tmp 120))] []) (.cond (.tmp 121) (.seq (.region 1 [N 6 (.move (.const (.bool false)))] []) .ret) .skip)) (.seq (.region 17 [M 122 16,M 123 18,M 124 22,M 125 124,V 126 (.fieldAddr (.tmp 7) 1) 125,V 127 (.load none (.tmp 126)) 125,V 128 (.move (.tmp 19)) 125,V 129 (.indexAddr none 5 (.tmp 127) (.tmp 128)) 125,V 130 (.fieldAddr (.tmp 129) 3) 125,V 131 (.fieldAddr (.tmp 130) 0) 125,V 132 (.load none (.tmp 131)) 125,V 133 (.fieldAddr (.tmp 8) 2) 125,V 134 (.load none (.tmp 133)) 125,V 135 (.binOp .neq (.one .str) (.tmp 132) (.tmp 134)) 125,N 136 (.pick (.tmp 125) (.tmp 135) (.const (.bool false))),N 137 (.indexAddr none 1 (.tmp 122) (.tmp 123)),S 1 137 136] []) (.seq (.region 5 [M 138 17,M 139 20,N 140 (.buildSlice 8 false (.sl [] .nil) 1 [(0,(.tmp 139))]),N 141 (.append 9 1 24 false (.tmp 138) (.tmp 140)),M 17 141] []) (.region 3 [M 142 18,N 143 (.binOp .add (.one .int) (.tmp 142) (I 1)),M 18 143] [])))))))))) (.region 3 [M 70 19,N 71 (.binOp .add (.one .int) (.tmp 70) (I 1)),M 19 71] [])))
def v6e:AFun:=
 {ntmps:=179,nslots:=10,results:=[.tmp 6],byref:=[],owned:=false,
  body:=(.seq (.region 1 [N 6 (.move (.const (.bool false)))] []) (.seq (.region 4 [M 27 0,N 28 (.call 19 [.tmp 27]),N 7 (.alloc 0 (.agg [(.sl [] .nil),(.sl [] .nil)])),S 2 7 28] []) (.seq (.region 8 [N 30 (.load (some 2) (.tmp 7)),N 31 (.call 20 [.tmp 30]),M 29 31,E 32 29 0,E 33 29 1,N 8 (.alloc 1 (.agg [(.int .i64 0),(.str []),(.str []),(.int .i64 0),(.int .i64 0),(.sl [] .nil),(.sl [] .nil),(.sl [] .nil)])),S 8 8 32,M 9 33] []) (.seq (.seq (.region 2 [M 34 9,N 35 (.binOp .neq (.one .int) (.tmp 34) (I 0))] []) (.cond (.tmp 35) (.seq (.region 2 [N 36 (.call 21 []),M 6 36] []) .ret) .skip)) (.seq (.region 9 [N 38 (.load (some 2) (.tmp 7)),N 39 (.load (some 8) (.tmp 8)),N 40 (.call 22 [(.tmp 38),(.tmp 39)]),M 37 40,E 41 37 0,E 42 37 1,N 10 (.alloc 2 (.agg [(.sl [] .nil),(.sl [] .nil)])),S 2 10 41,M 11 42] []) (.seq (.region 5 [N 43 (.load (some 2) (.tmp 7)),M 44 1,N 45 (.call 13 [(.tmp 43),(.tmp 44)]),N 12 (.alloc 3 (.agg [(.sl [] .nil)])),S 1 12 45] []) (.seq (.region 10 [N 47 (.load (some 2) (.tmp 7)),N 48 (.load (some 8) (.tmp 8)),N 49 (.load (some 1) (.tmp 12)),N 50 (.call 23 [(.tmp 47),(.tmp 48),(.tmp 49)]),M 46 50,E 51 46 0,E 52 46 1,N 13 (.alloc 4 (.agg [(.sl [] .nil)])),S 1 13 51,M 14 52] []) (.seq (.seq (.region 6 [M 53 11,N 54 (.binOp .neq (.one .int) (.tmp 53) (I 0)),M 55 54,U 56 (.move (.tmp 14)) 55,U 57 (.binOp .neq (.one .int) (.tmp 56) (I 0)) 55,N 58 (.pick (.tmp 55) (.const (.bool true)) (.tmp 57))] []) (.cond (.tmp 58) (.seq (.region 1 [N 6 (.move (.const (.bool false)))] []) .ret) .skip)) (.seq (.region 3 [M 59 2,N 60 (.call 15 [.tmp 59]),M 15 60] []) (.seq (.region 5 [A 61 10 1,L 62 61,N 63 (.len .sl (.tmp 62)),N 64 (.makeSlice 5 (.bool false) 1 (.tmp 63) (.tmp 63)),M 16 64] []) (.seq (.region 1 [N 17 (.move (.const (.sl [] .nil)))] []) (.seq (.region 1 [N 18 (.move (I 0))] []) (.seq (.seq (.region 1 [N 19 (.move (I 0))] []) (.block 0 (.loop j2f))) (.seq (.seq (.region 1 [N 24 (.move (I 0))] []) (.block 4 (.loop x5q))) (.seq (.region 2 [N 178 (.call 21 []),M 6 178] []) .ret)))))))))))))))}
theorem y2d:Gam.fn 5=some v6e:=by kernel_rfl
end
def lps:ACode→List ACode
 | .seq a b=>lps a++lps b
 | .cond _ a b=>lps a++lps b
 | .block _ b=>lps b
 | .loop b=>b::lps b
 | .rangeB _ _ _ a b=>lps a++lps b
 | _=>[]
def lp (f:AFun) (k:Nat):ACode:=(lps f.body).getD k .skip
def fla:ACode→List ACode→ACode×List ACode
 | .seq a b,l=>let r:=fla a l;let q:=fla b r.2;(.seq r.1 q.1,q.2)
 | .cond x a b,l=>let r:=fla a l;let q:=fla b r.2;(.cond x r.1 q.1,q.2)
 | .block i b,l=>let r:=fla b l;(.block i r.1,r.2)
 | .loop b,c::l=>(.loop c,l.drop (lps b).length)
 | .rangeB x p q a b,l=>let r:=fla a l;let t:=fla b r.2;(.rangeB x p q r.1 t.1,t.2)
 | c,l=>(c,l)
def fl (l:List ACode) (c:ACode):ACode:=(fla c l).1
def flF (l:List ACode) (f:AFun):AFun:={f with body:=fl l f.body}
section
open Sh
set_option maxHeartbeats 0
def w6y:AFun:=(fun (a:AFun) (_:Gam.fn 205=some a)=>a) _ (by conv=>lhs;reduce;simp only[z4,z5])
theorem g4c:Gam.fn 205=some w6y:=by kernel_rfl
def q71:AFun:=(fun (a:AFun) (_:Gam.fn 257=some a)=>a) _ (by conv=>lhs;reduce;simp only[z4,z5])
def k3b:ACode:=(fun (a:ACode) (_:fl [] (lp q71 0)=a)=>a) _ (by conv=>lhs;reduce;simp only[z4,z5])
attribute [local irreducible] k3b
def u4a:AFun:=(fun (a:AFun) (_:flF [k3b] q71=a)=>a) _ (by conv=>lhs;reduce;simp only[z4,z5])
theorem g4d:Gam.fn 257=some u4a:=by kernel_rfl
def y2e:AFun:=(fun (a:AFun) (_:Gam.fn 17=some a)=>a) _ (by conv=>lhs;reduce;simp only[z4,z5])
def x0q:ACode:=(fun (a:ACode) (_:fl [] (lp y2e 0)=a)=>a) _ (by conv=>lhs;reduce;simp only[z4,z5])
attribute [local irreducible] x0q
def k3c:AFun:=(fun (a:AFun) (_:flF [x0q] y2e=a)=>a) _ (by conv=>lhs;reduce;simp only[z4,z5])
theorem y2f:Gam.fn 17=some k3c:=by kernel_rfl
def y2g:AFun:=(fun (a:AFun) (_:Gam.fn 51=some a)=>a) _ (by conv=>lhs;reduce;simp only[z4,z5])
def x5s:ACode:=(fun (a:ACode) (_:fl [] (lp y2g 0)=a)=>a) _ (by conv=>lhs;reduce;simp only[z4,z5])
attribute [local irreducible] x5s
def v6f:AFun:=(fun (a:AFun) (_:flF [x5s] y2g=a)=>a) _ (by conv=>lhs;reduce;simp only[z4,z5])
theorem y2h:Gam.fn 51=some v6f:=by kernel_rfl
def y2i:AFun:=(fun (a:AFun) (_:Gam.fn 52=some a)=>a) _ (by conv=>lhs;reduce;simp only[z4,z5])
def x5t:ACode:=(fun (a:ACode) (_:fl [] (lp y2i 0)=a)=>a) _ (by conv=>lhs;reduce;simp only[z4,z5])
attribute [local irreducible] x5t
def v6g:AFun:=(fun (a:AFun) (_:flF [x5t] y2i=a)=>a) _ (by conv=>lhs;reduce;simp only[z4,z5])
theorem y2j:Gam.fn 52=some v6g:=by kernel_rfl
def v6h:AFun:=(fun (a:AFun) (_:Gam.fn 53=some a)=>a) _ (by conv=>lhs;reduce;simp only[z4,z5])
theorem y2k:Gam.fn 53=some v6h:=by kernel_rfl
def v6i:AFun:=(fun (a:AFun) (_:Gam.fn 54=some a)=>a) _ (by conv=>lhs;reduce;simp only[z4,z5])
theorem y2l:Gam.fn 54=some v6i:=by kernel_rfl
def v6j:AFun:=(fun (a:AFun) (_:Gam.fn 55=some a)=>a) _ (by conv=>lhs;reduce;simp only[z4,z5])
theorem y2m:Gam.fn 55=some v6j:=by kernel_rfl
def w1y:AFun:=(fun (a:AFun) (_:Gam.fn 105=some a)=>a) _ (by conv=>lhs;reduce;simp only[z4,z5])
def x5u:ACode:=(fun (a:ACode) (_:fl [] (lp w1y 1)=a)=>a) _ (by conv=>lhs;reduce;simp only[z4,z5])
attribute [local irreducible] x5u
def x5v:ACode:=(fun (a:ACode) (_:fl [x5u] (lp w1y 0)=a)=>a) _ (by conv=>lhs;reduce;simp only[z4,z5])
attribute [local irreducible] x5v
def v6k:AFun:=(fun (a:AFun) (_:flF [x5v,x5u] w1y=a)=>a) _ (by conv=>lhs;reduce;simp only[z4,z5])
theorem y2n:Gam.fn 105=some v6k:=by kernel_rfl
def y2o:AFun:=(fun (a:AFun) (_:Gam.fn 107=some a)=>a) _ (by conv=>lhs;reduce;simp only[z4,z5])
def x5w:ACode:=(fun (a:ACode) (_:fl [] (lp y2o 0)=a)=>a) _ (by conv=>lhs;reduce;simp only[z4,z5])
attribute [local irreducible] x5w
def v6l:AFun:=(fun (a:AFun) (_:flF [x5w] y2o=a)=>a) _ (by conv=>lhs;reduce;simp only[z4,z5])
theorem y2p:Gam.fn 107=some v6l:=by kernel_rfl
def y2q:AFun:=(fun (a:AFun) (_:Gam.fn 173=some a)=>a) _ (by conv=>lhs;reduce;simp only[z4,z5])
def x5x:ACode:=(fun (a:ACode) (_:fl [] (lp y2q 0)=a)=>a) _ (by conv=>lhs;reduce;simp only[z4,z5])
attribute [local irreducible] x5x
def v6m:AFun:=(fun (a:AFun) (_:flF [x5x] y2q=a)=>a) _ (by conv=>lhs;reduce;simp only[z4,z5])
theorem y2r:Gam.fn 173=some v6m:=by kernel_rfl
def v6n:AFun:=(fun (a:AFun) (_:Gam.fn 174=some a)=>a) _ (by conv=>lhs;reduce;simp only[z4,z5])
theorem y2s:Gam.fn 174=some v6n:=by kernel_rfl
def w1z:AFun:=(fun (a:AFun) (_:Gam.fn 236=some a)=>a) _ (by conv=>lhs;reduce;simp only[z4,z5])
def x0r:ACode:=(fun (a:ACode) (_:fl [] (lp w1z 1)=a)=>a) _ (by conv=>lhs;reduce;simp only[z4,z5])
attribute [local irreducible] x0r
def x5y:ACode:=(fun (a:ACode) (_:fl [x0r] (lp w1z 0)=a)=>a) _ (by conv=>lhs;reduce;simp only[z4,z5])
attribute [local irreducible] x5y
def z6b:AFun:=(fun (a:AFun) (_:flF [x5y,x0r] w1z=a)=>a) _ (by conv=>lhs;reduce;simp only[z4,z5])
theorem y2t:Gam.fn 236=some z6b:=by kernel_rfl
def v6o:AFun:=(fun (a:AFun) (_:Gam.fn 283=some a)=>a) _ (by conv=>lhs;reduce;simp only[z4,z5])
theorem y2u:Gam.fn 283=some v6o:=by kernel_rfl
def v6p:AFun:=(fun (a:AFun) (_:Gam.fn 286=some a)=>a) _ (by conv=>lhs;reduce;simp only[z4,z5])
theorem y2v:Gam.fn 286=some v6p:=by kernel_rfl
def v6q:AFun:=(fun (a:AFun) (_:Gam.fn 287=some a)=>a) _ (by conv=>lhs;reduce;simp only[z4,z5])
theorem y2w:Gam.fn 287=some v6q:=by kernel_rfl
def y2x:AFun:=(fun (a:AFun) (_:Gam.fn 288=some a)=>a) _ (by conv=>lhs;reduce;simp only[z4,z5])
def x0s:ACode:=(fun (a:ACode) (_:fl [] (lp y2x 0)=a)=>a) _ (by conv=>lhs;reduce;simp only[z4,z5])
attribute [local irreducible] x0s
def v6r:AFun:=(fun (a:AFun) (_:flF [x0s] y2x=a)=>a) _ (by conv=>lhs;reduce;simp only[z4,z5])
theorem y2y:Gam.fn 288=some v6r:=by kernel_rfl
def y2z:AFun:=(fun (a:AFun) (_:Gam.fn 289=some a)=>a) _ (by conv=>lhs;reduce;simp only[z4,z5])
def x0t:ACode:=(fun (a:ACode) (_:fl [] (lp y2z 0)=a)=>a) _ (by conv=>lhs;reduce;simp only[z4,z5])
attribute [local irreducible] x0t
def x9p:AFun:=(fun (a:AFun) (_:flF [x0t] y2z=a)=>a) _ (by conv=>lhs;reduce;simp only[z4,z5])
theorem k3d:Gam.fn 289=some x9p:=by kernel_rfl
def x9q:AFun:=(fun (a:AFun) (_:Gam.fn 312=some a)=>a) _ (by conv=>lhs;reduce;simp only[z4,z5])
theorem y3a:Gam.fn 312=some x9q:=by kernel_rfl
def v6s:AFun:=(fun (a:AFun) (_:Gam.fn 313=some a)=>a) _ (by conv=>lhs;reduce;simp only[z4,z5])
theorem y3b:Gam.fn 313=some v6s:=by kernel_rfl
def v6t:AFun:=(fun (a:AFun) (_:Gam.fn 321=some a)=>a) _ (by conv=>lhs;reduce;simp only[z4,z5])
theorem y3c:Gam.fn 321=some v6t:=by kernel_rfl
end
section
open Sh
set_option maxHeartbeats 0
def y3d:AFun:=(fun (a:AFun) (_:Gam.fn 1048625=some a)=>a) _ (by conv=>lhs;reduce;simp only[z4,z5])
def z8a:ACode:=(fun (a:ACode) (_:fl [] (lp y3d 0)=a)=>a) _ (by conv=>lhs;reduce;simp only[z4,z5])
attribute [local irreducible] z8a
def v6u:AFun:=(fun (a:AFun) (_:flF [z8a] y3d=a)=>a) _ (by conv=>lhs;reduce;simp only[z4,z5])
theorem y3e:Gam.fn 1048625=some v6u:=by kernel_rfl
def u9j:AFun:=(fun (a:AFun) (_:Gam.fn 101=some a)=>a) _ (by conv=>lhs;reduce;simp only[z4,z5])
def x9r:ACode:=(fun (a:ACode) (_:fl [] (lp u9j 0)=a)=>a) _ (by conv=>lhs;reduce;simp only[z4,z5])
attribute [local irreducible] x9r
def k3e:AFun:=(fun (a:AFun) (_:flF [x9r] u9j=a)=>a) _ (by conv=>lhs;reduce;simp only[z4,z5])
theorem u4b:Gam.fn 101=some k3e:=by kernel_rfl
def y3f:AFun:=(fun (a:AFun) (_:Gam.fn 103=some a)=>a) _ (by conv=>lhs;reduce;simp only[z4,z5])
theorem u4c:Gam.fn 103=some y3f:=by kernel_rfl
def y3g:AFun:=(fun (a:AFun) (_:Gam.fn 167=some a)=>a) _ (by conv=>lhs;reduce;simp only[z4,z5])
theorem u4d:Gam.fn 167=some y3g:=by kernel_rfl
def y3h:AFun:=(fun (a:AFun) (_:Gam.fn 232=some a)=>a) _ (by conv=>lhs;reduce;simp only[z4,z5])
theorem u4e:Gam.fn 232=some y3h:=by kernel_rfl
def k8y:AFun:=(fun (a:AFun) (_:Gam.fn 233=some a)=>a) _ (by conv=>lhs;reduce;simp only[z4,z5])
theorem u4f:Gam.fn 233=some k8y:=by kernel_rfl
def u9k:AFun:=(fun (a:AFun) (_:Gam.fn 280=some a)=>a) _ (by conv=>lhs;reduce;simp only[z4,z5])
def x0u:ACode:=(fun (a:ACode) (_:fl [] (lp u9k 0)=a)=>a) _ (by conv=>lhs;reduce;simp only[z4,z5])
attribute [local irreducible] x0u
def y3i:AFun:=(fun (a:AFun) (_:flF [x0u] u9k=a)=>a) _ (by conv=>lhs;reduce;simp only[z4,z5])
theorem u4g:Gam.fn 280=some y3i:=by kernel_rfl
end
section
open Sh
set_option maxHeartbeats 0
def q26:AFun:=(fun (a:AFun) (_:Gam.fn 6=some a)=>a) _ (by conv=>lhs;reduce;simp only[z4,z5])
def k8z:ACode:=(fun (a:ACode) (_:fl [] (lp q26 0)=a)=>a) _ (by conv=>lhs;reduce;simp only[z4,z5])
attribute [local irreducible] k8z
def u9l:AFun:=(fun (a:AFun) (_:flF [k8z] q26=a)=>a) _ (by conv=>lhs;reduce;simp only[z4,z5])
theorem g4e:Gam.fn 6=some u9l:=by kernel_rfl
def k9a:AFun:=(fun (a:AFun) (_:Gam.fn 15=some a)=>a) _ (by conv=>lhs;reduce;simp only[z4,z5])
theorem g4f:Gam.fn 15=some k9a:=by kernel_rfl
def u9m:AFun:=(fun (a:AFun) (_:Gam.fn 25=some a)=>a) _ (by conv=>lhs;reduce;simp only[z4,z5])
theorem g4g:Gam.fn 25=some u9m:=by kernel_rfl
def w2a:AFun:=(fun (a:AFun) (_:Gam.fn 16=some a)=>a) _ (by conv=>lhs;reduce;simp only[z4,z5])
theorem u9n:Gam.fn 16=some w2a:=by kernel_rfl
def u9o:AFun:=(fun (a:AFun) (_:Gam.fn 26=some a)=>a) _ (by conv=>lhs;reduce;simp only[z4,z5])
theorem g4h:Gam.fn 26=some u9o:=by kernel_rfl
def q53:AFun:=(fun (a:AFun) (_:Gam.fn 27=some a)=>a) _ (by conv=>lhs;reduce;simp only[z4,z5])
def k3f:ACode:=(fun (a:ACode) (_:fl [] (lp q53 1)=a)=>a) _ (by conv=>lhs;reduce;simp only[z4,z5])
attribute [local irreducible] k3f
def k9b:ACode:=(fun (a:ACode) (_:fl [k3f] (lp q53 0)=a)=>a) _ (by conv=>lhs;reduce;simp only[z4,z5])
attribute [local irreducible] k9b
def u9p:AFun:=(fun (a:AFun) (_:flF [k9b,k3f] q53=a)=>a) _ (by conv=>lhs;reduce;simp only[z4,z5])
theorem u9q:Gam.fn 27=some u9p:=by kernel_rfl
def u9r:AFun:=(fun (a:AFun) (_:Gam.fn 66=some a)=>a) _ (by conv=>lhs;reduce;simp only[z4,z5])
theorem g4i:Gam.fn 66=some u9r:=by kernel_rfl
def q72:AFun:=(fun (a:AFun) (_:Gam.fn 48=some a)=>a) _ (by conv=>lhs;reduce;simp only[z4,z5])
def j9i:ACode:=(fun (a:ACode) (_:fl [] (lp q72 0)=a)=>a) _ (by conv=>lhs;reduce;simp only[z4,z5])
attribute [local irreducible] j9i
def u9s:AFun:=(fun (a:AFun) (_:flF [j9i] q72=a)=>a) _ (by conv=>lhs;reduce;simp only[z4,z5])
theorem g4j:Gam.fn 48=some u9s:=by kernel_rfl
def q97:AFun:=(fun (a:AFun) (_:Gam.fn 68=some a)=>a) _ (by conv=>lhs;reduce;simp only[z4,z5])
def w2b:ACode:=(fun (a:ACode) (_:fl [] (lp q97 0)=a)=>a) _ (by conv=>lhs;reduce;simp only[z4,z5])
attribute [local irreducible] w2b
def u9t:AFun:=(fun (a:AFun) (_:flF [w2b] q97=a)=>a) _ (by conv=>lhs;reduce;simp only[z4,z5])
theorem g4k:Gam.fn 68=some u9t:=by kernel_rfl
def u9u:AFun:=(fun (a:AFun) (_:Gam.fn 69=some a)=>a) _ (by conv=>lhs;reduce;simp only[z4,z5])
theorem u9v:Gam.fn 69=some u9u:=by kernel_rfl
def u9w:AFun:=(fun (a:AFun) (_:Gam.fn 24=some a)=>a) _ (by conv=>lhs;reduce;simp only[z4,z5])
theorem g4l:Gam.fn 24=some u9w:=by kernel_rfl
def y3j:AFun:=(fun (a:AFun) (_:Gam.fn 119=some a)=>a) _ (by conv=>lhs;reduce;simp only[z4,z5])
theorem u4h:Gam.fn 119=some y3j:=by kernel_rfl
def y3k:AFun:=(fun (a:AFun) (_:Gam.fn 43=some a)=>a) _ (by conv=>lhs;reduce;simp only[z4,z5])
theorem u4i:Gam.fn 43=some y3k:=by kernel_rfl
def y3l:AFun:=(fun (a:AFun) (_:Gam.fn 95=some a)=>a) _ (by conv=>lhs;reduce;simp only[z4,z5])
theorem u4j:Gam.fn 95=some y3l:=by kernel_rfl
def u9x:AFun:=(fun (a:AFun) (_:Gam.fn 120=some a)=>a) _ (by conv=>lhs;reduce;simp only[z4,z5])
def k3g:ACode:=(fun (a:ACode) (_:fl [] (lp u9x 0)=a)=>a) _ (by conv=>lhs;reduce;simp only[z4,z5])
attribute [local irreducible] k3g
def y3m:AFun:=(fun (a:AFun) (_:flF [k3g] u9x=a)=>a) _ (by conv=>lhs;reduce;simp only[z4,z5])
theorem u4k:Gam.fn 120=some y3m:=by kernel_rfl
def y3n:AFun:=(fun (a:AFun) (_:Gam.fn 121=some a)=>a) _ (by conv=>lhs;reduce;simp only[z4,z5])
theorem u4l:Gam.fn 121=some y3n:=by kernel_rfl
def u9y:AFun:=(fun (a:AFun) (_:Gam.fn 42=some a)=>a) _ (by conv=>lhs;reduce;simp only[z4,z5])
def j4t:ACode:=(fun (a:ACode) (_:fl [] (lp u9y 0)=a)=>a) _ (by conv=>lhs;reduce;simp only[z4,z5])
attribute [local irreducible] j4t
def w2c:AFun:=(fun (a:AFun) (_:flF [j4t] u9y=a)=>a) _ (by conv=>lhs;reduce;simp only[z4,z5])
theorem w2d:Gam.fn 42=some w2c:=by kernel_rfl
def w2e:AFun:=(fun (a:AFun) (_:Gam.fn 154=some a)=>a) _ (by conv=>lhs;reduce;simp only[z4,z5])
theorem y3o:Gam.fn 154=some w2e:=by kernel_rfl
def u9z:AFun:=(fun (a:AFun) (_:Gam.fn 155=some a)=>a) _ (by conv=>lhs;reduce;simp only[z4,z5])
def k3h:ACode:=(fun (a:ACode) (_:fl [] (lp u9z 0)=a)=>a) _ (by conv=>lhs;reduce;simp only[z4,z5])
attribute [local irreducible] k3h
def y3p:AFun:=(fun (a:AFun) (_:flF [k3h] u9z=a)=>a) _ (by conv=>lhs;reduce;simp only[z4,z5])
theorem u4m:Gam.fn 155=some y3p:=by kernel_rfl
def y3q:AFun:=(fun (a:AFun) (_:Gam.fn 94=some a)=>a) _ (by conv=>lhs;reduce;simp only[z4,z5])
theorem u4n:Gam.fn 94=some y3q:=by kernel_rfl
def y3r:AFun:=(fun (a:AFun) (_:Gam.fn 96=some a)=>a) _ (by conv=>lhs;reduce;simp only[z4,z5])
theorem u4o:Gam.fn 96=some y3r:=by kernel_rfl
def g0a:AFun:=(fun (a:AFun) (_:Gam.fn 224=some a)=>a) _ (by conv=>lhs;reduce;simp only[z4,z5])
def j4u:ACode:=(fun (a:ACode) (_:fl [] (lp g0a 0)=a)=>a) _ (by conv=>lhs;reduce;simp only[z4,z5])
attribute [local irreducible] j4u
def y3s:AFun:=(fun (a:AFun) (_:flF [j4u] g0a=a)=>a) _ (by conv=>lhs;reduce;simp only[z4,z5])
theorem u4p:Gam.fn 224=some y3s:=by kernel_rfl
def w2f:AFun:=(fun (a:AFun) (_:Gam.fn 272=some a)=>a) _ (by conv=>lhs;reduce;simp only[z4,z5])
theorem u4q:Gam.fn 272=some w2f:=by kernel_rfl
def y3t:AFun:=(fun (a:AFun) (_:Gam.fn 305=some a)=>a) _ (by conv=>lhs;reduce;simp only[z4,z5])
theorem u4r:Gam.fn 305=some y3t:=by kernel_rfl
def y3u:AFun:=(fun (a:AFun) (_:Gam.fn 306=some a)=>a) _ (by conv=>lhs;reduce;simp only[z4,z5])
theorem u4s:Gam.fn 306=some y3u:=by kernel_rfl
end
section
variable {D L:List AObj} {B k g:Nat} {o:AObj}
theorem z2a (hB:D.length=B):(D++L).set (B + k) o=D++L.set k o:=by
 subst hB
 rw[List.set_append_right _ _ (by omega)]
 congr 2
 omega
theorem z2u (hB:D.length=B):(D++L)[B + k]? =L[k]? :=by
 subst hB
 rw[m0 (by omega)]
 congr 1
 omega
theorem z2k (hB:D.length=B):z1u (D++L) (B + k) g=z1u L k g:=by
 unfold z1u
 rw[z2u hB]
theorem x5z (hB:D.length=B):z5k (D++L) (B + k) g=z5k L k g:=by
 unfold z5k
 rw[z2u hB]
theorem k3i {s:Nat} (hB:D.length=B) (h:s < B):(D++L).set s o=D.set s o++L:=List.set_append_left _ _ (hB ▸ h)
theorem z0w {s:Nat} (hB:D.length=B) (h:s < B):(D++L)[s]? =D[s]? :=l8 (hB ▸ h)
theorem z2x {s:Nat} (hB:D.length=B) (h:s < B):z1u (D++L) s g=z1u D s g:=by
 unfold z1u
 rw[z0w hB h]
theorem w2g {s:Nat} {es:List AV} {r w:Bool} {z:Nat} (hB:D.length=B) (h:s < B):z1u (D.set s (.blk g es r w z)++L) s g=some (es,r,w,z):=by
 rw[z2x (B:=B) (by rw[List.length_set];exact hB) h]
 subst hB
 simp[z1u,h]
theorem j4v {os:List AObj} {es:List AV} {r w:Bool} {z:Nat}:z1u (.blk g es r w z::os) 0 g=some (es,r,w,z):=by simp[z1u]
theorem j4w {os:List AObj}:z1u (o::os) (k + 1) g=z1u os k g:=by simp[z1u]
theorem z2g {s:Nat} {es:List AV} {r w:Bool} {z:Nat} (h:D[s]? =some (.blk g es r w z)):z1u D s g=some (es,r,w,z):=by simp[z1u,h]
theorem j4x {os:List AObj} {es:List (AV×AV)}:z5k (.map g es::os) 0 g=some es:=by simp[z5k]
theorem j4y {os:List AObj}:z5k (o::os) (k + 1) g=z5k os k g:=by simp[z5k]
theorem z6w {h:List AObj} {s i o sz:Nat} {v:AV}:z5q h sz v (.ptr s g i o)=match z1u h s g with
 | some (es,row,grow,fz)=>
   match es[i]?,(if row then pub h v else some (v,h)) with
   | some e,some (v',h')=>
     if v'.def? =true∧v'.cells.length=sz∧v'.cells.all AV.one=true∧(row=true→fz≤i∧ !(v.obs.map (·.1)).contains s) then
      (z8f e.cells o v'.cells).map fun cs=>(.undef,h'.set s (.blk g (es.set i (z7t e cs)) row grow fz))
     else none
   | _,_=>none
 | none=>none:=rfl
theorem q6u {h:List AObj} {s o sz:Nat} {v e:AV} (hb:z1u h s g=some ([e],false,false,0)) (hv:v.def? =true) (hl:v.cells.length=sz) (ho:v.cells.all AV.one=true) (hs:o + sz≤e.cells.length):
  z5q h sz v (.ptr s g 0 o)=some (.undef,h.set s (.blk g [z7t e (e.cells.take o++v.cells++e.cells.drop (o + sz))] false false 0)):=by
 rw[z6w,hb]
 simp only[List.getElem?_cons_zero,y6,if_false,hv,hl,ho,true_and,false_implies,and_self,if_true,z8f,hs,List.set_cons_zero,k6]
end
theorem j9j {cs:List AV} {o:Nat}:z1x cs o none=cs[o]? :=(rfl)
theorem j9k {cs:List AV} {o n:Nat}:z1x cs o (some n)=if o + n≤cs.length then some (.agg ((cs.drop o).take n)) else none:=(rfl)
attribute [go_sem] z6w w0b z8f List.all_cons List.all_nil Bool.and_true Bool.true_and Bool.and_self List.isEmpty_cons z7 Bool.not_false Bool.or_self Bool.or_false Bool.false_or y6 false_implies true_and and_true and_self List.singleton_append d4 d3 j9j j9k u6 List.length_nil List.drop_zero List.drop_succ_cons List.take_succ_cons List.take_zero List.take_nil z2a z2k x5z j4v j4w j4x j4y List.replicate_succ List.replicate_zero List.set_cons_zero List.set_cons_succ List.getElem?_cons_zero List.getElem?_cons_succ cvL AV.cv
def q3k (l:List Int):List AV:=l.map fun n=> .int .i64 n
def z3d (g:Nat) (l:List Int) (i:Nat):AObj:= .blk g [.agg [.sl (q3k l) .no, .int .i64 i]] false false 0
def q4y (l:List Int):Prop:=l.length≤400∧∀ z∈l, -9223372036854775808≤z∧z≤9223372036854775807
theorem q3d {l:List Int}:idsL (q3k l)=[]:=by
 induction l with
 | nil=>rfl
 | cons a l ih=>simpa [q3k,idsL,AV.ids] using ih
theorem x0v {g i:Nat} {l:List Int}:(z3d g l i).ids=[]:=by simp[z3d,AObj.ids,idsL,AV.ids,q3d]
theorem q3e {l:List Int}:(q3k l).length=l.length:=z6 _
theorem k9c {l:List Int} {i:Nat} (h:i < l.length):(q3k l)[i]? =some (.int .i64 l[i]):=by simp[q3k,h]
theorem k9d {l:List Int} {i:Nat} {h:List AObj} {t:Tip} {k:IntKind} (hi:i < l.length):z1m h 1 (.sl (q3k l) t) (.int k (i:Int))=some (.iptr [.int .i64 l[i]] 0,h):=z4a (k9c hi) rfl
def GenOk (l:List Int) (f:Nat) (args:List AV) (R:AV→Prop):Prop:=
 ∀ h s g i clk (Q:AV→List AObj→Nat→Prop),h[s]? =some (z3d g l i)→i≤l.length→(∀ v i',i'≤l.length→R v→Q v (h.set s (z3d g l i')) clk)→
   WC Gam f (.ptr s g 0 0::args) h clk Q∧z0y Gam f (.ptr s g 0 0::args) h=[s]
theorem GenOk.of {l:List Int} {f:Nat} {args az:List AV} {af:AFun} {R:AV→Prop} (hext:Gam.ext f=none) (hfn:Gam.fn f=some af) (hb:af.byref=[]) (ho:af.owned=false) (hobs:z3x args=[]) (has:cvL args=az) (hids:idsL az=[])
  (hw:∀ (D:List AObj) (B s g i clk:Nat) (T:AV→List AObj→Prop),D.length=B→s < B→D[s]? =some (z3d g l i)→i≤l.length→(∀ v h' i',h'[s]? =some (z3d g l i')→i'≤l.length→R v→T v h')→
   K Gam B af.body [] ⟨q0u (.ptr s g 0 0::az),D++j1 af.nslots .dead,clk⟩ (k0o [s] af.results T)):GenOk l f args R:=by
 intro h s g i clk Q hs hi hQ
 have hobs':z3x (.ptr s g 0 0::args)=[]:=by simp[z3x,AV.obs,hobs]
 have has':cvL (.ptr s g 0 0::args)= .ptr s g 0 0::az:=by simp[cvL,AV.cv,has]
 have hids':idsL (.ptr s g 0 0::az)=[s]:=by simp[idsL,AV.ids,hids]
 refine⟨?_, ?_⟩
 ·refine w7s hext hfn hb ho hobs' has' hids' hs x0v fun D B T hB hD hlt hT=>hw D B s g i clk T hB hlt hD hi fun v h' i' h1 h2 h3=>hT v h' _ h1 x0v (hQ v i' h2 h3)
 ·unfold z0y
  have hp:z1i h af.byref 0 (.ptr s g 0 0::args)=some (.ptr s g 0 0::az):=by rw[hb,z1p hobs',has']
  simp only[hext,hfn,hp,hobs',hids',List.map_nil,d3,reach,List.contains_nil,y6,if_false,hs,k6,x0v,n5]
  cases h.length <;> rfl
theorem j9l {f g f' g':List Nat×List Nat} (hf1:∀ x∈f'.1,x∈f.1) (hf2:∀ x∈f'.2,x∈f.2) (hg1:∀ x∈g'.1,x∈g.1) (hg2:∀ x∈g'.2,x∈g.2) (h:apart f g=true):apart f' g'=true:=by
 simp only[apart,z0j,b8,d6,Bool.not_eq_true',List.contains_eq_mem,z03] at h⊢
 exact⟨⟨fun x hx hy=>h.1.1 x (hf2 x hx) (hg1 x hy),fun x hx hy=>h.1.2 x (hf2 x hx) (hg2 x hy)⟩,fun x hx hy=>h.2 x (hg2 x hx) (hf1 x hy)⟩
def FeetLe (fs gs:List (List Nat×List Nat)):Prop:=fs.length=gs.length∧∀ i,(∀ x∈(fs.getD i ([],[])).1,x∈(gs.getD i ([],[])).1)∧(∀ x∈(fs.getD i ([],[])).2,x∈(gs.getD i ([],[])).2)
theorem j2g {N:Nat} {ops:List AOper} {fs gs:List (List Nat×List Nat)} {ps:List (Nat×Nat)} (hl:FeetLe fs gs) (h:z1b N ops gs ps=true):z1b N ops fs ps=true:=by
 unfold z1b at h⊢
 rw[d6] at h⊢
 intro p hp
 have:=h p hp
 simp only[b8,Bool.or_eq_true] at this⊢
 refine⟨j9l (hl.2 p.1).1 (hl.2 p.1).2 (hl.2 p.2).1 (hl.2 p.2).2 this.1,this.2.imp id fun h2=> ?_⟩
 rw[d6] at h2⊢
 intro x hx
 refine h2 x ?_
 simp only[z1d,j6] at hx⊢
 rcases hx with (hx | hx) | (hx | hx)
 ·exact .inl (.inl ((hl.2 p.1).1 x hx))
 ·exact .inl (.inr ((hl.2 p.1).2 x hx))
 ·exact .inr (.inl ((hl.2 p.2).1 x hx))
 ·exact .inr (.inr ((hl.2 p.2).2 x hx))
theorem FeetLe.mid {fs gs:List (List Nat×List Nat)} {f f':List Nat×List Nat} (h1:∀ x∈f.1,x∈f'.1) (h2:∀ x∈f.2,x∈f'.2):FeetLe (fs++[f]++gs) (fs++[f']++gs):=by
 refine⟨by simp,fun i=> ?_⟩
 simp only[List.getD_eq_getElem?_getD,n0,d4,d3]
 rcases Nat.lt_trichotomy i fs.length with h | h | h
 ·rw[l8 h,l8 h]
  exact⟨fun x hx=>hx,fun x hx=>hx⟩
 ·subst h
  simp only[m0 (j8 _),Nat.sub_self,List.getElem?_cons_zero,n5]
  exact⟨h1,h2⟩
 ·obtain⟨j,rfl⟩:∃ j,i=fs.length + (j + 1):=⟨i - fs.length - 1,by omega⟩
  rw[m0 (by omega),m0 (by omega),show fs.length + (j + 1) - fs.length=j + 1 by omega]
  exact⟨fun x hx=>hx,fun x hx=>hx⟩
theorem j4z {base g:Nat} {os:List AOper} {s:St} {ks:List Kf} {Q:Post} {m:Md} {f f':List Nat×List Nat} (h1:∀ x∈f.1,x∈f'.1) (h2:∀ x∈f.2,x∈f'.2) (h:O Gam base (m.add f') g os s ks Q):O Gam base (m.add f) g os s ks Q:=by
 obtain⟨k,s',fs,h3,h4,h5⟩:=h
 refine⟨k,s',fs,h3, ?_,h5⟩
 cases m with
 | plain=>exact h4
 | draw N ops ps gs=>
   simp only[Md.add,q5p,Md.ok] at h4⊢
   exact j2g (FeetLe.mid h1 h2) h4
theorem z0s {l:List Int} {f base B s g i clk gg:Nat} {args:List AV} {R:AV→Prop} {D L:List AObj} {m:Md} {dst:Option Nat} {os:List AOper} {ts:Tmps} {ks:List Kf} {Q:Post} (hg:GenOk l f args R) (hB:D.length=B) (hs:s < B) (hD:D[s]? =some (z3d g l i)) (hi:i≤l.length)
  (hQ:∀ v D' i',R v→D'.length=B→D'[s]? =some (z3d g l i')→i'≤l.length→O Gam base (m.add ([s],[s])) (gg + 1) os ⟨z8t ts dst v,D'++L,clk⟩ ks Q):CK Gam base f (.ptr s g 0 0::args) (D++L) clk m dst gg os ts ks Q:=by
 unfold CK
 have hD':(D++L)[s]? =some (z3d g l i):=by rw[z0w hB hs];exact hD
 obtain⟨_,hf⟩:=hg (D++L) s g i clk (fun _ _ _=>True) hD' hi (fun _ _ _ _=>trivial)
 refine (hg (D++L) s g i clk _ hD' hi fun v i' hi' hv=> ?_).1
 refine j4z (f':=([s],[s])) ?_ ?_ ?_
 ·rw[hf];exact fun x hx=>hx
 ·rw[hf];exact fun x hx=>(List.mem_filter.1 hx).1
 ·rw[k3i hB hs]
  exact hQ v _ i' hv (by rw[List.length_set];exact hB) (by subst hB;simp[hs]) hi'
theorem j5a {z:Int}:IntKind.u64.wrap z=z % 18446744073709551616:=by simp[IntKind.wrap,IntKind.signed,IntKind.bits]
theorem y3v {z n:Int} (hn:0 < n) (hn2:n < 2 ^ 62):∃ r:Int,0≤r∧r < n∧Pure Gam 66 [.int .i64 z, .int .i64 n] (.int .i64 r):=by
 have hw:0≤IntKind.u64.wrap z:=by rw[j5a];omega
 have hwn:IntKind.u64.wrap n=n:=by rw[j5a];omega
 have h1:0≤(IntKind.u64.wrap z).tmod n:=Int.tmod_nonneg _ hw
 have h2:(IntKind.u64.wrap z).tmod n < n:=Int.tmod_lt_of_pos _ hn
 refine⟨(IntKind.u64.wrap z).tmod n,h1,h2,Pure.of rfl g4i rfl rfl rfl rfl rfl fun D B clk T hB hT=> ?_⟩
 simp only[go_sem,u9r,hwn]
 rw[q1v (by omega)]
 simp only[go_sem,]
 rw[z0h rfl rfl,z0e (by omega) (by omega)]
 exact hT _
theorem z3u {l:List Int} {n:Int} (hl:q4y l) (hn:0 < n) (hn2:n < 2 ^ 62):GenOk l 25 [.int .i64 n] fun v=>∃ r:Int,v= .int .i64 r∧0≤r∧r < n:=by
 refine GenOk.of rfl g4g rfl rfl rfl rfl rfl fun D B s g i clk T hB hs hD hi hT=> ?_
 have hb:=z2g (g:=g) hD
 simp only[go_sem,u9m,z2x hB hs,hb,q3e]
 refine z8p (fun hc=> ?_) (fun hc=> ?_)
 ·simp only[go_sem,z2x hB hs,hb,q3e]
  rw[z0h rfl rfl]
  exact hT _ _ i (by rw[z0w hB hs];exact hD) hi ⟨0,rfl,by omega,by omega⟩
 ·have hlt:i < l.length:=by simpa using hc
  have hl400:=hl.1
  have e0:IntKind.i64.wrap ((i:Int) + 1)=(i:Int) + 1:=z0e (by omega) (by omega)
  have e1:IntKind.i64.wrap ((i:Int) + 1 - 1)=(i:Int):=by rw[z0e (by omega) (by omega)];omega
  simp only[go_sem,z2x hB hs,hb,q3e,e0,e1,k3i hB hs,w2g hB hs,k9d hlt]
  obtain⟨r,h1,h2,hp⟩:=y3v (z:=l[i]) hn hn2
  rw[z0a hp]
  simp only[go_sem,Md.add]
  rw[z0h rfl rfl]
  exact hT _ _ (i + 1) (by rw[z0w (by rw[List.length_set];exact hB) hs];subst hB;simp[hs,z3d]) (by omega) ⟨r,rfl,h1,h2⟩
theorem w2h {l:List Int}:GenOk l 26 [] fun v=>∃ b:Bool,v= .bool b:=by
 refine GenOk.of rfl g4h rfl rfl rfl rfl rfl fun D B s g i clk T hB hs hD hi hT=> ?_
 have hb:=z2g (g:=g) hD
 simp only[go_sem,u9o,z2x hB hs,hb,q3e]
 rw[z0h rfl rfl]
 exact hT _ _ i (by rw[z0w hB hs];exact hD) hi ⟨_,rfl⟩
section
variable {h:List AObj} {base g k:Nat} {ts:Tmps} {z:AV}
theorem k3j {n:Nat} {ps:List (Nat×AOpd)} (hz:z.def? =true) (hp:ps.map (·.1)=List.range n) (ho:z3x (ps.map fun p=>p.2.ev ts)=[])
  (hv:∀ v∈cvL (ps.map fun p=>p.2.ev ts),v.def? =true∧v.cells.length=z.cells.length):prim h base g ts (.buildSlice k false z n ps)=some (.sl (cvL (ps.map fun p=>p.2.ev ts)) .full,h):=by
 have key:∀ (vs es:List AV) (j:Nat),(∀ v∈vs,v.def? =true∧v.cells.length=z.cells.length)→es.length=j + vs.length→z3y z.cells.length es ((List.range vs.length).map (· + j)) vs=some (es.take j++vs):=by
  intro vs
  induction vs with
  | nil=>intro es j _ hl;simp[z3y];rw[List.take_of_length_le (by simp at hl;omega)]
  | cons v vs ih=>
    intro es j hv hl
    have hlt:j < es.length:=by simp at hl;omega
    have h1:=hv v List.mem_cons_self
    rw[u6,List.range_succ_eq_map]
    simp only[List.map_cons,List.map_map,y4,z3y,hlt,h1,and_self,if_true]
    have:=ih (es.set j v) (j + 1) (fun w hw=>hv w (List.mem_cons_of_mem _ hw)) (by simp at hl⊢;omega)
    rw[show (List.range vs.length).map ((fun x=>x + j)∘Nat.succ)=(List.range vs.length).map (· + (j + 1)) from List.map_congr_left fun a _=>by simp only[Function.comp];omega,this]
    congr 1
    rw[List.take_add_one,List.getElem?_set_self (by omega),List.take_set_of_le (j8 _)]
    simp
 have hn:n=(cvL (ps.map fun p=>p.2.ev ts)).length:=by
  have h1:=congrArg List.length hp
  simp only[z6,List.length_range] at h1
  have h2:∀ l:List AV,(cvL l).length=l.length:=fun l=>by induction l with
   | nil=>rfl
   | cons a l ih=>simp[cvL,ih]
  rw[h2,z6,h1]
 have h3:=key _ (j1 n z) 0 hv (by rw[List.length_replicate];omega)
 rw[←hn] at h3
 simp only[Nat.add_zero,List.map_id',List.take_zero,d3] at h3
 simp only[prim,hz,z7,y6,if_false,q5r ho,hp,h3,ho,freezeAll,k6]
def bsV (h:List AObj) (z:AV) (n:Nat) (js:List Nat) (vs:List AV):Option (AV×List AObj):=
 if !z.def? then none else match z8k h vs with
  | some ws=>(z3y z.cells.length (j1 n z) js ws).map fun es=>(.sl es .full,freezeAll h (z3x vs))
  | none=>none
theorem u1i {n:Nat} {ps:List (Nat×AOpd)}:prim h base g ts (.buildSlice k false z n ps)=bsV h z n (ps.map (·.1)) (ps.map fun p=>p.2.ev ts):=by
 simp only[prim,bsV,y6,if_false]
 rfl
section
variable {v v2 v3 v4:AV}
theorem u4t (hz:z.def? =true) (ho:v.obs=[]) (hd:v.cv.def? =true) (hl:v.cv.cells.length=z.cells.length):bsV h z 1 [0] [v]=some (.sl [v.cv] .full,h):=by
 have:=k3j (h:=h) (base:=0) (g:=0) (k:=0) (ts:=fun _=>v) (z:=z) (n:=1) (ps:=[(0, .const v)]) hz rfl (by simp[z3x,ho,AOpd.ev]) (by simp[cvL,hd,hl,AOpd.ev])
 rw[u1i] at this
 simpa [cvL,AOpd.ev] using this
theorem g4m (hz:z.def? =true) (ho:v.obs=[]) (hd:v.cv.def? =true) (hl:v.cv.cells.length=z.cells.length) (ho2:v2.obs=[]) (hd2:v2.cv.def? =true) (hl2:v2.cv.cells.length=z.cells.length):bsV h z 2 [0,1] [v,v2]=some (.sl [v.cv,v2.cv] .full,h):=by
 have:=k3j (h:=h) (base:=0) (g:=0) (k:=0) (ts:=fun _=>v) (z:=z) (n:=2) (ps:=[(0, .const v),(1, .const v2)]) hz rfl (by simp[z3x,ho,ho2,AOpd.ev]) (by simp[cvL,hd,hl,hd2,hl2,AOpd.ev])
 rw[u1i] at this
 simpa [cvL,AOpd.ev] using this
theorem g4n (hz:z.def? =true) (ho:v.obs=[]) (hd:v.cv.def? =true) (hl:v.cv.cells.length=z.cells.length) (ho2:v2.obs=[]) (hd2:v2.cv.def? =true) (hl2:v2.cv.cells.length=z.cells.length) (ho3:v3.obs=[]) (hd3:v3.cv.def? =true) (hl3:v3.cv.cells.length=z.cells.length):bsV h z 3 [0,1,2] [v,v2,v3]=some (.sl [v.cv,v2.cv,v3.cv] .full,h):=by
 have:=k3j (h:=h) (base:=0) (g:=0) (k:=0) (ts:=fun _=>v) (z:=z) (n:=3) (ps:=[(0, .const v),(1, .const v2),(2, .const v3)]) hz rfl (by simp[z3x,ho,ho2,ho3,AOpd.ev]) (by simp[cvL,hd,hl,hd2,hl2,hd3,hl3,AOpd.ev])
 rw[u1i] at this
 simpa [cvL,AOpd.ev] using this
end
section
variable {dst:Option Nat} {os:List AOper} {clk:Nat} {ks:List Kf} {Q:Post}
theorem g4o {n:Nat} {ps:List (Nat×AOpd)}:O Gam base .plain g (⟨dst, .buildSlice k false z n ps,none⟩::os) ⟨ts,h,clk⟩ ks Q=PP Gam base (bsV h z n (ps.map (·.1)) (ps.map fun p=>p.2.ev ts)) dst g os ts clk ks Q:=by rw[q4m rfl,u1i]
end
theorem w2i {cs:List AV}:(AV.agg cs).obs=z3x cs:=(rfl)
theorem y3w {cs:List AV} {t:Tip}:(AV.sl cs t).obs=[]:=(rfl)
theorem k3k {k:IntKind} {n:Int}:(AV.int k n).obs=[]:=(rfl)
theorem w2j {n:List Nat}:(AV.str n).obs=[]:=(rfl)
theorem j5b {n:Bool}:(AV.bool n).obs=[]:=(rfl)
theorem k9e:z3x []=[]:=(rfl)
theorem k3l {v:AV} {vs:List AV}:z3x (v::vs)=v.obs++z3x vs:=(rfl)
attribute [go_sem] g4o u4t g4m g4n z6f w2i y3w k3k w2j j5b k9e k3l
section
variable {dst:Option Nat} {os:List AOper} {clk:Nat} {ks:List Kf} {Q:Post}
def k7a (h:List AObj):AV→Option (AV×List AObj)
 | .str _=>none
 | x=>((z4o h x).bind z7j).map fun s=>(.str s,h)
theorem w2k {xs:List AV} {t:Tip}:k7a h (.sl xs t)=(z7j xs).map fun s=>(.str s,h):=(rfl)
def g0b (h:List AObj):AV→Option (AV×List AObj)
 | .str s=>some (.sl (s.map fun (b:Nat)=> .int .u8 (Int.ofNat b)) .no,h)
 | _=>none
theorem k9f {s:List Nat}:g0b h (.str s)=some (.sl (s.map fun (b:Nat)=> .int .u8 (Int.ofNat b)) .no,h):=(rfl)
def mmV (h:List AObj) (mx:Bool):AV→AV→Option (AV×List AObj)
 | .int k a, .int _ b=>some (.int k (if mx then (if b > a then b else a) else (if b < a then b else a)),h)
 | _,_=>none
theorem w2l {mx:Bool} {k j:IntKind} {a b:Int}:mmV h mx (.int k a) (.int j b)=some (.int k (if mx then (if b > a then b else a) else (if b < a then b else a)),h):=(rfl)
def lkV (h:List AObj) (t:ETy) (z:AV) (ok:Bool) (es:Option (List (AV×AV))) (ix:AV):Option (AV×List AObj):=
 match es with
 | some es=>if (ix.eqv t ix).isSome=true then (findKey t ix es).map fun r=>(q8j ok z r,h) else none
 | none=>none
def muV (h:List AObj) (t:ETy) (k v:AV):AV→Option (AV×List AObj)
 | .mp s g=>match z5k h s g,pub h v with
   | some es,some (v',h')=>if (k.eqv t k).isSome=true then (z6a t k v' es).map fun es'=>(.undef,h'.set s (.map g es')) else none
   | _,_=>none
 | _=>none
def msV (h:List AObj) (s g:Nat) (z:AV) (bytes:Nat):AV→AV→Option (AV×List AObj)
 | .int _ n, .int _ c=>
   if 0≤n∧n≤c∧c * (bytes + 1)≤z1e∧z.def? =true then some (.ob s g 0 n.toNat,h.set s (.blk g (j1 c.toNat z) true false 0)) else none
 | _,_=>none
def slV (h:List AObj) (esz:Option Nat) (x:AV) (lo hi mx:Option AV):Option (AV×List AObj):=(z2y h esz x lo hi mx).map (·,h)
theorem k3m {x:AOpd}:O Gam base .plain g (⟨dst, .ofBytes x,none⟩::os) ⟨ts,h,clk⟩ ks Q=PP Gam base (k7a h (x.ev ts)) dst g os ts clk ks Q:=by
 rw[q4m rfl];congr 1
theorem k3n {x:AOpd}:O Gam base .plain g (⟨dst, .toBytes x,none⟩::os) ⟨ts,h,clk⟩ ks Q=PP Gam base (g0b h (x.ev ts)) dst g os ts clk ks Q:=by
 rw[q4m rfl];congr 1
theorem k9g {x y:AOpd} {mx:Bool}:O Gam base .plain g (⟨dst, .minmax mx x y,none⟩::os) ⟨ts,h,clk⟩ ks Q=PP Gam base (mmV h mx (x.ev ts) (y.ev ts)) dst g os ts clk ks Q:=by
 rw[q4m rfl];congr 1
theorem k9h {t:ETy} {z:AV} {x ix:AOpd} {ok:Bool}:O Gam base .plain g (⟨dst, .lookup t z x ix ok,none⟩::os) ⟨ts,h,clk⟩ ks Q=PP Gam base (lkV h t z ok (x8b h (x.ev ts)) (ix.ev ts)) dst g os ts clk ks Q:=by
 rw[q4m rfl];rfl
theorem j2h {t:ETy} {m k v:AOpd}:O Gam base .plain g (⟨dst, .mapUpdate t m k v,none⟩::os) ⟨ts,h,clk⟩ ks Q=PP Gam base (muV h t (k.ev ts) (v.ev ts) (m.ev ts)) dst g os ts clk ks Q:=by
 rw[q4m rfl];congr 1
theorem j2i {k:Nat} {z:AV} {b:Nat} {n c:AOpd}:O Gam base .plain g (⟨dst, .makeSlice k z b n c,none⟩::os) ⟨ts,h,clk⟩ ks Q=PP Gam base (msV h (base + k) g z b (n.ev ts) (c.ev ts)) dst g os ts clk ks Q:=by
 rw[q4m rfl];congr 1
theorem w2m {esz:Option Nat} {x:AOpd} {lo hi mx:Option AOpd}:O Gam base .plain g (⟨dst, .slice esz x lo hi mx,none⟩::os) ⟨ts,h,clk⟩ ks Q=PP Gam base (slV h esz (x.ev ts) (lo.map (·.ev ts)) (hi.map (·.ev ts)) (mx.map (·.ev ts))) dst g os ts clk ks Q:=by
 rw[q4m rfl];rfl
end
attribute [go_sem] w2k k9f w2l k3m k3n k9g k9h j2h j2i w2m
section
variable {dst:Option Nat} {os os0:List AOper} {clk N:Nat} {ks:List Kf} {Q:Post} {ps:List (Nat×Nat)} {fs:List (List Nat×List Nat)}
theorem y3x {x:AOpd}:O Gam base (.draw N os0 ps fs) g (⟨dst,(.move x),none⟩::os) ⟨ts,h,clk⟩ ks Q=PO Gam base (some (x.ev ts,h)) (([],[])) (.draw N os0 ps fs) dst g os ts clk ks Q:=by rw[z6j rfl];congr 1
theorem y3y {c a b:AOpd}:O Gam base (.draw N os0 ps fs) g (⟨dst,(.pick c a b),none⟩::os) ⟨ts,h,clk⟩ ks Q=PO Gam base (k2h h (c.ev ts) (a.ev ts) (b.ev ts)) (([],[])) (.draw N os0 ps fs) dst g os ts clk ks Q:=by rw[z6j rfl];congr 1;exact v4l
theorem w2n {k:Nat} {z:AV}:O Gam base (.draw N os0 ps fs) g (⟨dst,(.alloc k z),none⟩::os) ⟨ts,h,clk⟩ ks Q=PO Gam base (w0b h (base + k) g z) (([],[base + k])) (.draw N os0 ps fs) dst g os ts clk ks Q:=by rw[z6j rfl];congr 1
theorem u4u {k:Nat} {x:AOpd}:O Gam base (.draw N os0 ps fs) g (⟨dst,(.box k x),none⟩::os) ⟨ts,h,clk⟩ ks Q=PO Gam base (w0b h (base + k) g (x.ev ts)) (([],[base + k])) (.draw N os0 ps fs) dst g os ts clk ks Q:=by rw[z6j rfl];congr 1
theorem w2o {z:List AV} {qs:List (Nat×Nat×AOpd)}:O Gam base (.draw N os0 ps fs) g (⟨dst,(.build z qs),none⟩::os) ⟨ts,h,clk⟩ ks Q=PO Gam base ((z6f z (qs.map fun p=>(p.1,p.2.1,p.2.2.ev ts))).map fun cs=>(.agg cs,h)) (([],[])) (.draw N os0 ps fs) dst g os ts clk ks Q:=by rw[z6j rfl];congr 1
theorem g4p {k n:Nat} {z:AV} {qs:List (Nat×AOpd)}:O Gam base (.draw N os0 ps fs) g (⟨dst,(.buildSlice k false z n qs),none⟩::os) ⟨ts,h,clk⟩ ks Q=PO Gam base (bsV h z n (qs.map (·.1)) (qs.map fun p=>p.2.ev ts)) (([],(z3x (qs.map fun p=>p.2.ev ts)).map (·.1))) (.draw N os0 ps fs) dst g os ts clk ks Q:=by rw[z6j rfl];congr 1
theorem y3z {sz:Option Nat} {a:AOpd}:O Gam base (.draw N os0 ps fs) g (⟨dst,(.load sz a),none⟩::os) ⟨ts,h,clk⟩ ks Q=PO Gam base (z9e h sz (a.ev ts)) (((a.ev ts).ids,[])) (.draw N os0 ps fs) dst g os ts clk ks Q:=by rw[z6j rfl];congr 1
theorem w2p {sz:Nat} {a x:AOpd}:O Gam base (.draw N os0 ps fs) g (⟨dst,(.store sz a x),none⟩::os) ⟨ts,h,clk⟩ ks Q=PO Gam base (z5q h sz (x.ev ts) (a.ev ts)) (([],(a.ev ts).ids++(x.ev ts).obs.map (·.1))) (.draw N os0 ps fs) dst g os ts clk ks Q:=by rw[z6j rfl];congr 1
theorem j9m {x:AOpd}:O Gam base (.draw N os0 ps fs) g (⟨dst,(.nilCheck x),none⟩::os) ⟨ts,h,clk⟩ ks Q=PO Gam base (k8h h (x.ev ts)) (([],[])) (.draw N os0 ps fs) dst g os ts clk ks Q:=by rw[z6j rfl];congr 1
theorem w2q {op:BinOp} {t:ETy} {x y:AOpd}:O Gam base (.draw N os0 ps fs) g (⟨dst,(.binOp op t x y),none⟩::os) ⟨ts,h,clk⟩ ks Q=PO Gam base (z7i h op t (x.ev ts) (y.ev ts)) (([],[])) (.draw N os0 ps fs) dst g os ts clk ks Q:=by rw[z6j rfl];congr 1
theorem j2j {x:AOpd} {o:Nat}:O Gam base (.draw N os0 ps fs) g (⟨dst,(.fieldAddr x o),none⟩::os) ⟨ts,h,clk⟩ ks Q=PO Gam base (k2i h o (x.ev ts)) (([],[])) (.draw N os0 ps fs) dst g os ts clk ks Q:=by rw[z6j rfl];congr 1
theorem k3o {x:AOpd} {i:Nat}:O Gam base (.draw N os0 ps fs) g (⟨dst,(.extract x i),none⟩::os) ⟨ts,h,clk⟩ ks Q=PO Gam base (u1f h i (x.ev ts)) (([],[])) (.draw N os0 ps fs) dst g os ts clk ks Q:=by rw[z6j rfl];congr 1
theorem u4v {t:LenTy} {x:AOpd}:O Gam base (.draw N os0 ps fs) g (⟨dst,(.len t x),none⟩::os) ⟨ts,h,clk⟩ ks Q=PO Gam base (v4k h t (x.ev ts)) (((x.ev ts).ids,[])) (.draw N os0 ps fs) dst g os ts clk ks Q:=by rw[z6j rfl];congr 1
theorem j2k {esz:Nat} {x ix:AOpd}:O Gam base (.draw N os0 ps fs) g (⟨dst,(.indexAddr none esz x ix),none⟩::os) ⟨ts,h,clk⟩ ks Q=PO Gam base (z1m h esz (x.ev ts) (ix.ev ts)) (((x.ev ts).ids,[])) (.draw N os0 ps fs) dst g os ts clk ks Q:=by rw[z6j rfl];congr 1;exact x0m
theorem k9i {k esz b:Nat} {mu:Bool} {x y:AOpd}:O Gam base (.draw N os0 ps fs) g (⟨dst,(.append k esz b mu x y),none⟩::os) ⟨ts,h,clk⟩ ks Q=PO Gam base (z0r h (base + k) g esz b mu (x.ev ts) (y.ev ts)) (((y.ev ts).ids,(base + k)::(x.ev ts).ids)) (.draw N os0 ps fs) dst g os ts clk ks Q:=by rw[z6j rfl];congr 1
theorem w2r {esz:Option Nat} {x:AOpd} {lo hi mx:Option AOpd}:O Gam base (.draw N os0 ps fs) g (⟨dst,(.slice esz x lo hi mx),none⟩::os) ⟨ts,h,clk⟩ ks Q=PO Gam base (slV h esz (x.ev ts) (lo.map (·.ev ts)) (hi.map (·.ev ts)) (mx.map (·.ev ts))) (((x.ev ts).ids,[])) (.draw N os0 ps fs) dst g os ts clk ks Q:=by rw[z6j rfl];congr 1
theorem j9n {f:Nat} {cap:List AOpd}:O Gam base (.draw N os0 ps fs) g (⟨dst,(.makeFunc f cap),none⟩::os) ⟨ts,h,clk⟩ ks Q=PO Gam base (some (.fn f (cap.map (·.ev ts)),h)) (([],[])) (.draw N os0 ps fs) dst g os ts clk ks Q:=by rw[z6j rfl];congr 1
theorem y4a {op:UnOp} {x:AOpd}:O Gam base (.draw N os0 ps fs) g (⟨dst, .unOp op x,none⟩::os) ⟨ts,h,clk⟩ ks Q=PO Gam base (unV h op (x.ev ts)) ([],[]) (.draw N os0 ps fs) dst g os ts clk ks Q:=by rw[z6j rfl];congr 1
theorem g4q {v:AV} {f:List Nat×List Nat} {m:Md} {d:Nat}:PO Gam base (some (v,h)) f m (some d) g os ts clk ks Q=O Gam base (m.add f) (g + 1) os ⟨upd ts d v,h,clk⟩ ks Q:=(rfl)
theorem g4r {v:AV} {f:List Nat×List Nat} {m:Md}:PO Gam base (some (v,h)) f m none g os ts clk ks Q=O Gam base (m.add f) (g + 1) os ⟨ts,h,clk⟩ ks Q:=(rfl)
end
theorem w2s {a b c d:Nat}:(AV.ptr a b c d).ids=[a]:=(rfl)
theorem k9j {cs:List AV} {o:Nat}:(AV.iptr cs o).ids=idsL cs:=(rfl)
theorem k9k:idsL []=[]:=(rfl)
theorem k3p {v:AV} {vs:List AV}:idsL (v::vs)=v.ids++idsL vs:=(rfl)
theorem w2t {k:IntKind} {n:Int}:(AV.int k n).ids=[]:=(rfl)
theorem w2u {n:List Nat}:(AV.str n).ids=[]:=(rfl)
theorem k9l {n:Bool}:(AV.bool n).ids=[]:=(rfl)
def u4w (h:List AObj) (sz:Option Nat):AV→Option AV
 | .ptr s g i o=>match z1u h s g with
   | some (es,_,_,_)=>(es[i]?).bind fun e=>z1x e.cells o sz
   | none=>none
 | _=>none
def v6v:Option AV→Option (List AV)→Option (List AV)
 | some v,some vs=>some (v::vs)
 | _,_=>none
theorem z0f {v:AV} {vs:List AV}:v6v (some v) (some vs)=some (v::vs):=(rfl)
theorem z0l {s i o:Nat} {sz:Option Nat}:u4w h sz (.ptr s g i o)=match z1u h s g with
 | some (es,_,_,_)=>(es[i]?).bind fun e=>z1x e.cells o sz
 | none=>none:=(rfl)
theorem z0m {t:Nat} {sz:Option Nat} {rs:List ARes}:z1y h ts (.cell t sz::rs)=v6v (u4w h sz (ts t)) (z1y h ts rs):=by
 simp only[z1y,u4w]
 cases ts t <;> try rfl
 rename_i s g i o
 simp only
 cases z1u h s g with
 | none=>rfl
 | some x=>
   obtain⟨es,a,b,c⟩:=x
   simp only
   cases (es[i]?).bind fun e=>z1x e.cells o sz with
   | none=>rfl
   | some v=>cases z1y h ts rs <;> rfl
attribute [go_sem] y4a y3x y3y w2n u4u w2o g4p y3z w2p j9m w2q j2j k3o u4v j2k k9i w2r j9n g4q g4r j8v w2s k9j k9k k3p w2t w2u k9l z0l z0f z0m Int.cast_ofNat_Int
def z8x (B k:Nat) (o:AObj) (t:Tip) (e:Nat):Prop:=t= .nil∨t= .full∨∃ g,t= .at (B + k) g∧o= .tip g e
theorem z0q {D L:List AObj} {B k esz b gen:Nat} {xs ys:List AV} {t u:Tip} {o:AObj} (hB:D.length=B) (ho:L[k]? =some o) (ht:z8x B k o t esz) (hx:z0n esz xs=true) (hy:z0n esz ys=true) (hl:(xs.length + ys.length) * (b + 1)≤2 ^ 46):
  z0r (D++L) (B + k) gen esz b false (.sl xs t) (.sl ys u)=some (.sl (xs++ys) (.at (B + k) gen),D++L.set k (.tip gen esz)):=by
 have hgt:¬ (xs.length + ys.length) * (b + 1) > z1e:=by unfold z1e;omega
 unfold z0r
 simp only[z4o,hy,z7,y6,if_false,hx,Bool.or_false,decide_eq_true_eq,hgt]
 rcases ht with rfl | rfl | ⟨g,rfl,rfl⟩
 ·simp only[z2a hB]
 ·simp only[z2a hB]
 ·simp only[z2u hB,ho,and_self,if_true,z2a hB,List.set_set]
theorem z2m {α:Type} {f:α→AV} {n:Nat} {l:List α} (hf:∀ x,(f x).def? =true∧(f x).cells.length=n∧(f x).cells.all AV.one=true):z0n n (l.map f)=true:=by
 induction l with
 | nil=>rfl
 | cons a l ih=>simp[z0n,hf a,ih]
end
structure Node where
 op:Nat
 sort:Nat
 name:List Nat
 num:List Nat
 kids:Nat
 deriving DecidableEq,Inhabited
structure Var where
 name:List Nat
 sort:Nat
 deriving DecidableEq,Inhabited
abbrev Term:=List Node
structure App where
 pred:List Nat
 args:List Term
structure Clause where
 vars:List Var
 body:List App
 guard:Term
 head:App
structure Func where
 name:List Nat
 args:List Nat
 result:Nat
 deriving DecidableEq
structure Sys where
 preds:List Func
 clauses:List Clause
def nat (n:Nat):AV:= .int .i64 (n:Int)
def eNode (n:Node):AV:= .agg [nat n.op,nat n.sort, .str n.name, .str n.num,nat n.kids]
def z1k (v:Var):AV:= .agg [.str v.name,nat v.sort]
def z0k (t:Term):AV:= .sl (t.map eNode) .no
def z2b (a:App):AV:= .agg [.str a.pred, .sl (a.args.map z0k) .no]
def z0g (c:Clause):AV:= .agg [.sl (c.vars.map z1k) .no, .sl (c.body.map z2b) .no,z0k c.guard, .str c.head.pred, .sl (c.head.args.map z0k) .no]
def z1f (f:Func):AV:= .agg [.str f.name, .sl (f.args.map nat) .no,nat f.result]
def z2i (s:Sys):AV:= .agg [.sl (s.preds.map z1f) .no, .sl (s.clauses.map z0g) .no]
theorem z0c {α:Type} {f:α→AV} {l:List α} (hf:∀ x,(f x).ids=[]):idsL (l.map f)=[]:=by
 induction l with
 | nil=>rfl
 | cons a l ih=>simp[idsL,hf a,ih]
theorem z3j {n:Nat}:(nat n).ids=[]:=(rfl)
theorem k3q {α:Type} {f:α→AV} {l:List α} (hf:∀ x,(f x).ids=[]):(AV.sl (l.map f) .no).ids=[]:=by simp[AV.ids,z0c hf]
theorem z1v (n:Node):(eNode n).ids=[]:=(rfl)
theorem z2l (v:Var):(z1k v).ids=[]:=(rfl)
theorem z2c (t:Term):(z0k t).ids=[]:=k3q z1v
theorem z8b (a:App):(z2b a).ids=[]:=by simp[z2b,AV.ids,idsL,z0c z2c]
theorem z5w (c:Clause):(z0g c).ids=[]:=by simp[z0g,AV.ids,idsL,z0c z2l,z0c z8b,z0c z2c,z2c]
theorem z5g (f:Func):(z1f f).ids=[]:=by simp[z1f,AV.ids,idsL,z0c (f:=nat) (fun _=>z3j),z3j]
theorem z3n (s:Sys):(z2i s).ids=[]:=by simp[z2i,AV.ids,idsL,z0c z5g,z0c z5w]
theorem k9m (t:Term):(z0k t).obs=[]:=(rfl)
theorem w2v (a:App):(z2b a).obs=[]:=(rfl)
theorem j9o (c:Clause):(z0g c).obs=[]:=(rfl)
theorem k3r (n:Node):(eNode n).cv=eNode n:=(rfl)
theorem w2w (t:Term):(z0k t).cv=z0k t:=(rfl)
theorem z4t {l:Term}:z0n 5 (l.map eNode)=true:=z2m fun _=>⟨rfl,rfl,rfl⟩
theorem z3w {l:List Var}:z0n 2 (l.map z1k)=true:=z2m fun _=>⟨rfl,rfl,rfl⟩
theorem z4u {l:List Term}:z0n 1 (l.map z0k)=true:=z2m fun _=>⟨rfl,rfl,rfl⟩
theorem z4z {l:List App}:z0n 2 (l.map z2b)=true:=z2m fun _=>⟨rfl,rfl,rfl⟩
theorem z4b {l:List Clause}:z0n 5 (l.map z0g)=true:=z2m fun _=>⟨rfl,rfl,rfl⟩
theorem z7n {l:List Func}:z0n 3 (l.map z1f)=true:=z2m fun _=>⟨rfl,rfl,rfl⟩
theorem z4k {l:List Nat}:z0n 1 (l.map nat)=true:=z2m fun _=>⟨rfl,rfl,rfl⟩
theorem k9n {t:Term}:(z0k t).def? =true:=(rfl)
theorem k3s {t:Term}:(z0k t).cells=[z0k t]:=(rfl)
attribute [go_sem] k9m w2v j9o k3r w2w z4t z3w z4u z4z z4b z7n z4k k9n k3s
theorem z2n {T:List Nat} {v:AV} {R:AV→List AObj→Prop} {h:List AObj} (ho:v.obs=[]) (hi:v.cv.ids=[]):RV T (some [v]) R h=R v.cv h:=z0h (vs:=[v]) ho hi
theorem z1c {T:List Nat} {l:Term} {R:AV→List AObj→Prop} {h:List AObj}:RV T (some [z0k l]) R h=R (z0k l) h:=z2n rfl (z2c l)
theorem k3t {T:List Nat} {l:Term} {t:Tip} {R:AV→List AObj→Prop} {h:List AObj}:RV T (some [.sl (l.map eNode) t]) R h=R (z0k l) h:=z2n rfl (z2c l)
theorem z3a {α:Type} {f:α→AV} {l:List α} {i esz:Nat} {h:List AObj} {t:Tip} {k:IntKind} {cs:List AV} (hi:i < l.length) (hc:(f l[i]).cells=cs) (hl:cs.length=esz):z1m h esz (.sl (l.map f) t) (.int k (i:Int))=some (.iptr cs 0,h):=by
 rw[z4a (e:=f l[i]) (by simp[hi]) (by rw[hc];exact hl),hc]
theorem u4x {α β:Type} {f:α→β}:([]:List β)=([]:List α).map f:=rfl
theorem x6a {b:Bool}:Pure Gam 43 [.bool b] (z0k [⟨if b then 1 else 2,0,[],[],0⟩]):=by
 refine Pure.of rfl u4i rfl rfl rfl rfl rfl fun D B clk T hB hT=> ?_
 simp only[go_sem,y3k]
 refine z8p (fun hb=> ?_) (fun hb=> ?_)
 all_goals
  simp only[go_sem,]
  rw[z0h rfl rfl]
  simp only[hb,if_true,if_false,y6] at hT
  exact hT _
theorem x6b {s:Nat} {a:List Nat}:Pure Gam 121 [nat s, .str a] (z0k [⟨3,s,[],a,0⟩]):=by
 refine Pure.of rfl u4l rfl rfl rfl rfl rfl fun D B clk T hB hT=> ?_
 simp only[go_sem,y3n,nat]
 rw[z0h rfl rfl]
 exact hT _
theorem q5t {l:List Term} {i:Nat} {h:List AObj} {t:Tip} {k:IntKind} (hi:i < l.length):z1m h 1 (.sl (l.map z0k) t) (.int k (i:Int))=some (.iptr [z0k l[i]] 0,h):=z3a hi rfl rfl
theorem k3u {n:Node} {l:List Term} {u:Tip} (hl:l.length≤2 ^ 20) (hf:l.flatten.length≤2 ^ 30):Pure Gam 155 [eNode n, .sl (l.map z0k) u] (z0k ({n with kids:=l.length}::l.flatten)):=by
 refine Pure.of rfl u4m rfl rfl rfl (az:=[eNode n, .sl (l.map z0k) .no]) rfl (by simp[idsL,z1v,AV.ids,z0c z2c]) fun D B clk T hB hT=> ?_
 simp only[go_sem,y3p,eNode,hB,nat,z6]
 refine z1t (fun m s=>∃ (i:Nat) (acc:Term) (t:Tip) (a b o:AObj),i≤l.length∧m=l.length - i∧acc={n with kids:=l.length}::(l.take i).flatten∧s.ts 1= .sl (l.map z0k) .no∧s.ts 5= .sl (acc.map eNode) t∧s.ts 6= .int .i64 i∧s.h=D++[a,b,o]∧z8x B 2 o t 5) l.length ?_ ?_
 ·exact⟨0,_, .full,_,_,_,by simp,rfl,rfl,rfl,rfl,rfl,rfl, .inr (.inl rfl)⟩
 rintro m ⟨ts,h,clk⟩ P ⟨i,acc,t,a,b,o,hi,rfl,hacc,h1,h5,h6,rfl,ht⟩ hn he hr
 dsimp only at h1 h5 h6
 simp only[go_sem,h1,h5,h6,z6,k3h]
 refine z8p (fun hb=> ?_) (fun hb=> ?_)
 ·have hlt:i < l.length:=by simp at hb;omega
  have hlen:(l.take i).flatten.length + (l[i]).length≤l.flatten.length:=by
   have:=congrArg (fun x=>(List.flatten x).length) (List.take_append_drop i l)
   simp only[List.flatten_append,y5] at this
   rw[List.drop_eq_getElem_cons hlt] at this
   simp only[List.flatten_cons,y5] at this
   omega
  have ha:acc.length=(l.take i).flatten.length + 1:=by rw[hacc];rfl
  simp only[go_sem,h1,h5,h6,q5t hlt]
  rw[z0k,z0q hB rfl ht z4t z4t (by simp only[z6];omega)]
  simp only[go_sem,h1,h5,h6,←List.map_append,z0e (n:=(i:Int) + 1) (by omega) (by omega)]
  refine hn (l.length - (i + 1)) _ (by omega) ⟨i + 1,acc++l[i],_,_,_,_,hlt,rfl, ?_,h1, ?_,rfl,rfl, .inr (.inr ⟨_,rfl,rfl⟩)⟩
  ·rw[hacc,List.take_succ_eq_append_getElem hlt]
   simp only[List.flatten_append,List.flatten_cons,List.flatten_nil,u5,d4]
  ·simp only[z0b,z0,cond_true,cond_false]
 ·have hge:i=l.length:=by simp at hb;omega
  subst hge
  simp only[go_sem,h5]
  refine he _ _ ?_
  simp only[go_sem,h5]
  rw[k3t]
  rw[List.take_length] at hacc
  rw[hacc]
  exact hT _
def dec (n:Nat):List Nat:=if n < 10 then [48 + n] else dec (n / 10)++[48 + n % 10]
termination_by n
def z0i (z:Int):List Nat:=if z < 0 then 45::dec z.natAbs else dec z.natAbs
theorem z7c {n:Nat} (h:n < 10):dec n=[48 + n]:=by rw[dec,if_pos h]
theorem k3v {n:Nat} (h:10≤n):dec n=dec (n / 10)++[48 + n % 10]:=by rw[dec,if_neg (by omega)]
theorem z7x (n:Nat):dec n≠[]:=by
 rw[dec]
 split
 ·simp
 ·simp
theorem z1l (n:Nat):∀ c∈dec n,48≤c∧c≤57:=by
 induction n using Nat.strongRecOn with
 | ind n ih=>
   rw[dec]
   split
   ·intro c hc;simp at hc;omega
   ·intro c hc
    rw[j6] at hc
    rcases hc with hc | hc
    ·exact ih (n / 10) (by omega) c hc
    ·simp at hc;omega
def z1n (s:List Nat):Nat:=s.foldl (fun a c=>10 * a + (c - 48)) 0
theorem q0i {s:List Nat} {c:Nat}:z1n (s++[c])=10 * z1n s + (c - 48):=by simp[z1n]
theorem z1s (n:Nat):z1n (dec n)=n:=by
 induction n using Nat.strongRecOn with
 | ind n ih=>
   rw[dec]
   split
   ·simp[z1n]
   ·rw[q0i,ih (n / 10) (by omega)];omega
theorem x0w {a b:Nat} (h:dec a=dec b):a=b:=by rw[←z1s a,←z1s b,h]
theorem j5c {n:Nat} (h:0 < n):∃ c s,dec n=c::s∧49≤c∧c≤57:=by
 induction n using Nat.strongRecOn with
 | ind n ih=>
   rw[dec]
   split
   ·exact⟨48 + n,[],rfl,by omega,by omega⟩
   ·obtain⟨c,s,h1,h2⟩:=ih (n / 10) (by omega) (by omega)
    exact⟨c,s++[48 + n % 10],by rw[h1];rfl,h2⟩
theorem z7d {n k:Nat} (hk:0 < k) (h:n < 10 ^ k):(dec n).length≤k:=by
 induction k generalizing n with
 | zero=>omega
 | succ k ih=>
   rw[dec]
   split
   ·simp
   ·rw[y5,List.length_singleton]
    have h1:n / 10 < 10 ^ k:=by rw[p8] at h;omega
    have hk0:0 < k:=by
     rcases n6 k with rfl | h0
     ·simp at h1;omega
     ·exact h0
    have:=ih hk0 h1
    omega
theorem z9u:dec 0=[48]:=z7c (by omega)
theorem q4n {n:Nat}:dec n=[48]↔n=0:=⟨fun h=>x0w (h.trans z9u.symm),fun h=>h ▸ z9u⟩
theorem x3y {n:Nat}:dec n=[49]↔n=1:=⟨fun h=>x0w (h.trans (z7c (by omega):dec 1=_).symm),fun h=>h ▸ z7c (by omega)⟩
def y4b (s:List Nat):Prop:=s≠[]∧(∀ c∈s,48≤c∧c≤57)∧(s.length > 1→s.head? ≠some 48)
theorem z4l {c:Nat} {s:List Nat}:z1n (c::s)=(c - 48) * 10 ^ s.length + z1n s:=by
 have key:∀ (s:List Nat) (a:Nat),s.foldl (fun a c=>10 * a + (c - 48)) a=a * 10 ^ s.length + s.foldl (fun a c=>10 * a + (c - 48)) 0:=by
  intro s
  induction s with
  | nil=>intro a;simp
  | cons d s ih=>
    intro a
    simp only[List.foldl_cons,u6]
    rw[ih,ih (10 * 0 + (d - 48)),p8,Nat.add_mul]
    simp only[Nat.mul_zero,y4]
    rw[show 10 * a * 10 ^ s.length=a * (10 ^ s.length * 10) by rw[m6 10 a,Nat.mul_assoc,m6 10]]
    omega
 simp only[z1n,List.foldl_cons]
 rw[key]
 simp
theorem k3w {s:List Nat} (h:y4b s):dec (z1n s)=s:=by
 obtain⟨h1,h2,h3⟩:=h
 induction hl:s.length generalizing s with
 | zero=>exact absurd (List.length_eq_zero_iff.1 hl) h1
 | succ n ih=>
   obtain⟨t,c,rfl⟩:∃ t c,s=t++[c]:=⟨s.dropLast,s.getLast h1,(List.dropLast_concat_getLast h1).symm⟩
   have hc:=h2 c (by simp)
   rw[q0i]
   by_cases ht:t=[]
   ·subst ht
    simp[z1n]
    rw[z7c (by omega)]
    congr 1
    omega
   ·have hcan:dec (z1n t)=t:=ih ht (fun d hd=>h2 d (List.mem_append_left _ hd)) (fun hlt=>by
     have:=h3 (by simp at hlt⊢;omega)
     obtain⟨d,t',rfl⟩:=List.exists_cons_of_ne_nil ht
     simpa using this) (by simpa using hl)
    have hpos:0 < z1n t:=by
     rcases n6 (z1n t) with h0 | h0
     ·rw[h0,z9u] at hcan
      have:=h3 (by rw[←hcan];simp)
      rw[←hcan] at this
      simp at this
     ·exact h0
    rw[k3v (by omega),show (10 * z1n t + (c - 48)) / 10=z1n t by omega,hcan]
    congr 2
    omega
theorem z8i {n:Int} (hn: -2 ^ 62≤n) (hn2:n≤2 ^ 62):Pure Gam 48 [.int .i64 n] (.str (z0i n)):=by
 refine Pure.of rfl g4j rfl rfl rfl rfl rfl fun D B clk T hB hT=> ?_
 simp only[go_sem,u9s]
 refine z1t (fun m s=>∃ (v:Int) (t:List Nat) (a:AObj),m=v.natAbs + (if t=[] then 1 else 0)∧ -2 ^ 62≤v∧v≤2 ^ 62∧t.length≤100∧s.ts 0= .int .i64 n∧s.ts 4= .int .i64 v∧s.ts 3= .str t∧s.h=D++[a]∧
  (if t=[] then v=n else if v=0 then t=dec n.natAbs else dec n.natAbs=dec v.natAbs++t)) (n.natAbs + 1) ?_ ?_
 ·exact⟨n,[],_,by simp,hn,hn2,by simp,rfl,rfl,rfl,rfl,rfl⟩
 rintro m ⟨ts,h,clk⟩ P ⟨v,t,a,rfl,hv1,hv2,hl,h0,h4,h3,rfl,hd⟩ hn he hr
 dsimp only at h0 h4 h3
 have hlen:t.length≤20∨t.length≤20:=by
  by_cases ht:t=[]
  ·left;subst ht;simp
  ·rw[if_neg ht] at hd
   have h20:(dec n.natAbs).length≤20:=z7d (by omega) (by omega)
   by_cases hv:v=0
   ·rw[if_pos hv] at hd;left;rw[hd];exact h20
   ·rw[if_neg hv] at hd
    have:=congrArg List.length hd
    simp only[y5] at this
    left;omega
 have hl20:t.length≤20:=hlen.elim id id
 by_cases hc:v=0∧t≠[]
 ·obtain⟨rfl,ht⟩:=hc
  have e1:decide (t=[])=false:=by simp[ht]
  simp only[go_sem,h0,h4,h3,j9i,decide_true,e1]
  refine he _ _ ?_
  rw[if_neg ht,if_pos rfl] at hd
  have ht2:t.length < 2 ^ 59:=by omega
  simp only[go_sem,h0,h3]
  refine z8p (fun hb=> ?_) (fun hb=> ?_)
  ·have hneg:n < 0:=by simpa using hb
   simp only[go_sem,h0,h3,q7z (a:=[45]) (b:=t) (by simp;omega)]
   rw[z2n rfl rfl]
   have:=hT (D++[a])
   rw[z0i,if_pos hneg,←hd] at this
   exact this
  ·have hneg:¬ n < 0:=by simpa using hb
   simp only[go_sem,h0,h3]
   rw[z2n rfl rfl]
   have:=hT (D++[a])
   rw[z0i,if_neg hneg,←hd] at this
   exact this
 ·
  have hq:IntKind.i64.wrap (v.tdiv 10)=v.tdiv 10:=IntWalk.i64_quo' _ _ (by omega)
  have hr1:(v.tmod 10).natAbs=v.natAbs % 10:=Int.natAbs_tmod v 10
  have hr2:(v.tdiv 10).natAbs=v.natAbs / 10:=Int.natAbs_tdiv v 10
  have fin:∀ (ts':Tmps) (clk':Nat),ts' 0= .int .i64 n→ts' 4= .int .i64 (v.tdiv 10)→ts' 3= .str ((48 + v.natAbs % 10)::t)→P .norm ⟨ts',D++[a],clk'⟩:=by
   intro ts' clk' g0 g4 g3
   refine hn (((v.tdiv 10).natAbs) + 0) _ ?_ ⟨v.tdiv 10,(48 + v.natAbs % 10)::t,_,by simp,by omega,by omega,by simp;omega,g0,g4,g3,rfl, ?_⟩
   ·by_cases ht:t=[]
    ·rw[if_pos ht];omega
    ·have:v≠0:=fun h=>hc ⟨h,ht⟩
     rw[if_neg ht];omega
   ·rw[if_neg (by simp)]
    by_cases ht:t=[]
    ·subst ht
     rw[if_pos rfl] at hd
     subst hd
     by_cases h10:v.natAbs < 10
     ·rw[if_pos (by omega),z7c h10,Nat.mod_eq_of_lt h10]
     ·rw[if_neg (by omega),k3v (by omega),hr2]
    ·have hv0:v≠0:=fun h=>hc ⟨h,ht⟩
     rw[if_neg ht,if_neg hv0] at hd
     by_cases h10:v.natAbs < 10
     ·rw[if_pos (by omega),hd,z7c h10,Nat.mod_eq_of_lt h10];rfl
     ·rw[if_neg (by omega),hd,k3v (n:=v.natAbs) (by omega),hr2];simp
  have e2:(48 + (v.natAbs:Int) % 10).toNat=48 + v.natAbs % 10:=by omega
  have e3:(0≤48 + (v.natAbs:Int) % 10∧48 + (v.natAbs:Int) % 10 < 256)=True:=by simp;omega
  have e4:IntKind.u8.wrap (IntKind.i64.wrap (48 + (v.natAbs:Int) % 10))=48 + (v.natAbs:Int) % 10:=by rw[z0e (by omega) (by omega),IntWalk.u8_in _ (by omega)]
  have e5:decide ((v.natAbs:Int) % 10 < 0)=false:=by simp;omega
  have hs:=q7z (h:=D++[a]) (t:= .one .str) (a:=[48 + v.natAbs % 10]) (b:=t) (by simp;omega)
  by_cases hv:v=0
  ·have ht:t=[]:=Classical.byContradiction fun h=>hc ⟨hv,h⟩
   have e6:v.tmod 10=(v.natAbs:Int) % 10:=by subst hv;rfl
   have e7:decide (v=0)=true:=by simp[hv]
   have e8:decide (t=[])=true:=by simp[ht]
   simp only[go_sem,h0,h4,h3,j9i,q1v (b:=10) (by decide),e2,e3,e4,e5,e6,e7,e8,hs,z7j,q3q (b:=10) (by decide),hq]
   exact fin _ _ (by simp[z0b,h0]) (by simp[z0b]) (by simp[z0b])
  ·have e7:decide (v=0)=false:=by simp[hv]
   by_cases hneg:v.tmod 10 < 0
   ·have e6:IntKind.i64.wrap (0 - v.tmod 10)=(v.natAbs:Int) % 10:=by rw[z0e (by omega) (by omega)];omega
    have e8:decide (v.tmod 10 < 0)=true:=by simp[hneg]
    simp only[go_sem,h0,h4,h3,j9i,q1v (b:=10) (by decide),e2,e3,e4,e5,e6,e7,e8,hs,z7j,q3q (b:=10) (by decide),hq]
    exact fin _ _ (by simp[z0b,h0]) (by simp[z0b]) (by simp[z0b])
   ·have e6:v.tmod 10=(v.natAbs:Int) % 10:=by omega
    simp only[go_sem,h0,h4,h3,j9i,q1v (b:=10) (by decide),e2,e3,e4,e5,e6,e7,hs,z7j,q3q (b:=10) (by decide),hq]
    exact fin _ _ (by simp[z0b,h0]) (by simp[z0b]) (by simp[z0b])
def IntS (a:List Nat):Prop:=∃ z:Int,a=z0i z∧z.natAbs < 10 ^ 40
def RatS (a:List Nat):Prop:=IntS a∨∃ (z:Int) (d:Nat),a=z0i z++47::dec d∧z.natAbs < 10 ^ 40∧2≤d∧d≤4∧Nat.gcd z.natAbs d=1
def bare (o k:Nat):Node:=⟨o,0,[],[],k⟩
inductive NodeOk (V:List Var):Node→List Nat→Nat→Term→Prop
 | bool {o:Nat} {ks:Term} (h:o=1∨o=2):NodeOk V (bare o 0) [] 1 ks
 | int {a:List Nat} {ks:Term} (h:IntS a):NodeOk V ⟨3,2,[],a,0⟩ [] 2 ks
 | real {a:List Nat} {ks:Term} (h:RatS a):NodeOk V ⟨3,3,[],a,0⟩ [] 3 ks
 | var {v:Var} {ks:Term} (h:v∈V):NodeOk V ⟨4,v.sort,v.name,[],0⟩ [] v.sort ks
 | not {ks:Term}:NodeOk V (bare 6 1) [1] 1 ks
 | andor {o k:Nat} {ks:Term} (h:o=7∨o=8):NodeOk V (bare o k) (j1 k 1) 1 ks
 | imp {ks:Term}:NodeOk V (bare 9 2) [1,1] 1 ks
 | ite {s:Nat} {ks:Term} (h1:1≤s) (h2:s≤4):NodeOk V (bare 10 3) [1,s,s] s ks
 | eq {s:Nat} {ks:Term} (h1:1≤s) (h2:s≤4):NodeOk V (bare 11 2) [s,s] 1 ks
 | cmp {o s:Nat} {ks:Term} (h:o=12∨o=13) (hs:s=2∨s=3):NodeOk V (bare o 2) [s,s] 1 ks
 | add {k s:Nat} {ks:Term} (h:1≤k) (hs:s=2∨s=3):NodeOk V (bare 14 k) (j1 k s) s ks
 | mul {s:Nat} {n:Node} {ks:Term} (hs:s=2∨s=3) (hn:n.op=3):NodeOk V (bare 15 2) [s,s] s (n::ks)
 | div {o k:Nat} {ks:Term} (h:o=16∨o=17) (h1:1≤k) (h2:k≤5):NodeOk V ⟨o,0,[],dec k,1⟩ [2] 2 ks
 | select {ks:Term}:NodeOk V (bare 18 2) [4,2] 2 ks
 | store {ks:Term}:NodeOk V (bare 19 3) [4,2,2] 4 ks
 | const {ks:Term}:NodeOk V (bare 20 1) [2] 4 ks
inductive WF (V:List Var):List Nat→Nat→Term→Prop
 | nil {d:Nat}:WF V [] d []
 | cons {n:Node} {ss:List Nat} {ks:Term} {s d:Nat} {ss':List Nat} {rest:Term}:WF V ss d ks→NodeOk V n ss s ks→n.kids=ss.length→WF V ss' (d + 1) rest→WF V (s::ss') (d + 1) (n::(ks++rest))
theorem WF.up {V:List Var} {ss:List Nat} {d d':Nat} {t:Term} (h:WF V ss d t) (hd:d≤d'):WF V ss d' t:=by
 induction h generalizing d' with
 | nil=>exact .nil
 | cons h1 h2 h3 h4 ih1 ih2=>
   obtain⟨e,rfl⟩:∃ e,d'=e + 1:=⟨d' - 1,by omega⟩
   exact .cons (ih1 (by omega)) h2 h3 (ih2 hd)
theorem WF.append {V:List Var} {ss ss':List Nat} {d:Nat} {t t':Term} (h:WF V ss d t) (h':WF V ss' d t'):WF V (ss++ss') d (t++t'):=by
 induction h with
 | nil=>exact h'
 | cons h1 h2 h3 h4 ih1 ih2=>
   rw[d4,d4,n0]
   exact .cons h1 h2 h3 (ih2 h')
theorem WF.one {V:List Var} {n:Node} {ss:List Nat} {s d:Nat} {ks:Term} (h:WF V ss d ks) (hn:NodeOk V n ss s ks) (hk:n.kids=ss.length):WF V [s] (d + 1) (n::ks):=by
 have:=WF.cons h hn hk .nil
 rwa [u5] at this
def GT (V:List Var) (s d m:Nat) (t:Term):Prop:=WF V [s] d t∧t.length≤m∧1≤s∧s≤4
theorem GT.up {V:List Var} {s d m d' m':Nat} {t:Term} (h:GT V s d m t) (hd:d≤d') (hm:m≤m'):GT V s d' m' t:=⟨h.1.up hd,by have:=h.2.1;omega,h.2.2⟩
theorem GT.leaf {V:List Var} {n:Node} {s:Nat} (hn:NodeOk V n [] s []) (hk:n.kids=0) (h1:1≤s) (h2:s≤4):GT V s 1 1 [n]:=⟨WF.one (d:=0) .nil hn hk,by simp,h1,h2⟩
theorem q6v {z:Int} (h:z.natAbs < 10 ^ 40):IntS (z0i z):=⟨z,rfl,h⟩
theorem x6c {k:Nat} (h:k < 10):IntS [48 + k]:=⟨k,by rw[z0i,if_neg (by omega),Int.natAbs_natCast,z7c h],by simp;omega⟩
end
end Go.Proofs.YtkollgjffkdliaaGreatDoor.Am
