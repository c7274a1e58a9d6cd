/- All tables are borne out Loops of a function of the abstract machine, by their numbers Short forms of operations, for the printed functions Functions of the abstract machine's program Functions of the -/
import Derived.Attr
import Derived.Test.YtdfepmffiampgaaGreatDoorM11
import Derived.Test.YtdfepmffiampgaaGreatDoorM12
import Derived.Test.YtdfepmffiampgaaGreatDoorM13
import Derived.Test.YtdfepmffiampgaaGreatDoorM14
import Derived.Test.YtdfepmffiampgaaGreatDoorM15
import Derived.Test.YtdfepmffiampgaaGreatDoorM16
import Derived.Test.YtdfepmffiampgaaGreatDoorM17
import Derived.Test.YtdfepmffiampgaaGreatDoorM18
import Derived.Test.YtdfepmffiampgaaGreatDoorM20
import Derived.Test.YtdfepmffiampgaaGreatDoorM21
import Derived.Test.YtdfepmffiampgaaGreatDoorM22
import Derived.Test.YtdfepmffiampgaaGreatDoorM23
import Derived.Test.YtdfepmffiampgaaGreatDoorM24
import Derived.Test.YtdfepmffiampgaaGreatDoorM25
set_option linter.all false
namespace Go.Proofs.YtdfepmffiampgaaGreatDoor.Am
open Go
set_option maxRecDepth 100000
section
open Tw
theorem b54:Borne [] 82 t54:= .cons y9t (.nil)
theorem b55:Borne [] 83 t55:= .cons y9u (.nil)
theorem b56:Borne [] 84 t56:= .cons y9v (.cons y9w (.cons y9x (.cons y9y (.cons y9z (.cons u0a (.cons u0b (.cons u0c (.cons u0d (.cons u0e (.cons w6v (.cons w6w (.cons w6x (.cons w6y (.cons w6z (.cons w7a (.cons w7b (.cons w7c (.cons w7d (.cons w7e (.cons w7f (.cons w7g (.cons w7h (.cons w7i (.cons w7j (.cons w7k (.nil))))))))))))))))))))))))))
theorem g1l:Borne [] 129 u6j:= .cons w7l (.cons w7m (.cons w7n (.cons w7o (.cons w7p (.cons w7q (.cons w7r (.cons w7s (.cons w7t (.cons w7u (.cons v8j (.nil)))))))))))
theorem b11:Borne [] 43 t11:= .cons u0f (.nil)
theorem b15:Borne [] 23 t15:= .cons u0g (.nil)
theorem k7g:Told tw1:=((((((z4t).snoc (b15.told z4t)).snoc (b11.told z4t)).snoc (g1l.told z4t)).snoc (b56.told z4t)).snoc (b55.told z4t)).snoc (b54.told z4t)
theorem g1m:Borne tw1 268 u6k:= .cons w7v (.cons w7w (.cons w7x (.cons w7y (.cons w7z (.cons w8a (.cons w8b (.nil)))))))
theorem g1n:Borne tw1 145 u6l:= .cons w8c (.cons w8d (.cons w8e (.nil)))
theorem b28:Borne tw1 44 t28:= .cons u0h (.cons u0i (.cons u0j (.cons u0k (.nil))))
theorem w9j:Told tw2:=(((k7g).snoc (b28.told k7g)).snoc (g1n.told k7g)).snoc (g1m.told k7g)
theorem g1o:Borne tw2 147 u6m:= .cons w8f (.cons w8g (.cons w8h (.nil)))
theorem u1a:Told tw3:=(w9j).snoc (g1o.told w9j)
theorem b73:Borne [] 51 z6p:= .chunks (n:=27) (m:=1) (by decide) (by decide) fun i hi=>match i,hi with
 | 0,_=>u0q
 | 1,_=>u0r
 | 2,_=>u0s
 | 3,_=>u0t
 | 4,_=>u0u
 | 5,_=>u0v
 | 6,_=>u0w
 | 7,_=>u0x
 | 8,_=>u0y
 | 9,_=>u0z
 | 10,_=>w8i
 | 11,_=>w8j
 | 12,_=>w8k
 | 13,_=>w8l
 | 14,_=>w8m
 | 15,_=>w8n
 | 16,_=>w8o
 | 17,_=>w8p
 | 18,_=>w8q
 | 19,_=>w8r
 | 20,_=>w8s
 | 21,_=>w8t
 | 22,_=>w8u
 | 23,_=>w8v
 | 24,_=>w8w
 | 25,_=>w8x
 | 26,_=>w8y
 | n + 27,h=>absurd h (by omega)
theorem g1p:Borne [] 164 z2w:= .chunks (n:=35) (m:=1) (by decide) (by decide) fun i hi=>match i,hi with
 | 0,_=>w8z
 | 1,_=>w9a
 | 2,_=>w9b
 | 3,_=>w9c
 | 4,_=>w9d
 | 5,_=>w9e
 | 6,_=>w9f
 | 7,_=>w9g
 | 8,_=>w9h
 | 9,_=>w9i
 | 10,_=>v8k
 | 11,_=>v8l
 | 12,_=>v8m
 | 13,_=>v8n
 | 14,_=>v8o
 | 15,_=>v8p
 | 16,_=>v8q
 | 17,_=>v8r
 | 18,_=>v8s
 | 19,_=>v8t
 | 20,_=>v8u
 | 21,_=>v8v
 | 22,_=>v8w
 | 23,_=>v8x
 | 24,_=>v8y
 | 25,_=>v8z
 | 26,_=>v9a
 | 27,_=>v9b
 | 28,_=>v9c
 | 29,_=>v9d
 | 30,_=>v9e
 | 31,_=>v9f
 | 32,_=>v9g
 | 33,_=>v9h
 | 34,_=>v9i
 | n + 35,h=>absurd h (by omega)
theorem k7h:Told w4m:=(((((((((z4t).snoc ((Borne.cons k9 .nil).told u1a)).snoc (g1k.told z4t)).snoc (u0p.told z4t)).snoc (u0o.told z4t)).snoc (g1p.told z4t)).snoc (b73.told z4t)).snoc (u0n.told z4t)).snoc (u0m.told z4t)).snoc (u0l.told z4t)
theorem v9j:ProgOk Tryz.prog x4l Gam:=w6c (T:=w4m) k7h
theorem v9k:q0y Tryz.prog Gam:=w6b (T:=w4m)
end
def lps:ACode→List ACode
 | .seq a b=>lps a++lps b
 | .cond _ a b=>lps a++lps b
 | .block _ b=>lps b
 | .loop b=>b::lps b
 | .rangeB _ _ _ a b=>lps a++lps b
 | _=>[]
def lp (f:AFun) (k:Nat):ACode:=(lps f.body).getD k .skip
def fla:ACode→List ACode→ACode×List ACode
 | .seq a b,l=>let r:=fla a l;let q:=fla b r.2;(.seq r.1 q.1,q.2)
 | .cond x a b,l=>let r:=fla a l;let q:=fla b r.2;(.cond x r.1 q.1,q.2)
 | .block i b,l=>let r:=fla b l;(.block i r.1,r.2)
 | .loop b,c::l=>(.loop c,l.drop (lps b).length)
 | .rangeB x p q a b,l=>let r:=fla a l;let t:=fla b r.2;(.rangeB x p q r.1 t.1,t.2)
 | c,l=>(c,l)
def fl (l:List ACode) (c:ACode):ACode:=(fla c l).1
def flF (l:List ACode) (f:AFun):AFun:={f with body:=fl l f.body}
namespace Sh
@[go_sem] def M (d s:Nat):AOper:=⟨some d, .move (.tmp s),none⟩
@[go_sem] def N (d:Nat) (o:AOp):AOper:=⟨some d,o,none⟩
@[go_sem] def U (d:Nat) (o:AOp) (g:Nat):AOper:=⟨some d,o,some (g,false)⟩
@[go_sem] def V (d:Nat) (o:AOp) (g:Nat):AOper:=⟨some d,o,some (g,true)⟩
@[go_sem] def A (d s o:Nat):AOper:=⟨some d, .fieldAddr (.tmp s) o,none⟩
@[go_sem] def L (d s:Nat):AOper:=⟨some d, .load none (.tmp s),none⟩
@[go_sem] def S (n a b:Nat):AOper:=⟨none, .store n (.tmp a) (.tmp b),none⟩
@[go_sem] def I (n:Int):AOpd:= .const (.int .i64 n)
end Sh
section
open Sh
set_option maxHeartbeats 0
noncomputable def q12:AFun:=(fun (a:AFun) (_:Gam.fn 17=some a)=>a) _ (by conv=>lhs;reduce;simp only[Int.reduceOfNat,Int.reduceNegSucc])
noncomputable def j7w:ACode:=(fun (a:ACode) (_:fl [] (lp q12 1)=a)=>a) _ (by conv=>lhs;reduce;simp only[Int.reduceOfNat,Int.reduceNegSucc])
attribute [local irreducible] j7w
noncomputable def k7i:ACode:=(fun (a:ACode) (_:fl [j7w] (lp q12 0)=a)=>a) _ (by conv=>lhs;reduce;simp only[Int.reduceOfNat,Int.reduceNegSucc])
attribute [local irreducible] k7i
noncomputable def u6n:AFun:=(fun (a:AFun) (_:flF [k7i,j7w] q12=a)=>a) _ (by conv=>lhs;reduce;simp only[Int.reduceOfNat,Int.reduceNegSucc])
theorem g1q:Gam.fn 17=some u6n:=by kernel_rfl
noncomputable def q10:AFun:=(fun (a:AFun) (_:Gam.fn 4=some a)=>a) _ (by conv=>lhs;reduce;simp only[Int.reduceOfNat,Int.reduceNegSucc])
noncomputable def j1j:ACode:=(fun (a:ACode) (_:fl [] (lp q10 1)=a)=>a) _ (by conv=>lhs;reduce;simp only[Int.reduceOfNat,Int.reduceNegSucc])
attribute [local irreducible] j1j
noncomputable def j7x:ACode:=(fun (a:ACode) (_:fl [j1j] (lp q10 0)=a)=>a) _ (by conv=>lhs;reduce;simp only[Int.reduceOfNat,Int.reduceNegSucc])
attribute [local irreducible] j7x
noncomputable def u6o:AFun:=(fun (a:AFun) (_:flF [j7x,j1j] q10=a)=>a) _ (by conv=>lhs;reduce;simp only[Int.reduceOfNat,Int.reduceNegSucc])
theorem g1r:Gam.fn 4=some u6o:=by kernel_rfl
noncomputable def u6p:AFun:=(fun (a:AFun) (_:Gam.fn 5=some a)=>a) _ (by conv=>lhs;reduce;simp only[Int.reduceOfNat,Int.reduceNegSucc])
theorem g1s:Gam.fn 5=some u6p:=by kernel_rfl
noncomputable def q15:AFun:=(fun (a:AFun) (_:Gam.fn 23=some a)=>a) _ (by conv=>lhs;reduce;simp only[Int.reduceOfNat,Int.reduceNegSucc])
noncomputable def x8u:ACode:=(fun (a:ACode) (_:fl [] (lp q15 2)=a)=>a) _ (by conv=>lhs;reduce;simp only[Int.reduceOfNat,Int.reduceNegSucc])
attribute [local irreducible] x8u
noncomputable def j7y:ACode:=(fun (a:ACode) (_:fl [x8u] (lp q15 1)=a)=>a) _ (by conv=>lhs;reduce;simp only[Int.reduceOfNat,Int.reduceNegSucc])
attribute [local irreducible] j7y
noncomputable def j7z:ACode:=(fun (a:ACode) (_:fl [j7y,x8u] (lp q15 0)=a)=>a) _ (by conv=>lhs;reduce;simp only[Int.reduceOfNat,Int.reduceNegSucc])
attribute [local irreducible] j7z
noncomputable def u1b:AFun:=(fun (a:AFun) (_:flF [j7z,j7y,x8u] q15=a)=>a) _ (by conv=>lhs;reduce;simp only[Int.reduceOfNat,Int.reduceNegSucc])
theorem g1t:Gam.fn 23=some u1b:=by kernel_rfl
end
section
open Sh
set_option maxHeartbeats 0
noncomputable def q64:AFun:=(fun (a:AFun) (_:Gam.fn 150=some a)=>a) _ (by conv=>lhs;reduce;simp only[Int.reduceOfNat,Int.reduceNegSucc])
noncomputable def k1o:ACode:=(fun (a:ACode) (_:fl [] (lp q64 0)=a)=>a) _ (by conv=>lhs;reduce;simp only[Int.reduceOfNat,Int.reduceNegSucc])
attribute [local irreducible] k1o
noncomputable def w9k:AFun:=(fun (a:AFun) (_:flF [k1o] q64=a)=>a) _ (by conv=>lhs;reduce;simp only[Int.reduceOfNat,Int.reduceNegSucc])
theorem g1u:Gam.fn 150=some w9k:=by kernel_rfl
noncomputable def u6q:AFun:=(fun (a:AFun) (_:Gam.fn 151=some a)=>a) _ (by conv=>lhs;reduce;simp only[Int.reduceOfNat,Int.reduceNegSucc])
theorem g1v:Gam.fn 151=some u6q:=by kernel_rfl
def w9l:AFun:=
 {ntmps:=38,nslots:=3,results:=[.tmp 6],byref:=[],owned:=false,
  body:=(.seq (.region 4 [N 3 (.box 0 (.tmp 0)),N 4 (.box 1 (.tmp 1)),N 5 (.box 2 (.tmp 2)),N 6 (.move (.const (.bool false)))] []) (.seq (.region 32 [A 7 4 0,L 8 7,A 9 5 0,L 10 9,N 11 (.call 210 [(.tmp 8),(.tmp 10)]),M 12 11,V 13 (.fieldAddr (.tmp 4) 2) 12,V 14 (.load none (.tmp 13)) 12,V 15 (.fieldAddr (.tmp 5) 2) 12,V 16 (.load none (.tmp 15)) 12,V 17 (.call 211 [(.tmp 14),(.tmp 16)]) 12,N 18 (.pick (.tmp 12) (.tmp 17) (.const (.bool false))),M 19 18,V 20 (.load (some 2) (.tmp 3)) 19,V 21 (.fieldAddr (.tmp 4) 3) 19,V 22 (.load (some 2) (.tmp 21)) 19,V 23 (.call 62 [(.tmp 20),(.tmp 22)]) 19,V 24 (.load (some 2) (.tmp 3)) 19,V 25 (.fieldAddr (.tmp 5) 3) 19,V 26 (.load (some 2) (.tmp 25)) 19,V 27 (.call 62 [(.tmp 24),(.tmp 26)]) 19,V 28 (.call 212 [(.tmp 23),(.tmp 27)]) 19,N 29 (.pick (.tmp 19) (.tmp 28) (.const (.bool false))),M 30 29,V 31 (.fieldAddr (.tmp 4) 1) 30,V 32 (.load none (.tmp 31)) 30,V 33 (.fieldAddr (.tmp 5) 1) 30,V 34 (.load none (.tmp 33)) 30,V 35 (.makeFunc 214 [.tmp 3]) 30,V 36 (.call 213 [(.tmp 32),(.tmp 34),(.tmp 35)]) 30,N 37 (.pick (.tmp 30) (.tmp 36) (.const (.bool false))),M 6 37] [(16,17),(16,19)]) .ret))}
theorem g1w:Gam.fn 152=some w9l:=by kernel_rfl
noncomputable def w9m:AFun:=(fun (a:AFun) (_:Gam.fn 214=some a)=>a) _ (by conv=>lhs;reduce;simp only[Int.reduceOfNat,Int.reduceNegSucc])
theorem u1c:Gam.fn 214=some w9m:=by kernel_rfl
noncomputable def v9l:AFun:=(fun (a:AFun) (_:Gam.fn 212=some a)=>a) _ (by conv=>lhs;reduce;simp only[Int.reduceOfNat,Int.reduceNegSucc])
theorem u1d:Gam.fn 212=some v9l:=by kernel_rfl
noncomputable def w9n:AFun:=(fun (a:AFun) (_:Gam.fn 250=some a)=>a) _ (by conv=>lhs;reduce;simp only[Int.reduceOfNat,Int.reduceNegSucc])
theorem u1e:Gam.fn 250=some w9n:=by kernel_rfl
noncomputable def u6r:AFun:=(fun (a:AFun) (_:Gam.fn 213=some a)=>a) _ (by conv=>lhs;reduce;simp only[Int.reduceOfNat,Int.reduceNegSucc])
noncomputable def x8v:ACode:=(fun (a:ACode) (_:fl [] (lp u6r 0)=a)=>a) _ (by conv=>lhs;reduce;simp only[Int.reduceOfNat,Int.reduceNegSucc])
attribute [local irreducible] x8v
noncomputable def v9m:AFun:=(fun (a:AFun) (_:flF [x8v] u6r=a)=>a) _ (by conv=>lhs;reduce;simp only[Int.reduceOfNat,Int.reduceNegSucc])
theorem u1f:Gam.fn 213=some v9m:=by kernel_rfl
noncomputable def u1g:AFun:=(fun (a:AFun) (_:Gam.fn 62=some a)=>a) _ (by conv=>lhs;reduce;simp only[Int.reduceOfNat,Int.reduceNegSucc])
theorem g1x:Gam.fn 62=some u1g:=by kernel_rfl
noncomputable def q67:AFun:=(fun (a:AFun) (_:Gam.fn 92=some a)=>a) _ (by conv=>lhs;reduce;simp only[Int.reduceOfNat,Int.reduceNegSucc])
noncomputable def k1p:ACode:=(fun (a:ACode) (_:fl [] (lp q67 0)=a)=>a) _ (by conv=>lhs;reduce;simp only[Int.reduceOfNat,Int.reduceNegSucc])
attribute [local irreducible] k1p
noncomputable def u1h:AFun:=(fun (a:AFun) (_:flF [k1p] q67=a)=>a) _ (by conv=>lhs;reduce;simp only[Int.reduceOfNat,Int.reduceNegSucc])
theorem g1y:Gam.fn 92=some u1h:=by kernel_rfl
noncomputable def q68:AFun:=(fun (a:AFun) (_:Gam.fn 54=some a)=>a) _ (by conv=>lhs;reduce;simp only[Int.reduceOfNat,Int.reduceNegSucc])
noncomputable def k1q:ACode:=(fun (a:ACode) (_:fl [] (lp q68 0)=a)=>a) _ (by conv=>lhs;reduce;simp only[Int.reduceOfNat,Int.reduceNegSucc])
attribute [local irreducible] k1q
noncomputable def u6s:AFun:=(fun (a:AFun) (_:flF [k1q] q68=a)=>a) _ (by conv=>lhs;reduce;simp only[Int.reduceOfNat,Int.reduceNegSucc])
theorem g1z:Gam.fn 54=some u6s:=by kernel_rfl
noncomputable def q70:AFun:=(fun (a:AFun) (_:Gam.fn 53=some a)=>a) _ (by conv=>lhs;reduce;simp only[Int.reduceOfNat,Int.reduceNegSucc])
noncomputable def k7j:ACode:=(fun (a:ACode) (_:fl [] (lp q70 0)=a)=>a) _ (by conv=>lhs;reduce;simp only[Int.reduceOfNat,Int.reduceNegSucc])
attribute [local irreducible] k7j
noncomputable def u6t:AFun:=(fun (a:AFun) (_:flF [k7j] q70=a)=>a) _ (by conv=>lhs;reduce;simp only[Int.reduceOfNat,Int.reduceNegSucc])
theorem g2a:Gam.fn 53=some u6t:=by kernel_rfl
noncomputable def v9n:AFun:=(fun (a:AFun) (_:Gam.fn 97=some a)=>a) _ (by conv=>lhs;reduce;simp only[Int.reduceOfNat,Int.reduceNegSucc])
theorem u1i:Gam.fn 97=some v9n:=by kernel_rfl
def k7k:ACode:=(.seq (.seq (.region 5 [M 57 6,A 58 2 1,L 59 58,N 60 (.len .sl (.tmp 59)),N 61 (.binOp .lss (.one .int) (.tmp 57) (.tmp 60))] []) (.cond (.tmp 61) .skip (.exit 2))) (.seq (.block 3 (.seq (.region 12 [A 64 2 1,L 65 64,M 66 6,N 67 (.indexAddr none 2 (.tmp 65) (.tmp 66)),N 68 (.load (some 2) (.tmp 67)),A 69 3 1,L 70 69,M 71 6,N 72 (.indexAddr none 2 (.tmp 70) (.tmp 71)),N 73 (.load (some 2) (.tmp 72)),N 74 (.call 158 [(.tmp 68),(.tmp 73)]),N 75 (.unOp .not (.tmp 74))] []) (.cond (.tmp 75) (.seq (.region 1 [N 4 (.move (.const (.bool false)))] []) .ret) .skip))) (.region 3 [M 62 6,N 63 (.binOp .add (.one .int) (.tmp 62) (I 1)),M 6 63] [])))
def k7l:ACode:=(.seq (.seq (.region 5 [M 39 5,A 40 2 0,L 41 40,N 42 (.len .sl (.tmp 41)),N 43 (.binOp .lss (.one .int) (.tmp 39) (.tmp 42))] []) (.cond (.tmp 43) .skip (.exit 0))) (.seq (.block 1 (.seq (.region 11 [A 46 2 0,L 47 46,M 48 5,N 49 (.indexAddr none 2 (.tmp 47) (.tmp 48)),N 50 (.load (some 2) (.tmp 49)),A 51 3 0,L 52 51,M 53 5,N 54 (.indexAddr none 2 (.tmp 52) (.tmp 53)),N 55 (.load (some 2) (.tmp 54)),N 56 (.binOp .neq (.agg [.str, .int]) (.tmp 50) (.tmp 55))] []) (.cond (.tmp 56) (.seq (.region 1 [N 4 (.move (.const (.bool false)))] []) .ret) .skip))) (.region 3 [M 44 5,N 45 (.binOp .add (.one .int) (.tmp 44) (I 1)),M 5 45] [])))
def w4f:AFun:=
 {ntmps:=76,nslots:=2,results:=[.tmp 4],byref:=[],owned:=false,
  body:=(.seq (.region 3 [N 2 (.box 0 (.tmp 0)),N 3 (.box 1 (.tmp 1)),N 4 (.move (.const (.bool false)))] []) (.seq (.seq (.region 32 [A 7 2 0,L 8 7,N 9 (.len .sl (.tmp 8)),A 10 3 0,L 11 10,N 12 (.len .sl (.tmp 11)),N 13 (.binOp .neq (.one .int) (.tmp 9) (.tmp 12)),M 14 13,U 15 (.fieldAddr (.tmp 2) 1) 14,U 16 (.load none (.tmp 15)) 14,U 17 (.len .sl (.tmp 16)) 14,U 18 (.fieldAddr (.tmp 3) 1) 14,U 19 (.load none (.tmp 18)) 14,U 20 (.len .sl (.tmp 19)) 14,U 21 (.binOp .neq (.one .int) (.tmp 17) (.tmp 20)) 14,N 22 (.pick (.tmp 14) (.const (.bool true)) (.tmp 21)),M 23 22,U 24 (.fieldAddr (.tmp 2) 2) 23,U 25 (.load none (.tmp 24)) 23,U 26 (.fieldAddr (.tmp 3) 2) 23,U 27 (.load none (.tmp 26)) 23,U 28 (.call 41 [(.tmp 25),(.tmp 27)]) 23,U 29 (.unOp .not (.tmp 28)) 23,N 30 (.pick (.tmp 23) (.const (.bool true)) (.tmp 29)),M 31 30,U 32 (.fieldAddr (.tmp 2) 3) 31,U 33 (.load (some 2) (.tmp 32)) 31,U 34 (.fieldAddr (.tmp 3) 3) 31,U 35 (.load (some 2) (.tmp 34)) 31,U 36 (.call 158 [(.tmp 33),(.tmp 35)]) 31,U 37 (.unOp .not (.tmp 36)) 31,N 38 (.pick (.tmp 31) (.const (.bool true)) (.tmp 37))] []) (.cond (.tmp 38) (.seq (.region 1 [N 4 (.move (.const (.bool false)))] []) .ret) .skip)) (.seq (.seq (.region 1 [N 5 (.move (I 0))] []) (.block 0 (.loop k7l))) (.seq (.seq (.region 1 [N 6 (.move (I 0))] []) (.block 2 (.loop k7k))) (.seq (.region 1 [N 4 (.move (.const (.bool true)))] []) .ret)))))}
theorem g2b:Gam.fn 93=some w4f:=by kernel_rfl
noncomputable def u6u:AFun:=(fun (a:AFun) (_:Gam.fn 158=some a)=>a) _ (by conv=>lhs;reduce;simp only[Int.reduceOfNat,Int.reduceNegSucc])
noncomputable def x8w:ACode:=(fun (a:ACode) (_:fl [] (lp u6u 0)=a)=>a) _ (by conv=>lhs;reduce;simp only[Int.reduceOfNat,Int.reduceNegSucc])
attribute [local irreducible] x8w
noncomputable def k7m:AFun:=(fun (a:AFun) (_:flF [x8w] u6u=a)=>a) _ (by conv=>lhs;reduce;simp only[Int.reduceOfNat,Int.reduceNegSucc])
theorem u1j:Gam.fn 158=some k7m:=by kernel_rfl
def k7n:ACode:=(.seq (.seq (.region 4 [M 50 9,M 51 7,N 52 (.len .sl (.tmp 51)),N 53 (.binOp .lss (.one .int) (.tmp 50) (.tmp 52))] []) (.cond (.tmp 53) .skip (.exit 0))) (.seq (.block 1 (.seq (.region 44 [A 56 3 1,L 57 56,M 58 7,M 59 9,N 60 (.indexAddr none 1 (.tmp 58) (.tmp 59)),L 61 60,N 62 (.indexAddr none 5 (.tmp 57) (.tmp 61)),N 63 (.load (some 5) (.tmp 62)),A 64 3 0,L 65 64,M 66 1,N 67 (.indexAddr none 3 (.tmp 65) (.tmp 66)),A 68 67 0,L 69 68,A 70 3 0,L 71 70,M 72 2,N 73 (.indexAddr none 3 (.tmp 71) (.tmp 72)),A 74 73 0,L 75 74,N 76 (.call 53 [(.tmp 63),(.tmp 69),(.tmp 75)]),A 77 3 1,L 78 77,M 79 8,M 80 9,N 81 (.indexAddr none 1 (.tmp 79) (.tmp 80)),L 82 81,N 83 (.indexAddr none 5 (.tmp 78) (.tmp 82)),N 84 (.load (some 5) (.tmp 83)),A 85 3 0,L 86 85,M 87 1,N 88 (.indexAddr none 3 (.tmp 86) (.tmp 87)),A 89 88 0,L 90 89,A 91 3 0,L 92 91,M 93 2,N 94 (.indexAddr none 3 (.tmp 92) (.tmp 93)),A 95 94 0,L 96 95,N 97 (.call 53 [(.tmp 84),(.tmp 90),(.tmp 96)]),N 98 (.call 93 [(.tmp 76),(.tmp 97)]),N 99 (.unOp .not (.tmp 98))] [(20,22),(20,25),(20,26),(20,27),(20,28),(20,30),(20,32),(20,34),(20,36),(20,38),(20,40)]) (.cond (.tmp 99) (.seq (.region 1 [N 6 (.move (.const (.bool false)))] []) .ret) .skip))) (.region 3 [M 54 9,N 55 (.binOp .add (.one .int) (.tmp 54) (I 1)),M 9 55] [])))
def w9o:AFun:=
 {ntmps:=100,nslots:=1,results:=[.tmp 6],byref:=[],owned:=false,
  body:=(.seq (.region 2 [N 3 (.box 0 (.tmp 0)),N 6 (.move (.const (.bool false)))] []) (.seq (.seq (.region 19 [M 10 1,M 11 2,N 12 (.binOp .eql (.one .int) (.tmp 10) (.tmp 11)),M 13 12,U 14 (.fieldAddr (.tmp 3) 0) 13,U 15 (.load none (.tmp 14)) 13,U 16 (.move (.tmp 1)) 13,U 17 (.indexAddr none 3 (.tmp 15) (.tmp 16)) 13,U 18 (.fieldAddr (.tmp 17) 1) 13,U 19 (.load none (.tmp 18)) 13,U 20 (.fieldAddr (.tmp 3) 0) 13,U 21 (.load none (.tmp 20)) 13,U 22 (.move (.tmp 2)) 13,U 23 (.indexAddr none 3 (.tmp 21) (.tmp 22)) 13,U 24 (.fieldAddr (.tmp 23) 1) 13,U 25 (.load none (.tmp 24)) 13,U 26 (.call 92 [(.tmp 19),(.tmp 25)]) 13,U 27 (.unOp .not (.tmp 26)) 13,N 28 (.pick (.tmp 13) (.const (.bool true)) (.tmp 27))] []) (.cond (.tmp 28) (.seq (.region 1 [N 6 (.move (.const (.bool false)))] []) .ret) .skip)) (.seq (.region 18 [N 29 (.load (some 2) (.tmp 3)),A 30 3 0,L 31 30,M 32 1,N 33 (.indexAddr none 3 (.tmp 31) (.tmp 32)),A 34 33 0,L 35 34,N 36 (.call 54 [(.tmp 29),(.tmp 35)]),N 37 (.load (some 2) (.tmp 3)),A 38 3 0,L 39 38,M 40 2,N 41 (.indexAddr none 3 (.tmp 39) (.tmp 40)),A 42 41 0,L 43 42,N 44 (.call 54 [(.tmp 37),(.tmp 43)]),M 7 36,M 8 44] [(7,8),(7,10),(7,12),(7,14)]) (.seq (.seq (.region 5 [M 45 7,N 46 (.len .sl (.tmp 45)),M 47 8,N 48 (.len .sl (.tmp 47)),N 49 (.binOp .neq (.one .int) (.tmp 46) (.tmp 48))] []) (.cond (.tmp 49) (.seq (.region 1 [N 6 (.move (.const (.bool false)))] []) .ret) .skip)) (.seq (.seq (.region 1 [N 9 (.move (I 0))] []) (.block 0 (.loop k7n))) (.seq (.region 1 [N 6 (.move (.const (.bool true)))] []) .ret))))))}
theorem g2c:Gam.fn 49=some w9o:=by kernel_rfl
noncomputable def q41:AFun:=(fun (a:AFun) (_:Gam.fn 19=some a)=>a) _ (by conv=>lhs;reduce;simp only[Int.reduceOfNat,Int.reduceNegSucc])
noncomputable def j1k:ACode:=(fun (a:ACode) (_:fl [] (lp q41 2)=a)=>a) _ (by conv=>lhs;reduce;simp only[Int.reduceOfNat,Int.reduceNegSucc])
attribute [local irreducible] j1k
noncomputable def j1l:ACode:=(fun (a:ACode) (_:fl [j1k] (lp q41 1)=a)=>a) _ (by conv=>lhs;reduce;simp only[Int.reduceOfNat,Int.reduceNegSucc])
attribute [local irreducible] j1l
noncomputable def j8a:ACode:=(fun (a:ACode) (_:fl [j1l,j1k] (lp q41 0)=a)=>a) _ (by conv=>lhs;reduce;simp only[Int.reduceOfNat,Int.reduceNegSucc])
attribute [local irreducible] j8a
noncomputable def w4g:AFun:=(fun (a:AFun) (_:flF [j8a,j1l,j1k] q41=a)=>a) _ (by conv=>lhs;reduce;simp only[Int.reduceOfNat,Int.reduceNegSucc])
theorem g2d:Gam.fn 19=some w4g:=by kernel_rfl
noncomputable def u6v:AFun:=(fun (a:AFun) (_:Gam.fn 6=some a)=>a) _ (by conv=>lhs;reduce;simp only[Int.reduceOfNat,Int.reduceNegSucc])
theorem g2e:Gam.fn 6=some u6v:=by kernel_rfl
noncomputable def y8g:AFun:=(fun (a:AFun) (_:Gam.fn 87=some a)=>a) _ (by conv=>lhs;reduce;simp only[Int.reduceOfNat,Int.reduceNegSucc])
theorem g2f:Gam.fn 87=some y8g:=by kernel_rfl
noncomputable def q63:AFun:=(fun (a:AFun) (_:Gam.fn 149=some a)=>a) _ (by conv=>lhs;reduce;simp only[Int.reduceOfNat,Int.reduceNegSucc])
noncomputable def k1r:ACode:=(fun (a:ACode) (_:fl [] (lp q63 0)=a)=>a) _ (by conv=>lhs;reduce;simp only[Int.reduceOfNat,Int.reduceNegSucc])
attribute [local irreducible] k1r
noncomputable def u6w:AFun:=(fun (a:AFun) (_:flF [k1r] q63=a)=>a) _ (by conv=>lhs;reduce;simp only[Int.reduceOfNat,Int.reduceNegSucc])
theorem g2g:Gam.fn 149=some u6w:=by kernel_rfl
noncomputable def q37:AFun:=(fun (a:AFun) (_:Gam.fn 59=some a)=>a) _ (by conv=>lhs;reduce;simp only[Int.reduceOfNat,Int.reduceNegSucc])
noncomputable def k1s:ACode:=(fun (a:ACode) (_:fl [] (lp q37 0)=a)=>a) _ (by conv=>lhs;reduce;simp only[Int.reduceOfNat,Int.reduceNegSucc])
attribute [local irreducible] k1s
noncomputable def w4h:AFun:=(fun (a:AFun) (_:flF [k1s] q37=a)=>a) _ (by conv=>lhs;reduce;simp only[Int.reduceOfNat,Int.reduceNegSucc])
theorem g2h:Gam.fn 59=some w4h:=by kernel_rfl
end
section
open Sh
set_option maxHeartbeats 0
noncomputable def v9o:AFun:=(fun (a:AFun) (_:Gam.fn 52=some a)=>a) _ (by conv=>lhs;reduce;simp only[Int.reduceOfNat,Int.reduceNegSucc])
theorem g2i:Gam.fn 52=some v9o:=by kernel_rfl
noncomputable def q83:AFun:=(fun (a:AFun) (_:Gam.fn 55=some a)=>a) _ (by conv=>lhs;reduce;simp only[Int.reduceOfNat,Int.reduceNegSucc])
noncomputable def k1t:ACode:=(fun (a:ACode) (_:fl [] (lp q83 1)=a)=>a) _ (by conv=>lhs;reduce;simp only[Int.reduceOfNat,Int.reduceNegSucc])
attribute [local irreducible] k1t
noncomputable def k7o:ACode:=(fun (a:ACode) (_:fl [k1t] (lp q83 0)=a)=>a) _ (by conv=>lhs;reduce;simp only[Int.reduceOfNat,Int.reduceNegSucc])
attribute [local irreducible] k7o
noncomputable def u6x:AFun:=(fun (a:AFun) (_:flF [k7o,k1t] q83=a)=>a) _ (by conv=>lhs;reduce;simp only[Int.reduceOfNat,Int.reduceNegSucc])
theorem g2j:Gam.fn 55=some u6x:=by kernel_rfl
noncomputable def u6y:AFun:=(fun (a:AFun) (_:Gam.fn 98=some a)=>a) _ (by conv=>lhs;reduce;simp only[Int.reduceOfNat,Int.reduceNegSucc])
noncomputable def j3w:ACode:=(fun (a:ACode) (_:fl [] (lp u6y 0)=a)=>a) _ (by conv=>lhs;reduce;simp only[Int.reduceOfNat,Int.reduceNegSucc])
attribute [local irreducible] j3w
noncomputable def w9p:AFun:=(fun (a:AFun) (_:flF [j3w] u6y=a)=>a) _ (by conv=>lhs;reduce;simp only[Int.reduceOfNat,Int.reduceNegSucc])
theorem u1k:Gam.fn 98=some w9p:=by kernel_rfl
noncomputable def w9q:AFun:=(fun (a:AFun) (_:Gam.fn 163=some a)=>a) _ (by conv=>lhs;reduce;simp only[Int.reduceOfNat,Int.reduceNegSucc])
theorem u1l:Gam.fn 163=some w9q:=by kernel_rfl
noncomputable def u6z:AFun:=(fun (a:AFun) (_:Gam.fn 220=some a)=>a) _ (by conv=>lhs;reduce;simp only[Int.reduceOfNat,Int.reduceNegSucc])
noncomputable def j3x:ACode:=(fun (a:ACode) (_:fl [] (lp u6z 0)=a)=>a) _ (by conv=>lhs;reduce;simp only[Int.reduceOfNat,Int.reduceNegSucc])
attribute [local irreducible] j3x
noncomputable def w9r:AFun:=(fun (a:AFun) (_:flF [j3x] u6z=a)=>a) _ (by conv=>lhs;reduce;simp only[Int.reduceOfNat,Int.reduceNegSucc])
theorem u1m:Gam.fn 220=some w9r:=by kernel_rfl
def v9p:ACode:=(.seq (.seq (.region 4 [M 11 5,M 12 0,N 13 (.len .sl (.tmp 12)),N 14 (.binOp .lss (.one .int) (.tmp 11) (.tmp 13))] []) (.cond (.tmp 14) .skip (.exit 0))) (.seq (.block 1 (.seq (.region 9 [M 17 0,M 18 5,N 19 (.indexAddr none 2 (.tmp 17) (.tmp 18)),N 20 (.load (some 2) (.tmp 19)),M 21 1,M 22 5,N 23 (.indexAddr none 2 (.tmp 21) (.tmp 22)),N 24 (.load (some 2) (.tmp 23)),N 25 (.binOp .neq (.agg [.str, .int]) (.tmp 20) (.tmp 24))] []) (.cond (.tmp 25) (.seq (.region 1 [N 4 (.move (.const (.bool false)))] []) .ret) .skip))) (.region 3 [M 15 5,N 16 (.binOp .add (.one .int) (.tmp 15) (I 1)),M 5 16] [])))
def u7a:AFun:=
 {ntmps:=26,nslots:=0,results:=[.tmp 4],byref:=[],owned:=false,
  body:=(.seq (.region 1 [N 4 (.move (.const (.bool false)))] []) (.seq (.seq (.region 5 [M 6 0,N 7 (.len .sl (.tmp 6)),M 8 1,N 9 (.len .sl (.tmp 8)),N 10 (.binOp .neq (.one .int) (.tmp 7) (.tmp 9))] []) (.cond (.tmp 10) (.seq (.region 1 [N 4 (.move (.const (.bool false)))] []) .ret) .skip)) (.seq (.seq (.region 1 [N 5 (.move (I 0))] []) (.block 0 (.loop v9p))) (.seq (.region 1 [N 4 (.move (.const (.bool true)))] []) .ret))))}
theorem g2k:Gam.fn 40=some u7a:=by kernel_rfl
noncomputable def u1n:AFun:=(fun (a:AFun) (_:Gam.fn 41=some a)=>a) _ (by conv=>lhs;reduce;simp only[Int.reduceOfNat,Int.reduceNegSucc])
theorem u7b:Gam.fn 41=some u1n:=by kernel_rfl
noncomputable def u1o:AFun:=(fun (a:AFun) (_:Gam.fn 81=some a)=>a) _ (by conv=>lhs;reduce;simp only[Int.reduceOfNat,Int.reduceNegSucc])
noncomputable def z6x:ACode:=(fun (a:ACode) (_:fl [] (lp u1o 1)=a)=>a) _ (by conv=>lhs;reduce;simp only[Int.reduceOfNat,Int.reduceNegSucc])
attribute [local irreducible] z6x
noncomputable def q9z:ACode:=(fun (a:ACode) (_:fl [z6x] (lp u1o 0)=a)=>a) _ (by conv=>lhs;reduce;simp only[Int.reduceOfNat,Int.reduceNegSucc])
attribute [local irreducible] q9z
noncomputable def v9q:AFun:=(fun (a:AFun) (_:flF [q9z,z6x] u1o=a)=>a) _ (by conv=>lhs;reduce;simp only[Int.reduceOfNat,Int.reduceNegSucc])
theorem w9s:Gam.fn 81=some v9q:=by kernel_rfl
noncomputable def k1u:AFun:=(fun (a:AFun) (_:Gam.fn 134=some a)=>a) _ (by conv=>lhs;reduce;simp only[Int.reduceOfNat,Int.reduceNegSucc])
theorem w9t:Gam.fn 134=some k1u:=by kernel_rfl
noncomputable def k1v:AFun:=(fun (a:AFun) (_:Gam.fn 135=some a)=>a) _ (by conv=>lhs;reduce;simp only[Int.reduceOfNat,Int.reduceNegSucc])
theorem w9u:Gam.fn 135=some k1v:=by kernel_rfl
end
section
open Sh
set_option maxHeartbeats 0
noncomputable def u7c:AFun:=(fun (a:AFun) (_:Gam.fn 44=some a)=>a) _ (by conv=>lhs;reduce;simp only[Int.reduceOfNat,Int.reduceNegSucc])
theorem g2l:Gam.fn 44=some u7c:=by kernel_rfl
noncomputable def q59:AFun:=(fun (a:AFun) (_:Gam.fn 88=some a)=>a) _ (by conv=>lhs;reduce;simp only[Int.reduceOfNat,Int.reduceNegSucc])
noncomputable def q7z:ACode:=(fun (a:ACode) (_:fl [] (lp q59 2)=a)=>a) _ (by conv=>lhs;reduce;simp only[Int.reduceOfNat,Int.reduceNegSucc])
attribute [local irreducible] q7z
noncomputable def k1w:ACode:=(fun (a:ACode) (_:fl [q7z] (lp q59 1)=a)=>a) _ (by conv=>lhs;reduce;simp only[Int.reduceOfNat,Int.reduceNegSucc])
attribute [local irreducible] k1w
noncomputable def k7p:ACode:=(fun (a:ACode) (_:fl [k1w,q7z] (lp q59 0)=a)=>a) _ (by conv=>lhs;reduce;simp only[Int.reduceOfNat,Int.reduceNegSucc])
attribute [local irreducible] k7p
noncomputable def u7d:AFun:=(fun (a:AFun) (_:flF [k7p,k1w,q7z] q59=a)=>a) _ (by conv=>lhs;reduce;simp only[Int.reduceOfNat,Int.reduceNegSucc])
theorem g2m:Gam.fn 88=some u7d:=by kernel_rfl
noncomputable def u7e:AFun:=(fun (a:AFun) (_:Gam.fn 153=some a)=>a) _ (by conv=>lhs;reduce;simp only[Int.reduceOfNat,Int.reduceNegSucc])
noncomputable def j3y:ACode:=(fun (a:ACode) (_:fl [] (lp u7e 0)=a)=>a) _ (by conv=>lhs;reduce;simp only[Int.reduceOfNat,Int.reduceNegSucc])
attribute [local irreducible] j3y
noncomputable def w9v:AFun:=(fun (a:AFun) (_:flF [j3y] u7e=a)=>a) _ (by conv=>lhs;reduce;simp only[Int.reduceOfNat,Int.reduceNegSucc])
theorem u1p:Gam.fn 153=some w9v:=by kernel_rfl
noncomputable def u7f:AFun:=(fun (a:AFun) (_:Gam.fn 154=some a)=>a) _ (by conv=>lhs;reduce;simp only[Int.reduceOfNat,Int.reduceNegSucc])
noncomputable def j3z:ACode:=(fun (a:ACode) (_:fl [] (lp u7f 0)=a)=>a) _ (by conv=>lhs;reduce;simp only[Int.reduceOfNat,Int.reduceNegSucc])
attribute [local irreducible] j3z
noncomputable def w9w:AFun:=(fun (a:AFun) (_:flF [j3z] u7f=a)=>a) _ (by conv=>lhs;reduce;simp only[Int.reduceOfNat,Int.reduceNegSucc])
theorem u1q:Gam.fn 154=some w9w:=by kernel_rfl
noncomputable def u7g:AFun:=(fun (a:AFun) (_:Gam.fn 155=some a)=>a) _ (by conv=>lhs;reduce;simp only[Int.reduceOfNat,Int.reduceNegSucc])
noncomputable def j4a:ACode:=(fun (a:ACode) (_:fl [] (lp u7g 0)=a)=>a) _ (by conv=>lhs;reduce;simp only[Int.reduceOfNat,Int.reduceNegSucc])
attribute [local irreducible] j4a
noncomputable def w9x:AFun:=(fun (a:AFun) (_:flF [j4a] u7g=a)=>a) _ (by conv=>lhs;reduce;simp only[Int.reduceOfNat,Int.reduceNegSucc])
theorem u1r:Gam.fn 155=some w9x:=by kernel_rfl
noncomputable def u1s:AFun:=(fun (a:AFun) (_:Gam.fn 113=some a)=>a) _ (by conv=>lhs;reduce;simp only[Int.reduceOfNat,Int.reduceNegSucc])
noncomputable def q7o:ACode:=(fun (a:ACode) (_:fl [] (lp u1s 1)=a)=>a) _ (by conv=>lhs;reduce;simp only[Int.reduceOfNat,Int.reduceNegSucc])
attribute [local irreducible] q7o
noncomputable def x8x:ACode:=(fun (a:ACode) (_:fl [q7o] (lp u1s 0)=a)=>a) _ (by conv=>lhs;reduce;simp only[Int.reduceOfNat,Int.reduceNegSucc])
attribute [local irreducible] x8x
noncomputable def w9y:AFun:=(fun (a:AFun) (_:flF [x8x,q7o] u1s=a)=>a) _ (by conv=>lhs;reduce;simp only[Int.reduceOfNat,Int.reduceNegSucc])
theorem u1t:Gam.fn 113=some w9y:=by kernel_rfl
noncomputable def w9z:AFun:=(fun (a:AFun) (_:Gam.fn 129=some a)=>a) _ (by conv=>lhs;reduce;simp only[Int.reduceOfNat,Int.reduceNegSucc])
theorem u1u:Gam.fn 129=some w9z:=by kernel_rfl
noncomputable def u7h:AFun:=(fun (a:AFun) (_:Gam.fn 195=some a)=>a) _ (by conv=>lhs;reduce;simp only[Int.reduceOfNat,Int.reduceNegSucc])
noncomputable def j4b:ACode:=(fun (a:ACode) (_:fl [] (lp u7h 0)=a)=>a) _ (by conv=>lhs;reduce;simp only[Int.reduceOfNat,Int.reduceNegSucc])
attribute [local irreducible] j4b
noncomputable def y0a:AFun:=(fun (a:AFun) (_:flF [j4b] u7h=a)=>a) _ (by conv=>lhs;reduce;simp only[Int.reduceOfNat,Int.reduceNegSucc])
theorem u1v:Gam.fn 195=some y0a:=by kernel_rfl
noncomputable def w4i:AFun:=(fun (a:AFun) (_:Gam.fn 79=some a)=>a) _ (by conv=>lhs;reduce;simp only[Int.reduceOfNat,Int.reduceNegSucc])
noncomputable def x0a:ACode:=(fun (a:ACode) (_:fl [] (lp w4i 4)=a)=>a) _ (by conv=>lhs;reduce;simp only[Int.reduceOfNat,Int.reduceNegSucc])
attribute [local irreducible] x0a
noncomputable def x0b:ACode:=(fun (a:ACode) (_:fl [x0a] (lp w4i 3)=a)=>a) _ (by conv=>lhs;reduce;simp only[Int.reduceOfNat,Int.reduceNegSucc])
attribute [local irreducible] x0b
noncomputable def j4c:ACode:=(fun (a:ACode) (_:fl [x0b,x0a] (lp w4i 2)=a)=>a) _ (by conv=>lhs;reduce;simp only[Int.reduceOfNat,Int.reduceNegSucc])
attribute [local irreducible] j4c
noncomputable def x0c:ACode:=(fun (a:ACode) (_:fl [j4c,x0b,x0a] (lp w4i 1)=a)=>a) _ (by conv=>lhs;reduce;simp only[Int.reduceOfNat,Int.reduceNegSucc])
attribute [local irreducible] x0c
noncomputable def x8y:ACode:=(fun (a:ACode) (_:fl [x0c,j4c,x0b,x0a] (lp w4i 0)=a)=>a) _ (by conv=>lhs;reduce;simp only[Int.reduceOfNat,Int.reduceNegSucc])
attribute [local irreducible] x8y
noncomputable def y0b:AFun:=(fun (a:AFun) (_:flF [x8y,x0c,j4c,x0b,x0a] w4i=a)=>a) _ (by conv=>lhs;reduce;simp only[Int.reduceOfNat,Int.reduceNegSucc])
theorem y0c:Gam.fn 79=some y0b:=by kernel_rfl
noncomputable def y0d:AFun:=(fun (a:AFun) (_:Gam.fn 161=some a)=>a) _ (by conv=>lhs;reduce;simp only[Int.reduceOfNat,Int.reduceNegSucc])
theorem u1w:Gam.fn 161=some y0d:=by kernel_rfl
noncomputable def x4z:AFun:=(fun (a:AFun) (_:Gam.fn 237=some a)=>a) _ (by conv=>lhs;reduce;simp only[Int.reduceOfNat,Int.reduceNegSucc])
theorem u1x:Gam.fn 237=some x4z:=by kernel_rfl
noncomputable def q2b:AFun:=(fun (a:AFun) (_:Gam.fn 238=some a)=>a) _ (by conv=>lhs;reduce;simp only[Int.reduceOfNat,Int.reduceNegSucc])
theorem u1y:Gam.fn 238=some q2b:=by kernel_rfl
noncomputable def q2c:AFun:=(fun (a:AFun) (_:Gam.fn 239=some a)=>a) _ (by conv=>lhs;reduce;simp only[Int.reduceOfNat,Int.reduceNegSucc])
theorem u1z:Gam.fn 239=some q2c:=by kernel_rfl
noncomputable def u7i:AFun:=(fun (a:AFun) (_:Gam.fn 265=some a)=>a) _ (by conv=>lhs;reduce;simp only[Int.reduceOfNat,Int.reduceNegSucc])
noncomputable def j4d:ACode:=(fun (a:ACode) (_:fl [] (lp u7i 0)=a)=>a) _ (by conv=>lhs;reduce;simp only[Int.reduceOfNat,Int.reduceNegSucc])
attribute [local irreducible] j4d
noncomputable def y0e:AFun:=(fun (a:AFun) (_:flF [j4d] u7i=a)=>a) _ (by conv=>lhs;reduce;simp only[Int.reduceOfNat,Int.reduceNegSucc])
theorem u2a:Gam.fn 265=some y0e:=by kernel_rfl
noncomputable def v9r:AFun:=(fun (a:AFun) (_:Gam.fn 266=some a)=>a) _ (by conv=>lhs;reduce;simp only[Int.reduceOfNat,Int.reduceNegSucc])
theorem u2b:Gam.fn 266=some v9r:=by kernel_rfl
noncomputable def y0f:AFun:=(fun (a:AFun) (_:Gam.fn 114=some a)=>a) _ (by conv=>lhs;reduce;simp only[Int.reduceOfNat,Int.reduceNegSucc])
theorem u2c:Gam.fn 114=some y0f:=by kernel_rfl
noncomputable def u7j:AFun:=(fun (a:AFun) (_:Gam.fn 78=some a)=>a) _ (by conv=>lhs;reduce;simp only[Int.reduceOfNat,Int.reduceNegSucc])
noncomputable def x8z:ACode:=(fun (a:ACode) (_:fl [] (lp u7j 0)=a)=>a) _ (by conv=>lhs;reduce;simp only[Int.reduceOfNat,Int.reduceNegSucc])
attribute [local irreducible] x8z
noncomputable def y0g:AFun:=(fun (a:AFun) (_:flF [x8z] u7j=a)=>a) _ (by conv=>lhs;reduce;simp only[Int.reduceOfNat,Int.reduceNegSucc])
theorem u2d:Gam.fn 78=some y0g:=by kernel_rfl
noncomputable def u7k:AFun:=(fun (a:AFun) (_:Gam.fn 115=some a)=>a) _ (by conv=>lhs;reduce;simp only[Int.reduceOfNat,Int.reduceNegSucc])
noncomputable def j4e:ACode:=(fun (a:ACode) (_:fl [] (lp u7k 0)=a)=>a) _ (by conv=>lhs;reduce;simp only[Int.reduceOfNat,Int.reduceNegSucc])
attribute [local irreducible] j4e
noncomputable def y0h:AFun:=(fun (a:AFun) (_:flF [j4e] u7k=a)=>a) _ (by conv=>lhs;reduce;simp only[Int.reduceOfNat,Int.reduceNegSucc])
theorem u2e:Gam.fn 115=some y0h:=by kernel_rfl
noncomputable def v9s:AFun:=(fun (a:AFun) (_:Gam.fn 159=some a)=>a) _ (by conv=>lhs;reduce;simp only[Int.reduceOfNat,Int.reduceNegSucc])
theorem y0i:Gam.fn 159=some v9s:=by kernel_rfl
noncomputable def y0j:AFun:=(fun (a:AFun) (_:Gam.fn 95=some a)=>a) _ (by conv=>lhs;reduce;simp only[Int.reduceOfNat,Int.reduceNegSucc])
theorem u2f:Gam.fn 95=some y0j:=by kernel_rfl
noncomputable def y0k:AFun:=(fun (a:AFun) (_:Gam.fn 76=some a)=>a) _ (by conv=>lhs;reduce;simp only[Int.reduceOfNat,Int.reduceNegSucc])
theorem u2g:Gam.fn 76=some y0k:=by kernel_rfl
noncomputable def q82:AFun:=(fun (a:AFun) (_:Gam.fn 32=some a)=>a) _ (by conv=>lhs;reduce;simp only[Int.reduceOfNat,Int.reduceNegSucc])
noncomputable def k1x:ACode:=(fun (a:ACode) (_:fl [] (lp q82 0)=a)=>a) _ (by conv=>lhs;reduce;simp only[Int.reduceOfNat,Int.reduceNegSucc])
attribute [local irreducible] k1x
noncomputable def u7l:AFun:=(fun (a:AFun) (_:flF [k1x] q82=a)=>a) _ (by conv=>lhs;reduce;simp only[Int.reduceOfNat,Int.reduceNegSucc])
theorem g2n:Gam.fn 32=some u7l:=by kernel_rfl
end
section
open Sh
set_option maxHeartbeats 0
noncomputable def q26:AFun:=(fun (a:AFun) (_:Gam.fn 15=some a)=>a) _ (by conv=>lhs;reduce;simp only[Int.reduceOfNat,Int.reduceNegSucc])
noncomputable def k7q:ACode:=(fun (a:ACode) (_:fl [] (lp q26 0)=a)=>a) _ (by conv=>lhs;reduce;simp only[Int.reduceOfNat,Int.reduceNegSucc])
attribute [local irreducible] k7q
noncomputable def u7m:AFun:=(fun (a:AFun) (_:flF [k7q] q26=a)=>a) _ (by conv=>lhs;reduce;simp only[Int.reduceOfNat,Int.reduceNegSucc])
theorem g2o:Gam.fn 15=some u7m:=by kernel_rfl
noncomputable def k7r:AFun:=(fun (a:AFun) (_:Gam.fn 14=some a)=>a) _ (by conv=>lhs;reduce;simp only[Int.reduceOfNat,Int.reduceNegSucc])
theorem g2p:Gam.fn 14=some k7r:=by kernel_rfl
noncomputable def u7n:AFun:=(fun (a:AFun) (_:Gam.fn 16=some a)=>a) _ (by conv=>lhs;reduce;simp only[Int.reduceOfNat,Int.reduceNegSucc])
theorem g2q:Gam.fn 16=some u7n:=by kernel_rfl
noncomputable def y8h:AFun:=(fun (a:AFun) (_:Gam.fn 18=some a)=>a) _ (by conv=>lhs;reduce;simp only[Int.reduceOfNat,Int.reduceNegSucc])
theorem g2r:Gam.fn 18=some y8h:=by kernel_rfl
noncomputable def u7o:AFun:=(fun (a:AFun) (_:Gam.fn 46=some a)=>a) _ (by conv=>lhs;reduce;simp only[Int.reduceOfNat,Int.reduceNegSucc])
theorem g2s:Gam.fn 46=some u7o:=by kernel_rfl
noncomputable def q53:AFun:=(fun (a:AFun) (_:Gam.fn 47=some a)=>a) _ (by conv=>lhs;reduce;simp only[Int.reduceOfNat,Int.reduceNegSucc])
noncomputable def k1y:ACode:=(fun (a:ACode) (_:fl [] (lp q53 1)=a)=>a) _ (by conv=>lhs;reduce;simp only[Int.reduceOfNat,Int.reduceNegSucc])
attribute [local irreducible] k1y
noncomputable def k7s:ACode:=(fun (a:ACode) (_:fl [k1y] (lp q53 0)=a)=>a) _ (by conv=>lhs;reduce;simp only[Int.reduceOfNat,Int.reduceNegSucc])
attribute [local irreducible] k7s
noncomputable def u7p:AFun:=(fun (a:AFun) (_:flF [k7s,k1y] q53=a)=>a) _ (by conv=>lhs;reduce;simp only[Int.reduceOfNat,Int.reduceNegSucc])
theorem u7q:Gam.fn 47=some u7p:=by kernel_rfl
noncomputable def u7r:AFun:=(fun (a:AFun) (_:Gam.fn 48=some a)=>a) _ (by conv=>lhs;reduce;simp only[Int.reduceOfNat,Int.reduceNegSucc])
theorem g2t:Gam.fn 48=some u7r:=by kernel_rfl
noncomputable def q72:AFun:=(fun (a:AFun) (_:Gam.fn 50=some a)=>a) _ (by conv=>lhs;reduce;simp only[Int.reduceOfNat,Int.reduceNegSucc])
noncomputable def j8b:ACode:=(fun (a:ACode) (_:fl [] (lp q72 0)=a)=>a) _ (by conv=>lhs;reduce;simp only[Int.reduceOfNat,Int.reduceNegSucc])
attribute [local irreducible] j8b
noncomputable def u7s:AFun:=(fun (a:AFun) (_:flF [j8b] q72=a)=>a) _ (by conv=>lhs;reduce;simp only[Int.reduceOfNat,Int.reduceNegSucc])
theorem g2u:Gam.fn 50=some u7s:=by kernel_rfl
noncomputable def q97:AFun:=(fun (a:AFun) (_:Gam.fn 90=some a)=>a) _ (by conv=>lhs;reduce;simp only[Int.reduceOfNat,Int.reduceNegSucc])
noncomputable def v9t:ACode:=(fun (a:ACode) (_:fl [] (lp q97 0)=a)=>a) _ (by conv=>lhs;reduce;simp only[Int.reduceOfNat,Int.reduceNegSucc])
attribute [local irreducible] v9t
noncomputable def u7t:AFun:=(fun (a:AFun) (_:flF [v9t] q97=a)=>a) _ (by conv=>lhs;reduce;simp only[Int.reduceOfNat,Int.reduceNegSucc])
theorem g2v:Gam.fn 90=some u7t:=by kernel_rfl
noncomputable def u7u:AFun:=(fun (a:AFun) (_:Gam.fn 91=some a)=>a) _ (by conv=>lhs;reduce;simp only[Int.reduceOfNat,Int.reduceNegSucc])
theorem u7v:Gam.fn 91=some u7u:=by kernel_rfl
noncomputable def u7w:AFun:=(fun (a:AFun) (_:Gam.fn 45=some a)=>a) _ (by conv=>lhs;reduce;simp only[Int.reduceOfNat,Int.reduceNegSucc])
theorem g2w:Gam.fn 45=some u7w:=by kernel_rfl
noncomputable def y0l:AFun:=(fun (a:AFun) (_:Gam.fn 156=some a)=>a) _ (by conv=>lhs;reduce;simp only[Int.reduceOfNat,Int.reduceNegSucc])
theorem u2h:Gam.fn 156=some y0l:=by kernel_rfl
noncomputable def y0m:AFun:=(fun (a:AFun) (_:Gam.fn 22=some a)=>a) _ (by conv=>lhs;reduce;simp only[Int.reduceOfNat,Int.reduceNegSucc])
theorem u2i:Gam.fn 22=some y0m:=by kernel_rfl
noncomputable def y0n:AFun:=(fun (a:AFun) (_:Gam.fn 57=some a)=>a) _ (by conv=>lhs;reduce;simp only[Int.reduceOfNat,Int.reduceNegSucc])
theorem u2j:Gam.fn 57=some y0n:=by kernel_rfl
noncomputable def u7x:AFun:=(fun (a:AFun) (_:Gam.fn 99=some a)=>a) _ (by conv=>lhs;reduce;simp only[Int.reduceOfNat,Int.reduceNegSucc])
noncomputable def k1z:ACode:=(fun (a:ACode) (_:fl [] (lp u7x 0)=a)=>a) _ (by conv=>lhs;reduce;simp only[Int.reduceOfNat,Int.reduceNegSucc])
attribute [local irreducible] k1z
noncomputable def y0o:AFun:=(fun (a:AFun) (_:flF [k1z] u7x=a)=>a) _ (by conv=>lhs;reduce;simp only[Int.reduceOfNat,Int.reduceNegSucc])
theorem u2k:Gam.fn 99=some y0o:=by kernel_rfl
noncomputable def y0p:AFun:=(fun (a:AFun) (_:Gam.fn 157=some a)=>a) _ (by conv=>lhs;reduce;simp only[Int.reduceOfNat,Int.reduceNegSucc])
theorem u2l:Gam.fn 157=some y0p:=by kernel_rfl
noncomputable def u7y:AFun:=(fun (a:AFun) (_:Gam.fn 21=some a)=>a) _ (by conv=>lhs;reduce;simp only[Int.reduceOfNat,Int.reduceNegSucc])
noncomputable def j4f:ACode:=(fun (a:ACode) (_:fl [] (lp u7y 0)=a)=>a) _ (by conv=>lhs;reduce;simp only[Int.reduceOfNat,Int.reduceNegSucc])
attribute [local irreducible] j4f
noncomputable def v9u:AFun:=(fun (a:AFun) (_:flF [j4f] u7y=a)=>a) _ (by conv=>lhs;reduce;simp only[Int.reduceOfNat,Int.reduceNegSucc])
theorem v9v:Gam.fn 21=some v9u:=by kernel_rfl
noncomputable def v9w:AFun:=(fun (a:AFun) (_:Gam.fn 100=some a)=>a) _ (by conv=>lhs;reduce;simp only[Int.reduceOfNat,Int.reduceNegSucc])
theorem y0q:Gam.fn 100=some v9w:=by kernel_rfl
noncomputable def u7z:AFun:=(fun (a:AFun) (_:Gam.fn 80=some a)=>a) _ (by conv=>lhs;reduce;simp only[Int.reduceOfNat,Int.reduceNegSucc])
noncomputable def k2a:ACode:=(fun (a:ACode) (_:fl [] (lp u7z 0)=a)=>a) _ (by conv=>lhs;reduce;simp only[Int.reduceOfNat,Int.reduceNegSucc])
attribute [local irreducible] k2a
noncomputable def y0r:AFun:=(fun (a:AFun) (_:flF [k2a] u7z=a)=>a) _ (by conv=>lhs;reduce;simp only[Int.reduceOfNat,Int.reduceNegSucc])
theorem u2m:Gam.fn 80=some y0r:=by kernel_rfl
noncomputable def y0s:AFun:=(fun (a:AFun) (_:Gam.fn 56=some a)=>a) _ (by conv=>lhs;reduce;simp only[Int.reduceOfNat,Int.reduceNegSucc])
theorem u2n:Gam.fn 56=some y0s:=by kernel_rfl
noncomputable def y0t:AFun:=(fun (a:AFun) (_:Gam.fn 58=some a)=>a) _ (by conv=>lhs;reduce;simp only[Int.reduceOfNat,Int.reduceNegSucc])
theorem u2o:Gam.fn 58=some y0t:=by kernel_rfl
noncomputable def u8a:AFun:=(fun (a:AFun) (_:Gam.fn 165=some a)=>a) _ (by conv=>lhs;reduce;simp only[Int.reduceOfNat,Int.reduceNegSucc])
noncomputable def j4g:ACode:=(fun (a:ACode) (_:fl [] (lp u8a 0)=a)=>a) _ (by conv=>lhs;reduce;simp only[Int.reduceOfNat,Int.reduceNegSucc])
attribute [local irreducible] j4g
noncomputable def y0u:AFun:=(fun (a:AFun) (_:flF [j4g] u8a=a)=>a) _ (by conv=>lhs;reduce;simp only[Int.reduceOfNat,Int.reduceNegSucc])
theorem u2p:Gam.fn 165=some y0u:=by kernel_rfl
noncomputable def v9x:AFun:=(fun (a:AFun) (_:Gam.fn 221=some a)=>a) _ (by conv=>lhs;reduce;simp only[Int.reduceOfNat,Int.reduceNegSucc])
theorem u2q:Gam.fn 221=some v9x:=by kernel_rfl
noncomputable def y0v:AFun:=(fun (a:AFun) (_:Gam.fn 257=some a)=>a) _ (by conv=>lhs;reduce;simp only[Int.reduceOfNat,Int.reduceNegSucc])
theorem u2r:Gam.fn 257=some y0v:=by kernel_rfl
noncomputable def y0w:AFun:=(fun (a:AFun) (_:Gam.fn 258=some a)=>a) _ (by conv=>lhs;reduce;simp only[Int.reduceOfNat,Int.reduceNegSucc])
theorem u2s:Gam.fn 258=some y0w:=by kernel_rfl
end
section
variable {D L:List AObj} {B k g:Nat} {o:AObj}
theorem z1t (hB:D.length=B):(D++L).set (B + k) o=D++L.set k o:=by
 subst hB
 rw[List.set_append_right _ _ (by omega)]
 congr 2
 omega
theorem z2v (hB:D.length=B):(D++L)[B + k]? =L[k]? :=by
 subst hB
 rw[List.getElem?_append_right (by omega)]
 congr 1
 omega
theorem z2i (hB:D.length=B):z1s (D++L) (B + k) g=z1s L k g:=by
 unfold z1s
 rw[z2v hB]
theorem x5a (hB:D.length=B):z5s (D++L) (B + k) g=z5s L k g:=by
 unfold z5s
 rw[z2v hB]
theorem k2b {s:Nat} (hB:D.length=B) (h:s < B):(D++L).set s o=D.set s o++L:=List.set_append_left _ _ (hB ▸ h)
theorem z1a {s:Nat} (hB:D.length=B) (h:s < B):(D++L)[s]? =D[s]? :=List.getElem?_append_left (hB ▸ h)
theorem z3p {s:Nat} (hB:D.length=B) (h:s < B):z1s (D++L) s g=z1s D s g:=by
 unfold z1s
 rw[z1a hB h]
theorem v9y {s:Nat} {es:List AV} {r w:Bool} {z:Nat} (hB:D.length=B) (h:s < B):z1s (D.set s (.blk g es r w z)++L) s g=some (es,r,w,z):=by
 rw[z3p (B:=B) (by rw[List.length_set];exact hB) h]
 subst hB
 simp[z1s,h]
theorem j4h {os:List AObj} {es:List AV} {r w:Bool} {z:Nat}:z1s (.blk g es r w z::os) 0 g=some (es,r,w,z):=by simp[z1s]
theorem j4i {os:List AObj}:z1s (o::os) (k + 1) g=z1s os k g:=by simp[z1s]
theorem z2g {s:Nat} {es:List AV} {r w:Bool} {z:Nat} (h:D[s]? =some (.blk g es r w z)):z1s D s g=some (es,r,w,z):=by simp[z1s,h]
theorem j4j {os:List AObj} {es:List (AV×AV)}:z5s (.map g es::os) 0 g=some es:=by simp[z5s]
theorem j4k {os:List AObj}:z5s (o::os) (k + 1) g=z5s os k g:=by simp[z5s]
theorem z6y {h:List AObj} {s i o sz:Nat} {v:AV}:z4y h sz v (.ptr s g i o)=match z1s h s g with
 | some (es,row,grow,fz)=>
   match es[i]?,(if row then pub h v else some (v,h)) with
   | some e,some (v',h')=>
     if v'.def? =true∧v'.cells.length=sz∧v'.cells.all AV.one=true∧(row=true→fz≤i∧ !(v.obs.map (·.1)).contains s) then
      (z8a e.cells o v'.cells).map fun cs=>(.undef,h'.set s (.blk g (es.set i (z7q e cs)) row grow fz))
     else none
   | _,_=>none
 | none=>none:=rfl
theorem q0g {h:List AObj} {s o sz:Nat} {v e:AV} (hb:z1s h s g=some ([e],false,false,0)) (hv:v.def? =true) (hl:v.cells.length=sz) (ho:v.cells.all AV.one=true) (hs:o + sz≤e.cells.length):
  z4y h sz v (.ptr s g 0 o)=some (.undef,h.set s (.blk g [z7q e (e.cells.take o++v.cells++e.cells.drop (o + sz))] false false 0)):=by
 rw[z6y,hb]
 simp only[List.getElem?_cons_zero,Bool.false_eq_true,if_false,hv,hl,ho,true_and,false_implies,and_self,if_true,z8a,hs,List.set_cons_zero,Option.map_some]
end
theorem x3f {cs:List AV} {o:Nat}:z2f cs o none=cs[o]? :=(rfl)
theorem j8c {cs:List AV} {o n:Nat}:z2f cs o (some n)=if o + n≤cs.length then some (.agg ((cs.drop o).take n)) else none:=(rfl)
attribute [go_sem] z6y v7n z8a List.all_cons List.all_nil Bool.and_true Bool.true_and Bool.and_self List.isEmpty_cons Bool.not_true Bool.not_false Bool.or_self Bool.or_false Bool.false_or Bool.false_eq_true false_implies true_and and_true and_self List.singleton_append List.cons_append List.nil_append x3f j8c List.length_cons List.length_nil List.drop_zero List.drop_succ_cons List.take_succ_cons List.take_zero List.take_nil z1t z2i x5a j4h j4i j4j j4k List.replicate_succ List.replicate_zero List.set_cons_zero List.set_cons_succ List.getElem?_cons_zero List.getElem?_cons_succ cvL AV.cv
def z6z (l:List Int):List AV:=l.map fun n=> .int .i64 n
def z3v (g:Nat) (l:List Int) (i:Nat):AObj:= .blk g [.agg [.sl (z6z l) .no, .int .i64 i]] false false 0
def q6i (l:List Int):Prop:=l.length≤400∧∀ z∈l, -9223372036854775808≤z∧z≤9223372036854775807
theorem z8k {l:List Int}:idsL (z6z l)=[]:=by
 induction l with
 | nil=>rfl
 | cons a l ih=>simpa [z6z,idsL,AV.ids] using ih
theorem x0d {g i:Nat} {l:List Int}:(z3v g l i).ids=[]:=by simp[z3v,AObj.ids,idsL,AV.ids,z8k]
theorem q1d {l:List Int}:(z6z l).length=l.length:=List.length_map _
theorem q8g {l:List Int} {i:Nat} (h:i < l.length):(z6z l)[i]? =some (.int .i64 l[i]):=by simp[z6z,h]
theorem k7t {l:List Int} {i:Nat} {h:List AObj} {t:Tip} {k:IntKind} (hi:i < l.length):z1n h 1 (.sl (z6z l) t) (.int k (i:Int))=some (.iptr [.int .i64 l[i]] 0,h):=z5p (q8g hi) rfl
def GenOk (l:List Int) (f:Nat) (args:List AV) (R:AV→Prop):Prop:=
 ∀ h s g i clk (Q:AV→List AObj→Nat→Prop),h[s]? =some (z3v g l i)→i≤l.length→(∀ v i',i'≤l.length→R v→Q v (h.set s (z3v g l i')) clk)→
   WC Gam f (.ptr s g 0 0::args) h clk Q∧z0z Gam f (.ptr s g 0 0::args) h=[s]
theorem GenOk.of {l:List Int} {f:Nat} {args az:List AV} {af:AFun} {R:AV→Prop} (hext:Gam.ext f=none) (hfn:Gam.fn f=some af) (hb:af.byref=[]) (ho:af.owned=false) (hobs:z3y args=[]) (has:cvL args=az) (hids:idsL az=[])
  (hw:∀ (D:List AObj) (B s g i clk:Nat) (T:AV→List AObj→Prop),D.length=B→s < B→D[s]? =some (z3v g l i)→i≤l.length→(∀ v h' i',h'[s]? =some (z3v g l i')→i'≤l.length→R v→T v h')→
   K Gam B af.body [] ⟨z9z (.ptr s g 0 0::az),D++List.replicate af.nslots .dead,clk⟩ (j9c [s] af.results T)):GenOk l f args R:=by
 intro h s g i clk Q hs hi hQ
 have hobs':z3y (.ptr s g 0 0::args)=[]:=by simp[z3y,AV.obs,hobs]
 have has':cvL (.ptr s g 0 0::args)= .ptr s g 0 0::az:=by simp[cvL,AV.cv,has]
 have hids':idsL (.ptr s g 0 0::az)=[s]:=by simp[idsL,AV.ids,hids]
 refine⟨?_, ?_⟩
 ·refine w5a hext hfn hb ho hobs' has' hids' hs x0d fun D B T hB hD hlt hT=>hw D B s g i clk T hB hlt hD hi fun v h' i' h1 h2 h3=>hT v h' _ h1 x0d (hQ v i' h2 h3)
 ·unfold z0z
  have hp:z1d h af.byref 0 (.ptr s g 0 0::args)=some (.ptr s g 0 0::az):=by rw[hb,z1o hobs',has']
  simp only[hext,hfn,hp,hobs',hids',List.map_nil,List.nil_append,reach,List.contains_nil,Bool.false_eq_true,if_false,hs,Option.map_some,x0d,Option.getD_some]
  cases h.length <;> rfl
theorem j8d {f g f' g':List Nat×List Nat} (hf1:∀ x∈f'.1,x∈f.1) (hf2:∀ x∈f'.2,x∈f.2) (hg1:∀ x∈g'.1,x∈g.1) (hg2:∀ x∈g'.2,x∈g.2) (h:apart f g=true):apart f' g'=true:=by
 simp only[apart,z0h,Bool.and_eq_true,List.all_eq_true,Bool.not_eq_true',List.contains_eq_mem,decide_eq_false_iff_not] at h⊢
 exact⟨⟨fun x hx hy=>h.1.1 x (hf2 x hx) (hg1 x hy),fun x hx hy=>h.1.2 x (hf2 x hx) (hg2 x hy)⟩,fun x hx hy=>h.2 x (hg2 x hx) (hf1 x hy)⟩
def FeetLe (fs gs:List (List Nat×List Nat)):Prop:=fs.length=gs.length∧∀ i,(∀ x∈(fs.getD i ([],[])).1,x∈(gs.getD i ([],[])).1)∧(∀ x∈(fs.getD i ([],[])).2,x∈(gs.getD i ([],[])).2)
theorem j1m {N:Nat} {ops:List AOper} {fs gs:List (List Nat×List Nat)} {ps:List (Nat×Nat)} (hl:FeetLe fs gs) (h:z0v N ops gs ps=true):z0v N ops fs ps=true:=by
 unfold z0v at h⊢
 rw[List.all_eq_true] at h⊢
 intro p hp
 have:=h p hp
 simp only[Bool.and_eq_true,Bool.or_eq_true] at this⊢
 refine⟨j8d (hl.2 p.1).1 (hl.2 p.1).2 (hl.2 p.2).1 (hl.2 p.2).2 this.1,this.2.imp id fun h2=> ?_⟩
 rw[List.all_eq_true] at h2⊢
 intro x hx
 refine h2 x ?_
 simp only[z0w,List.mem_append] at hx⊢
 rcases hx with (hx | hx) | (hx | hx)
 ·exact .inl (.inl ((hl.2 p.1).1 x hx))
 ·exact .inl (.inr ((hl.2 p.1).2 x hx))
 ·exact .inr (.inl ((hl.2 p.2).1 x hx))
 ·exact .inr (.inr ((hl.2 p.2).2 x hx))
theorem FeetLe.mid {fs gs:List (List Nat×List Nat)} {f f':List Nat×List Nat} (h1:∀ x∈f.1,x∈f'.1) (h2:∀ x∈f.2,x∈f'.2):FeetLe (fs++[f]++gs) (fs++[f']++gs):=by
 refine⟨by simp,fun i=> ?_⟩
 simp only[List.getD_eq_getElem?_getD,List.append_assoc,List.cons_append,List.nil_append]
 rcases Nat.lt_trichotomy i fs.length with h | h | h
 ·rw[List.getElem?_append_left h,List.getElem?_append_left h]
  exact⟨fun x hx=>hx,fun x hx=>hx⟩
 ·subst h
  simp only[List.getElem?_append_right (Nat.le_refl _),Nat.sub_self,List.getElem?_cons_zero,Option.getD_some]
  exact⟨h1,h2⟩
 ·obtain⟨j,rfl⟩:∃ j,i=fs.length + (j + 1):=⟨i - fs.length - 1,by omega⟩
  rw[List.getElem?_append_right (by omega),List.getElem?_append_right (by omega),show fs.length + (j + 1) - fs.length=j + 1 by omega]
  exact⟨fun x hx=>hx,fun x hx=>hx⟩
theorem x9a {base g:Nat} {os:List AOper} {s:St} {ks:List Kf} {Q:Post} {m:Md} {f f':List Nat×List Nat} (h1:∀ x∈f.1,x∈f'.1) (h2:∀ x∈f.2,x∈f'.2) (h:O Gam base (m.add f') g os s ks Q):O Gam base (m.add f) g os s ks Q:=by
 obtain⟨k,s',fs,h3,h4,h5⟩:=h
 refine⟨k,s',fs,h3, ?_,h5⟩
 cases m with
 | plain=>exact h4
 | draw N ops ps gs=>
   simp only[Md.add,q5f,Md.ok] at h4⊢
   exact j1m (FeetLe.mid h1 h2) h4
theorem z0t {l:List Int} {f base B s g i clk gg:Nat} {args:List AV} {R:AV→Prop} {D L:List AObj} {m:Md} {dst:Option Nat} {os:List AOper} {ts:Tmps} {ks:List Kf} {Q:Post} (hg:GenOk l f args R) (hB:D.length=B) (hs:s < B) (hD:D[s]? =some (z3v g l i)) (hi:i≤l.length)
  (hQ:∀ v D' i',R v→D'.length=B→D'[s]? =some (z3v g l i')→i'≤l.length→O Gam base (m.add ([s],[s])) (gg + 1) os ⟨z8c ts dst v,D'++L,clk⟩ ks Q):CK Gam base f (.ptr s g 0 0::args) (D++L) clk m dst gg os ts ks Q:=by
 unfold CK
 have hD':(D++L)[s]? =some (z3v g l i):=by rw[z1a hB hs];exact hD
 obtain⟨_,hf⟩:=hg (D++L) s g i clk (fun _ _ _=>True) hD' hi (fun _ _ _ _=>trivial)
 refine (hg (D++L) s g i clk _ hD' hi fun v i' hi' hv=> ?_).1
 refine x9a (f':=([s],[s])) ?_ ?_ ?_
 ·rw[hf];exact fun x hx=>hx
 ·rw[hf];exact fun x hx=>(List.mem_filter.1 hx).1
 ·rw[k2b hB hs]
  exact hQ v _ i' hv (by rw[List.length_set];exact hB) (by subst hB;simp[hs]) hi'
theorem j4l {z:Int}:IntKind.u64.wrap z=z % 18446744073709551616:=by simp[IntKind.wrap,IntKind.signed,IntKind.bits]
theorem y0x {z n:Int} (hn:0 < n) (hn2:n < 2 ^ 62):∃ r:Int,0≤r∧r < n∧Pure Gam 48 [.int .i64 z, .int .i64 n] (.int .i64 r):=by
 have hw:0≤IntKind.u64.wrap z:=by rw[j4l];omega
 have hwn:IntKind.u64.wrap n=n:=by rw[j4l];omega
 have h1:0≤(IntKind.u64.wrap z).tmod n:=Int.tmod_nonneg _ hw
 have h2:(IntKind.u64.wrap z).tmod n < n:=Int.tmod_lt_of_pos _ hn
 refine⟨(IntKind.u64.wrap z).tmod n,h1,h2,Pure.of rfl g2t rfl rfl rfl rfl rfl fun D B clk T hB hT=> ?_⟩
 simp only[go_sem,u7r,hwn]
 rw[q7m (by omega)]
 simp only[go_sem,]
 rw[z0j rfl rfl,z0f (by omega) (by omega)]
 exact hT _
theorem z3i {l:List Int} {n:Int} (hl:q6i l) (hn:0 < n) (hn2:n < 2 ^ 62):GenOk l 16 [.int .i64 n] fun v=>∃ r:Int,v= .int .i64 r∧0≤r∧r < n:=by
 refine GenOk.of rfl g2q rfl rfl rfl rfl rfl fun D B s g i clk T hB hs hD hi hT=> ?_
 have hb:=z2g (g:=g) hD
 simp only[go_sem,u7n,z3p hB hs,hb,q1d]
 refine z8i (fun hc=> ?_) (fun hc=> ?_)
 ·simp only[go_sem,z3p hB hs,hb,q1d]
  rw[z0j rfl rfl]
  exact hT _ _ i (by rw[z1a hB hs];exact hD) hi ⟨0,rfl,by omega,by omega⟩
 ·have hlt:i < l.length:=by simpa using hc
  have hl400:=hl.1
  have e0:IntKind.i64.wrap ((i:Int) + 1)=(i:Int) + 1:=z0f (by omega) (by omega)
  have e1:IntKind.i64.wrap ((i:Int) + 1 - 1)=(i:Int):=by rw[z0f (by omega) (by omega)];omega
  simp only[go_sem,z3p hB hs,hb,q1d,e0,e1,k2b hB hs,v9y hB hs,k7t hlt]
  obtain⟨r,h1,h2,hp⟩:=y0x (z:=l[i]) hn hn2
  rw[z0a hp]
  simp only[go_sem,Md.add]
  rw[z0j rfl rfl]
  exact hT _ _ (i + 1) (by rw[z1a (by rw[List.length_set];exact hB) hs];subst hB;simp[hs,z3v]) (by omega) ⟨r,rfl,h1,h2⟩
theorem v9z {l:List Int}:GenOk l 46 [] fun v=>∃ b:Bool,v= .bool b:=by
 refine GenOk.of rfl g2s rfl rfl rfl rfl rfl fun D B s g i clk T hB hs hD hi hT=> ?_
 have hb:=z2g (g:=g) hD
 simp only[go_sem,u7o,z3p hB hs,hb,q1d]
 rw[z0j rfl rfl]
 exact hT _ _ i (by rw[z1a hB hs];exact hD) hi ⟨_,rfl⟩
end Go.Proofs.YtdfepmffiampgaaGreatDoor.Am
