/- All tables are borne out Loops of a function of the abstract machine, by their numbers Short forms of operations, for the printed functions Functions of the abstract machine's program Functions of the -/
import Derived.Attr
import Derived.Test.YtkollgjffkdliaaGreatDoorK09
import Derived.Test.YtkollgjffkdliaaGreatDoorK10
import Derived.Test.YtkollgjffkdliaaGreatDoorK11
import Derived.Test.YtkollgjffkdliaaGreatDoorK12
import Derived.Test.YtkollgjffkdliaaGreatDoorK13
import Derived.Test.YtkollgjffkdliaaGreatDoorK15
import Derived.Test.YtkollgjffkdliaaGreatDoorK16
import Derived.Test.YtkollgjffkdliaaGreatDoorK17
import Derived.Test.YtkollgjffkdliaaGreatDoorK18
import Derived.Test.YtkollgjffkdliaaGreatDoorK19
import Derived.Test.YtkollgjffkdliaaGreatDoorK20
open Bool renaming and_eq_true → y4,false_eq_true → j9,not_true → z8
open Int renaming natAbs_natCast → u5,reduceEq → z7,reduceNegSucc → z5,reduceOfNat → z4
open List renaming all_eq_true → y9,append_assoc → u4,append_nil → w9,cons_append → y6,getElem?_append_left → g9,getElem?_append_right → b0,getElem_mem → x8,length_append → k7,length_cons → v5,length_map → z6,length_set → y5,length_singleton → v6,map_append → v8,map_cons → j4,map_nil → k8,mem_append → x4,nil_append → y8,replicate → x3
open Nat renaming eq_zero_or_pos → d7,le_refl → x7,mul_comm → u1,pow_succ → b8,zero_add → k6
open Option renaming getD_some → d4,map_some → j5
open Nat renaming reduceBEq → z0,reduceAdd → z1,reduceLeDiff → z2,reduceSub → z3
set_option linter.all false
namespace Go.Proofs.YtkollgjffkdliaaGreatDoor.Am
open Go
noncomputable section
set_option maxRecDepth 100000
section
open Tw
theorem b54:Borne [] 77 t54:= .cons y5n (.nil)
theorem b55:Borne [] 78 t55:= .cons y5o (.nil)
theorem b56:Borne [] 79 t56:= .cons y5p (.cons y5q (.cons y5r (.cons y5s (.cons y5t (.cons y5u (.cons y5v (.cons y5w (.cons y5x (.cons y5y (.cons w4t (.cons w4u (.cons w4v (.cons w4w (.cons w4x (.cons w4y (.cons w4z (.cons w5a (.cons w5b (.cons w5c (.cons w5d (.nil)))))))))))))))))))))
theorem u5l:Borne [] 144 u1u:= .cons w5e (.cons w5f (.cons w5g (.cons w5h (.cons w5i (.cons w5j (.cons w5k (.cons w5l (.cons w5m (.cons w5n (.cons v6j (.nil)))))))))))
theorem b21:Borne [] 7 t21:= .cons y5z (.nil)
theorem b24:Borne [] 12 t24:= .cons y6a (.nil)
theorem k6i:Told tw1:=((((((z3r).snoc (b24.told z3r)).snoc (b21.told z3r)).snoc (u5l.told z3r)).snoc (b56.told z3r)).snoc (b55.told z3r)).snoc (b54.told z3r)
theorem u5m:Borne tw1 297 u1v:= .cons w5o (.cons w5p (.cons w5q (.cons w5r (.cons w5s (.cons w5t (.cons w5u (.nil)))))))
theorem u5n:Borne tw1 141 u1w:= .cons w5v (.cons w5w (.nil))
theorem b28:Borne tw1 35 t28:= .cons y6b (.cons y6c (.cons y6d (.cons y6e (.nil))))
theorem w7b:Told tw2:=(((k6i).snoc (b28.told k6i)).snoc (u5n.told k6i)).snoc (u5m.told k6i)
theorem u5o:Borne tw2 143 u1x:= .cons w5x (.cons w5y (.cons w5z (.nil)))
theorem y6u:Told tw3:=(w7b).snoc (u5o.told w7b)
theorem b73:Borne [] 49 z5p:= .chunks (n:=27) (m:=1) (by decide) (by decide) fun i hi=>match i,hi with
 | 0,_=>y6k
 | 1,_=>y6l
 | 2,_=>y6m
 | 3,_=>y6n
 | 4,_=>y6o
 | 5,_=>y6p
 | 6,_=>y6q
 | 7,_=>y6r
 | 8,_=>y6s
 | 9,_=>y6t
 | 10,_=>w6a
 | 11,_=>w6b
 | 12,_=>w6c
 | 13,_=>w6d
 | 14,_=>w6e
 | 15,_=>w6f
 | 16,_=>w6g
 | 17,_=>w6h
 | 18,_=>w6i
 | 19,_=>w6j
 | 20,_=>w6k
 | 21,_=>w6l
 | 22,_=>w6m
 | 23,_=>w6n
 | 24,_=>w6o
 | 25,_=>w6p
 | 26,_=>w6q
 | n + 27,h=>absurd h (by omega)
theorem u5p:Borne [] 195 z2k:= .chunks (n:=35) (m:=1) (by decide) (by decide) fun i hi=>match i,hi with
 | 0,_=>w6r
 | 1,_=>w6s
 | 2,_=>w6t
 | 3,_=>w6u
 | 4,_=>w6v
 | 5,_=>w6w
 | 6,_=>w6x
 | 7,_=>w6y
 | 8,_=>w6z
 | 9,_=>w7a
 | 10,_=>v6k
 | 11,_=>v6l
 | 12,_=>v6m
 | 13,_=>v6n
 | 14,_=>v6o
 | 15,_=>v6p
 | 16,_=>v6q
 | 17,_=>v6r
 | 18,_=>v6s
 | 19,_=>v6t
 | 20,_=>v6u
 | 21,_=>v6v
 | 22,_=>v6w
 | 23,_=>v6x
 | 24,_=>v6y
 | 25,_=>v6z
 | 26,_=>v7a
 | 27,_=>v7b
 | 28,_=>v7c
 | 29,_=>v7d
 | 30,_=>v7e
 | 31,_=>v7f
 | 32,_=>v7g
 | 33,_=>v7h
 | 34,_=>v7i
 | n + 35,h=>absurd h (by omega)
theorem k6j:Told w2h:=((((((((((z3r).snoc ((Borne.cons k19 .nil).told y6u)).snoc (u5k.told z3r)).snoc (y6j.told z3r)).snoc (u5j.told z3r)).snoc (y6i.told z3r)).snoc (u5p.told z3r)).snoc (b73.told z3r)).snoc (y6h.told z3r)).snoc (y6g.told z3r)).snoc (y6f.told z3r)
theorem v7j:ProgOk Tryz.prog x3x Gam:=w4a (T:=w2h) k6j
theorem v7k:q0m Tryz.prog Gam:=w3z (T:=w2h)
end
def lps:ACode→List ACode
 | .seq a b=>lps a++lps b
 | .cond _ a b=>lps a++lps b
 | .block _ b=>lps b
 | .loop b=>b::lps b
 | .rangeB _ _ _ a b=>lps a++lps b
 | _=>[]
def lp (f:AFun) (k:Nat):ACode:=(lps f.body).getD k .skip
def fla:ACode→List ACode→ACode×List ACode
 | .seq a b,l=>let r:=fla a l;let q:=fla b r.2;(.seq r.1 q.1,q.2)
 | .cond x a b,l=>let r:=fla a l;let q:=fla b r.2;(.cond x r.1 q.1,q.2)
 | .block i b,l=>let r:=fla b l;(.block i r.1,r.2)
 | .loop b,c::l=>(.loop c,l.drop (lps b).length)
 | .rangeB x p q a b,l=>let r:=fla a l;let t:=fla b r.2;(.rangeB x p q r.1 t.1,t.2)
 | c,l=>(c,l)
def fl (l:List ACode) (c:ACode):ACode:=(fla c l).1
def flF (l:List ACode) (f:AFun):AFun:={f with body:=fl l f.body}
namespace Sh
@[go_sem] def M (d s:Nat):AOper:=⟨some d, .move (.tmp s),none⟩
@[go_sem] def N (d:Nat) (o:AOp):AOper:=⟨some d,o,none⟩
@[go_sem] def U (d:Nat) (o:AOp) (g:Nat):AOper:=⟨some d,o,some (g,false)⟩
@[go_sem] def V (d:Nat) (o:AOp) (g:Nat):AOper:=⟨some d,o,some (g,true)⟩
@[go_sem] def A (d s o:Nat):AOper:=⟨some d, .fieldAddr (.tmp s) o,none⟩
@[go_sem] def L (d s:Nat):AOper:=⟨some d, .load none (.tmp s),none⟩
@[go_sem] def S (n a b:Nat):AOper:=⟨none, .store n (.tmp a) (.tmp b),none⟩
@[go_sem] def E (d s o:Nat):AOper:=⟨some d, .extract (.tmp s) o,none⟩
@[go_sem] def I (n:Int):AOpd:= .const (.int .i64 n)
end Sh
section
open Sh
set_option maxHeartbeats 0
def w2d:AFun:=(fun (a:AFun) (_:Gam.fn 205=some a)=>a) _ (by conv=>lhs;reduce;simp only[z4,z5])
theorem u5q:Gam.fn 205=some w2d:=by kernel_rfl
def q71:AFun:=(fun (a:AFun) (_:Gam.fn 257=some a)=>a) _ (by conv=>lhs;reduce;simp only[z4,z5])
def k0s:ACode:=(fun (a:ACode) (_:fl [] (lp q71 0)=a)=>a) _ (by conv=>lhs;reduce;simp only[z4,z5])
attribute [local irreducible] k0s
def y6v:AFun:=(fun (a:AFun) (_:flF [k0s] q71=a)=>a) _ (by conv=>lhs;reduce;simp only[z4,z5])
theorem u5r:Gam.fn 257=some y6v:=by kernel_rfl
def w7c:AFun:=(fun (a:AFun) (_:Gam.fn 51=some a)=>a) _ (by conv=>lhs;reduce;simp only[z4,z5])
def x4m:ACode:=(fun (a:ACode) (_:fl [] (lp w7c 0)=a)=>a) _ (by conv=>lhs;reduce;simp only[z4,z5])
attribute [local irreducible] x4m
def v2q:AFun:=(fun (a:AFun) (_:flF [x4m] w7c=a)=>a) _ (by conv=>lhs;reduce;simp only[z4,z5])
theorem w7d:Gam.fn 51=some v2q:=by kernel_rfl
def w7e:AFun:=(fun (a:AFun) (_:Gam.fn 52=some a)=>a) _ (by conv=>lhs;reduce;simp only[z4,z5])
def x4n:ACode:=(fun (a:ACode) (_:fl [] (lp w7e 0)=a)=>a) _ (by conv=>lhs;reduce;simp only[z4,z5])
attribute [local irreducible] x4n
def v2r:AFun:=(fun (a:AFun) (_:flF [x4n] w7e=a)=>a) _ (by conv=>lhs;reduce;simp only[z4,z5])
theorem w7f:Gam.fn 52=some v2r:=by kernel_rfl
def v2s:AFun:=(fun (a:AFun) (_:Gam.fn 53=some a)=>a) _ (by conv=>lhs;reduce;simp only[z4,z5])
theorem w7g:Gam.fn 53=some v2s:=by kernel_rfl
def v2t:AFun:=(fun (a:AFun) (_:Gam.fn 55=some a)=>a) _ (by conv=>lhs;reduce;simp only[z4,z5])
theorem w7h:Gam.fn 55=some v2t:=by kernel_rfl
def v7l:AFun:=(fun (a:AFun) (_:Gam.fn 105=some a)=>a) _ (by conv=>lhs;reduce;simp only[z4,z5])
def x4o:ACode:=(fun (a:ACode) (_:fl [] (lp v7l 1)=a)=>a) _ (by conv=>lhs;reduce;simp only[z4,z5])
attribute [local irreducible] x4o
def x4p:ACode:=(fun (a:ACode) (_:fl [x4o] (lp v7l 0)=a)=>a) _ (by conv=>lhs;reduce;simp only[z4,z5])
attribute [local irreducible] x4p
def v2u:AFun:=(fun (a:AFun) (_:flF [x4p,x4o] v7l=a)=>a) _ (by conv=>lhs;reduce;simp only[z4,z5])
theorem w7i:Gam.fn 105=some v2u:=by kernel_rfl
def w7j:AFun:=(fun (a:AFun) (_:Gam.fn 107=some a)=>a) _ (by conv=>lhs;reduce;simp only[z4,z5])
def x4q:ACode:=(fun (a:ACode) (_:fl [] (lp w7j 0)=a)=>a) _ (by conv=>lhs;reduce;simp only[z4,z5])
attribute [local irreducible] x4q
def v2v:AFun:=(fun (a:AFun) (_:flF [x4q] w7j=a)=>a) _ (by conv=>lhs;reduce;simp only[z4,z5])
theorem w7k:Gam.fn 107=some v2v:=by kernel_rfl
def w7l:AFun:=(fun (a:AFun) (_:Gam.fn 173=some a)=>a) _ (by conv=>lhs;reduce;simp only[z4,z5])
def x4r:ACode:=(fun (a:ACode) (_:fl [] (lp w7l 0)=a)=>a) _ (by conv=>lhs;reduce;simp only[z4,z5])
attribute [local irreducible] x4r
def v2w:AFun:=(fun (a:AFun) (_:flF [x4r] w7l=a)=>a) _ (by conv=>lhs;reduce;simp only[z4,z5])
theorem w7m:Gam.fn 173=some v2w:=by kernel_rfl
def v2x:AFun:=(fun (a:AFun) (_:Gam.fn 174=some a)=>a) _ (by conv=>lhs;reduce;simp only[z4,z5])
theorem w7n:Gam.fn 174=some v2x:=by kernel_rfl
def v7m:AFun:=(fun (a:AFun) (_:Gam.fn 236=some a)=>a) _ (by conv=>lhs;reduce;simp only[z4,z5])
def q9m:ACode:=(fun (a:ACode) (_:fl [] (lp v7m 1)=a)=>a) _ (by conv=>lhs;reduce;simp only[z4,z5])
attribute [local irreducible] q9m
def x4s:ACode:=(fun (a:ACode) (_:fl [q9m] (lp v7m 0)=a)=>a) _ (by conv=>lhs;reduce;simp only[z4,z5])
attribute [local irreducible] x4s
def z5k:AFun:=(fun (a:AFun) (_:flF [x4s,q9m] v7m=a)=>a) _ (by conv=>lhs;reduce;simp only[z4,z5])
theorem w7o:Gam.fn 236=some z5k:=by kernel_rfl
def v2y:AFun:=(fun (a:AFun) (_:Gam.fn 283=some a)=>a) _ (by conv=>lhs;reduce;simp only[z4,z5])
theorem w7p:Gam.fn 283=some v2y:=by kernel_rfl
def v2z:AFun:=(fun (a:AFun) (_:Gam.fn 286=some a)=>a) _ (by conv=>lhs;reduce;simp only[z4,z5])
theorem w7q:Gam.fn 286=some v2z:=by kernel_rfl
def v3a:AFun:=(fun (a:AFun) (_:Gam.fn 287=some a)=>a) _ (by conv=>lhs;reduce;simp only[z4,z5])
theorem w7r:Gam.fn 287=some v3a:=by kernel_rfl
def w7s:AFun:=(fun (a:AFun) (_:Gam.fn 288=some a)=>a) _ (by conv=>lhs;reduce;simp only[z4,z5])
def q9n:ACode:=(fun (a:ACode) (_:fl [] (lp w7s 0)=a)=>a) _ (by conv=>lhs;reduce;simp only[z4,z5])
attribute [local irreducible] q9n
def v3b:AFun:=(fun (a:AFun) (_:flF [q9n] w7s=a)=>a) _ (by conv=>lhs;reduce;simp only[z4,z5])
theorem w7t:Gam.fn 288=some v3b:=by kernel_rfl
def w7u:AFun:=(fun (a:AFun) (_:Gam.fn 289=some a)=>a) _ (by conv=>lhs;reduce;simp only[z4,z5])
def q9o:ACode:=(fun (a:ACode) (_:fl [] (lp w7u 0)=a)=>a) _ (by conv=>lhs;reduce;simp only[z4,z5])
attribute [local irreducible] q9o
def x8d:AFun:=(fun (a:AFun) (_:flF [q9o] w7u=a)=>a) _ (by conv=>lhs;reduce;simp only[z4,z5])
theorem k0t:Gam.fn 289=some x8d:=by kernel_rfl
def x8e:AFun:=(fun (a:AFun) (_:Gam.fn 312=some a)=>a) _ (by conv=>lhs;reduce;simp only[z4,z5])
theorem w7v:Gam.fn 312=some x8e:=by kernel_rfl
def v3c:AFun:=(fun (a:AFun) (_:Gam.fn 313=some a)=>a) _ (by conv=>lhs;reduce;simp only[z4,z5])
theorem w7w:Gam.fn 313=some v3c:=by kernel_rfl
def v3d:AFun:=(fun (a:AFun) (_:Gam.fn 321=some a)=>a) _ (by conv=>lhs;reduce;simp only[z4,z5])
theorem w7x:Gam.fn 321=some v3d:=by kernel_rfl
end
section
open Sh
set_option maxHeartbeats 0
def w7y:AFun:=(fun (a:AFun) (_:Gam.fn 1048625=some a)=>a) _ (by conv=>lhs;reduce;simp only[z4,z5])
def z7j:ACode:=(fun (a:ACode) (_:fl [] (lp w7y 0)=a)=>a) _ (by conv=>lhs;reduce;simp only[z4,z5])
attribute [local irreducible] z7j
def v3e:AFun:=(fun (a:AFun) (_:flF [z7j] w7y=a)=>a) _ (by conv=>lhs;reduce;simp only[z4,z5])
theorem w7z:Gam.fn 1048625=some v3e:=by kernel_rfl
def u1y:AFun:=(fun (a:AFun) (_:Gam.fn 101=some a)=>a) _ (by conv=>lhs;reduce;simp only[z4,z5])
def x8f:ACode:=(fun (a:ACode) (_:fl [] (lp u1y 0)=a)=>a) _ (by conv=>lhs;reduce;simp only[z4,z5])
attribute [local irreducible] x8f
def k0u:AFun:=(fun (a:AFun) (_:flF [x8f] u1y=a)=>a) _ (by conv=>lhs;reduce;simp only[z4,z5])
theorem y6w:Gam.fn 101=some k0u:=by kernel_rfl
def w8a:AFun:=(fun (a:AFun) (_:Gam.fn 103=some a)=>a) _ (by conv=>lhs;reduce;simp only[z4,z5])
theorem y6x:Gam.fn 103=some w8a:=by kernel_rfl
def w8b:AFun:=(fun (a:AFun) (_:Gam.fn 167=some a)=>a) _ (by conv=>lhs;reduce;simp only[z4,z5])
theorem y6y:Gam.fn 167=some w8b:=by kernel_rfl
def w8c:AFun:=(fun (a:AFun) (_:Gam.fn 232=some a)=>a) _ (by conv=>lhs;reduce;simp only[z4,z5])
theorem y6z:Gam.fn 232=some w8c:=by kernel_rfl
def k6k:AFun:=(fun (a:AFun) (_:Gam.fn 233=some a)=>a) _ (by conv=>lhs;reduce;simp only[z4,z5])
theorem y7a:Gam.fn 233=some k6k:=by kernel_rfl
def u1z:AFun:=(fun (a:AFun) (_:Gam.fn 280=some a)=>a) _ (by conv=>lhs;reduce;simp only[z4,z5])
def q9p:ACode:=(fun (a:ACode) (_:fl [] (lp u1z 0)=a)=>a) _ (by conv=>lhs;reduce;simp only[z4,z5])
attribute [local irreducible] q9p
def w8d:AFun:=(fun (a:AFun) (_:flF [q9p] u1z=a)=>a) _ (by conv=>lhs;reduce;simp only[z4,z5])
theorem y7b:Gam.fn 280=some w8d:=by kernel_rfl
end
section
open Sh
set_option maxHeartbeats 0
def q26:AFun:=(fun (a:AFun) (_:Gam.fn 6=some a)=>a) _ (by conv=>lhs;reduce;simp only[z4,z5])
def k6l:ACode:=(fun (a:ACode) (_:fl [] (lp q26 0)=a)=>a) _ (by conv=>lhs;reduce;simp only[z4,z5])
attribute [local irreducible] k6l
def u2a:AFun:=(fun (a:AFun) (_:flF [k6l] q26=a)=>a) _ (by conv=>lhs;reduce;simp only[z4,z5])
theorem u5s:Gam.fn 6=some u2a:=by kernel_rfl
def k6m:AFun:=(fun (a:AFun) (_:Gam.fn 15=some a)=>a) _ (by conv=>lhs;reduce;simp only[z4,z5])
theorem u5t:Gam.fn 15=some k6m:=by kernel_rfl
def u2b:AFun:=(fun (a:AFun) (_:Gam.fn 25=some a)=>a) _ (by conv=>lhs;reduce;simp only[z4,z5])
theorem u5u:Gam.fn 25=some u2b:=by kernel_rfl
def v7n:AFun:=(fun (a:AFun) (_:Gam.fn 16=some a)=>a) _ (by conv=>lhs;reduce;simp only[z4,z5])
theorem u2c:Gam.fn 16=some v7n:=by kernel_rfl
def u2d:AFun:=(fun (a:AFun) (_:Gam.fn 26=some a)=>a) _ (by conv=>lhs;reduce;simp only[z4,z5])
theorem u5v:Gam.fn 26=some u2d:=by kernel_rfl
def q53:AFun:=(fun (a:AFun) (_:Gam.fn 27=some a)=>a) _ (by conv=>lhs;reduce;simp only[z4,z5])
def k0v:ACode:=(fun (a:ACode) (_:fl [] (lp q53 1)=a)=>a) _ (by conv=>lhs;reduce;simp only[z4,z5])
attribute [local irreducible] k0v
def k6n:ACode:=(fun (a:ACode) (_:fl [k0v] (lp q53 0)=a)=>a) _ (by conv=>lhs;reduce;simp only[z4,z5])
attribute [local irreducible] k6n
def u2e:AFun:=(fun (a:AFun) (_:flF [k6n,k0v] q53=a)=>a) _ (by conv=>lhs;reduce;simp only[z4,z5])
theorem u5w:Gam.fn 27=some u2e:=by kernel_rfl
def u2f:AFun:=(fun (a:AFun) (_:Gam.fn 66=some a)=>a) _ (by conv=>lhs;reduce;simp only[z4,z5])
theorem u5x:Gam.fn 66=some u2f:=by kernel_rfl
def q72:AFun:=(fun (a:AFun) (_:Gam.fn 48=some a)=>a) _ (by conv=>lhs;reduce;simp only[z4,z5])
def j7f:ACode:=(fun (a:ACode) (_:fl [] (lp q72 0)=a)=>a) _ (by conv=>lhs;reduce;simp only[z4,z5])
attribute [local irreducible] j7f
def u2g:AFun:=(fun (a:AFun) (_:flF [j7f] q72=a)=>a) _ (by conv=>lhs;reduce;simp only[z4,z5])
theorem u5y:Gam.fn 48=some u2g:=by kernel_rfl
def q97:AFun:=(fun (a:AFun) (_:Gam.fn 68=some a)=>a) _ (by conv=>lhs;reduce;simp only[z4,z5])
def v7o:ACode:=(fun (a:ACode) (_:fl [] (lp q97 0)=a)=>a) _ (by conv=>lhs;reduce;simp only[z4,z5])
attribute [local irreducible] v7o
def u2h:AFun:=(fun (a:AFun) (_:flF [v7o] q97=a)=>a) _ (by conv=>lhs;reduce;simp only[z4,z5])
theorem u5z:Gam.fn 68=some u2h:=by kernel_rfl
def u2i:AFun:=(fun (a:AFun) (_:Gam.fn 69=some a)=>a) _ (by conv=>lhs;reduce;simp only[z4,z5])
theorem u2j:Gam.fn 69=some u2i:=by kernel_rfl
def w8e:AFun:=(fun (a:AFun) (_:Gam.fn 119=some a)=>a) _ (by conv=>lhs;reduce;simp only[z4,z5])
theorem y7c:Gam.fn 119=some w8e:=by kernel_rfl
def w8f:AFun:=(fun (a:AFun) (_:Gam.fn 43=some a)=>a) _ (by conv=>lhs;reduce;simp only[z4,z5])
theorem y7d:Gam.fn 43=some w8f:=by kernel_rfl
def w8g:AFun:=(fun (a:AFun) (_:Gam.fn 95=some a)=>a) _ (by conv=>lhs;reduce;simp only[z4,z5])
theorem y7e:Gam.fn 95=some w8g:=by kernel_rfl
def u2k:AFun:=(fun (a:AFun) (_:Gam.fn 120=some a)=>a) _ (by conv=>lhs;reduce;simp only[z4,z5])
def k0w:ACode:=(fun (a:ACode) (_:fl [] (lp u2k 0)=a)=>a) _ (by conv=>lhs;reduce;simp only[z4,z5])
attribute [local irreducible] k0w
def w8h:AFun:=(fun (a:AFun) (_:flF [k0w] u2k=a)=>a) _ (by conv=>lhs;reduce;simp only[z4,z5])
theorem y7f:Gam.fn 120=some w8h:=by kernel_rfl
def w8i:AFun:=(fun (a:AFun) (_:Gam.fn 121=some a)=>a) _ (by conv=>lhs;reduce;simp only[z4,z5])
theorem y7g:Gam.fn 121=some w8i:=by kernel_rfl
def u2l:AFun:=(fun (a:AFun) (_:Gam.fn 42=some a)=>a) _ (by conv=>lhs;reduce;simp only[z4,z5])
def j3g:ACode:=(fun (a:ACode) (_:fl [] (lp u2l 0)=a)=>a) _ (by conv=>lhs;reduce;simp only[z4,z5])
attribute [local irreducible] j3g
def v7p:AFun:=(fun (a:AFun) (_:flF [j3g] u2l=a)=>a) _ (by conv=>lhs;reduce;simp only[z4,z5])
theorem w8j:Gam.fn 42=some v7p:=by kernel_rfl
def v7q:AFun:=(fun (a:AFun) (_:Gam.fn 154=some a)=>a) _ (by conv=>lhs;reduce;simp only[z4,z5])
theorem w8k:Gam.fn 154=some v7q:=by kernel_rfl
def u2m:AFun:=(fun (a:AFun) (_:Gam.fn 155=some a)=>a) _ (by conv=>lhs;reduce;simp only[z4,z5])
def k0x:ACode:=(fun (a:ACode) (_:fl [] (lp u2m 0)=a)=>a) _ (by conv=>lhs;reduce;simp only[z4,z5])
attribute [local irreducible] k0x
def w8l:AFun:=(fun (a:AFun) (_:flF [k0x] u2m=a)=>a) _ (by conv=>lhs;reduce;simp only[z4,z5])
theorem y7h:Gam.fn 155=some w8l:=by kernel_rfl
def w8m:AFun:=(fun (a:AFun) (_:Gam.fn 94=some a)=>a) _ (by conv=>lhs;reduce;simp only[z4,z5])
theorem y7i:Gam.fn 94=some w8m:=by kernel_rfl
def w8n:AFun:=(fun (a:AFun) (_:Gam.fn 96=some a)=>a) _ (by conv=>lhs;reduce;simp only[z4,z5])
theorem y7j:Gam.fn 96=some w8n:=by kernel_rfl
def u2n:AFun:=(fun (a:AFun) (_:Gam.fn 224=some a)=>a) _ (by conv=>lhs;reduce;simp only[z4,z5])
def j3h:ACode:=(fun (a:ACode) (_:fl [] (lp u2n 0)=a)=>a) _ (by conv=>lhs;reduce;simp only[z4,z5])
attribute [local irreducible] j3h
def w8o:AFun:=(fun (a:AFun) (_:flF [j3h] u2n=a)=>a) _ (by conv=>lhs;reduce;simp only[z4,z5])
theorem y7k:Gam.fn 224=some w8o:=by kernel_rfl
def v7r:AFun:=(fun (a:AFun) (_:Gam.fn 272=some a)=>a) _ (by conv=>lhs;reduce;simp only[z4,z5])
theorem y7l:Gam.fn 272=some v7r:=by kernel_rfl
def w8p:AFun:=(fun (a:AFun) (_:Gam.fn 305=some a)=>a) _ (by conv=>lhs;reduce;simp only[z4,z5])
theorem y7m:Gam.fn 305=some w8p:=by kernel_rfl
def w8q:AFun:=(fun (a:AFun) (_:Gam.fn 306=some a)=>a) _ (by conv=>lhs;reduce;simp only[z4,z5])
theorem y7n:Gam.fn 306=some w8q:=by kernel_rfl
end
section
variable {D L:List AObj} {B k g:Nat} {o:AObj}
theorem z2o (hB:D.length=B):(D++L).set (B + k) o=D++L.set k o:=by
 subst hB
 rw[List.set_append_right _ _ (by omega)]
 congr 2
 omega
theorem z2u (hB:D.length=B):(D++L)[B + k]? =L[k]? :=by
 subst hB
 rw[b0 (by omega)]
 congr 1
 omega
theorem z3n (hB:D.length=B):z2f (D++L) (B + k) g=z2f L k g:=by
 unfold z2f
 rw[z2u hB]
theorem x4t (hB:D.length=B):z5d (D++L) (B + k) g=z5d L k g:=by
 unfold z5d
 rw[z2u hB]
theorem q1o {s:Nat} (hB:D.length=B) (h:s < B):(D++L).set s o=D.set s o++L:=List.set_append_left _ _ (hB ▸ h)
theorem z0m {s:Nat} (hB:D.length=B) (h:s < B):(D++L)[s]? =D[s]? :=g9 (hB ▸ h)
theorem z1y {s:Nat} (hB:D.length=B) (h:s < B):z2f (D++L) s g=z2f D s g:=by
 unfold z2f
 rw[z0m hB h]
theorem j0o {s:Nat} {es:List AV} {r w:Bool} {z:Nat} (hB:D.length=B) (h:s < B):z2f (D.set s (.blk g es r w z)++L) s g=some (es,r,w,z):=by
 rw[z1y (B:=B) (by rw[y5];exact hB) h]
 subst hB
 simp[z2f,h]
theorem set_set {s:Nat} {o':AObj} (hB:D.length=B) (h:s < B):(D.set s o++L).set s o'=D.set s o'++L:=by
 rw[q1o (B:=B) (by rw[y5];exact hB) h,List.set_set]
theorem k6o {os:List AObj} {es:List AV} {r w:Bool} {z:Nat}:z2f (.blk g es r w z::os) 0 g=some (es,r,w,z):=by simp[z2f]
theorem k6p {os:List AObj}:z2f (o::os) (k + 1) g=z2f os k g:=by simp[z2f]
theorem z2m {s:Nat} {es:List AV} {r w:Bool} {z:Nat} (h:D[s]? =some (.blk g es r w z)):z2f D s g=some (es,r,w,z):=by simp[z2f,h]
theorem j3i {os:List AObj} {es:List (AV×AV)}:z5d (.map g es::os) 0 g=some es:=by simp[z5d]
theorem j3j {os:List AObj}:z5d (o::os) (k + 1) g=z5d os k g:=by simp[z5d]
theorem z6f {h:List AObj} {s i o sz:Nat} {v:AV}:z8n h sz v (.ptr s g i o)=match z2f h s g with
 | some (es,row,grow,fz)=>
   match es[i]?,(if row then pub h v else some (v,h)) with
   | some e,some (v',h')=>
     if v'.def? =true∧v'.cells.length=sz∧v'.cells.all AV.one=true∧(row=true→fz≤i∧ !(v.obs.map (·.1)).contains s) then
      (z7m e.cells o v'.cells).map fun cs=>(.undef,h'.set s (.blk g (es.set i (z7l e cs)) row grow fz))
     else none
   | _,_=>none
 | none=>none:=rfl
end
theorem j7g {cs:List AV} {o:Nat}:z1w cs o none=cs[o]? :=(rfl)
theorem j7h {cs:List AV} {o n:Nat}:z1w cs o (some n)=if o + n≤cs.length then some (.agg ((cs.drop o).take n)) else none:=(rfl)
attribute [go_sem] z6f v5n z7m List.all_cons List.all_nil Bool.and_true Bool.true_and Bool.and_self List.isEmpty_cons z8 Bool.not_false Bool.or_self Bool.or_false Bool.false_or j9 false_implies true_and and_true and_self List.singleton_append y6 y8 j7g j7h v5 List.length_nil List.drop_zero List.drop_succ_cons List.take_succ_cons List.take_zero List.take_nil z2o z3n x4t k6o k6p j3i j3j List.replicate_succ List.replicate_zero List.set_cons_zero List.set_cons_succ List.getElem?_cons_zero List.getElem?_cons_succ cvL AV.cv
def q4z (l:List Int):List AV:=l.map fun n=> .int .i64 n
def chObj (g:Nat) (l:List Int) (i:Nat):AObj:= .blk g [.agg [.sl (q4z l) .no, .int .i64 i]] false false 0
def q7t (l:List Int):Prop:=l.length≤400∧∀ z∈l, -9223372036854775808≤z∧z≤9223372036854775807
theorem q5a {l:List Int}:z0i (q4z l)=[]:=by
 induction l with
 | nil=>rfl
 | cons a l ih=>simpa [q4z,z0i,AV.ids] using ih
theorem q1p {g i:Nat} {l:List Int}:(chObj g l i).ids=[]:=by simp[chObj,AObj.ids,z0i,AV.ids,q5a]
theorem q2q {l:List Int}:(q4z l).length=l.length:=z6 _
theorem k6q {l:List Int} {i:Nat} (h:i < l.length):(q4z l)[i]? =some (.int .i64 l[i]):=by simp[q4z,h]
theorem k6r {l:List Int} {i:Nat} {h:List AObj} {t:Tip} {k:IntKind} (hi:i < l.length):z1v h 1 (.sl (q4z l) t) (.int k (i:Int))=some (.iptr [.int .i64 l[i]] 0,h):=z4i (k6q hi) rfl
def GenOk (l:List Int) (f:Nat) (args:List AV) (R:AV→Prop):Prop:=
 ∀ h s g i clk (Q:AV→List AObj→Nat→Prop),h[s]? =some (chObj g l i)→i≤l.length→(∀ v i',i'≤l.length→R v→Q v (h.set s (chObj g l i')) clk)→
   WC Gam f (.ptr s g 0 0::args) h clk Q∧z0z Gam f (.ptr s g 0 0::args) h=[s]
theorem GenOk.of {l:List Int} {f:Nat} {args az:List AV} {af:AFun} {R:AV→Prop} (hext:Gam.ext f=none) (hfn:Gam.fn f=some af) (hb:af.byref=[]) (ho:af.owned=false) (hobs:z4u args=[]) (has:cvL args=az) (hids:z0i az=[])
  (hw:∀ (D:List AObj) (B s g i clk:Nat) (T:AV→List AObj→Prop),D.length=B→s < B→D[s]? =some (chObj g l i)→i≤l.length→(∀ v h' i',h'[s]? =some (chObj g l i')→i'≤l.length→R v→T v h')→
   K Gam B af.body [] ⟨q0f (.ptr s g 0 0::az),D++x3 af.nslots .dead,clk⟩ (j9v [s] af.results T)):GenOk l f args R:=by
 intro h s g i clk Q hs hi hQ
 have hobs':z4u (.ptr s g 0 0::args)=[]:=by simp[z4u,AV.obs,hobs]
 have has':cvL (.ptr s g 0 0::args)= .ptr s g 0 0::az:=by simp[cvL,AV.cv,has]
 have hids':z0i (.ptr s g 0 0::az)=[s]:=by simp[z0i,AV.ids,hids]
 refine⟨?_, ?_⟩
 ·refine w2v hext hfn hb ho hobs' has' hids' hs q1p fun D B T hB hD hlt hT=>hw D B s g i clk T hB hlt hD hi fun v h' i' h1 h2 h3=>hT v h' _ h1 q1p (hQ v i' h2 h3)
 ·unfold z0z
  have hp:z1q h af.byref 0 (.ptr s g 0 0::args)=some (.ptr s g 0 0::az):=by rw[hb,z2g hobs',has']
  simp only[hext,hfn,hp,hobs',hids',k8,y8,reach,List.contains_nil,j9,if_false,hs,j5,q1p,d4]
  cases h.length <;> rfl
theorem j7i {f g f' g':List Nat×List Nat} (hf1:∀ x∈f'.1,x∈f.1) (hf2:∀ x∈f'.2,x∈f.2) (hg1:∀ x∈g'.1,x∈g.1) (hg2:∀ x∈g'.2,x∈g.2) (h:apart f g=true):apart f' g'=true:=by
 simp only[apart,z0q,y4,y9,Bool.not_eq_true',List.contains_eq_mem,n9] at h⊢
 exact⟨⟨fun x hx hy=>h.1.1 x (hf2 x hx) (hg1 x hy),fun x hx hy=>h.1.2 x (hf2 x hx) (hg2 x hy)⟩,fun x hx hy=>h.2 x (hg2 x hx) (hf1 x hy)⟩
def FeetLe (fs gs:List (List Nat×List Nat)):Prop:=fs.length=gs.length∧∀ i,(∀ x∈(fs.getD i ([],[])).1,x∈(gs.getD i ([],[])).1)∧(∀ x∈(fs.getD i ([],[])).2,x∈(gs.getD i ([],[])).2)
theorem j0p {N:Nat} {ops:List AOper} {fs gs:List (List Nat×List Nat)} {ps:List (Nat×Nat)} (hl:FeetLe fs gs) (h:z1r N ops gs ps=true):z1r N ops fs ps=true:=by
 unfold z1r at h⊢
 rw[y9] at h⊢
 intro p hp
 have:=h p hp
 simp only[y4,Bool.or_eq_true] at this⊢
 refine⟨j7i (hl.2 p.1).1 (hl.2 p.1).2 (hl.2 p.2).1 (hl.2 p.2).2 this.1,this.2.imp id fun h2=> ?_⟩
 rw[y9] at h2⊢
 intro x hx
 refine h2 x ?_
 simp only[z1t,x4] at hx⊢
 rcases hx with (hx | hx) | (hx | hx)
 ·exact .inl (.inl ((hl.2 p.1).1 x hx))
 ·exact .inl (.inr ((hl.2 p.1).2 x hx))
 ·exact .inr (.inl ((hl.2 p.2).1 x hx))
 ·exact .inr (.inr ((hl.2 p.2).2 x hx))
theorem FeetLe.mid {fs gs:List (List Nat×List Nat)} {f f':List Nat×List Nat} (h1:∀ x∈f.1,x∈f'.1) (h2:∀ x∈f.2,x∈f'.2):FeetLe (fs++[f]++gs) (fs++[f']++gs):=by
 refine⟨by simp,fun i=> ?_⟩
 simp only[List.getD_eq_getElem?_getD,u4,y6,y8]
 rcases Nat.lt_trichotomy i fs.length with h | h | h
 ·rw[g9 h,g9 h]
  exact⟨fun x hx=>hx,fun x hx=>hx⟩
 ·subst h
  simp only[b0 (x7 _),Nat.sub_self,List.getElem?_cons_zero,d4]
  exact⟨h1,h2⟩
 ·obtain⟨j,rfl⟩:∃ j,i=fs.length + (j + 1):=⟨i - fs.length - 1,by omega⟩
  rw[b0 (by omega),b0 (by omega),show fs.length + (j + 1) - fs.length=j + 1 by omega]
  exact⟨fun x hx=>hx,fun x hx=>hx⟩
theorem j3k {base g:Nat} {os:List AOper} {s:St} {ks:List Kf} {Q:Post} {m:Md} {f f':List Nat×List Nat} (h1:∀ x∈f.1,x∈f'.1) (h2:∀ x∈f.2,x∈f'.2) (h:O Gam base (m.add f') g os s ks Q):O Gam base (m.add f) g os s ks Q:=by
 obtain⟨k,s',fs,h3,h4,h5⟩:=h
 refine⟨k,s',fs,h3, ?_,h5⟩
 cases m with
 | plain=>exact h4
 | draw N ops ps gs=>
   simp only[Md.add,q4u,Md.ok] at h4⊢
   exact j0p (FeetLe.mid h1 h2) h4
theorem z0l {l:List Int} {f base B s g i clk gg:Nat} {args:List AV} {R:AV→Prop} {D L:List AObj} {m:Md} {dst:Option Nat} {os:List AOper} {ts:Tmps} {ks:List Kf} {Q:Post} (hg:GenOk l f args R) (hB:D.length=B) (hs:s < B) (hD:D[s]? =some (chObj g l i)) (hi:i≤l.length)
  (hQ:∀ v D' i',R v→D'.length=B→D'[s]? =some (chObj g l i')→i'≤l.length→O Gam base (m.add ([s],[s])) (gg + 1) os ⟨z8g ts dst v,D'++L,clk⟩ ks Q):CK Gam base f (.ptr s g 0 0::args) (D++L) clk m dst gg os ts ks Q:=by
 unfold CK
 have hD':(D++L)[s]? =some (chObj g l i):=by rw[z0m hB hs];exact hD
 obtain⟨_,hf⟩:=hg (D++L) s g i clk (fun _ _ _=>True) hD' hi (fun _ _ _ _=>trivial)
 refine (hg (D++L) s g i clk _ hD' hi fun v i' hi' hv=> ?_).1
 refine j3k (f':=([s],[s])) ?_ ?_ ?_
 ·rw[hf];exact fun x hx=>hx
 ·rw[hf];exact fun x hx=>(List.mem_filter.1 hx).1
 ·rw[q1o hB hs]
  exact hQ v _ i' hv (by rw[y5];exact hB) (by subst hB;simp[hs]) hi'
theorem j3l {z:Int}:IntKind.u64.wrap z=z % 18446744073709551616:=by simp[IntKind.wrap,IntKind.signed,IntKind.bits]
theorem w8r {z n:Int} (hn:0 < n) (hn2:n < 2 ^ 62):∃ r:Int,0≤r∧r < n∧Pure Gam 66 [.int .i64 z, .int .i64 n] (.int .i64 r):=by
 have hw:0≤IntKind.u64.wrap z:=by rw[j3l];omega
 have hwn:IntKind.u64.wrap n=n:=by rw[j3l];omega
 have h1:0≤(IntKind.u64.wrap z).tmod n:=Int.tmod_nonneg _ hw
 have h2:(IntKind.u64.wrap z).tmod n < n:=Int.tmod_lt_of_pos _ hn
 refine⟨(IntKind.u64.wrap z).tmod n,h1,h2,Pure.of rfl u5x rfl rfl rfl rfl rfl fun D B clk T hB hT=> ?_⟩
 simp only[go_sem,u2f,hwn]
 rw[q1d (by omega)]
 simp only[go_sem,]
 rw[z0h rfl rfl,z0c (by omega) (by omega)]
 exact hT _
theorem z3u {l:List Int} {n:Int} (hl:q7t l) (hn:0 < n) (hn2:n < 2 ^ 62):GenOk l 25 [.int .i64 n] fun v=>∃ r:Int,v= .int .i64 r∧0≤r∧r < n:=by
 refine GenOk.of rfl u5u rfl rfl rfl rfl rfl fun D B s g i clk T hB hs hD hi hT=> ?_
 have hb:=z2m (g:=g) hD
 simp only[go_sem,u2b,z1y hB hs,hb,q2q]
 refine z8m (fun hc=> ?_) (fun hc=> ?_)
 ·simp only[go_sem,z1y hB hs,hb,q2q]
  rw[z0h rfl rfl]
  exact hT _ _ i (by rw[z0m hB hs];exact hD) hi ⟨0,rfl,by omega,by omega⟩
 ·have hlt:i < l.length:=by simpa using hc
  have hl400:=hl.1
  have e0:IntKind.i64.wrap ((i:Int) + 1)=(i:Int) + 1:=z0c (by omega) (by omega)
  have e1:IntKind.i64.wrap ((i:Int) + 1 - 1)=(i:Int):=by rw[z0c (by omega) (by omega)];omega
  simp only[go_sem,z1y hB hs,hb,q2q,e0,e1,q1o hB hs,j0o hB hs,k6r hlt]
  obtain⟨r,h1,h2,hp⟩:=w8r (z:=l[i]) hn hn2
  rw[z0a hp]
  simp only[go_sem,Md.add]
  rw[z0h rfl rfl]
  exact hT _ _ (i + 1) (by rw[z0m (by rw[y5];exact hB) hs];subst hB;simp[hs,chObj]) (by omega) ⟨r,rfl,h1,h2⟩
theorem k6s {l:List Int}:GenOk l 26 [] fun v=>∃ b:Bool,v= .bool b:=by
 refine GenOk.of rfl u5v rfl rfl rfl rfl rfl fun D B s g i clk T hB hs hD hi hT=> ?_
 have hb:=z2m (g:=g) hD
 simp only[go_sem,u2d,z1y hB hs,hb,q2q]
 rw[z0h rfl rfl]
 exact hT _ _ i (by rw[z0m hB hs];exact hD) hi ⟨_,rfl⟩
section
variable {h:List AObj} {base g k:Nat} {ts:Tmps} {z:AV}
theorem k0y {n:Nat} {ps:List (Nat×AOpd)} (hz:z.def? =true) (hp:ps.map (·.1)=List.range n) (ho:z4u (ps.map fun p=>p.2.ev ts)=[])
  (hv:∀ v∈cvL (ps.map fun p=>p.2.ev ts),v.def? =true∧v.cells.length=z.cells.length):prim h base g ts (.buildSlice k false z n ps)=some (.sl (cvL (ps.map fun p=>p.2.ev ts)) .full,h):=by
 have key:∀ (vs es:List AV) (j:Nat),(∀ v∈vs,v.def? =true∧v.cells.length=z.cells.length)→es.length=j + vs.length→z4f z.cells.length es ((List.range vs.length).map (· + j)) vs=some (es.take j++vs):=by
  intro vs
  induction vs with
  | nil=>intro es j _ hl;simp[z4f];rw[List.take_of_length_le (by simp at hl;omega)]
  | cons v vs ih=>
    intro es j hv hl
    have hlt:j < es.length:=by simp at hl;omega
    have h1:=hv v List.mem_cons_self
    rw[v5,List.range_succ_eq_map]
    simp only[j4,List.map_map,k6,z4f,hlt,h1,and_self,if_true]
    have:=ih (es.set j v) (j + 1) (fun w hw=>hv w (List.mem_cons_of_mem _ hw)) (by simp at hl⊢;omega)
    rw[show (List.range vs.length).map ((fun x=>x + j)∘Nat.succ)=(List.range vs.length).map (· + (j + 1)) from List.map_congr_left fun a _=>by simp only[Function.comp];omega,this]
    congr 1
    rw[List.take_add_one,List.getElem?_set_self (by omega),List.take_set_of_le (x7 _)]
    simp
 have hn:n=(cvL (ps.map fun p=>p.2.ev ts)).length:=by
  have h1:=congrArg List.length hp
  simp only[z6,List.length_range] at h1
  have h2:∀ l:List AV,(cvL l).length=l.length:=fun l=>by induction l with
   | nil=>rfl
   | cons a l ih=>simp[cvL,ih]
  rw[h2,z6,h1]
 have h3:=key _ (x3 n z) 0 hv (by rw[List.length_replicate];omega)
 rw[←hn] at h3
 simp only[Nat.add_zero,List.map_id',List.take_zero,y8] at h3
 simp only[prim,hz,z8,j9,if_false,q4w ho,hp,h3,ho,freezeAll,j5]
def bsV (h:List AObj) (z:AV) (n:Nat) (js:List Nat) (vs:List AV):Option (AV×List AObj):=
 if !z.def? then none else match z8f h vs with
  | some ws=>(z4f z.cells.length (x3 n z) js ws).map fun es=>(.sl es .full,freezeAll h (z4u vs))
  | none=>none
theorem y4j {n:Nat} {ps:List (Nat×AOpd)}:prim h base g ts (.buildSlice k false z n ps)=bsV h z n (ps.map (·.1)) (ps.map fun p=>p.2.ev ts):=by
 simp only[prim,bsV,j9,if_false]
 rfl
section
variable {v v2 v3 v4:AV}
theorem y7o (hz:z.def? =true) (ho:v.obs=[]) (hd:v.cv.def? =true) (hl:v.cv.cells.length=z.cells.length):bsV h z 1 [0] [v]=some (.sl [v.cv] .full,h):=by
 have:=k0y (h:=h) (base:=0) (g:=0) (k:=0) (ts:=fun _=>v) (z:=z) (n:=1) (ps:=[(0, .const v)]) hz rfl (by simp[z4u,ho,AOpd.ev]) (by simp[cvL,hd,hl,AOpd.ev])
 rw[y4j] at this
 simpa [cvL,AOpd.ev] using this
theorem u6a (hz:z.def? =true) (ho:v.obs=[]) (hd:v.cv.def? =true) (hl:v.cv.cells.length=z.cells.length) (ho2:v2.obs=[]) (hd2:v2.cv.def? =true) (hl2:v2.cv.cells.length=z.cells.length):bsV h z 2 [0,1] [v,v2]=some (.sl [v.cv,v2.cv] .full,h):=by
 have:=k0y (h:=h) (base:=0) (g:=0) (k:=0) (ts:=fun _=>v) (z:=z) (n:=2) (ps:=[(0, .const v),(1, .const v2)]) hz rfl (by simp[z4u,ho,ho2,AOpd.ev]) (by simp[cvL,hd,hl,hd2,hl2,AOpd.ev])
 rw[y4j] at this
 simpa [cvL,AOpd.ev] using this
theorem u6b (hz:z.def? =true) (ho:v.obs=[]) (hd:v.cv.def? =true) (hl:v.cv.cells.length=z.cells.length) (ho2:v2.obs=[]) (hd2:v2.cv.def? =true) (hl2:v2.cv.cells.length=z.cells.length) (ho3:v3.obs=[]) (hd3:v3.cv.def? =true) (hl3:v3.cv.cells.length=z.cells.length):bsV h z 3 [0,1,2] [v,v2,v3]=some (.sl [v.cv,v2.cv,v3.cv] .full,h):=by
 have:=k0y (h:=h) (base:=0) (g:=0) (k:=0) (ts:=fun _=>v) (z:=z) (n:=3) (ps:=[(0, .const v),(1, .const v2),(2, .const v3)]) hz rfl (by simp[z4u,ho,ho2,ho3,AOpd.ev]) (by simp[cvL,hd,hl,hd2,hl2,hd3,hl3,AOpd.ev])
 rw[y4j] at this
 simpa [cvL,AOpd.ev] using this
end
section
variable {dst:Option Nat} {os:List AOper} {clk:Nat} {ks:List Kf} {Q:Post}
theorem u6c {n:Nat} {ps:List (Nat×AOpd)}:O Gam base .plain g (⟨dst, .buildSlice k false z n ps,none⟩::os) ⟨ts,h,clk⟩ ks Q=PP Gam base (bsV h z n (ps.map (·.1)) (ps.map fun p=>p.2.ev ts)) dst g os ts clk ks Q:=by rw[q3u rfl,y4j]
end
theorem v7s {cs:List AV}:(AV.agg cs).obs=z4u cs:=(rfl)
theorem w8s {cs:List AV} {t:Tip}:(AV.sl cs t).obs=[]:=(rfl)
theorem k0z {k:IntKind} {n:Int}:(AV.int k n).obs=[]:=(rfl)
theorem v7t {n:List Nat}:(AV.str n).obs=[]:=(rfl)
theorem k6t {n:Bool}:(AV.bool n).obs=[]:=(rfl)
theorem k6u:z4u []=[]:=(rfl)
theorem k1a {v:AV} {vs:List AV}:z4u (v::vs)=v.obs++z4u vs:=(rfl)
attribute [go_sem] u6c y7o u6a u6b z5o v7s w8s k0z v7t k6t k6u k1a
section
variable {dst:Option Nat} {os:List AOper} {clk:Nat} {ks:List Kf} {Q:Post}
def k4k (h:List AObj):AV→Option (AV×List AObj)
 | .str _=>none
 | x=>((z6k h x).bind z6w).map fun s=>(.str s,h)
theorem v7u {xs:List AV} {t:Tip}:k4k h (.sl xs t)=(z6w xs).map fun s=>(.str s,h):=(rfl)
def u2o (h:List AObj):AV→Option (AV×List AObj)
 | .str s=>some (.sl (s.map fun (b:Nat)=> .int .u8 (Int.ofNat b)) .no,h)
 | _=>none
theorem k6v {s:List Nat}:u2o h (.str s)=some (.sl (s.map fun (b:Nat)=> .int .u8 (Int.ofNat b)) .no,h):=(rfl)
def mmV (h:List AObj) (mx:Bool):AV→AV→Option (AV×List AObj)
 | .int k a, .int _ b=>some (.int k (if mx then (if b > a then b else a) else (if b < a then b else a)),h)
 | _,_=>none
theorem v7v {mx:Bool} {k j:IntKind} {a b:Int}:mmV h mx (.int k a) (.int j b)=some (.int k (if mx then (if b > a then b else a) else (if b < a then b else a)),h):=(rfl)
def lkV (h:List AObj) (t:ETy) (z:AV) (ok:Bool) (es:Option (List (AV×AV))) (ix:AV):Option (AV×List AObj):=
 match es with
 | some es=>if (ix.eqv t ix).isSome=true then (findKey t ix es).map fun r=>(q4f ok z r,h) else none
 | none=>none
def muV (h:List AObj) (t:ETy) (k v:AV):AV→Option (AV×List AObj)
 | .mp s g=>match z5d h s g,pub h v with
   | some es,some (v',h')=>if (k.eqv t k).isSome=true then (z6j t k v' es).map fun es'=>(.undef,h'.set s (.map g es')) else none
   | _,_=>none
 | _=>none
def msV (h:List AObj) (s g:Nat) (z:AV) (bytes:Nat):AV→AV→Option (AV×List AObj)
 | .int _ n, .int _ c=>
   if 0≤n∧n≤c∧c * (bytes + 1)≤z1e∧z.def? =true then some (.ob s g 0 n.toNat,h.set s (.blk g (x3 c.toNat z) true false 0)) else none
 | _,_=>none
def slV (h:List AObj) (esz:Option Nat) (x:AV) (lo hi mx:Option AV):Option (AV×List AObj):=(z2v h esz x lo hi mx).map (·,h)
theorem k1b {x:AOpd}:O Gam base .plain g (⟨dst, .ofBytes x,none⟩::os) ⟨ts,h,clk⟩ ks Q=PP Gam base (k4k h (x.ev ts)) dst g os ts clk ks Q:=by
 rw[q3u rfl];congr 1
theorem k1c {x:AOpd}:O Gam base .plain g (⟨dst, .toBytes x,none⟩::os) ⟨ts,h,clk⟩ ks Q=PP Gam base (u2o h (x.ev ts)) dst g os ts clk ks Q:=by
 rw[q3u rfl];congr 1
theorem k6w {x y:AOpd} {mx:Bool}:O Gam base .plain g (⟨dst, .minmax mx x y,none⟩::os) ⟨ts,h,clk⟩ ks Q=PP Gam base (mmV h mx (x.ev ts) (y.ev ts)) dst g os ts clk ks Q:=by
 rw[q3u rfl];congr 1
theorem k6x {t:ETy} {z:AV} {x ix:AOpd} {ok:Bool}:O Gam base .plain g (⟨dst, .lookup t z x ix ok,none⟩::os) ⟨ts,h,clk⟩ ks Q=PP Gam base (lkV h t z ok (x6n h (x.ev ts)) (ix.ev ts)) dst g os ts clk ks Q:=by
 rw[q3u rfl];rfl
theorem j0q {t:ETy} {m k v:AOpd}:O Gam base .plain g (⟨dst, .mapUpdate t m k v,none⟩::os) ⟨ts,h,clk⟩ ks Q=PP Gam base (muV h t (k.ev ts) (v.ev ts) (m.ev ts)) dst g os ts clk ks Q:=by
 rw[q3u rfl];congr 1
theorem j0r {k:Nat} {z:AV} {b:Nat} {n c:AOpd}:O Gam base .plain g (⟨dst, .makeSlice k z b n c,none⟩::os) ⟨ts,h,clk⟩ ks Q=PP Gam base (msV h (base + k) g z b (n.ev ts) (c.ev ts)) dst g os ts clk ks Q:=by
 rw[q3u rfl];congr 1
theorem v7w {esz:Option Nat} {x:AOpd} {lo hi mx:Option AOpd}:O Gam base .plain g (⟨dst, .slice esz x lo hi mx,none⟩::os) ⟨ts,h,clk⟩ ks Q=PP Gam base (slV h esz (x.ev ts) (lo.map (·.ev ts)) (hi.map (·.ev ts)) (mx.map (·.ev ts))) dst g os ts clk ks Q:=by
 rw[q3u rfl];rfl
end
attribute [go_sem] v7u k6v v7v k1b k1c k6w k6x j0q j0r v7w
section
variable {dst:Option Nat} {os os0:List AOper} {clk N:Nat} {ks:List Kf} {Q:Post} {ps:List (Nat×Nat)} {fs:List (List Nat×List Nat)}
theorem w8t {x:AOpd}:O Gam base (.draw N os0 ps fs) g (⟨dst,(.move x),none⟩::os) ⟨ts,h,clk⟩ ks Q=PO Gam base (some (x.ev ts,h)) (([],[])) (.draw N os0 ps fs) dst g os ts clk ks Q:=by rw[z6n rfl];congr 1
theorem w8u {c a b:AOpd}:O Gam base (.draw N os0 ps fs) g (⟨dst,(.pick c a b),none⟩::os) ⟨ts,h,clk⟩ ks Q=PO Gam base (j9x h (c.ev ts) (a.ev ts) (b.ev ts)) (([],[])) (.draw N os0 ps fs) dst g os ts clk ks Q:=by rw[z6n rfl];congr 1;exact v1f
theorem v7x {k:Nat} {z:AV}:O Gam base (.draw N os0 ps fs) g (⟨dst,(.alloc k z),none⟩::os) ⟨ts,h,clk⟩ ks Q=PO Gam base (v5n h (base + k) g z) (([],[base + k])) (.draw N os0 ps fs) dst g os ts clk ks Q:=by rw[z6n rfl];congr 1
theorem y7p {k:Nat} {x:AOpd}:O Gam base (.draw N os0 ps fs) g (⟨dst,(.box k x),none⟩::os) ⟨ts,h,clk⟩ ks Q=PO Gam base (v5n h (base + k) g (x.ev ts)) (([],[base + k])) (.draw N os0 ps fs) dst g os ts clk ks Q:=by rw[z6n rfl];congr 1
theorem v7y {z:List AV} {qs:List (Nat×Nat×AOpd)}:O Gam base (.draw N os0 ps fs) g (⟨dst,(.build z qs),none⟩::os) ⟨ts,h,clk⟩ ks Q=PO Gam base ((z5o z (qs.map fun p=>(p.1,p.2.1,p.2.2.ev ts))).map fun cs=>(.agg cs,h)) (([],[])) (.draw N os0 ps fs) dst g os ts clk ks Q:=by rw[z6n rfl];congr 1
theorem u6d {k n:Nat} {z:AV} {qs:List (Nat×AOpd)}:O Gam base (.draw N os0 ps fs) g (⟨dst,(.buildSlice k false z n qs),none⟩::os) ⟨ts,h,clk⟩ ks Q=PO Gam base (bsV h z n (qs.map (·.1)) (qs.map fun p=>p.2.ev ts)) (([],(z4u (qs.map fun p=>p.2.ev ts)).map (·.1))) (.draw N os0 ps fs) dst g os ts clk ks Q:=by rw[z6n rfl];congr 1
theorem w8v {sz:Option Nat} {a:AOpd}:O Gam base (.draw N os0 ps fs) g (⟨dst,(.load sz a),none⟩::os) ⟨ts,h,clk⟩ ks Q=PO Gam base (q1n h sz (a.ev ts)) (((a.ev ts).ids,[])) (.draw N os0 ps fs) dst g os ts clk ks Q:=by rw[z6n rfl];congr 1
theorem v7z {sz:Nat} {a x:AOpd}:O Gam base (.draw N os0 ps fs) g (⟨dst,(.store sz a x),none⟩::os) ⟨ts,h,clk⟩ ks Q=PO Gam base (z8n h sz (x.ev ts) (a.ev ts)) (([],(a.ev ts).ids++(x.ev ts).obs.map (·.1))) (.draw N os0 ps fs) dst g os ts clk ks Q:=by rw[z6n rfl];congr 1
theorem j7j {x:AOpd}:O Gam base (.draw N os0 ps fs) g (⟨dst,(.nilCheck x),none⟩::os) ⟨ts,h,clk⟩ ks Q=PO Gam base (k5r h (x.ev ts)) (([],[])) (.draw N os0 ps fs) dst g os ts clk ks Q:=by rw[z6n rfl];congr 1
theorem v8a {op:BinOp} {t:ETy} {x y:AOpd}:O Gam base (.draw N os0 ps fs) g (⟨dst,(.binOp op t x y),none⟩::os) ⟨ts,h,clk⟩ ks Q=PO Gam base (z8b h op t (x.ev ts) (y.ev ts)) (([],[])) (.draw N os0 ps fs) dst g os ts clk ks Q:=by rw[z6n rfl];congr 1
theorem j0s {x:AOpd} {o:Nat}:O Gam base (.draw N os0 ps fs) g (⟨dst,(.fieldAddr x o),none⟩::os) ⟨ts,h,clk⟩ ks Q=PO Gam base (j9y h o (x.ev ts)) (([],[])) (.draw N os0 ps fs) dst g os ts clk ks Q:=by rw[z6n rfl];congr 1
theorem k1d {x:AOpd} {i:Nat}:O Gam base (.draw N os0 ps fs) g (⟨dst,(.extract x i),none⟩::os) ⟨ts,h,clk⟩ ks Q=PO Gam base (y4h h i (x.ev ts)) (([],[])) (.draw N os0 ps fs) dst g os ts clk ks Q:=by rw[z6n rfl];congr 1
theorem j0t {esz:Nat} {x ix:AOpd}:O Gam base (.draw N os0 ps fs) g (⟨dst,(.indexAddr none esz x ix),none⟩::os) ⟨ts,h,clk⟩ ks Q=PO Gam base (z1v h esz (x.ev ts) (ix.ev ts)) (((x.ev ts).ids,[])) (.draw N os0 ps fs) dst g os ts clk ks Q:=by rw[z6n rfl];congr 1;exact q9j
theorem k6y {k esz b:Nat} {mu:Bool} {x y:AOpd}:O Gam base (.draw N os0 ps fs) g (⟨dst,(.append k esz b mu x y),none⟩::os) ⟨ts,h,clk⟩ ks Q=PO Gam base (z1a h (base + k) g esz b mu (x.ev ts) (y.ev ts)) (((y.ev ts).ids,(base + k)::(x.ev ts).ids)) (.draw N os0 ps fs) dst g os ts clk ks Q:=by rw[z6n rfl];congr 1
theorem v8b {esz:Option Nat} {x:AOpd} {lo hi mx:Option AOpd}:O Gam base (.draw N os0 ps fs) g (⟨dst,(.slice esz x lo hi mx),none⟩::os) ⟨ts,h,clk⟩ ks Q=PO Gam base (slV h esz (x.ev ts) (lo.map (·.ev ts)) (hi.map (·.ev ts)) (mx.map (·.ev ts))) (((x.ev ts).ids,[])) (.draw N os0 ps fs) dst g os ts clk ks Q:=by rw[z6n rfl];congr 1
theorem j7k {f:Nat} {cap:List AOpd}:O Gam base (.draw N os0 ps fs) g (⟨dst,(.makeFunc f cap),none⟩::os) ⟨ts,h,clk⟩ ks Q=PO Gam base (some (.fn f (cap.map (·.ev ts)),h)) (([],[])) (.draw N os0 ps fs) dst g os ts clk ks Q:=by rw[z6n rfl];congr 1
theorem w8w {op:UnOp} {x:AOpd}:O Gam base (.draw N os0 ps fs) g (⟨dst, .unOp op x,none⟩::os) ⟨ts,h,clk⟩ ks Q=PO Gam base (unV h op (x.ev ts)) ([],[]) (.draw N os0 ps fs) dst g os ts clk ks Q:=by rw[z6n rfl];congr 1
theorem u6e {v:AV} {f:List Nat×List Nat} {m:Md} {d:Nat}:PO Gam base (some (v,h)) f m (some d) g os ts clk ks Q=O Gam base (m.add f) (g + 1) os ⟨upd ts d v,h,clk⟩ ks Q:=(rfl)
theorem u6f {v:AV} {f:List Nat×List Nat} {m:Md}:PO Gam base (some (v,h)) f m none g os ts clk ks Q=O Gam base (m.add f) (g + 1) os ⟨ts,h,clk⟩ ks Q:=(rfl)
end
theorem v8c {a b c d:Nat}:(AV.ptr a b c d).ids=[a]:=(rfl)
theorem k6z {cs:List AV} {o:Nat}:(AV.iptr cs o).ids=z0i cs:=(rfl)
theorem k7a:z0i []=[]:=(rfl)
theorem k1e {v:AV} {vs:List AV}:z0i (v::vs)=v.ids++z0i vs:=(rfl)
theorem v8d {k:IntKind} {n:Int}:(AV.int k n).ids=[]:=(rfl)
theorem v8e {n:List Nat}:(AV.str n).ids=[]:=(rfl)
theorem k7b {n:Bool}:(AV.bool n).ids=[]:=(rfl)
def y7q (h:List AObj) (sz:Option Nat):AV→Option AV
 | .ptr s g i o=>match z2f h s g with
   | some (es,_,_,_)=>(es[i]?).bind fun e=>z1w e.cells o sz
   | none=>none
 | _=>none
def v3f:Option AV→Option (List AV)→Option (List AV)
 | some v,some vs=>some (v::vs)
 | _,_=>none
theorem z0g {v:AV} {vs:List AV}:v3f (some v) (some vs)=some (v::vs):=(rfl)
theorem z0s {s i o:Nat} {sz:Option Nat}:y7q h sz (.ptr s g i o)=match z2f h s g with
 | some (es,_,_,_)=>(es[i]?).bind fun e=>z1w e.cells o sz
 | none=>none:=(rfl)
theorem z0t {t:Nat} {sz:Option Nat} {rs:List ARes}:z1s h ts (.cell t sz::rs)=v3f (y7q h sz (ts t)) (z1s h ts rs):=by
 simp only[z1s,y7q]
 cases ts t <;> try rfl
 rename_i s g i o
 simp only
 cases z2f h s g with
 | none=>rfl
 | some x=>
   obtain⟨es,a,b,c⟩:=x
   simp only
   cases (es[i]?).bind fun e=>z1w e.cells o sz with
   | none=>rfl
   | some v=>cases z1s h ts rs <;> rfl
attribute [go_sem] w8w w8t w8u v7x y7p v7y u6d w8v v7z j7j v8a j0s k1d j0t k6y v8b j7k u6e u6f j6r v8c k6z k7a k1e v8d v8e k7b z0s z0g z0t Int.cast_ofNat_Int
def q3e (B k:Nat) (o:AObj) (t:Tip) (e:Nat):Prop:=t= .nil∨t= .full∨∃ g,t= .at (B + k) g∧o= .tip g e
theorem z1c {D L:List AObj} {B k esz b gen:Nat} {xs ys:List AV} {t u:Tip} {o:AObj} (hB:D.length=B) (ho:L[k]? =some o) (ht:q3e B k o t esz) (hx:z0r esz xs=true) (hy:z0r esz ys=true) (hl:(xs.length + ys.length) * (b + 1)≤2 ^ 46):
  z1a (D++L) (B + k) gen esz b false (.sl xs t) (.sl ys u)=some (.sl (xs++ys) (.at (B + k) gen),D++L.set k (.tip gen esz)):=by
 have hgt:¬ (xs.length + ys.length) * (b + 1) > z1e:=by unfold z1e;omega
 unfold z1a
 simp only[z6k,hy,z8,j9,if_false,hx,Bool.or_false,decide_eq_true_eq,hgt]
 rcases ht with rfl | rfl | ⟨g,rfl,rfl⟩
 ·simp only[z2o hB]
 ·simp only[z2o hB]
 ·simp only[z2u hB,ho,and_self,if_true,z2o hB,List.set_set]
theorem z1u {α:Type} {f:α→AV} {n:Nat} {l:List α} (hf:∀ x,(f x).def? =true∧(f x).cells.length=n∧(f x).cells.all AV.one=true):z0r n (l.map f)=true:=by
 induction l with
 | nil=>rfl
 | cons a l ih=>simp[z0r,hf a,ih]
end
structure Node where
 op:Nat
 sort:Nat
 name:List Nat
 num:List Nat
 kids:Nat
 deriving DecidableEq,Inhabited
structure Var where
 name:List Nat
 sort:Nat
 deriving DecidableEq,Inhabited
abbrev Term:=List Node
structure App where
 pred:List Nat
 args:List Term
structure Clause where
 vars:List Var
 body:List App
 guard:Term
 head:App
structure Func where
 name:List Nat
 args:List Nat
 result:Nat
 deriving DecidableEq
structure Sys where
 preds:List Func
 clauses:List Clause
def nat (n:Nat):AV:= .int .i64 (n:Int)
def eNode (n:Node):AV:= .agg [nat n.op,nat n.sort, .str n.name, .str n.num,nat n.kids]
def z2b (v:Var):AV:= .agg [.str v.name,nat v.sort]
def z0w (t:Term):AV:= .sl (t.map eNode) .no
def z4q (a:App):AV:= .agg [.str a.pred, .sl (a.args.map z0w) .no]
def z0j (c:Clause):AV:= .agg [.sl (c.vars.map z2b) .no, .sl (c.body.map z4q) .no,z0w c.guard, .str c.head.pred, .sl (c.head.args.map z0w) .no]
def z1m (f:Func):AV:= .agg [.str f.name, .sl (f.args.map nat) .no,nat f.result]
def z4e (s:Sys):AV:= .agg [.sl (s.preds.map z1m) .no, .sl (s.clauses.map z0j) .no]
theorem z0d {α:Type} {f:α→AV} {l:List α} (hf:∀ x,(f x).ids=[]):z0i (l.map f)=[]:=by
 induction l with
 | nil=>rfl
 | cons a l ih=>simp[z0i,hf a,ih]
theorem z3f {n:Nat}:(nat n).ids=[]:=(rfl)
theorem j3m {α:Type} {f:α→AV} {l:List α} (hf:∀ x,(f x).ids=[]):(AV.sl (l.map f) .no).ids=[]:=by simp[AV.ids,z0d hf]
theorem z2x (n:Node):(eNode n).ids=[]:=(rfl)
theorem z5z (v:Var):(z2b v).ids=[]:=(rfl)
theorem z3z (t:Term):(z0w t).ids=[]:=j3m z2x
theorem z4r (a:App):(z4q a).ids=[]:=by simp[z4q,AV.ids,z0i,z0d z3z]
theorem z4b (c:Clause):(z0j c).ids=[]:=by simp[z0j,AV.ids,z0i,z0d z5z,z0d z4r,z0d z3z,z3z]
theorem z5g (f:Func):(z1m f).ids=[]:=by simp[z1m,AV.ids,z0i,z0d (f:=nat) (fun _=>z3f),z3f]
theorem z4j (s:Sys):(z4e s).ids=[]:=by simp[z4e,AV.ids,z0i,z0d z5g,z0d z4b]
theorem k7c (t:Term):(z0w t).obs=[]:=(rfl)
theorem v8f (a:App):(z4q a).obs=[]:=(rfl)
theorem j7l (c:Clause):(z0j c).obs=[]:=(rfl)
theorem k1f (n:Node):(eNode n).cv=eNode n:=(rfl)
theorem v8g (t:Term):(z0w t).cv=z0w t:=(rfl)
theorem q3v {l:Term}:z0r 5 (l.map eNode)=true:=z1u fun _=>⟨rfl,rfl,rfl⟩
theorem z5h {l:List Var}:z0r 2 (l.map z2b)=true:=z1u fun _=>⟨rfl,rfl,rfl⟩
theorem z6a {l:List Term}:z0r 1 (l.map z0w)=true:=z1u fun _=>⟨rfl,rfl,rfl⟩
theorem q6b {l:List App}:z0r 2 (l.map z4q)=true:=z1u fun _=>⟨rfl,rfl,rfl⟩
theorem q0r {l:List Clause}:z0r 5 (l.map z0j)=true:=z1u fun _=>⟨rfl,rfl,rfl⟩
theorem z8d {l:List Nat}:z0r 1 (l.map nat)=true:=z1u fun _=>⟨rfl,rfl,rfl⟩
theorem k7d {t:Term}:(z0w t).def? =true:=(rfl)
theorem k1g {t:Term}:(z0w t).cells=[z0w t]:=(rfl)
attribute [go_sem] k7c v8f j7l k1f v8g q3v z5h z6a q6b q0r z8d k7d k1g
theorem z2y {T:List Nat} {v:AV} {R:AV→List AObj→Prop} {h:List AObj} (ho:v.obs=[]) (hi:v.cv.ids=[]):RV T (some [v]) R h=R v.cv h:=z0h (vs:=[v]) ho hi
theorem z0y {T:List Nat} {l:Term} {R:AV→List AObj→Prop} {h:List AObj}:RV T (some [z0w l]) R h=R (z0w l) h:=z2y rfl (z3z l)
theorem k1h {T:List Nat} {l:Term} {t:Tip} {R:AV→List AObj→Prop} {h:List AObj}:RV T (some [.sl (l.map eNode) t]) R h=R (z0w l) h:=z2y rfl (z3z l)
theorem z3v {α:Type} {f:α→AV} {l:List α} {i esz:Nat} {h:List AObj} {t:Tip} {k:IntKind} {cs:List AV} (hi:i < l.length) (hc:(f l[i]).cells=cs) (hl:cs.length=esz):z1v h esz (.sl (l.map f) t) (.int k (i:Int))=some (.iptr cs 0,h):=by
 rw[z4i (e:=f l[i]) (by simp[hi]) (by rw[hc];exact hl),hc]
theorem y7r {α β:Type} {f:α→β}:([]:List β)=([]:List α).map f:=rfl
theorem j0u {b:Bool}:Pure Gam 43 [.bool b] (z0w [⟨if b then 1 else 2,0,[],[],0⟩]):=by
 refine Pure.of rfl y7d rfl rfl rfl rfl rfl fun D B clk T hB hT=> ?_
 simp only[go_sem,w8f]
 refine z8m (fun hb=> ?_) (fun hb=> ?_)
 all_goals
  simp only[go_sem,]
  rw[z0h rfl rfl]
  simp only[hb,if_true,if_false,j9] at hT
  exact hT _
theorem x4u {s:Nat} {a:List Nat}:Pure Gam 121 [nat s, .str a] (z0w [⟨3,s,[],a,0⟩]):=by
 refine Pure.of rfl y7g rfl rfl rfl rfl rfl fun D B clk T hB hT=> ?_
 simp only[go_sem,w8i,nat]
 rw[z0h rfl rfl]
 exact hT _
theorem q5b {l:List Term} {i:Nat} {h:List AObj} {t:Tip} {k:IntKind} (hi:i < l.length):z1v h 1 (.sl (l.map z0w) t) (.int k (i:Int))=some (.iptr [z0w l[i]] 0,h):=z3v hi rfl rfl
theorem k1i {n:Node} {l:List Term} {u:Tip} (hl:l.length≤2 ^ 20) (hf:l.flatten.length≤2 ^ 30):Pure Gam 155 [eNode n, .sl (l.map z0w) u] (z0w ({n with kids:=l.length}::l.flatten)):=by
 refine Pure.of rfl y7h rfl rfl rfl (az:=[eNode n, .sl (l.map z0w) .no]) rfl (by simp[z0i,z2x,AV.ids,z0d z3z]) fun D B clk T hB hT=> ?_
 simp only[go_sem,w8l,eNode,hB,nat,z6]
 refine z1f (fun m s=>∃ (i:Nat) (acc:Term) (t:Tip) (a b o:AObj),i≤l.length∧m=l.length - i∧acc={n with kids:=l.length}::(l.take i).flatten∧s.ts 1= .sl (l.map z0w) .no∧s.ts 5= .sl (acc.map eNode) t∧s.ts 6= .int .i64 i∧s.h=D++[a,b,o]∧q3e B 2 o t 5) l.length ?_ ?_
 ·exact⟨0,_, .full,_,_,_,by simp,rfl,rfl,rfl,rfl,rfl,rfl, .inr (.inl rfl)⟩
 rintro m ⟨ts,h,clk⟩ P ⟨i,acc,t,a,b,o,hi,rfl,hacc,h1,h5,h6,rfl,ht⟩ hn he hr
 dsimp only at h1 h5 h6
 simp only[go_sem,h1,h5,h6,z6,k0x]
 refine z8m (fun hb=> ?_) (fun hb=> ?_)
 ·have hlt:i < l.length:=by simp at hb;omega
  have hlen:(l.take i).flatten.length + (l[i]).length≤l.flatten.length:=by
   have:=congrArg (fun x=>(List.flatten x).length) (List.take_append_drop i l)
   simp only[List.flatten_append,k7] at this
   rw[List.drop_eq_getElem_cons hlt] at this
   simp only[List.flatten_cons,k7] at this
   omega
  have ha:acc.length=(l.take i).flatten.length + 1:=by rw[hacc];rfl
  simp only[go_sem,h1,h5,h6,q5b hlt]
  rw[z0w,z1c hB rfl ht q3v q3v (by simp only[z6];omega)]
  simp only[go_sem,h1,h5,h6,←v8,z0c (n:=(i:Int) + 1) (by omega) (by omega)]
  refine hn (l.length - (i + 1)) _ (by omega) ⟨i + 1,acc++l[i],_,_,_,_,hlt,rfl, ?_,h1, ?_,rfl,rfl, .inr (.inr ⟨_,rfl,rfl⟩)⟩
  ·rw[hacc,List.take_succ_eq_append_getElem hlt]
   simp only[List.flatten_append,List.flatten_cons,List.flatten_nil,w9,y6]
  ·simp only[z0b,z0,cond_true,cond_false]
 ·have hge:i=l.length:=by simp at hb;omega
  subst hge
  simp only[go_sem,h5]
  refine he _ _ ?_
  simp only[go_sem,h5]
  rw[k1h]
  rw[List.take_length] at hacc
  rw[hacc]
  exact hT _
def dec (n:Nat):List Nat:=if n < 10 then [48 + n] else dec (n / 10)++[48 + n % 10]
termination_by n
def z0f (z:Int):List Nat:=if z < 0 then 45::dec z.natAbs else dec z.natAbs
theorem z6p {n:Nat} (h:n < 10):dec n=[48 + n]:=by rw[dec,if_pos h]
theorem k1j {n:Nat} (h:10≤n):dec n=dec (n / 10)++[48 + n % 10]:=by rw[dec,if_neg (by omega)]
theorem z7d (n:Nat):dec n≠[]:=by
 rw[dec]
 split
 ·simp
 ·simp
theorem z1d (n:Nat):∀ c∈dec n,48≤c∧c≤57:=by
 induction n using Nat.strongRecOn with
 | ind n ih=>
   rw[dec]
   split
   ·intro c hc;simp at hc;omega
   ·intro c hc
    rw[x4] at hc
    rcases hc with hc | hc
    ·exact ih (n / 10) (by omega) c hc
    ·simp at hc;omega
def z1g (s:List Nat):Nat:=s.foldl (fun a c=>10 * a + (c - 48)) 0
theorem z9x {s:List Nat} {c:Nat}:z1g (s++[c])=10 * z1g s + (c - 48):=by simp[z1g]
theorem z1h (n:Nat):z1g (dec n)=n:=by
 induction n using Nat.strongRecOn with
 | ind n ih=>
   rw[dec]
   split
   ·simp[z1g]
   ·rw[z9x,ih (n / 10) (by omega)];omega
theorem q9q {a b:Nat} (h:dec a=dec b):a=b:=by rw[←z1h a,←z1h b,h]
theorem j3n {n:Nat} (h:0 < n):∃ c s,dec n=c::s∧49≤c∧c≤57:=by
 induction n using Nat.strongRecOn with
 | ind n ih=>
   rw[dec]
   split
   ·exact⟨48 + n,[],rfl,by omega,by omega⟩
   ·obtain⟨c,s,h1,h2⟩:=ih (n / 10) (by omega) (by omega)
    exact⟨c,s++[48 + n % 10],by rw[h1];rfl,h2⟩
theorem z6q {n k:Nat} (hk:0 < k) (h:n < 10 ^ k):(dec n).length≤k:=by
 induction k generalizing n with
 | zero=>omega
 | succ k ih=>
   rw[dec]
   split
   ·simp
   ·rw[k7,v6]
    have h1:n / 10 < 10 ^ k:=by rw[b8] at h;omega
    have hk0:0 < k:=by
     rcases d7 k with rfl | h0
     ·simp at h1;omega
     ·exact h0
    have:=ih hk0 h1
    omega
theorem z9f:dec 0=[48]:=z6p (by omega)
theorem q3w {n:Nat}:dec n=[48]↔n=0:=⟨fun h=>q9q (h.trans z9f.symm),fun h=>h ▸ z9f⟩
theorem x2t {n:Nat}:dec n=[49]↔n=1:=⟨fun h=>q9q (h.trans (z6p (by omega):dec 1=_).symm),fun h=>h ▸ z6p (by omega)⟩
def w8x (s:List Nat):Prop:=s≠[]∧(∀ c∈s,48≤c∧c≤57)∧(s.length > 1→s.head? ≠some 48)
theorem z4c {c:Nat} {s:List Nat}:z1g (c::s)=(c - 48) * 10 ^ s.length + z1g s:=by
 have key:∀ (s:List Nat) (a:Nat),s.foldl (fun a c=>10 * a + (c - 48)) a=a * 10 ^ s.length + s.foldl (fun a c=>10 * a + (c - 48)) 0:=by
  intro s
  induction s with
  | nil=>intro a;simp
  | cons d s ih=>
    intro a
    simp only[List.foldl_cons,v5]
    rw[ih,ih (10 * 0 + (d - 48)),b8,Nat.add_mul]
    simp only[Nat.mul_zero,k6]
    rw[show 10 * a * 10 ^ s.length=a * (10 ^ s.length * 10) by rw[u1 10 a,Nat.mul_assoc,u1 10]]
    omega
 simp only[z1g,List.foldl_cons]
 rw[key]
 simp
theorem k1k {s:List Nat} (h:w8x s):dec (z1g s)=s:=by
 obtain⟨h1,h2,h3⟩:=h
 induction hl:s.length generalizing s with
 | zero=>exact absurd (List.length_eq_zero_iff.1 hl) h1
 | succ n ih=>
   obtain⟨t,c,rfl⟩:∃ t c,s=t++[c]:=⟨s.dropLast,s.getLast h1,(List.dropLast_concat_getLast h1).symm⟩
   have hc:=h2 c (by simp)
   rw[z9x]
   by_cases ht:t=[]
   ·subst ht
    simp[z1g]
    rw[z6p (by omega)]
    congr 1
    omega
   ·have hcan:dec (z1g t)=t:=ih ht (fun d hd=>h2 d (List.mem_append_left _ hd)) (fun hlt=>by
     have:=h3 (by simp at hlt⊢;omega)
     obtain⟨d,t',rfl⟩:=List.exists_cons_of_ne_nil ht
     simpa using this) (by simpa using hl)
    have hpos:0 < z1g t:=by
     rcases d7 (z1g t) with h0 | h0
     ·rw[h0,z9f] at hcan
      have:=h3 (by rw[←hcan];simp)
      rw[←hcan] at this
      simp at this
     ·exact h0
    rw[k1j (by omega),show (10 * z1g t + (c - 48)) / 10=z1g t by omega,hcan]
    congr 2
    omega
theorem z7p {n:Int} (hn: -2 ^ 62≤n) (hn2:n≤2 ^ 62):Pure Gam 48 [.int .i64 n] (.str (z0f n)):=by
 refine Pure.of rfl u5y rfl rfl rfl rfl rfl fun D B clk T hB hT=> ?_
 simp only[go_sem,u2g]
 refine z1f (fun m s=>∃ (v:Int) (t:List Nat) (a:AObj),m=v.natAbs + (if t=[] then 1 else 0)∧ -2 ^ 62≤v∧v≤2 ^ 62∧t.length≤100∧s.ts 0= .int .i64 n∧s.ts 4= .int .i64 v∧s.ts 3= .str t∧s.h=D++[a]∧
  (if t=[] then v=n else if v=0 then t=dec n.natAbs else dec n.natAbs=dec v.natAbs++t)) (n.natAbs + 1) ?_ ?_
 ·exact⟨n,[],_,by simp,hn,hn2,by simp,rfl,rfl,rfl,rfl,rfl⟩
 rintro m ⟨ts,h,clk⟩ P ⟨v,t,a,rfl,hv1,hv2,hl,h0,h4,h3,rfl,hd⟩ hn he hr
 dsimp only at h0 h4 h3
 have hlen:t.length≤20∨t.length≤20:=by
  by_cases ht:t=[]
  ·left;subst ht;simp
  ·rw[if_neg ht] at hd
   have h20:(dec n.natAbs).length≤20:=z6q (by omega) (by omega)
   by_cases hv:v=0
   ·rw[if_pos hv] at hd;left;rw[hd];exact h20
   ·rw[if_neg hv] at hd
    have:=congrArg List.length hd
    simp only[k7] at this
    left;omega
 have hl20:t.length≤20:=hlen.elim id id
 by_cases hc:v=0∧t≠[]
 ·obtain⟨rfl,ht⟩:=hc
  have e1:decide (t=[])=false:=by simp[ht]
  simp only[go_sem,h0,h4,h3,j7f,decide_true,e1]
  refine he _ _ ?_
  rw[if_neg ht,if_pos rfl] at hd
  have ht2:t.length < 2 ^ 59:=by omega
  simp only[go_sem,h0,h3]
  refine z8m (fun hb=> ?_) (fun hb=> ?_)
  ·have hneg:n < 0:=by simpa using hb
   simp only[go_sem,h0,h3,q9k (a:=[45]) (b:=t) (by simp;omega)]
   rw[z2y rfl rfl]
   have:=hT (D++[a])
   rw[z0f,if_pos hneg,←hd] at this
   exact this
  ·have hneg:¬ n < 0:=by simpa using hb
   simp only[go_sem,h0,h3]
   rw[z2y rfl rfl]
   have:=hT (D++[a])
   rw[z0f,if_neg hneg,←hd] at this
   exact this
 ·
  have hq:IntKind.i64.wrap (v.tdiv 10)=v.tdiv 10:=IntWalk.i64_quo' _ _ (by omega)
  have hr1:(v.tmod 10).natAbs=v.natAbs % 10:=Int.natAbs_tmod v 10
  have hr2:(v.tdiv 10).natAbs=v.natAbs / 10:=Int.natAbs_tdiv v 10
  have fin:∀ (ts':Tmps) (clk':Nat),ts' 0= .int .i64 n→ts' 4= .int .i64 (v.tdiv 10)→ts' 3= .str ((48 + v.natAbs % 10)::t)→P .norm ⟨ts',D++[a],clk'⟩:=by
   intro ts' clk' g0 g4 g3
   refine hn (((v.tdiv 10).natAbs) + 0) _ ?_ ⟨v.tdiv 10,(48 + v.natAbs % 10)::t,_,by simp,by omega,by omega,by simp;omega,g0,g4,g3,rfl, ?_⟩
   ·by_cases ht:t=[]
    ·rw[if_pos ht];omega
    ·have:v≠0:=fun h=>hc ⟨h,ht⟩
     rw[if_neg ht];omega
   ·rw[if_neg (by simp)]
    by_cases ht:t=[]
    ·subst ht
     rw[if_pos rfl] at hd
     subst hd
     by_cases h10:v.natAbs < 10
     ·rw[if_pos (by omega),z6p h10,Nat.mod_eq_of_lt h10]
     ·rw[if_neg (by omega),k1j (by omega),hr2]
    ·have hv0:v≠0:=fun h=>hc ⟨h,ht⟩
     rw[if_neg ht,if_neg hv0] at hd
     by_cases h10:v.natAbs < 10
     ·rw[if_pos (by omega),hd,z6p h10,Nat.mod_eq_of_lt h10];rfl
     ·rw[if_neg (by omega),hd,k1j (n:=v.natAbs) (by omega),hr2];simp
  have e2:(48 + (v.natAbs:Int) % 10).toNat=48 + v.natAbs % 10:=by omega
  have e3:(0≤48 + (v.natAbs:Int) % 10∧48 + (v.natAbs:Int) % 10 < 256)=True:=by simp;omega
  have e4:IntKind.u8.wrap (IntKind.i64.wrap (48 + (v.natAbs:Int) % 10))=48 + (v.natAbs:Int) % 10:=by rw[z0c (by omega) (by omega),IntWalk.u8_in _ (by omega)]
  have e5:decide ((v.natAbs:Int) % 10 < 0)=false:=by simp;omega
  have hs:=q9k (h:=D++[a]) (t:= .one .str) (a:=[48 + v.natAbs % 10]) (b:=t) (by simp;omega)
  by_cases hv:v=0
  ·have ht:t=[]:=Classical.byContradiction fun h=>hc ⟨hv,h⟩
   have e6:v.tmod 10=(v.natAbs:Int) % 10:=by subst hv;rfl
   have e7:decide (v=0)=true:=by simp[hv]
   have e8:decide (t=[])=true:=by simp[ht]
   simp only[go_sem,h0,h4,h3,j7f,q1d (b:=10) (by decide),e2,e3,e4,e5,e6,e7,e8,hs,z6w,q4y (b:=10) (by decide),hq]
   exact fin _ _ (by simp[z0b,h0]) (by simp[z0b]) (by simp[z0b])
  ·have e7:decide (v=0)=false:=by simp[hv]
   by_cases hneg:v.tmod 10 < 0
   ·have e6:IntKind.i64.wrap (0 - v.tmod 10)=(v.natAbs:Int) % 10:=by rw[z0c (by omega) (by omega)];omega
    have e8:decide (v.tmod 10 < 0)=true:=by simp[hneg]
    simp only[go_sem,h0,h4,h3,j7f,q1d (b:=10) (by decide),e2,e3,e4,e5,e6,e7,e8,hs,z6w,q4y (b:=10) (by decide),hq]
    exact fin _ _ (by simp[z0b,h0]) (by simp[z0b]) (by simp[z0b])
   ·have e6:v.tmod 10=(v.natAbs:Int) % 10:=by omega
    simp only[go_sem,h0,h4,h3,j7f,q1d (b:=10) (by decide),e2,e3,e4,e5,e6,e7,hs,z6w,q4y (b:=10) (by decide),hq]
    exact fin _ _ (by simp[z0b,h0]) (by simp[z0b]) (by simp[z0b])
def IntS (a:List Nat):Prop:=∃ z:Int,a=z0f z∧z.natAbs < 10 ^ 40
def RatS (a:List Nat):Prop:=IntS a∨∃ (z:Int) (d:Nat),a=z0f z++47::dec d∧z.natAbs < 10 ^ 40∧2≤d∧d≤4∧Nat.gcd z.natAbs d=1
def bare (o k:Nat):Node:=⟨o,0,[],[],k⟩
inductive NodeOk (V:List Var):Node→List Nat→Nat→Term→Prop
 | bool {o:Nat} {ks:Term} (h:o=1∨o=2):NodeOk V (bare o 0) [] 1 ks
 | int {a:List Nat} {ks:Term} (h:IntS a):NodeOk V ⟨3,2,[],a,0⟩ [] 2 ks
 | real {a:List Nat} {ks:Term} (h:RatS a):NodeOk V ⟨3,3,[],a,0⟩ [] 3 ks
 | var {v:Var} {ks:Term} (h:v∈V):NodeOk V ⟨4,v.sort,v.name,[],0⟩ [] v.sort ks
 | not {ks:Term}:NodeOk V (bare 6 1) [1] 1 ks
 | andor {o k:Nat} {ks:Term} (h:o=7∨o=8):NodeOk V (bare o k) (x3 k 1) 1 ks
 | imp {ks:Term}:NodeOk V (bare 9 2) [1,1] 1 ks
 | ite {s:Nat} {ks:Term} (h1:1≤s) (h2:s≤4):NodeOk V (bare 10 3) [1,s,s] s ks
 | eq {s:Nat} {ks:Term} (h1:1≤s) (h2:s≤4):NodeOk V (bare 11 2) [s,s] 1 ks
 | cmp {o s:Nat} {ks:Term} (h:o=12∨o=13) (hs:s=2∨s=3):NodeOk V (bare o 2) [s,s] 1 ks
 | add {k s:Nat} {ks:Term} (h:1≤k) (hs:s=2∨s=3):NodeOk V (bare 14 k) (x3 k s) s ks
 | mul {s:Nat} {n:Node} {ks:Term} (hs:s=2∨s=3) (hn:n.op=3):NodeOk V (bare 15 2) [s,s] s (n::ks)
 | div {o k:Nat} {ks:Term} (h:o=16∨o=17) (h1:1≤k) (h2:k≤5):NodeOk V ⟨o,0,[],dec k,1⟩ [2] 2 ks
 | select {ks:Term}:NodeOk V (bare 18 2) [4,2] 2 ks
 | store {ks:Term}:NodeOk V (bare 19 3) [4,2,2] 4 ks
 | const {ks:Term}:NodeOk V (bare 20 1) [2] 4 ks
inductive WF (V:List Var):List Nat→Nat→Term→Prop
 | nil {d:Nat}:WF V [] d []
 | cons {n:Node} {ss:List Nat} {ks:Term} {s d:Nat} {ss':List Nat} {rest:Term}:WF V ss d ks→NodeOk V n ss s ks→n.kids=ss.length→WF V ss' (d + 1) rest→WF V (s::ss') (d + 1) (n::(ks++rest))
theorem WF.up {V:List Var} {ss:List Nat} {d d':Nat} {t:Term} (h:WF V ss d t) (hd:d≤d'):WF V ss d' t:=by
 induction h generalizing d' with
 | nil=>exact .nil
 | cons h1 h2 h3 h4 ih1 ih2=>
   obtain⟨e,rfl⟩:∃ e,d'=e + 1:=⟨d' - 1,by omega⟩
   exact .cons (ih1 (by omega)) h2 h3 (ih2 hd)
theorem WF.append {V:List Var} {ss ss':List Nat} {d:Nat} {t t':Term} (h:WF V ss d t) (h':WF V ss' d t'):WF V (ss++ss') d (t++t'):=by
 induction h with
 | nil=>exact h'
 | cons h1 h2 h3 h4 ih1 ih2=>
   rw[y6,y6,u4]
   exact .cons h1 h2 h3 (ih2 h')
theorem WF.one {V:List Var} {n:Node} {ss:List Nat} {s d:Nat} {ks:Term} (h:WF V ss d ks) (hn:NodeOk V n ss s ks) (hk:n.kids=ss.length):WF V [s] (d + 1) (n::ks):=by
 have:=WF.cons h hn hk .nil
 rwa [w9] at this
def GT (V:List Var) (s d m:Nat) (t:Term):Prop:=WF V [s] d t∧t.length≤m∧1≤s∧s≤4
theorem GT.up {V:List Var} {s d m d' m':Nat} {t:Term} (h:GT V s d m t) (hd:d≤d') (hm:m≤m'):GT V s d' m' t:=⟨h.1.up hd,by have:=h.2.1;omega,h.2.2⟩
theorem GT.leaf {V:List Var} {n:Node} {s:Nat} (hn:NodeOk V n [] s []) (hk:n.kids=0) (h1:1≤s) (h2:s≤4):GT V s 1 1 [n]:=⟨WF.one (d:=0) .nil hn hk,by simp,h1,h2⟩
theorem q6c {z:Int} (h:z.natAbs < 10 ^ 40):IntS (z0f z):=⟨z,rfl,h⟩
theorem x4v {k:Nat} (h:k < 10):IntS [48 + k]:=⟨k,by rw[z0f,if_neg (by omega),u5,z6p h],by simp;omega⟩
theorem Pure.tab {f:Nat} {args:List AV} {tab:List (List AV×AV)} {v:AV} (hext:Gam.ext f=some (q5u tab)) (hobs:z4u args=[]) (hv:q5u tab (cvL args)=some v):Pure Gam f args v:=by
 intro h clk
 constructor
 ·refine⟨0, ?_⟩
  unfold z5w z0k
  simp only[hext,z2g hobs,z6o hobs,List.isEmpty_nil,if_true,hv,j5]
 ·unfold z0z
  simp only[hext,hobs,k8,w9]
def value (s:Nat) (b:Bool) (a:List Nat) (ks vs:List AV):AV:= .agg [nat s, .bool b, .str a, .sl ks .no, .sl vs .no]
def x8g (s:Nat) (v:AV):Prop:=∃ t,q5u z2k [v]=some (.tup [z0w t, .int .i64 0])∧(∀ V,GT V s 3 5 t)∧v.obs=[]∧v.cv=v∧v.ids=[]∧v.def? =true∧v.cells.length=5∧v.cells.all AV.one=true
theorem z3c {k:Nat} (h:k < 10):z0f (k:Int)=[48 + k]:=by rw[z0f,if_neg (by omega),u5,z6p h]
theorem j7m (b:Bool):x8g 1 (value 1 b [] [] []):=by
 cases b
 ·exact⟨[bare 2 0],rfl,fun V=>(GT.leaf (.bool (.inr rfl)) rfl (by omega) (by omega)).up (by omega) (by omega),rfl,rfl,rfl,rfl,rfl,rfl⟩
 ·exact⟨[bare 1 0],rfl,fun V=>(GT.leaf (.bool (.inl rfl)) rfl (by omega) (by omega)).up (by omega) (by omega),rfl,rfl,rfl,rfl,rfl,rfl⟩
theorem x8h {k:Nat} (h:k < 10) (h0:0 < k):z0f (-(k:Int))=[45,48 + k]:=by
 rw[z0f,if_pos (by omega),show (-(k:Int)).natAbs=k by omega,z6p h]
theorem k1l {s:Nat} (hs:s=2∨s=3) {z:Int} (h1: -2≤z) (h2:z≤3):x8g s (value s false (z0f z) [] []):=by
 have hi:IntS (z0f z):=q6c (by omega)
 refine⟨[⟨3,s,[],z0f z,0⟩], ?_,fun V=> ?_,rfl,rfl,rfl,rfl,rfl,rfl⟩
 ·have:z0f z=[45,50]∧z= -2∨z0f z=[45,49]∧z= -1∨z0f z=[48]∧z=0∨z0f z=[49]∧z=1∨z0f z=[50]∧z=2∨z0f z=[51]∧z=3:=by
   rcases (by omega:z= -2∨z= -1∨z=0∨z=1∨z=2∨z=3) with rfl | rfl | rfl | rfl | rfl | rfl
   ·exact .inl ⟨x8h (k:=2) (by omega) (by omega),rfl⟩
   ·exact .inr (.inl ⟨x8h (k:=1) (by omega) (by omega),rfl⟩)
   ·exact .inr (.inr (.inl ⟨z3c (k:=0) (by omega),rfl⟩))
   ·exact .inr (.inr (.inr (.inl ⟨z3c (k:=1) (by omega),rfl⟩)))
   ·exact .inr (.inr (.inr (.inr (.inl ⟨z3c (k:=2) (by omega),rfl⟩))))
   ·exact .inr (.inr (.inr (.inr (.inr ⟨z3c (k:=3) (by omega),rfl⟩))))
  rcases hs with rfl | rfl <;> rcases this with ⟨e,_⟩ | ⟨e,_⟩ | ⟨e,_⟩ | ⟨e,_⟩ | ⟨e,_⟩ | ⟨e,_⟩ <;> rw[e] <;> rfl
 ·rcases hs with rfl | rfl
  ·exact (GT.leaf (.int hi) rfl (by omega) (by omega)).up (by omega) (by omega)
  ·exact (GT.leaf (.real (.inl hi)) rfl (by omega) (by omega)).up (by omega) (by omega)
def y4k (k:Nat):Term:=[bare 20 1,⟨3,2,[],[48 + k],0⟩]
def y7s (k i j:Nat):Term:=[bare 19 3,bare 20 1,⟨3,2,[],[48 + k],0⟩,⟨3,2,[],[48 + i],0⟩,⟨3,2,[],[48 + j],0⟩]
theorem k1m {V:List Var} {k d:Nat} (h:k < 10):WF V [2] (d + 1) [⟨3,2,[],[48 + k],0⟩]:=WF.one .nil (.int (x4v h)) rfl
theorem k1n {V:List Var} {k d:Nat} (h:k < 10):WF V [4] (d + 2) (y4k k):=WF.one (k1m h) .const rfl
theorem v8h {V:List Var} {k:Nat} (h:k < 10):GT V 4 3 5 (y4k k):=⟨k1n h,by simp[y4k],by omega,by omega⟩
theorem v8i {V:List Var} {k i j:Nat} (h:k < 10) (hi:i < 10) (hj:j < 10):GT V 4 3 5 (y7s k i j):=by
 refine⟨?_,by simp[y7s],by omega,by omega⟩
 have:=((k1n (V:=V) (d:=0) h).append (k1m (d:=1) hi)).append (k1m (d:=1) hj)
 exact WF.one this .store rfl
def k7e (k i j:Nat):AV:=if j=k then value 4 false [48 + k] [] [] else value 4 false [48 + k] [.str [48 + i]] [.str [48 + j]]
theorem x8i {k i j:Nat} (hk:k < 3) (hi:i < 3) (hj:j < 3):q5u z5p [value 4 false [48 + k] [] [], .str [48 + i], .str [48 + j]]=some (.tup [k7e k i j, .int .i64 0]):=by
 have hk:k=0∨k=1∨k=2:=by omega
 have hi:i=0∨i=1∨i=2:=by omega
 have hj:j=0∨j=1∨j=2:=by omega
 rcases hk with rfl | rfl | rfl <;> rcases hi with rfl | rfl | rfl <;> rcases hj with rfl | rfl | rfl <;> rfl
theorem x8j {k i j:Nat} (hk:k < 3) (hi:i < 3) (hj:j < 3):x8g 4 (k7e k i j):=by
 refine⟨if j=k then y4k k else y7s k i j, ?_,fun V=> ?_, ?_⟩
 ·have hk:k=0∨k=1∨k=2:=by omega
  have hi:i=0∨i=1∨i=2:=by omega
  have hj:j=0∨j=1∨j=2:=by omega
  rcases hk with rfl | rfl | rfl <;> rcases hi with rfl | rfl | rfl <;> rcases hj with rfl | rfl | rfl <;> rfl
 ·split
  ·exact v8h (by omega)
  ·exact v8i (by omega) (by omega) (by omega)
 ·unfold k7e
  split <;> exact⟨rfl,rfl,rfl,rfl,rfl,rfl⟩
theorem v8j {l:List Int} {s:Nat} (hl:q7t l) (h1:1≤s) (h2:s≤4):GenOk l 16 [nat s] fun v=>x8g s v:=by
 refine GenOk.of rfl u2c rfl rfl rfl rfl rfl fun D B p g i clk T hB hs hD hi hT=> ?_
 obtain rfl | hs23 | rfl:s=1∨(s=2∨s=3)∨s=4:=by omega
 ·simp only[go_sem,v7n,nat,hB,z7,decide_true,decide_false]
  refine z0l (z3u hl (by decide) (by decide)) hB hs hD hi ?_
  rintro v D' i' ⟨r,rfl,hr1,hr2⟩ hB' hD' hi'
  simp only[go_sem,hB',z7,decide_true,decide_false]
  rw[z2y rfl rfl]
  exact hT _ _ i' (by rw[z0m hB' hs];exact hD') hi' (j7m _)
 ·have e1:decide ((s:Int)=1)=false:=by simp;omega
  have e2:decide ((s:Int)=4)=false:=by simp;omega
  simp only[go_sem,v7n,nat,hB,z7,e1,e2]
  refine z0l (z3u hl (by decide) (by decide)) hB hs hD hi ?_
  rintro v D' i' ⟨r,rfl,hr1,hr2⟩ hB' hD' hi'
  have e3:IntKind.i64.wrap (r - 2)=r - 2:=z0c (by omega) (by omega)
  simp only[go_sem,hB',e3]
  rw[z0a (z7p (by omega) (by omega))]
  simp only[go_sem,hB']
  rw[z2y rfl rfl]
  exact hT _ _ i' (by rw[z0m hB' hs];exact hD') hi' (k1l hs23 (by omega) (by omega))
 ·simp only[go_sem,v7n,nat,hB,z7,decide_true,decide_false]
  refine z0l (z3u hl (by decide) (by decide)) hB hs hD hi ?_
  rintro v D1 i1 ⟨r1,rfl,hr1,hr2⟩ hB1 hD1 hi1
  obtain⟨k,rfl⟩:∃ k:Nat,r1=k:=⟨r1.toNat,by omega⟩
  simp only[go_sem,hB1]
  rw[z0a (z7p (by omega) (by omega)),z3c (by omega)]
  simp only[go_sem,hB1,z1p]
  refine z0l (z3u hl (by decide) (by decide)) hB1 hs hD1 hi1 ?_
  rintro v D2 i2 ⟨r2,rfl,hr3,hr4⟩ hB2 hD2 hi2
  obtain⟨a,rfl⟩:∃ k:Nat,r2=k:=⟨r2.toNat,by omega⟩
  simp only[go_sem,hB2]
  rw[z0a (z7p (by omega) (by omega)),z3c (by omega)]
  simp only[go_sem,hB2]
  refine z0l (z3u hl (by decide) (by decide)) hB2 hs hD2 hi2 ?_
  rintro v D3 i3 ⟨r3,rfl,hr5,hr6⟩ hB3 hD3 hi3
  obtain⟨b,rfl⟩:∃ k:Nat,r3=k:=⟨r3.toNat,by omega⟩
  simp only[go_sem,hB3]
  rw[z0a (z7p (by omega) (by omega)),z3c (by omega)]
  simp only[go_sem,hB3]
  obtain⟨ks,vs,hv⟩:∃ ks vs,k7e k a b=value 4 false [48 + k] ks vs:=by
   unfold k7e
   split <;> exact⟨_,_,rfl⟩
  have hsm:=x8j (k:=k) (i:=a) (j:=b) (by omega) (by omega) (by omega)
  have htab:=x8i (k:=k) (i:=a) (j:=b) (by omega) (by omega) (by omega)
  rw[hv] at hsm htab
  have hp:Pure Gam 49 [.agg [.int .i64 4, .bool false, .str [48 + k], .sl [] .nil, .sl [] .nil], .str [48 + a], .str [48 + b]] _:=Pure.tab (tab:=z5p) rfl rfl htab
  rw[z0a hp]
  simp only[go_sem,hB3,value,nat]
  refine⟨by simp[z1r,apart,z0q,z1n,z1t,AOp.isCall,hB1];omega, ?_⟩
  obtain⟨t,q1,q2,q3,q4,q5,q6⟩:=hsm
  rw[z2y (v:= .agg [.int .i64 4, .bool false, .str [48 + k], .sl ks .no, .sl vs .no]) rfl q5]
  exact hT _ _ i3 (by rw[z0m hB3 hs];exact hD3) hi3 ⟨t,q1,q2,q3,q4,q5,q6⟩
theorem j0v {s:Nat} {v:AV} (hv:x8g s v):∃ t,Pure Gam 195 [v] (.tup [z0w t, .int .i64 0])∧∀ V,GT V s 3 5 t:=by
 obtain⟨t,q1,q2,q3,q4,q5,q6⟩:=hv
 refine⟨t,Pure.tab (tab:=z2k) rfl (by simp[z4u,q3]) (by simp only[cvL,q4];exact q1),q2⟩
def x1p (V:List Var) (s d m:Nat) (v:AV):Prop:=∃ t,v=z0w t∧GT V s d m t
theorem z6r {l:List Var} {i:Nat} {h:List AObj} {t:Tip} {k:IntKind} (hi:i < l.length):z1v h 2 (.sl (l.map z2b) t) (.int k (i:Int))=some (.iptr [.str l[i].name,nat l[i].sort] 0,h):=z3v hi rfl rfl
theorem q1q {l:List Int} {s:Nat} {V:List Var} {u:Tip} (hl:q7t l) (h1:1≤s) (h2:s≤4) (hV:V.length≤400):GenOk l 120 [nat s, .sl (V.map z2b) u] (x1p V s 3 5):=by
 refine GenOk.of rfl y7f rfl rfl rfl (az:=[nat s, .sl (V.map z2b) .no]) rfl (by simp[z0i,z3f,AV.ids,z0d z5z]) fun D B p g i clk T hB hs hD hi hT=> ?_
 simp only[go_sem,w8h,hB]
 refine z1f (fun m q=>∃ (j:Nat) (acc:List Var) (t:Tip) (a b c d:AObj),j≤V.length∧m=V.length - j∧acc.length≤j∧(∀ v∈acc,v∈V∧v.sort=s)∧q.ts 0= .ptr p g 0 0∧q.ts 1=nat s∧q.ts 2= .sl (V.map z2b) .no∧q.ts 7= .sl (acc.map z2b) t∧q.ts 8= .int .i64 j∧q.h=D++[a,b,c,d]∧q3e B 1 b t 2) V.length ?_ ?_
 ·exact⟨0,[], .nil,_,_,_,_,by simp,rfl,by simp,by simp,rfl,rfl,rfl,rfl,rfl,rfl, .inl rfl⟩
 rintro m ⟨ts,h,clk⟩ P ⟨j,acc,t,a,b,c,d,hj,rfl,hal,hacc,g0,g1,g2,g7,g8,rfl,ht⟩ hn he hr
 dsimp only at g0 g1 g2 g7 g8
 simp only[go_sem,g0,g1,g2,g7,g8,z6,k0w]
 refine z8m (fun hb=> ?_) (fun hb=> ?_)
 ·have hlt:j < V.length:=by simp at hb;omega
  simp only[go_sem,g0,g1,g2,g7,g8,z6r hlt,nat]
  have e1:IntKind.i64.wrap ((j:Int) + 1)=((j + 1:Nat):Int):=z0c (by omega) (by omega)
  refine z8m (fun hc=> ?_) (fun hc=> ?_)
  ·have hsort:V[j].sort=s:=by simp at hc;omega
   simp only[go_sem,g0,g1,g2,g7,g8,z6r hlt,nat]
   rw[show [AV.agg [.str V[j].name, .int .i64 (V[j].sort:Int)]]=[V[j]].map z2b from rfl,z1c hB rfl ht z5h z5h (by simp only[z6,v6];omega)]
   simp only[go_sem,g0,g1,g2,g7,g8,e1]
   refine hn (V.length - (j + 1)) _ (by omega) ⟨j + 1,acc++[V[j]],_,_,_,_,_,hlt,rfl,by simp;omega, ?_,g0,g1,g2, ?_,rfl,rfl, .inr (.inr ⟨_,rfl,rfl⟩)⟩
   ·intro v hv
    rw[x4,List.mem_singleton] at hv
    rcases hv with hv | rfl
    ·exact hacc v hv
    ·exact⟨x8 hlt,hsort⟩
   ·simp only[z0b,z0,cond_true,cond_false,v8,j4,k8]
  ·simp only[go_sem,g0,g1,g2,g7,g8,e1]
   exact hn (V.length - (j + 1)) _ (by omega) ⟨j + 1,acc,t,_,_,_,_,hlt,rfl,by omega,hacc,g0,g1,g2,g7,rfl,rfl,ht⟩
 ·simp only[go_sem,]
  refine he _ _ ?_
  simp only[go_sem,g0,g1,g2,g7,g8,z6]
  refine z8m (fun hc=> ?_) (fun hc=> ?_)
  ·simp only[go_sem,g0,g1,g2,g7,g8]
   refine z0l (v8j hl h1 h2) hB hs hD hi ?_
   rintro v D1 i1 hv hB1 hD1 hi1
   simp only[go_sem,g0,g1,g2,g7,g8]
   obtain⟨t,hp,hg⟩:=j0v hv
   rw[z0a hp]
   simp only[go_sem,g0,g1,g2,g7,g8]
   rw[z0y]
   exact hT _ _ i1 (by rw[z0m hB1 hs];exact hD1) hi1 ⟨t,rfl,hg V⟩
  ·have hlen:acc.length≠0:=by simpa using hc
   simp only[go_sem,g0,g1,g2,g7,g8,z6]
   refine z0l (z3u hl (by omega) (by omega)) hB hs hD hi ?_
   rintro v D1 i1 ⟨r,rfl,hr1,hr2⟩ hB1 hD1 hi1
   obtain⟨k,rfl⟩:∃ k:Nat,r=k:=⟨r.toNat,by omega⟩
   have hk:k < acc.length:=by omega
   simp only[go_sem,g0,g1,g2,g7,g8,hB1,z1p,z6r hk,nat]
   obtain⟨hm,hsrt⟩:=hacc acc[k] (x8 hk)
   have hn:NodeOk V ⟨4,s,acc[k].name,[],0⟩ [] s []:=by
    have:=NodeOk.var (ks:=[]) hm
    rw[hsrt] at this
    exact this
   show RV _ (some [.sl (List.map eNode [⟨4,s,acc[k].name,[],0⟩]) .full]) _ _
   rw[k1h]
   exact hT _ _ i1 (by rw[z0m hB1 hs];exact hD1) hi1 ⟨_,rfl,(GT.leaf hn rfl h1 h2).up (by omega) (by omega)⟩
end
end Go.Proofs.YtkollgjffkdliaaGreatDoor.Am
