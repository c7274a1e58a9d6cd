/- All tables are borne out Loops of a function of the abstract machine, by their numbers Short forms of operations, for the printed functions Functions of the abstract machine's program Functions of the -/
import Derived.Attr
import Derived.Test.YtkollgjffkdliaaGreatDoorM12
import Derived.Test.YtkollgjffkdliaaGreatDoorM13
import Derived.Test.YtkollgjffkdliaaGreatDoorM14
import Derived.Test.YtkollgjffkdliaaGreatDoorM15
import Derived.Test.YtkollgjffkdliaaGreatDoorM16
import Derived.Test.YtkollgjffkdliaaGreatDoorM18
import Derived.Test.YtkollgjffkdliaaGreatDoorM19
import Derived.Test.YtkollgjffkdliaaGreatDoorM20
import Derived.Test.YtkollgjffkdliaaGreatDoorM21
import Derived.Test.YtkollgjffkdliaaGreatDoorM22
import Derived.Test.YtkollgjffkdliaaGreatDoorM23
open Nat renaming reduceBEq → z0,reduceAdd → z1,reduceLeDiff → z2,reduceSub → z3
set_option linter.all false
namespace Go.Proofs.YtkollgjffkdliaaGreatDoor.Am
open Go
set_option maxRecDepth 100000
section
open Tw
theorem b54:Borne [] 77 t54:= .cons u0i (.nil)
theorem b55:Borne [] 78 t55:= .cons u0j (.nil)
theorem b56:Borne [] 79 t56:= .cons u0k (.cons u0l (.cons u0m (.cons u0n (.cons u0o (.cons u0p (.cons u0q (.cons u0r (.cons u0s (.cons u0t (.cons w9a (.cons w9b (.cons w9c (.cons w9d (.cons w9e (.cons w9f (.cons w9g (.cons w9h (.cons w9i (.cons w9j (.cons w9k (.nil)))))))))))))))))))))
theorem g1i:Borne [] 144 u7c:= .cons w9l (.cons w9m (.cons w9n (.cons w9o (.cons w9p (.cons w9q (.cons w9r (.cons w9s (.cons w9t (.cons w9u (.cons w0i (.nil)))))))))))
theorem b21:Borne [] 7 t21:= .cons u0u (.nil)
theorem b24:Borne [] 12 t24:= .cons u0v (.nil)
theorem k9l:Told tw1:=((((((z4b).snoc (b24.told z4b)).snoc (b21.told z4b)).snoc (g1i.told z4b)).snoc (b56.told z4b)).snoc (b55.told z4b)).snoc (b54.told z4b)
theorem g1j:Borne tw1 297 u7d:= .cons w9v (.cons w9w (.cons w9x (.cons w9y (.cons w9z (.cons y0a (.cons y0b (.nil)))))))
theorem g1k:Borne tw1 141 u7e:= .cons y0c (.cons y0d (.nil))
theorem b28:Borne tw1 35 t28:= .cons u0w (.cons u0x (.cons u0y (.cons u0z (.nil))))
theorem y1i:Told tw2:=(((k9l).snoc (b28.told k9l)).snoc (g1k.told k9l)).snoc (g1j.told k9l)
theorem g1l:Borne tw2 143 u7f:= .cons y0e (.cons y0f (.cons y0g (.nil)))
theorem u1p:Told tw3:=(y1i).snoc (g1l.told y1i)
theorem b73:Borne [] 49 z6f:= .chunks (n:=27) (m:=1) (by decide) (by decide) fun i hi=>match i,hi with
 | 0,_=>u1f
 | 1,_=>u1g
 | 2,_=>u1h
 | 3,_=>u1i
 | 4,_=>u1j
 | 5,_=>u1k
 | 6,_=>u1l
 | 7,_=>u1m
 | 8,_=>u1n
 | 9,_=>u1o
 | 10,_=>y0h
 | 11,_=>y0i
 | 12,_=>y0j
 | 13,_=>y0k
 | 14,_=>y0l
 | 15,_=>y0m
 | 16,_=>y0n
 | 17,_=>y0o
 | 18,_=>y0p
 | 19,_=>y0q
 | 20,_=>y0r
 | 21,_=>y0s
 | 22,_=>y0t
 | 23,_=>y0u
 | 24,_=>y0v
 | 25,_=>y0w
 | 26,_=>y0x
 | n + 27,h=>absurd h (by omega)
theorem g1m:Borne [] 195 z2p:= .chunks (n:=35) (m:=1) (by decide) (by decide) fun i hi=>match i,hi with
 | 0,_=>y0y
 | 1,_=>y0z
 | 2,_=>y1a
 | 3,_=>y1b
 | 4,_=>y1c
 | 5,_=>y1d
 | 6,_=>y1e
 | 7,_=>y1f
 | 8,_=>y1g
 | 9,_=>y1h
 | 10,_=>w0j
 | 11,_=>w0k
 | 12,_=>w0l
 | 13,_=>w0m
 | 14,_=>w0n
 | 15,_=>w0o
 | 16,_=>w0p
 | 17,_=>w0q
 | 18,_=>w0r
 | 19,_=>w0s
 | 20,_=>w0t
 | 21,_=>w0u
 | 22,_=>w0v
 | 23,_=>w0w
 | 24,_=>w0x
 | 25,_=>w0y
 | 26,_=>w0z
 | 27,_=>w1a
 | 28,_=>w1b
 | 29,_=>w1c
 | 30,_=>w1d
 | 31,_=>w1e
 | 32,_=>w1f
 | 33,_=>w1g
 | 34,_=>w1h
 | n + 35,h=>absurd h (by omega)
theorem k9m:Told w6n:=((((((((((z4b).snoc ((Borne.cons k19 .nil).told u1p)).snoc (g1h.told z4b)).snoc (u1e.told z4b)).snoc (g1g.told z4b)).snoc (u1d.told z4b)).snoc (g1m.told z4b)).snoc (b73.told z4b)).snoc (u1c.told z4b)).snoc (u1b.told z4b)).snoc (u1a.told z4b)
theorem w1i:ProgOk Tryz.prog x5j Gam:=w8h (T:=w6n) k9m
theorem w1j:q1n Tryz.prog Gam:=w8g (T:=w6n)
end
def lps:ACode→List ACode
 | .seq a b=>lps a++lps b
 | .cond _ a b=>lps a++lps b
 | .block _ b=>lps b
 | .loop b=>b::lps b
 | .rangeB _ _ _ a b=>lps a++lps b
 | _=>[]
def lp (f:AFun) (k:Nat):ACode:=(lps f.body).getD k .skip
def fla:ACode→List ACode→ACode×List ACode
 | .seq a b,l=>let r:=fla a l;let q:=fla b r.2;(.seq r.1 q.1,q.2)
 | .cond x a b,l=>let r:=fla a l;let q:=fla b r.2;(.cond x r.1 q.1,q.2)
 | .block i b,l=>let r:=fla b l;(.block i r.1,r.2)
 | .loop b,c::l=>(.loop c,l.drop (lps b).length)
 | .rangeB x p q a b,l=>let r:=fla a l;let t:=fla b r.2;(.rangeB x p q r.1 t.1,t.2)
 | c,l=>(c,l)
def fl (l:List ACode) (c:ACode):ACode:=(fla c l).1
def flF (l:List ACode) (f:AFun):AFun:={f with body:=fl l f.body}
namespace Sh
@[go_sem] def M (d s:Nat):AOper:=⟨some d, .move (.tmp s),none⟩
@[go_sem] def N (d:Nat) (o:AOp):AOper:=⟨some d,o,none⟩
@[go_sem] def A (d s o:Nat):AOper:=⟨some d, .fieldAddr (.tmp s) o,none⟩
@[go_sem] def L (d s:Nat):AOper:=⟨some d, .load none (.tmp s),none⟩
@[go_sem] def S (n a b:Nat):AOper:=⟨none, .store n (.tmp a) (.tmp b),none⟩
@[go_sem] def I (n:Int):AOpd:= .const (.int .i64 n)
end Sh
section
open Sh
set_option maxHeartbeats 0
noncomputable def w6i:AFun:=(fun (a:AFun) (_:Gam.fn 205=some a)=>a) _ (by conv=>lhs;reduce;simp only[Int.reduceOfNat,Int.reduceNegSucc])
theorem g1n:Gam.fn 205=some w6i:=by kernel_rfl
noncomputable def q71:AFun:=(fun (a:AFun) (_:Gam.fn 257=some a)=>a) _ (by conv=>lhs;reduce;simp only[Int.reduceOfNat,Int.reduceNegSucc])
noncomputable def k9n:ACode:=(fun (a:ACode) (_:fl [] (lp q71 0)=a)=>a) _ (by conv=>lhs;reduce;simp only[Int.reduceOfNat,Int.reduceNegSucc])
attribute [local irreducible] k9n
noncomputable def u1q:AFun:=(fun (a:AFun) (_:flF [k9n] q71=a)=>a) _ (by conv=>lhs;reduce;simp only[Int.reduceOfNat,Int.reduceNegSucc])
theorem g1o:Gam.fn 257=some u1q:=by kernel_rfl
noncomputable def g3m:AFun:=(fun (a:AFun) (_:Gam.fn 17=some a)=>a) _ (by conv=>lhs;reduce;simp only[Int.reduceOfNat,Int.reduceNegSucc])
noncomputable def x5z:ACode:=(fun (a:ACode) (_:fl [] (lp g3m 0)=a)=>a) _ (by conv=>lhs;reduce;simp only[Int.reduceOfNat,Int.reduceNegSucc])
attribute [local irreducible] x5z
noncomputable def k3e:AFun:=(fun (a:AFun) (_:flF [x5z] g3m=a)=>a) _ (by conv=>lhs;reduce;simp only[Int.reduceOfNat,Int.reduceNegSucc])
theorem y1j:Gam.fn 17=some k3e:=by kernel_rfl
noncomputable def g3n:AFun:=(fun (a:AFun) (_:Gam.fn 51=some a)=>a) _ (by conv=>lhs;reduce;simp only[Int.reduceOfNat,Int.reduceNegSucc])
noncomputable def j2q:ACode:=(fun (a:ACode) (_:fl [] (lp g3n 0)=a)=>a) _ (by conv=>lhs;reduce;simp only[Int.reduceOfNat,Int.reduceNegSucc])
attribute [local irreducible] j2q
noncomputable def v6h:AFun:=(fun (a:AFun) (_:flF [j2q] g3n=a)=>a) _ (by conv=>lhs;reduce;simp only[Int.reduceOfNat,Int.reduceNegSucc])
theorem y1k:Gam.fn 51=some v6h:=by kernel_rfl
noncomputable def g3o:AFun:=(fun (a:AFun) (_:Gam.fn 52=some a)=>a) _ (by conv=>lhs;reduce;simp only[Int.reduceOfNat,Int.reduceNegSucc])
noncomputable def j2r:ACode:=(fun (a:ACode) (_:fl [] (lp g3o 0)=a)=>a) _ (by conv=>lhs;reduce;simp only[Int.reduceOfNat,Int.reduceNegSucc])
attribute [local irreducible] j2r
noncomputable def v6i:AFun:=(fun (a:AFun) (_:flF [j2r] g3o=a)=>a) _ (by conv=>lhs;reduce;simp only[Int.reduceOfNat,Int.reduceNegSucc])
theorem y1l:Gam.fn 52=some v6i:=by kernel_rfl
noncomputable def v6j:AFun:=(fun (a:AFun) (_:Gam.fn 53=some a)=>a) _ (by conv=>lhs;reduce;simp only[Int.reduceOfNat,Int.reduceNegSucc])
theorem y1m:Gam.fn 53=some v6j:=by kernel_rfl
noncomputable def v6k:AFun:=(fun (a:AFun) (_:Gam.fn 54=some a)=>a) _ (by conv=>lhs;reduce;simp only[Int.reduceOfNat,Int.reduceNegSucc])
theorem y1n:Gam.fn 54=some v6k:=by kernel_rfl
noncomputable def v6l:AFun:=(fun (a:AFun) (_:Gam.fn 55=some a)=>a) _ (by conv=>lhs;reduce;simp only[Int.reduceOfNat,Int.reduceNegSucc])
theorem y1o:Gam.fn 55=some v6l:=by kernel_rfl
noncomputable def g3j:AFun:=(fun (a:AFun) (_:Gam.fn 105=some a)=>a) _ (by conv=>lhs;reduce;simp only[Int.reduceOfNat,Int.reduceNegSucc])
noncomputable def k3f:ACode:=(fun (a:ACode) (_:fl [] (lp g3j 1)=a)=>a) _ (by conv=>lhs;reduce;simp only[Int.reduceOfNat,Int.reduceNegSucc])
attribute [local irreducible] k3f
noncomputable def j2s:ACode:=(fun (a:ACode) (_:fl [k3f] (lp g3j 0)=a)=>a) _ (by conv=>lhs;reduce;simp only[Int.reduceOfNat,Int.reduceNegSucc])
attribute [local irreducible] j2s
noncomputable def v6m:AFun:=(fun (a:AFun) (_:flF [j2s,k3f] g3j=a)=>a) _ (by conv=>lhs;reduce;simp only[Int.reduceOfNat,Int.reduceNegSucc])
theorem y1p:Gam.fn 105=some v6m:=by kernel_rfl
noncomputable def g3p:AFun:=(fun (a:AFun) (_:Gam.fn 107=some a)=>a) _ (by conv=>lhs;reduce;simp only[Int.reduceOfNat,Int.reduceNegSucc])
noncomputable def j2t:ACode:=(fun (a:ACode) (_:fl [] (lp g3p 0)=a)=>a) _ (by conv=>lhs;reduce;simp only[Int.reduceOfNat,Int.reduceNegSucc])
attribute [local irreducible] j2t
noncomputable def v6n:AFun:=(fun (a:AFun) (_:flF [j2t] g3p=a)=>a) _ (by conv=>lhs;reduce;simp only[Int.reduceOfNat,Int.reduceNegSucc])
theorem y1q:Gam.fn 107=some v6n:=by kernel_rfl
noncomputable def g3q:AFun:=(fun (a:AFun) (_:Gam.fn 173=some a)=>a) _ (by conv=>lhs;reduce;simp only[Int.reduceOfNat,Int.reduceNegSucc])
noncomputable def j2u:ACode:=(fun (a:ACode) (_:fl [] (lp g3q 0)=a)=>a) _ (by conv=>lhs;reduce;simp only[Int.reduceOfNat,Int.reduceNegSucc])
attribute [local irreducible] j2u
noncomputable def v6o:AFun:=(fun (a:AFun) (_:flF [j2u] g3q=a)=>a) _ (by conv=>lhs;reduce;simp only[Int.reduceOfNat,Int.reduceNegSucc])
theorem y1r:Gam.fn 173=some v6o:=by kernel_rfl
noncomputable def v6p:AFun:=(fun (a:AFun) (_:Gam.fn 174=some a)=>a) _ (by conv=>lhs;reduce;simp only[Int.reduceOfNat,Int.reduceNegSucc])
theorem y1s:Gam.fn 174=some v6p:=by kernel_rfl
noncomputable def g3k:AFun:=(fun (a:AFun) (_:Gam.fn 236=some a)=>a) _ (by conv=>lhs;reduce;simp only[Int.reduceOfNat,Int.reduceNegSucc])
noncomputable def j2v:ACode:=(fun (a:ACode) (_:fl [] (lp g3k 1)=a)=>a) _ (by conv=>lhs;reduce;simp only[Int.reduceOfNat,Int.reduceNegSucc])
attribute [local irreducible] j2v
noncomputable def j2w:ACode:=(fun (a:ACode) (_:fl [j2v] (lp g3k 0)=a)=>a) _ (by conv=>lhs;reduce;simp only[Int.reduceOfNat,Int.reduceNegSucc])
attribute [local irreducible] j2w
noncomputable def z5z:AFun:=(fun (a:AFun) (_:flF [j2w,j2v] g3k=a)=>a) _ (by conv=>lhs;reduce;simp only[Int.reduceOfNat,Int.reduceNegSucc])
theorem y1t:Gam.fn 236=some z5z:=by kernel_rfl
noncomputable def v6q:AFun:=(fun (a:AFun) (_:Gam.fn 283=some a)=>a) _ (by conv=>lhs;reduce;simp only[Int.reduceOfNat,Int.reduceNegSucc])
theorem y1u:Gam.fn 283=some v6q:=by kernel_rfl
noncomputable def v6r:AFun:=(fun (a:AFun) (_:Gam.fn 286=some a)=>a) _ (by conv=>lhs;reduce;simp only[Int.reduceOfNat,Int.reduceNegSucc])
theorem y1v:Gam.fn 286=some v6r:=by kernel_rfl
noncomputable def v6s:AFun:=(fun (a:AFun) (_:Gam.fn 287=some a)=>a) _ (by conv=>lhs;reduce;simp only[Int.reduceOfNat,Int.reduceNegSucc])
theorem y1w:Gam.fn 287=some v6s:=by kernel_rfl
noncomputable def g3r:AFun:=(fun (a:AFun) (_:Gam.fn 288=some a)=>a) _ (by conv=>lhs;reduce;simp only[Int.reduceOfNat,Int.reduceNegSucc])
noncomputable def x6a:ACode:=(fun (a:ACode) (_:fl [] (lp g3r 0)=a)=>a) _ (by conv=>lhs;reduce;simp only[Int.reduceOfNat,Int.reduceNegSucc])
attribute [local irreducible] x6a
noncomputable def v6t:AFun:=(fun (a:AFun) (_:flF [x6a] g3r=a)=>a) _ (by conv=>lhs;reduce;simp only[Int.reduceOfNat,Int.reduceNegSucc])
theorem y1x:Gam.fn 288=some v6t:=by kernel_rfl
noncomputable def g3s:AFun:=(fun (a:AFun) (_:Gam.fn 289=some a)=>a) _ (by conv=>lhs;reduce;simp only[Int.reduceOfNat,Int.reduceNegSucc])
noncomputable def x6b:ACode:=(fun (a:ACode) (_:fl [] (lp g3s 0)=a)=>a) _ (by conv=>lhs;reduce;simp only[Int.reduceOfNat,Int.reduceNegSucc])
attribute [local irreducible] x6b
noncomputable def x9t:AFun:=(fun (a:AFun) (_:flF [x6b] g3s=a)=>a) _ (by conv=>lhs;reduce;simp only[Int.reduceOfNat,Int.reduceNegSucc])
theorem k3g:Gam.fn 289=some x9t:=by kernel_rfl
noncomputable def x9u:AFun:=(fun (a:AFun) (_:Gam.fn 312=some a)=>a) _ (by conv=>lhs;reduce;simp only[Int.reduceOfNat,Int.reduceNegSucc])
theorem y1y:Gam.fn 312=some x9u:=by kernel_rfl
noncomputable def v6u:AFun:=(fun (a:AFun) (_:Gam.fn 313=some a)=>a) _ (by conv=>lhs;reduce;simp only[Int.reduceOfNat,Int.reduceNegSucc])
theorem y1z:Gam.fn 313=some v6u:=by kernel_rfl
noncomputable def v6v:AFun:=(fun (a:AFun) (_:Gam.fn 321=some a)=>a) _ (by conv=>lhs;reduce;simp only[Int.reduceOfNat,Int.reduceNegSucc])
theorem y2a:Gam.fn 321=some v6v:=by kernel_rfl
end
section
open Sh
set_option maxHeartbeats 0
noncomputable def g3t:AFun:=(fun (a:AFun) (_:Gam.fn 1048625=some a)=>a) _ (by conv=>lhs;reduce;simp only[Int.reduceOfNat,Int.reduceNegSucc])
noncomputable def z9e:ACode:=(fun (a:ACode) (_:fl [] (lp g3t 0)=a)=>a) _ (by conv=>lhs;reduce;simp only[Int.reduceOfNat,Int.reduceNegSucc])
attribute [local irreducible] z9e
noncomputable def v6w:AFun:=(fun (a:AFun) (_:flF [z9e] g3t=a)=>a) _ (by conv=>lhs;reduce;simp only[Int.reduceOfNat,Int.reduceNegSucc])
theorem y2b:Gam.fn 1048625=some v6w:=by kernel_rfl
noncomputable def g3u:AFun:=(fun (a:AFun) (_:Gam.fn 101=some a)=>a) _ (by conv=>lhs;reduce;simp only[Int.reduceOfNat,Int.reduceNegSucc])
noncomputable def j5k:ACode:=(fun (a:ACode) (_:fl [] (lp g3u 0)=a)=>a) _ (by conv=>lhs;reduce;simp only[Int.reduceOfNat,Int.reduceNegSucc])
attribute [local irreducible] j5k
noncomputable def k3h:AFun:=(fun (a:AFun) (_:flF [j5k] g3u=a)=>a) _ (by conv=>lhs;reduce;simp only[Int.reduceOfNat,Int.reduceNegSucc])
theorem u1r:Gam.fn 101=some k3h:=by kernel_rfl
noncomputable def y2c:AFun:=(fun (a:AFun) (_:Gam.fn 103=some a)=>a) _ (by conv=>lhs;reduce;simp only[Int.reduceOfNat,Int.reduceNegSucc])
theorem u1s:Gam.fn 103=some y2c:=by kernel_rfl
noncomputable def y2d:AFun:=(fun (a:AFun) (_:Gam.fn 167=some a)=>a) _ (by conv=>lhs;reduce;simp only[Int.reduceOfNat,Int.reduceNegSucc])
theorem u1t:Gam.fn 167=some y2d:=by kernel_rfl
noncomputable def y2e:AFun:=(fun (a:AFun) (_:Gam.fn 232=some a)=>a) _ (by conv=>lhs;reduce;simp only[Int.reduceOfNat,Int.reduceNegSucc])
theorem u1u:Gam.fn 232=some y2e:=by kernel_rfl
noncomputable def k9o:AFun:=(fun (a:AFun) (_:Gam.fn 233=some a)=>a) _ (by conv=>lhs;reduce;simp only[Int.reduceOfNat,Int.reduceNegSucc])
theorem u1v:Gam.fn 233=some k9o:=by kernel_rfl
noncomputable def g3v:AFun:=(fun (a:AFun) (_:Gam.fn 280=some a)=>a) _ (by conv=>lhs;reduce;simp only[Int.reduceOfNat,Int.reduceNegSucc])
noncomputable def x4c:ACode:=(fun (a:ACode) (_:fl [] (lp g3v 0)=a)=>a) _ (by conv=>lhs;reduce;simp only[Int.reduceOfNat,Int.reduceNegSucc])
attribute [local irreducible] x4c
noncomputable def y2f:AFun:=(fun (a:AFun) (_:flF [x4c] g3v=a)=>a) _ (by conv=>lhs;reduce;simp only[Int.reduceOfNat,Int.reduceNegSucc])
theorem u1w:Gam.fn 280=some y2f:=by kernel_rfl
end
section
open Sh
set_option maxHeartbeats 0
noncomputable def q26:AFun:=(fun (a:AFun) (_:Gam.fn 6=some a)=>a) _ (by conv=>lhs;reduce;simp only[Int.reduceOfNat,Int.reduceNegSucc])
noncomputable def k9p:ACode:=(fun (a:ACode) (_:fl [] (lp q26 0)=a)=>a) _ (by conv=>lhs;reduce;simp only[Int.reduceOfNat,Int.reduceNegSucc])
attribute [local irreducible] k9p
noncomputable def u7g:AFun:=(fun (a:AFun) (_:flF [k9p] q26=a)=>a) _ (by conv=>lhs;reduce;simp only[Int.reduceOfNat,Int.reduceNegSucc])
theorem g1p:Gam.fn 6=some u7g:=by kernel_rfl
noncomputable def k9q:AFun:=(fun (a:AFun) (_:Gam.fn 15=some a)=>a) _ (by conv=>lhs;reduce;simp only[Int.reduceOfNat,Int.reduceNegSucc])
theorem g1q:Gam.fn 15=some k9q:=by kernel_rfl
noncomputable def u7h:AFun:=(fun (a:AFun) (_:Gam.fn 25=some a)=>a) _ (by conv=>lhs;reduce;simp only[Int.reduceOfNat,Int.reduceNegSucc])
theorem g1r:Gam.fn 25=some u7h:=by kernel_rfl
noncomputable def w1k:AFun:=(fun (a:AFun) (_:Gam.fn 16=some a)=>a) _ (by conv=>lhs;reduce;simp only[Int.reduceOfNat,Int.reduceNegSucc])
theorem u7i:Gam.fn 16=some w1k:=by kernel_rfl
noncomputable def u7j:AFun:=(fun (a:AFun) (_:Gam.fn 26=some a)=>a) _ (by conv=>lhs;reduce;simp only[Int.reduceOfNat,Int.reduceNegSucc])
theorem g1s:Gam.fn 26=some u7j:=by kernel_rfl
noncomputable def q53:AFun:=(fun (a:AFun) (_:Gam.fn 27=some a)=>a) _ (by conv=>lhs;reduce;simp only[Int.reduceOfNat,Int.reduceNegSucc])
noncomputable def k3i:ACode:=(fun (a:ACode) (_:fl [] (lp q53 1)=a)=>a) _ (by conv=>lhs;reduce;simp only[Int.reduceOfNat,Int.reduceNegSucc])
attribute [local irreducible] k3i
noncomputable def k9r:ACode:=(fun (a:ACode) (_:fl [k3i] (lp q53 0)=a)=>a) _ (by conv=>lhs;reduce;simp only[Int.reduceOfNat,Int.reduceNegSucc])
attribute [local irreducible] k9r
noncomputable def u7k:AFun:=(fun (a:AFun) (_:flF [k9r,k3i] q53=a)=>a) _ (by conv=>lhs;reduce;simp only[Int.reduceOfNat,Int.reduceNegSucc])
theorem g1t:Gam.fn 27=some u7k:=by kernel_rfl
noncomputable def u7l:AFun:=(fun (a:AFun) (_:Gam.fn 66=some a)=>a) _ (by conv=>lhs;reduce;simp only[Int.reduceOfNat,Int.reduceNegSucc])
theorem g1u:Gam.fn 66=some u7l:=by kernel_rfl
noncomputable def q72:AFun:=(fun (a:AFun) (_:Gam.fn 48=some a)=>a) _ (by conv=>lhs;reduce;simp only[Int.reduceOfNat,Int.reduceNegSucc])
noncomputable def j9o:ACode:=(fun (a:ACode) (_:fl [] (lp q72 0)=a)=>a) _ (by conv=>lhs;reduce;simp only[Int.reduceOfNat,Int.reduceNegSucc])
attribute [local irreducible] j9o
noncomputable def u7m:AFun:=(fun (a:AFun) (_:flF [j9o] q72=a)=>a) _ (by conv=>lhs;reduce;simp only[Int.reduceOfNat,Int.reduceNegSucc])
theorem g1v:Gam.fn 48=some u7m:=by kernel_rfl
noncomputable def q97:AFun:=(fun (a:AFun) (_:Gam.fn 68=some a)=>a) _ (by conv=>lhs;reduce;simp only[Int.reduceOfNat,Int.reduceNegSucc])
noncomputable def w1l:ACode:=(fun (a:ACode) (_:fl [] (lp q97 0)=a)=>a) _ (by conv=>lhs;reduce;simp only[Int.reduceOfNat,Int.reduceNegSucc])
attribute [local irreducible] w1l
noncomputable def u7n:AFun:=(fun (a:AFun) (_:flF [w1l] q97=a)=>a) _ (by conv=>lhs;reduce;simp only[Int.reduceOfNat,Int.reduceNegSucc])
theorem g1w:Gam.fn 68=some u7n:=by kernel_rfl
noncomputable def u7o:AFun:=(fun (a:AFun) (_:Gam.fn 69=some a)=>a) _ (by conv=>lhs;reduce;simp only[Int.reduceOfNat,Int.reduceNegSucc])
theorem u7p:Gam.fn 69=some u7o:=by kernel_rfl
noncomputable def y2g:AFun:=(fun (a:AFun) (_:Gam.fn 119=some a)=>a) _ (by conv=>lhs;reduce;simp only[Int.reduceOfNat,Int.reduceNegSucc])
theorem u1x:Gam.fn 119=some y2g:=by kernel_rfl
noncomputable def y2h:AFun:=(fun (a:AFun) (_:Gam.fn 43=some a)=>a) _ (by conv=>lhs;reduce;simp only[Int.reduceOfNat,Int.reduceNegSucc])
theorem u1y:Gam.fn 43=some y2h:=by kernel_rfl
noncomputable def y2i:AFun:=(fun (a:AFun) (_:Gam.fn 95=some a)=>a) _ (by conv=>lhs;reduce;simp only[Int.reduceOfNat,Int.reduceNegSucc])
theorem u1z:Gam.fn 95=some y2i:=by kernel_rfl
noncomputable def u7q:AFun:=(fun (a:AFun) (_:Gam.fn 120=some a)=>a) _ (by conv=>lhs;reduce;simp only[Int.reduceOfNat,Int.reduceNegSucc])
noncomputable def k3j:ACode:=(fun (a:ACode) (_:fl [] (lp u7q 0)=a)=>a) _ (by conv=>lhs;reduce;simp only[Int.reduceOfNat,Int.reduceNegSucc])
attribute [local irreducible] k3j
noncomputable def y2j:AFun:=(fun (a:AFun) (_:flF [k3j] u7q=a)=>a) _ (by conv=>lhs;reduce;simp only[Int.reduceOfNat,Int.reduceNegSucc])
theorem u2a:Gam.fn 120=some y2j:=by kernel_rfl
noncomputable def y2k:AFun:=(fun (a:AFun) (_:Gam.fn 121=some a)=>a) _ (by conv=>lhs;reduce;simp only[Int.reduceOfNat,Int.reduceNegSucc])
theorem u2b:Gam.fn 121=some y2k:=by kernel_rfl
noncomputable def u7r:AFun:=(fun (a:AFun) (_:Gam.fn 42=some a)=>a) _ (by conv=>lhs;reduce;simp only[Int.reduceOfNat,Int.reduceNegSucc])
noncomputable def j5l:ACode:=(fun (a:ACode) (_:fl [] (lp u7r 0)=a)=>a) _ (by conv=>lhs;reduce;simp only[Int.reduceOfNat,Int.reduceNegSucc])
attribute [local irreducible] j5l
noncomputable def w1m:AFun:=(fun (a:AFun) (_:flF [j5l] u7r=a)=>a) _ (by conv=>lhs;reduce;simp only[Int.reduceOfNat,Int.reduceNegSucc])
theorem w1n:Gam.fn 42=some w1m:=by kernel_rfl
noncomputable def w1o:AFun:=(fun (a:AFun) (_:Gam.fn 154=some a)=>a) _ (by conv=>lhs;reduce;simp only[Int.reduceOfNat,Int.reduceNegSucc])
theorem y2l:Gam.fn 154=some w1o:=by kernel_rfl
noncomputable def u7s:AFun:=(fun (a:AFun) (_:Gam.fn 155=some a)=>a) _ (by conv=>lhs;reduce;simp only[Int.reduceOfNat,Int.reduceNegSucc])
noncomputable def k3k:ACode:=(fun (a:ACode) (_:fl [] (lp u7s 0)=a)=>a) _ (by conv=>lhs;reduce;simp only[Int.reduceOfNat,Int.reduceNegSucc])
attribute [local irreducible] k3k
noncomputable def y2m:AFun:=(fun (a:AFun) (_:flF [k3k] u7s=a)=>a) _ (by conv=>lhs;reduce;simp only[Int.reduceOfNat,Int.reduceNegSucc])
theorem u2c:Gam.fn 155=some y2m:=by kernel_rfl
noncomputable def y2n:AFun:=(fun (a:AFun) (_:Gam.fn 94=some a)=>a) _ (by conv=>lhs;reduce;simp only[Int.reduceOfNat,Int.reduceNegSucc])
theorem u2d:Gam.fn 94=some y2n:=by kernel_rfl
noncomputable def y2o:AFun:=(fun (a:AFun) (_:Gam.fn 96=some a)=>a) _ (by conv=>lhs;reduce;simp only[Int.reduceOfNat,Int.reduceNegSucc])
theorem u2e:Gam.fn 96=some y2o:=by kernel_rfl
noncomputable def u7t:AFun:=(fun (a:AFun) (_:Gam.fn 224=some a)=>a) _ (by conv=>lhs;reduce;simp only[Int.reduceOfNat,Int.reduceNegSucc])
noncomputable def j5m:ACode:=(fun (a:ACode) (_:fl [] (lp u7t 0)=a)=>a) _ (by conv=>lhs;reduce;simp only[Int.reduceOfNat,Int.reduceNegSucc])
attribute [local irreducible] j5m
noncomputable def y2p:AFun:=(fun (a:AFun) (_:flF [j5m] u7t=a)=>a) _ (by conv=>lhs;reduce;simp only[Int.reduceOfNat,Int.reduceNegSucc])
theorem u2f:Gam.fn 224=some y2p:=by kernel_rfl
noncomputable def w1p:AFun:=(fun (a:AFun) (_:Gam.fn 272=some a)=>a) _ (by conv=>lhs;reduce;simp only[Int.reduceOfNat,Int.reduceNegSucc])
theorem u2g:Gam.fn 272=some w1p:=by kernel_rfl
noncomputable def y2q:AFun:=(fun (a:AFun) (_:Gam.fn 305=some a)=>a) _ (by conv=>lhs;reduce;simp only[Int.reduceOfNat,Int.reduceNegSucc])
theorem u2h:Gam.fn 305=some y2q:=by kernel_rfl
noncomputable def y2r:AFun:=(fun (a:AFun) (_:Gam.fn 306=some a)=>a) _ (by conv=>lhs;reduce;simp only[Int.reduceOfNat,Int.reduceNegSucc])
theorem u2i:Gam.fn 306=some y2r:=by kernel_rfl
end
section
variable {D L:List AObj} {B k g:Nat} {o:AObj}
theorem z5l (hB:D.length=B):(D++L).set (B + k) o=D++L.set k o:=by
 subst hB
 rw[List.set_append_right _ _ (by omega)]
 congr 2
 omega
theorem z6c (hB:D.length=B):(D++L)[B + k]? =L[k]? :=by
 subst hB
 rw[List.getElem?_append_right (by omega)]
 congr 1
 omega
theorem z7b (hB:D.length=B):z2g (D++L) (B + k) g=z2g L k g:=by
 unfold z2g
 rw[z6c hB]
theorem x6c (hB:D.length=B):z5q (D++L) (B + k) g=z5q L k g:=by
 unfold z5q
 rw[z6c hB]
theorem k3l {s:Nat} (hB:D.length=B) (h:s < B):(D++L).set s o=D.set s o++L:=List.set_append_left _ _ (hB ▸ h)
theorem z0w {s:Nat} (hB:D.length=B) (h:s < B):(D++L)[s]? =D[s]? :=List.getElem?_append_left (hB ▸ h)
theorem z3m {s:Nat} (hB:D.length=B) (h:s < B):z2g (D++L) s g=z2g D s g:=by
 unfold z2g
 rw[z0w hB h]
theorem w1q {s:Nat} {es:List AV} {r w:Bool} {z:Nat} (hB:D.length=B) (h:s < B):z2g (D.set s (.blk g es r w z)++L) s g=some (es,r,w,z):=by
 rw[z3m (B:=B) (by rw[List.length_set];exact hB) h]
 subst hB
 simp[z2g,h]
theorem k9s {os:List AObj} {es:List AV} {r w:Bool} {z:Nat}:z2g (.blk g es r w z::os) 0 g=some (es,r,w,z):=by simp[z2g]
theorem k9t {os:List AObj}:z2g (o::os) (k + 1) g=z2g os k g:=by simp[z2g]
theorem z5m {s:Nat} {es:List AV} {r w:Bool} {z:Nat} (h:D[s]? =some (.blk g es r w z)):z2g D s g=some (es,r,w,z):=by simp[z2g,h]
theorem j5n {os:List AObj} {es:List (AV×AV)}:z5q (.map g es::os) 0 g=some es:=by simp[z5q]
theorem j5o {os:List AObj}:z5q (o::os) (k + 1) g=z5q os k g:=by simp[z5q]
theorem q0s {h:List AObj} {s i o sz:Nat} {v:AV}:z9z h sz v (.ptr s g i o)=match z2g h s g with
 | some (es,row,grow,fz)=>
   match es[i]?,(if row then pub h v else some (v,h)) with
   | some e,some (v',h')=>
     if v'.def? =true∧v'.cells.length=sz∧v'.cells.all AV.one=true∧(row=true→fz≤i∧ !(v.obs.map (·.1)).contains s) then
      (q0k e.cells o v'.cells).map fun cs=>(.undef,h'.set s (.blk g (es.set i (z9s e cs)) row grow fz))
     else none
   | _,_=>none
 | none=>none:=rfl
end
theorem j9p {cs:List AV} {o:Nat}:z1x cs o none=cs[o]? :=(rfl)
theorem j9q {cs:List AV} {o n:Nat}:z1x cs o (some n)=if o + n≤cs.length then some (.agg ((cs.drop o).take n)) else none:=(rfl)
attribute [go_sem] q0s v9l q0k List.all_cons List.all_nil Bool.and_true Bool.true_and Bool.and_self List.isEmpty_cons Bool.not_true Bool.not_false Bool.or_self Bool.or_false Bool.false_or Bool.false_eq_true false_implies true_and and_true and_self List.singleton_append List.cons_append List.nil_append j9p j9q List.length_cons List.length_nil List.drop_zero List.drop_succ_cons List.take_succ_cons List.take_zero List.take_nil z5l z7b x6c k9s k9t j5n j5o List.replicate_succ List.replicate_zero List.set_cons_zero List.set_cons_succ List.getElem?_cons_zero List.getElem?_cons_succ cvL AV.cv
def q3x (l:List Int):List AV:=l.map fun n=> .int .i64 n
def z4p (g:Nat) (l:List Int) (i:Nat):AObj:= .blk g [.agg [.sl (q3x l) .no, .int .i64 i]] false false 0
def q6z (l:List Int):Prop:=l.length≤400∧∀ z∈l, -9223372036854775808≤z∧z≤9223372036854775807
theorem q3r {l:List Int}:idsL (q3x l)=[]:=by
 induction l with
 | nil=>rfl
 | cons a l ih=>simpa [q3x,idsL,AV.ids] using ih
theorem x0s {g i:Nat} {l:List Int}:(z4p g l i).ids=[]:=by simp[z4p,AObj.ids,idsL,AV.ids,q3r]
theorem q3s {l:List Int}:(q3x l).length=l.length:=List.length_map _
theorem k9u {l:List Int} {i:Nat} (h:i < l.length):(q3x l)[i]? =some (.int .i64 l[i]):=by simp[q3x,h]
theorem k9v {l:List Int} {i:Nat} {h:List AObj} {t:Tip} {k:IntKind} (hi:i < l.length):z1p h 1 (.sl (q3x l) t) (.int k (i:Int))=some (.iptr [.int .i64 l[i]] 0,h):=z4h (k9u hi) rfl
def GenOk (l:List Int) (f:Nat) (args:List AV) (R:AV→Prop):Prop:=
 ∀ h s g i clk (Q:AV→List AObj→Nat→Prop),h[s]? =some (z4p g l i)→i≤l.length→(∀ v i',i'≤l.length→R v→Q v (h.set s (z4p g l i')) clk)→
   WC Gam f (.ptr s g 0 0::args) h clk Q∧z1a Gam f (.ptr s g 0 0::args) h=[s]
theorem GenOk.of {l:List Int} {f:Nat} {args az:List AV} {af:AFun} {R:AV→Prop} (hext:Gam.ext f=none) (hfn:Gam.fn f=some af) (hb:af.byref=[]) (ho:af.owned=false) (hobs:z4r args=[]) (has:cvL args=az) (hids:idsL az=[])
  (hw:∀ (D:List AObj) (B s g i clk:Nat) (T:AV→List AObj→Prop),D.length=B→s < B→D[s]? =some (z4p g l i)→i≤l.length→(∀ v h' i',h'[s]? =some (z4p g l i')→i'≤l.length→R v→T v h')→
   K Gam B af.body [] ⟨q0m (.ptr s g 0 0::az),D++List.replicate af.nslots .dead,clk⟩ (k2h [s] af.results T)):GenOk l f args R:=by
 intro h s g i clk Q hs hi hQ
 have hobs':z4r (.ptr s g 0 0::args)=[]:=by simp[z4r,AV.obs,hobs]
 have has':cvL (.ptr s g 0 0::args)= .ptr s g 0 0::az:=by simp[cvL,AV.cv,has]
 have hids':idsL (.ptr s g 0 0::az)=[s]:=by simp[idsL,AV.ids,hids]
 refine⟨?_, ?_⟩
 ·refine w7b hext hfn hb ho hobs' has' hids' hs x0s fun D B T hB hD hlt hT=>hw D B s g i clk T hB hlt hD hi fun v h' i' h1 h2 h3=>hT v h' _ h1 x0s (hQ v i' h2 h3)
 ·unfold z1a
  have hp:z1v h af.byref 0 (.ptr s g 0 0::args)=some (.ptr s g 0 0::az):=by rw[hb,z1o hobs',has']
  simp only[hext,hfn,hp,hobs',hids',List.map_nil,List.nil_append,reach,List.contains_nil,Bool.false_eq_true,if_false,hs,Option.map_some,x0s,Option.getD_some]
  cases h.length <;> rfl
theorem j9r {f g f' g':List Nat×List Nat} (hf1:∀ x∈f'.1,x∈f.1) (hf2:∀ x∈f'.2,x∈f.2) (hg1:∀ x∈g'.1,x∈g.1) (hg2:∀ x∈g'.2,x∈g.2) (h:apart f g=true):apart f' g'=true:=by
 simp only[apart,z0l,Bool.and_eq_true,List.all_eq_true,Bool.not_eq_true',List.contains_eq_mem,decide_eq_false_iff_not] at h⊢
 exact⟨⟨fun x hx hy=>h.1.1 x (hf2 x hx) (hg1 x hy),fun x hx hy=>h.1.2 x (hf2 x hx) (hg2 x hy)⟩,fun x hx hy=>h.2 x (hg2 x hx) (hf1 x hy)⟩
def FeetLe (fs gs:List (List Nat×List Nat)):Prop:=fs.length=gs.length∧∀ i,(∀ x∈(fs.getD i ([],[])).1,x∈(gs.getD i ([],[])).1)∧(∀ x∈(fs.getD i ([],[])).2,x∈(gs.getD i ([],[])).2)
theorem j2x {N:Nat} {ops:List AOper} {fs gs:List (List Nat×List Nat)} {ps:List (Nat×Nat)} (hl:FeetLe fs gs) (h:z1e N ops gs ps=true):z1e N ops fs ps=true:=by
 unfold z1e at h⊢
 rw[List.all_eq_true] at h⊢
 intro p hp
 have:=h p hp
 simp only[Bool.and_eq_true,Bool.or_eq_true] at this⊢
 refine⟨j9r (hl.2 p.1).1 (hl.2 p.1).2 (hl.2 p.2).1 (hl.2 p.2).2 this.1,this.2.imp id fun h2=> ?_⟩
 rw[List.all_eq_true] at h2⊢
 intro x hx
 refine h2 x ?_
 simp only[z1i,List.mem_append] at hx⊢
 rcases hx with (hx | hx) | (hx | hx)
 ·exact .inl (.inl ((hl.2 p.1).1 x hx))
 ·exact .inl (.inr ((hl.2 p.1).2 x hx))
 ·exact .inr (.inl ((hl.2 p.2).1 x hx))
 ·exact .inr (.inr ((hl.2 p.2).2 x hx))
theorem FeetLe.mid {fs gs:List (List Nat×List Nat)} {f f':List Nat×List Nat} (h1:∀ x∈f.1,x∈f'.1) (h2:∀ x∈f.2,x∈f'.2):FeetLe (fs++[f]++gs) (fs++[f']++gs):=by
 refine⟨by simp,fun i=> ?_⟩
 simp only[List.getD_eq_getElem?_getD,List.append_assoc,List.cons_append,List.nil_append]
 rcases Nat.lt_trichotomy i fs.length with h | h | h
 ·rw[List.getElem?_append_left h,List.getElem?_append_left h]
  exact⟨fun x hx=>hx,fun x hx=>hx⟩
 ·subst h
  simp only[List.getElem?_append_right (Nat.le_refl _),Nat.sub_self,List.getElem?_cons_zero,Option.getD_some]
  exact⟨h1,h2⟩
 ·obtain⟨j,rfl⟩:∃ j,i=fs.length + (j + 1):=⟨i - fs.length - 1,by omega⟩
  rw[List.getElem?_append_right (by omega),List.getElem?_append_right (by omega),show fs.length + (j + 1) - fs.length=j + 1 by omega]
  exact⟨fun x hx=>hx,fun x hx=>hx⟩
theorem k3m {base g:Nat} {os:List AOper} {s:St} {ks:List Kf} {Q:Post} {m:Md} {f f':List Nat×List Nat} (h1:∀ x∈f.1,x∈f'.1) (h2:∀ x∈f.2,x∈f'.2) (h:O Gam base (m.add f') g os s ks Q):O Gam base (m.add f) g os s ks Q:=by
 obtain⟨k,s',fs,h3,h4,h5⟩:=h
 refine⟨k,s',fs,h3, ?_,h5⟩
 cases m with
 | plain=>exact h4
 | draw N ops ps gs=>
   simp only[Md.add,q5s,Md.ok] at h4⊢
   exact j2x (FeetLe.mid h1 h2) h4
theorem z0p {l:List Int} {f base B s g i clk gg:Nat} {args:List AV} {R:AV→Prop} {D L:List AObj} {m:Md} {dst:Option Nat} {os:List AOper} {ts:Tmps} {ks:List Kf} {Q:Post} (hg:GenOk l f args R) (hB:D.length=B) (hs:s < B) (hD:D[s]? =some (z4p g l i)) (hi:i≤l.length)
  (hQ:∀ v D' i',R v→D'.length=B→D'[s]? =some (z4p g l i')→i'≤l.length→O Gam base (m.add ([s],[s])) (gg + 1) os ⟨z9n ts dst v,D'++L,clk⟩ ks Q):CK Gam base f (.ptr s g 0 0::args) (D++L) clk m dst gg os ts ks Q:=by
 unfold CK
 have hD':(D++L)[s]? =some (z4p g l i):=by rw[z0w hB hs];exact hD
 obtain⟨_,hf⟩:=hg (D++L) s g i clk (fun _ _ _=>True) hD' hi (fun _ _ _ _=>trivial)
 refine (hg (D++L) s g i clk _ hD' hi fun v i' hi' hv=> ?_).1
 refine k3m (f':=([s],[s])) ?_ ?_ ?_
 ·rw[hf];exact fun x hx=>hx
 ·rw[hf];exact fun x hx=>(List.mem_filter.1 hx).1
 ·rw[k3l hB hs]
  exact hQ v _ i' hv (by rw[List.length_set];exact hB) (by subst hB;simp[hs]) hi'
theorem j5p {z:Int}:IntKind.u64.wrap z=z % 18446744073709551616:=by simp[IntKind.wrap,IntKind.signed,IntKind.bits]
theorem y2s {z n:Int} (hn:0 < n) (hn2:n < 2 ^ 62):∃ r:Int,0≤r∧r < n∧Pure Gam 66 [.int .i64 z, .int .i64 n] (.int .i64 r):=by
 have hw:0≤IntKind.u64.wrap z:=by rw[j5p];omega
 have hwn:IntKind.u64.wrap n=n:=by rw[j5p];omega
 have h1:0≤(IntKind.u64.wrap z).tmod n:=Int.tmod_nonneg _ hw
 have h2:(IntKind.u64.wrap z).tmod n < n:=Int.tmod_lt_of_pos _ hn
 refine⟨(IntKind.u64.wrap z).tmod n,h1,h2,Pure.of rfl g1u rfl rfl rfl rfl rfl fun D B clk T hB hT=> ?_⟩
 simp only[go_sem,u7l,hwn]
 rw[q2f (by omega)]
 simp only[go_sem,]
 rw[z0g rfl rfl,z0c (by omega) (by omega)]
 exact hT _
theorem z2x {l:List Int} {n:Int} (hl:q6z l) (hn:0 < n) (hn2:n < 2 ^ 62):GenOk l 25 [.int .i64 n] fun v=>∃ r:Int,v= .int .i64 r∧0≤r∧r < n:=by
 refine GenOk.of rfl g1r rfl rfl rfl rfl rfl fun D B s g i clk T hB hs hD hi hT=> ?_
 have hb:=z5m (g:=g) hD
 simp only[go_sem,u7h,z3m hB hs,hb,q3s]
 refine z8n (fun hc=> ?_) (fun hc=> ?_)
 ·simp only[go_sem,z3m hB hs,hb,q3s]
  rw[z0g rfl rfl]
  exact hT _ _ i (by rw[z0w hB hs];exact hD) hi ⟨0,rfl,by omega,by omega⟩
 ·have hlt:i < l.length:=by simpa using hc
  have hl400:=hl.1
  have e0:IntKind.i64.wrap ((i:Int) + 1)=(i:Int) + 1:=z0c (by omega) (by omega)
  have e1:IntKind.i64.wrap ((i:Int) + 1 - 1)=(i:Int):=by rw[z0c (by omega) (by omega)];omega
  simp only[go_sem,z3m hB hs,hb,q3s,e0,e1,k3l hB hs,w1q hB hs,k9v hlt]
  obtain⟨r,h1,h2,hp⟩:=y2s (z:=l[i]) hn hn2
  rw[z0a hp]
  simp only[go_sem,Md.add]
  rw[z0g rfl rfl]
  exact hT _ _ (i + 1) (by rw[z0w (by rw[List.length_set];exact hB) hs];subst hB;simp[hs,z4p]) (by omega) ⟨r,rfl,h1,h2⟩
theorem w1r {l:List Int}:GenOk l 26 [] fun v=>∃ b:Bool,v= .bool b:=by
 refine GenOk.of rfl g1s rfl rfl rfl rfl rfl fun D B s g i clk T hB hs hD hi hT=> ?_
 have hb:=z5m (g:=g) hD
 simp only[go_sem,u7j,z3m hB hs,hb,q3s]
 rw[z0g rfl rfl]
 exact hT _ _ i (by rw[z0w hB hs];exact hD) hi ⟨_,rfl⟩
section
variable {h:List AObj} {base g k:Nat} {ts:Tmps} {z:AV}
theorem k3n {n:Nat} {ps:List (Nat×AOpd)} (hz:z.def? =true) (hp:ps.map (·.1)=List.range n) (ho:z4r (ps.map fun p=>p.2.ev ts)=[])
  (hv:∀ v∈cvL (ps.map fun p=>p.2.ev ts),v.def? =true∧v.cells.length=z.cells.length):prim h base g ts (.buildSlice k false z n ps)=some (.sl (cvL (ps.map fun p=>p.2.ev ts)) .full,h):=by
 have key:∀ (vs es:List AV) (j:Nat),(∀ v∈vs,v.def? =true∧v.cells.length=z.cells.length)→es.length=j + vs.length→z5r z.cells.length es ((List.range vs.length).map (· + j)) vs=some (es.take j++vs):=by
  intro vs
  induction vs with
  | nil=>intro es j _ hl;simp[z5r];rw[List.take_of_length_le (by simp at hl;omega)]
  | cons v vs ih=>
    intro es j hv hl
    have hlt:j < es.length:=by simp at hl;omega
    have h1:=hv v List.mem_cons_self
    rw[List.length_cons,List.range_succ_eq_map]
    simp only[List.map_cons,List.map_map,Nat.zero_add,z5r,hlt,h1,and_self,if_true]
    have:=ih (es.set j v) (j + 1) (fun w hw=>hv w (List.mem_cons_of_mem _ hw)) (by simp at hl⊢;omega)
    rw[show (List.range vs.length).map ((fun x=>x + j)∘Nat.succ)=(List.range vs.length).map (· + (j + 1)) from List.map_congr_left fun a _=>by simp only[Function.comp];omega,this]
    congr 1
    rw[List.take_add_one,List.getElem?_set_self (by omega),List.take_set_of_le (Nat.le_refl _)]
    simp
 have hn:n=(cvL (ps.map fun p=>p.2.ev ts)).length:=by
  have h1:=congrArg List.length hp
  simp only[List.length_map,List.length_range] at h1
  have h2:∀ l:List AV,(cvL l).length=l.length:=fun l=>by induction l with
   | nil=>rfl
   | cons a l ih=>simp[cvL,ih]
  rw[h2,List.length_map,h1]
 have h3:=key _ (List.replicate n z) 0 hv (by rw[List.length_replicate];omega)
 rw[←hn] at h3
 simp only[Nat.add_zero,List.map_id',List.take_zero,List.nil_append] at h3
 simp only[prim,hz,Bool.not_true,Bool.false_eq_true,if_false,q9a ho,hp,h3,ho,freezeAll,Option.map_some]
def bsV (h:List AObj) (z:AV) (n:Nat) (js:List Nat) (vs:List AV):Option (AV×List AObj):=
 if !z.def? then none else match q0j h vs with
  | some ws=>(z5r z.cells.length (List.replicate n z) js ws).map fun es=>(.sl es .full,freezeAll h (z4r vs))
  | none=>none
theorem y9b {n:Nat} {ps:List (Nat×AOpd)}:prim h base g ts (.buildSlice k false z n ps)=bsV h z n (ps.map (·.1)) (ps.map fun p=>p.2.ev ts):=by
 simp only[prim,bsV,Bool.false_eq_true,if_false]
 rfl
section
variable {v v2 v3 v4:AV}
theorem y9c (hz:z.def? =true) (ho:v.obs=[]) (hd:v.cv.def? =true) (hl:v.cv.cells.length=z.cells.length):bsV h z 1 [0] [v]=some (.sl [v.cv] .full,h):=by
 have:=k3n (h:=h) (base:=0) (g:=0) (k:=0) (ts:=fun _=>v) (z:=z) (n:=1) (ps:=[(0, .const v)]) hz rfl (by simp[z4r,ho,AOpd.ev]) (by simp[cvL,hd,hl,AOpd.ev])
 rw[y9b] at this
 simpa [cvL,AOpd.ev] using this
theorem g1x (hz:z.def? =true) (ho:v.obs=[]) (hd:v.cv.def? =true) (hl:v.cv.cells.length=z.cells.length) (ho2:v2.obs=[]) (hd2:v2.cv.def? =true) (hl2:v2.cv.cells.length=z.cells.length):bsV h z 2 [0,1] [v,v2]=some (.sl [v.cv,v2.cv] .full,h):=by
 have:=k3n (h:=h) (base:=0) (g:=0) (k:=0) (ts:=fun _=>v) (z:=z) (n:=2) (ps:=[(0, .const v),(1, .const v2)]) hz rfl (by simp[z4r,ho,ho2,AOpd.ev]) (by simp[cvL,hd,hl,hd2,hl2,AOpd.ev])
 rw[y9b] at this
 simpa [cvL,AOpd.ev] using this
theorem g1y (hz:z.def? =true) (ho:v.obs=[]) (hd:v.cv.def? =true) (hl:v.cv.cells.length=z.cells.length) (ho2:v2.obs=[]) (hd2:v2.cv.def? =true) (hl2:v2.cv.cells.length=z.cells.length) (ho3:v3.obs=[]) (hd3:v3.cv.def? =true) (hl3:v3.cv.cells.length=z.cells.length):bsV h z 3 [0,1,2] [v,v2,v3]=some (.sl [v.cv,v2.cv,v3.cv] .full,h):=by
 have:=k3n (h:=h) (base:=0) (g:=0) (k:=0) (ts:=fun _=>v) (z:=z) (n:=3) (ps:=[(0, .const v),(1, .const v2),(2, .const v3)]) hz rfl (by simp[z4r,ho,ho2,ho3,AOpd.ev]) (by simp[cvL,hd,hl,hd2,hl2,hd3,hl3,AOpd.ev])
 rw[y9b] at this
 simpa [cvL,AOpd.ev] using this
end
section
variable {dst:Option Nat} {os:List AOper} {clk:Nat} {ks:List Kf} {Q:Post}
theorem g1z {n:Nat} {ps:List (Nat×AOpd)}:O Gam base .plain g (⟨dst, .buildSlice k false z n ps,none⟩::os) ⟨ts,h,clk⟩ ks Q=PP Gam base (bsV h z n (ps.map (·.1)) (ps.map fun p=>p.2.ev ts)) dst g os ts clk ks Q:=by rw[q4d rfl,y9b]
end
theorem w1s {cs:List AV}:(AV.agg cs).obs=z4r cs:=(rfl)
theorem y2t {cs:List AV} {t:Tip}:(AV.sl cs t).obs=[]:=(rfl)
theorem j2y {k:IntKind} {n:Int}:(AV.int k n).obs=[]:=(rfl)
theorem w1t {n:List Nat}:(AV.str n).obs=[]:=(rfl)
theorem j5q {n:Bool}:(AV.bool n).obs=[]:=(rfl)
theorem k9w:z4r []=[]:=(rfl)
theorem k3o {v:AV} {vs:List AV}:z4r (v::vs)=v.obs++z4r vs:=(rfl)
attribute [go_sem] g1z y9c g1x g1y z6e w1s y2t j2y w1t j5q k9w k3o
section
variable {dst:Option Nat} {os:List AOper} {clk:Nat} {ks:List Kf} {Q:Post}
def k7n (h:List AObj):AV→Option (AV×List AObj)
 | .str _=>none
 | x=>((z5s h x).bind z7m).map fun s=>(.str s,h)
theorem w1u {xs:List AV} {t:Tip}:k7n h (.sl xs t)=(z7m xs).map fun s=>(.str s,h):=(rfl)
def u7u (h:List AObj):AV→Option (AV×List AObj)
 | .str s=>some (.sl (s.map fun (b:Nat)=> .int .u8 (Int.ofNat b)) .no,h)
 | _=>none
theorem k9x {s:List Nat}:u7u h (.str s)=some (.sl (s.map fun (b:Nat)=> .int .u8 (Int.ofNat b)) .no,h):=(rfl)
def mmV (h:List AObj) (mx:Bool):AV→AV→Option (AV×List AObj)
 | .int k a, .int _ b=>some (.int k (if mx then (if b > a then b else a) else (if b < a then b else a)),h)
 | _,_=>none
theorem w1v {mx:Bool} {k j:IntKind} {a b:Int}:mmV h mx (.int k a) (.int j b)=some (.int k (if mx then (if b > a then b else a) else (if b < a then b else a)),h):=(rfl)
def lkV (h:List AObj) (t:ETy) (z:AV) (ok:Bool) (es:Option (List (AV×AV))) (ix:AV):Option (AV×List AObj):=
 match es with
 | some es=>if (ix.eqv t ix).isSome=true then (findKey t ix es).map fun r=>(q8q ok z r,h) else none
 | none=>none
def muV (h:List AObj) (t:ETy) (k v:AV):AV→Option (AV×List AObj)
 | .mp s g=>match z5q h s g,pub h v with
   | some es,some (v',h')=>if (k.eqv t k).isSome=true then (z7t t k v' es).map fun es'=>(.undef,h'.set s (.map g es')) else none
   | _,_=>none
 | _=>none
def msV (h:List AObj) (s g:Nat) (z:AV) (bytes:Nat):AV→AV→Option (AV×List AObj)
 | .int _ n, .int _ c=>
   if 0≤n∧n≤c∧c * (bytes + 1)≤z1g∧z.def? =true then some (.ob s g 0 n.toNat,h.set s (.blk g (List.replicate c.toNat z) true false 0)) else none
 | _,_=>none
def slV (h:List AObj) (esz:Option Nat) (x:AV) (lo hi mx:Option AV):Option (AV×List AObj):=(z2w h esz x lo hi mx).map (·,h)
theorem k3p {x:AOpd}:O Gam base .plain g (⟨dst, .ofBytes x,none⟩::os) ⟨ts,h,clk⟩ ks Q=PP Gam base (k7n h (x.ev ts)) dst g os ts clk ks Q:=by
 rw[q4d rfl];congr 1
theorem k3q {x:AOpd}:O Gam base .plain g (⟨dst, .toBytes x,none⟩::os) ⟨ts,h,clk⟩ ks Q=PP Gam base (u7u h (x.ev ts)) dst g os ts clk ks Q:=by
 rw[q4d rfl];congr 1
theorem k9y {x y:AOpd} {mx:Bool}:O Gam base .plain g (⟨dst, .minmax mx x y,none⟩::os) ⟨ts,h,clk⟩ ks Q=PP Gam base (mmV h mx (x.ev ts) (y.ev ts)) dst g os ts clk ks Q:=by
 rw[q4d rfl];congr 1
theorem k9z {t:ETy} {z:AV} {x ix:AOpd} {ok:Bool}:O Gam base .plain g (⟨dst, .lookup t z x ix ok,none⟩::os) ⟨ts,h,clk⟩ ks Q=PP Gam base (lkV h t z ok (x8e h (x.ev ts)) (ix.ev ts)) dst g os ts clk ks Q:=by
 rw[q4d rfl];rfl
theorem j2z {t:ETy} {m k v:AOpd}:O Gam base .plain g (⟨dst, .mapUpdate t m k v,none⟩::os) ⟨ts,h,clk⟩ ks Q=PP Gam base (muV h t (k.ev ts) (v.ev ts) (m.ev ts)) dst g os ts clk ks Q:=by
 rw[q4d rfl];congr 1
theorem j3a {k:Nat} {z:AV} {b:Nat} {n c:AOpd}:O Gam base .plain g (⟨dst, .makeSlice k z b n c,none⟩::os) ⟨ts,h,clk⟩ ks Q=PP Gam base (msV h (base + k) g z b (n.ev ts) (c.ev ts)) dst g os ts clk ks Q:=by
 rw[q4d rfl];congr 1
theorem w1w {esz:Option Nat} {x:AOpd} {lo hi mx:Option AOpd}:O Gam base .plain g (⟨dst, .slice esz x lo hi mx,none⟩::os) ⟨ts,h,clk⟩ ks Q=PP Gam base (slV h esz (x.ev ts) (lo.map (·.ev ts)) (hi.map (·.ev ts)) (mx.map (·.ev ts))) dst g os ts clk ks Q:=by
 rw[q4d rfl];rfl
end
attribute [go_sem] w1u k9x w1v k3p k3q k9y k9z j2z j3a w1w
section
variable {dst:Option Nat} {os os0:List AOper} {clk N:Nat} {ks:List Kf} {Q:Post} {ps:List (Nat×Nat)} {fs:List (List Nat×List Nat)}
theorem y2u {x:AOpd}:O Gam base (.draw N os0 ps fs) g (⟨dst,(.move x),none⟩::os) ⟨ts,h,clk⟩ ks Q=PO Gam base (some (x.ev ts,h)) (([],[])) (.draw N os0 ps fs) dst g os ts clk ks Q:=by rw[z6u rfl];congr 1
theorem y2v {c a b:AOpd}:O Gam base (.draw N os0 ps fs) g (⟨dst,(.pick c a b),none⟩::os) ⟨ts,h,clk⟩ ks Q=PO Gam base (k2j h (c.ev ts) (a.ev ts) (b.ev ts)) (([],[])) (.draw N os0 ps fs) dst g os ts clk ks Q:=by rw[z6u rfl];congr 1;exact v4w
theorem w1x {k:Nat} {z:AV}:O Gam base (.draw N os0 ps fs) g (⟨dst,(.alloc k z),none⟩::os) ⟨ts,h,clk⟩ ks Q=PO Gam base (v9l h (base + k) g z) (([],[base + k])) (.draw N os0 ps fs) dst g os ts clk ks Q:=by rw[z6u rfl];congr 1
theorem u2j {k:Nat} {x:AOpd}:O Gam base (.draw N os0 ps fs) g (⟨dst,(.box k x),none⟩::os) ⟨ts,h,clk⟩ ks Q=PO Gam base (v9l h (base + k) g (x.ev ts)) (([],[base + k])) (.draw N os0 ps fs) dst g os ts clk ks Q:=by rw[z6u rfl];congr 1
theorem w1y {z:List AV} {qs:List (Nat×Nat×AOpd)}:O Gam base (.draw N os0 ps fs) g (⟨dst,(.build z qs),none⟩::os) ⟨ts,h,clk⟩ ks Q=PO Gam base ((z6e z (qs.map fun p=>(p.1,p.2.1,p.2.2.ev ts))).map fun cs=>(.agg cs,h)) (([],[])) (.draw N os0 ps fs) dst g os ts clk ks Q:=by rw[z6u rfl];congr 1
theorem g2a {k n:Nat} {z:AV} {qs:List (Nat×AOpd)}:O Gam base (.draw N os0 ps fs) g (⟨dst,(.buildSlice k false z n qs),none⟩::os) ⟨ts,h,clk⟩ ks Q=PO Gam base (bsV h z n (qs.map (·.1)) (qs.map fun p=>p.2.ev ts)) (([],(z4r (qs.map fun p=>p.2.ev ts)).map (·.1))) (.draw N os0 ps fs) dst g os ts clk ks Q:=by rw[z6u rfl];congr 1
theorem y2w {sz:Option Nat} {a:AOpd}:O Gam base (.draw N os0 ps fs) g (⟨dst,(.load sz a),none⟩::os) ⟨ts,h,clk⟩ ks Q=PO Gam base (q2q h sz (a.ev ts)) (((a.ev ts).ids,[])) (.draw N os0 ps fs) dst g os ts clk ks Q:=by rw[z6u rfl];congr 1
theorem w1z {sz:Nat} {a x:AOpd}:O Gam base (.draw N os0 ps fs) g (⟨dst,(.store sz a x),none⟩::os) ⟨ts,h,clk⟩ ks Q=PO Gam base (z9z h sz (x.ev ts) (a.ev ts)) (([],(a.ev ts).ids++(x.ev ts).obs.map (·.1))) (.draw N os0 ps fs) dst g os ts clk ks Q:=by rw[z6u rfl];congr 1
theorem j9s {x:AOpd}:O Gam base (.draw N os0 ps fs) g (⟨dst,(.nilCheck x),none⟩::os) ⟨ts,h,clk⟩ ks Q=PO Gam base (k8v h (x.ev ts)) (([],[])) (.draw N os0 ps fs) dst g os ts clk ks Q:=by rw[z6u rfl];congr 1
theorem w2a {op:BinOp} {t:ETy} {x y:AOpd}:O Gam base (.draw N os0 ps fs) g (⟨dst,(.binOp op t x y),none⟩::os) ⟨ts,h,clk⟩ ks Q=PO Gam base (z7j h op t (x.ev ts) (y.ev ts)) (([],[])) (.draw N os0 ps fs) dst g os ts clk ks Q:=by rw[z6u rfl];congr 1
theorem j3b {x:AOpd} {o:Nat}:O Gam base (.draw N os0 ps fs) g (⟨dst,(.fieldAddr x o),none⟩::os) ⟨ts,h,clk⟩ ks Q=PO Gam base (k2k h o (x.ev ts)) (([],[])) (.draw N os0 ps fs) dst g os ts clk ks Q:=by rw[z6u rfl];congr 1
theorem k3r {x:AOpd} {i:Nat}:O Gam base (.draw N os0 ps fs) g (⟨dst,(.extract x i),none⟩::os) ⟨ts,h,clk⟩ ks Q=PO Gam base (y8z h i (x.ev ts)) (([],[])) (.draw N os0 ps fs) dst g os ts clk ks Q:=by rw[z6u rfl];congr 1
theorem u2k {t:LenTy} {x:AOpd}:O Gam base (.draw N os0 ps fs) g (⟨dst,(.len t x),none⟩::os) ⟨ts,h,clk⟩ ks Q=PO Gam base (k8w h t (x.ev ts)) (((x.ev ts).ids,[])) (.draw N os0 ps fs) dst g os ts clk ks Q:=by rw[z6u rfl];congr 1
theorem j3c {esz:Nat} {x ix:AOpd}:O Gam base (.draw N os0 ps fs) g (⟨dst,(.indexAddr none esz x ix),none⟩::os) ⟨ts,h,clk⟩ ks Q=PO Gam base (z1p h esz (x.ev ts) (ix.ev ts)) (((x.ev ts).ids,[])) (.draw N os0 ps fs) dst g os ts clk ks Q:=by rw[z6u rfl];congr 1;exact x0p
theorem v0a {k esz b:Nat} {mu:Bool} {x y:AOpd}:O Gam base (.draw N os0 ps fs) g (⟨dst,(.append k esz b mu x y),none⟩::os) ⟨ts,h,clk⟩ ks Q=PO Gam base (z1k h (base + k) g esz b mu (x.ev ts) (y.ev ts)) (((y.ev ts).ids,(base + k)::(x.ev ts).ids)) (.draw N os0 ps fs) dst g os ts clk ks Q:=by rw[z6u rfl];congr 1
theorem w2b {esz:Option Nat} {x:AOpd} {lo hi mx:Option AOpd}:O Gam base (.draw N os0 ps fs) g (⟨dst,(.slice esz x lo hi mx),none⟩::os) ⟨ts,h,clk⟩ ks Q=PO Gam base (slV h esz (x.ev ts) (lo.map (·.ev ts)) (hi.map (·.ev ts)) (mx.map (·.ev ts))) (((x.ev ts).ids,[])) (.draw N os0 ps fs) dst g os ts clk ks Q:=by rw[z6u rfl];congr 1
theorem j9t {f:Nat} {cap:List AOpd}:O Gam base (.draw N os0 ps fs) g (⟨dst,(.makeFunc f cap),none⟩::os) ⟨ts,h,clk⟩ ks Q=PO Gam base (some (.fn f (cap.map (·.ev ts)),h)) (([],[])) (.draw N os0 ps fs) dst g os ts clk ks Q:=by rw[z6u rfl];congr 1
theorem y2x {op:UnOp} {x:AOpd}:O Gam base (.draw N os0 ps fs) g (⟨dst, .unOp op x,none⟩::os) ⟨ts,h,clk⟩ ks Q=PO Gam base (unV h op (x.ev ts)) ([],[]) (.draw N os0 ps fs) dst g os ts clk ks Q:=by rw[z6u rfl];congr 1
theorem g2b {v:AV} {f:List Nat×List Nat} {m:Md} {d:Nat}:PO Gam base (some (v,h)) f m (some d) g os ts clk ks Q=O Gam base (m.add f) (g + 1) os ⟨upd ts d v,h,clk⟩ ks Q:=(rfl)
theorem g2c {v:AV} {f:List Nat×List Nat} {m:Md}:PO Gam base (some (v,h)) f m none g os ts clk ks Q=O Gam base (m.add f) (g + 1) os ⟨ts,h,clk⟩ ks Q:=(rfl)
end
theorem w2c {a b c d:Nat}:(AV.ptr a b c d).ids=[a]:=(rfl)
theorem v0b {cs:List AV} {o:Nat}:(AV.iptr cs o).ids=idsL cs:=(rfl)
theorem v0c:idsL []=[]:=(rfl)
theorem k3s {v:AV} {vs:List AV}:idsL (v::vs)=v.ids++idsL vs:=(rfl)
theorem w2d {k:IntKind} {n:Int}:(AV.int k n).ids=[]:=(rfl)
theorem w2e {n:List Nat}:(AV.str n).ids=[]:=(rfl)
theorem v0d {n:Bool}:(AV.bool n).ids=[]:=(rfl)
def u2l (h:List AObj) (sz:Option Nat):AV→Option AV
 | .ptr s g i o=>match z2g h s g with
   | some (es,_,_,_)=>(es[i]?).bind fun e=>z1x e.cells o sz
   | none=>none
 | _=>none
def v6x:Option AV→Option (List AV)→Option (List AV)
 | some v,some vs=>some (v::vs)
 | _,_=>none
theorem z0f {v:AV} {vs:List AV}:v6x (some v) (some vs)=some (v::vs):=(rfl)
theorem z0j {s i o:Nat} {sz:Option Nat}:u2l h sz (.ptr s g i o)=match z2g h s g with
 | some (es,_,_,_)=>(es[i]?).bind fun e=>z1x e.cells o sz
 | none=>none:=(rfl)
theorem z0k {t:Nat} {sz:Option Nat} {rs:List ARes}:z1y h ts (.cell t sz::rs)=v6x (u2l h sz (ts t)) (z1y h ts rs):=by
 simp only[z1y,u2l]
 cases ts t <;> try rfl
 rename_i s g i o
 simp only
 cases z2g h s g with
 | none=>rfl
 | some x=>
   obtain⟨es,a,b,c⟩:=x
   simp only
   cases (es[i]?).bind fun e=>z1x e.cells o sz with
   | none=>rfl
   | some v=>cases z1y h ts rs <;> rfl
attribute [go_sem] y2x y2u y2v w1x u2j w1y g2a y2w w1z j9s w2a j3b k3r u2k j3c v0a w2b j9t g2b g2c j9a w2c v0b v0c k3s w2d w2e v0d z0j z0f z0k Int.cast_ofNat_Int
def z9p (B k:Nat) (o:AObj) (t:Tip) (e:Nat):Prop:=t= .nil∨t= .full∨∃ g,t= .at (B + k) g∧o= .tip g e
theorem z0s {D L:List AObj} {B k esz b gen:Nat} {xs ys:List AV} {t u:Tip} {o:AObj} (hB:D.length=B) (ho:L[k]? =some o) (ht:z9p B k o t esz) (hx:z0v esz xs=true) (hy:z0v esz ys=true) (hl:(xs.length + ys.length) * (b + 1)≤2 ^ 46):
  z1k (D++L) (B + k) gen esz b false (.sl xs t) (.sl ys u)=some (.sl (xs++ys) (.at (B + k) gen),D++L.set k (.tip gen esz)):=by
 have hgt:¬ (xs.length + ys.length) * (b + 1) > z1g:=by unfold z1g;omega
 unfold z1k
 simp only[z5s,hy,Bool.not_true,Bool.false_eq_true,if_false,hx,Bool.or_false,decide_eq_true_eq,hgt]
 rcases ht with rfl | rfl | ⟨g,rfl,rfl⟩
 ·simp only[z5l hB]
 ·simp only[z5l hB]
 ·simp only[z6c hB,ho,and_self,if_true,z5l hB,List.set_set]
theorem z2t {α:Type} {f:α→AV} {n:Nat} {l:List α} (hf:∀ x,(f x).def? =true∧(f x).cells.length=n∧(f x).cells.all AV.one=true):z0v n (l.map f)=true:=by
 induction l with
 | nil=>rfl
 | cons a l ih=>simp[z0v,hf a,ih]
end
structure Node where
 op:Nat
 sort:Nat
 name:List Nat
 num:List Nat
 kids:Nat
 deriving DecidableEq,Inhabited
structure Var where
 name:List Nat
 sort:Nat
 deriving DecidableEq,Inhabited
abbrev Term:=List Node
structure App where
 pred:List Nat
 args:List Term
structure Clause where
 vars:List Var
 body:List App
 guard:Term
 head:App
structure Func where
 name:List Nat
 args:List Nat
 result:Nat
 deriving DecidableEq
structure Sys where
 preds:List Func
 clauses:List Clause
def nat (n:Nat):AV:= .int .i64 (n:Int)
def eNode (n:Node):AV:= .agg [nat n.op,nat n.sort, .str n.name, .str n.num,nat n.kids]
def z1h (v:Var):AV:= .agg [.str v.name,nat v.sort]
def z0n (t:Term):AV:= .sl (t.map eNode) .no
def z3u (a:App):AV:= .agg [.str a.pred, .sl (a.args.map z0n) .no]
def z0h (c:Clause):AV:= .agg [.sl (c.vars.map z1h) .no, .sl (c.body.map z3u) .no,z0n c.guard, .str c.head.pred, .sl (c.head.args.map z0n) .no]
def z0y (f:Func):AV:= .agg [.str f.name, .sl (f.args.map nat) .no,nat f.result]
def z2a (s:Sys):AV:= .agg [.sl (s.preds.map z0y) .no, .sl (s.clauses.map z0h) .no]
theorem z0d {α:Type} {f:α→AV} {l:List α} (hf:∀ x,(f x).ids=[]):idsL (l.map f)=[]:=by
 induction l with
 | nil=>rfl
 | cons a l ih=>simp[idsL,hf a,ih]
theorem z3h {n:Nat}:(nat n).ids=[]:=(rfl)
theorem k3t {α:Type} {f:α→AV} {l:List α} (hf:∀ x,(f x).ids=[]):(AV.sl (l.map f) .no).ids=[]:=by simp[AV.ids,z0d hf]
theorem z2i (n:Node):(eNode n).ids=[]:=(rfl)
theorem z2z (v:Var):(z1h v).ids=[]:=(rfl)
theorem z3n (t:Term):(z0n t).ids=[]:=k3t z2i
theorem z6d (a:App):(z3u a).ids=[]:=by simp[z3u,AV.ids,idsL,z0d z3n]
theorem z4k (c:Clause):(z0h c).ids=[]:=by simp[z0h,AV.ids,idsL,z0d z2z,z0d z6d,z0d z3n,z3n]
theorem z4i (f:Func):(z0y f).ids=[]:=by simp[z0y,AV.ids,idsL,z0d (f:=nat) (fun _=>z3h),z3h]
theorem z2v (s:Sys):(z2a s).ids=[]:=by simp[z2a,AV.ids,idsL,z0d z4i,z0d z4k]
theorem v0e (t:Term):(z0n t).obs=[]:=(rfl)
theorem w2f (a:App):(z3u a).obs=[]:=(rfl)
theorem j9u (c:Clause):(z0h c).obs=[]:=(rfl)
theorem k3u (n:Node):(eNode n).cv=eNode n:=(rfl)
theorem w2g (t:Term):(z0n t).cv=z0n t:=(rfl)
theorem q1r {l:Term}:z0v 5 (l.map eNode)=true:=z2t fun _=>⟨rfl,rfl,rfl⟩
theorem z3e {l:List Var}:z0v 2 (l.map z1h)=true:=z2t fun _=>⟨rfl,rfl,rfl⟩
theorem z4v {l:List Term}:z0v 1 (l.map z0n)=true:=z2t fun _=>⟨rfl,rfl,rfl⟩
theorem q0t {l:List App}:z0v 2 (l.map z3u)=true:=z2t fun _=>⟨rfl,rfl,rfl⟩
theorem z7c {l:List Clause}:z0v 5 (l.map z0h)=true:=z2t fun _=>⟨rfl,rfl,rfl⟩
theorem z9f {l:List Func}:z0v 3 (l.map z0y)=true:=z2t fun _=>⟨rfl,rfl,rfl⟩
theorem z4l {l:List Nat}:z0v 1 (l.map nat)=true:=z2t fun _=>⟨rfl,rfl,rfl⟩
theorem v0f {t:Term}:(z0n t).def? =true:=(rfl)
theorem k3v {t:Term}:(z0n t).cells=[z0n t]:=(rfl)
attribute [go_sem] v0e w2f j9u k3u w2g q1r z3e z4v q0t z7c z9f z4l v0f k3v
theorem z2k {T:List Nat} {v:AV} {R:AV→List AObj→Prop} {h:List AObj} (ho:v.obs=[]) (hi:v.cv.ids=[]):RV T (some [v]) R h=R v.cv h:=z0g (vs:=[v]) ho hi
theorem z1d {T:List Nat} {l:Term} {R:AV→List AObj→Prop} {h:List AObj}:RV T (some [z0n l]) R h=R (z0n l) h:=z2k rfl (z3n l)
theorem k3w {T:List Nat} {l:Term} {t:Tip} {R:AV→List AObj→Prop} {h:List AObj}:RV T (some [.sl (l.map eNode) t]) R h=R (z0n l) h:=z2k rfl (z3n l)
theorem z2d {α:Type} {f:α→AV} {l:List α} {i esz:Nat} {h:List AObj} {t:Tip} {k:IntKind} {cs:List AV} (hi:i < l.length) (hc:(f l[i]).cells=cs) (hl:cs.length=esz):z1p h esz (.sl (l.map f) t) (.int k (i:Int))=some (.iptr cs 0,h):=by
 rw[z4h (e:=f l[i]) (by simp[hi]) (by rw[hc];exact hl),hc]
theorem u2m {α β:Type} {f:α→β}:([]:List β)=([]:List α).map f:=rfl
theorem x6d {b:Bool}:Pure Gam 43 [.bool b] (z0n [⟨if b then 1 else 2,0,[],[],0⟩]):=by
 refine Pure.of rfl u1y rfl rfl rfl rfl rfl fun D B clk T hB hT=> ?_
 simp only[go_sem,y2h]
 refine z8n (fun hb=> ?_) (fun hb=> ?_)
 all_goals
  simp only[go_sem,]
  rw[z0g rfl rfl]
  simp only[hb,if_true,if_false,Bool.false_eq_true] at hT
  exact hT _
theorem x6e {s:Nat} {a:List Nat}:Pure Gam 121 [nat s, .str a] (z0n [⟨3,s,[],a,0⟩]):=by
 refine Pure.of rfl u2b rfl rfl rfl rfl rfl fun D B clk T hB hT=> ?_
 simp only[go_sem,y2k,nat]
 rw[z0g rfl rfl]
 exact hT _
theorem q1s {l:List Term} {i:Nat} {h:List AObj} {t:Tip} {k:IntKind} (hi:i < l.length):z1p h 1 (.sl (l.map z0n) t) (.int k (i:Int))=some (.iptr [z0n l[i]] 0,h):=z2d hi rfl rfl
theorem k3x {n:Node} {l:List Term} {u:Tip} (hl:l.length≤2 ^ 20) (hf:l.flatten.length≤2 ^ 30):Pure Gam 155 [eNode n, .sl (l.map z0n) u] (z0n ({n with kids:=l.length}::l.flatten)):=by
 refine Pure.of rfl u2c rfl rfl rfl (az:=[eNode n, .sl (l.map z0n) .no]) rfl (by simp[idsL,z2i,AV.ids,z0d z3n]) fun D B clk T hB hT=> ?_
 simp only[go_sem,y2m,eNode,hB,nat,List.length_map]
 refine z1f (fun m s=>∃ (i:Nat) (acc:Term) (t:Tip) (a b o:AObj),i≤l.length∧m=l.length - i∧acc={n with kids:=l.length}::(l.take i).flatten∧s.ts 1= .sl (l.map z0n) .no∧s.ts 5= .sl (acc.map eNode) t∧s.ts 6= .int .i64 i∧s.h=D++[a,b,o]∧z9p B 2 o t 5) l.length ?_ ?_
 ·exact⟨0,_, .full,_,_,_,by simp,rfl,rfl,rfl,rfl,rfl,rfl, .inr (.inl rfl)⟩
 rintro m ⟨ts,h,clk⟩ P ⟨i,acc,t,a,b,o,hi,rfl,hacc,h1,h5,h6,rfl,ht⟩ hn he hr
 dsimp only at h1 h5 h6
 simp only[go_sem,h1,h5,h6,List.length_map,k3k]
 refine z8n (fun hb=> ?_) (fun hb=> ?_)
 ·have hlt:i < l.length:=by simp at hb;omega
  have hlen:(l.take i).flatten.length + (l[i]).length≤l.flatten.length:=by
   have:=congrArg (fun x=>(List.flatten x).length) (List.take_append_drop i l)
   simp only[List.flatten_append,List.length_append] at this
   rw[List.drop_eq_getElem_cons hlt] at this
   simp only[List.flatten_cons,List.length_append] at this
   omega
  have ha:acc.length=(l.take i).flatten.length + 1:=by rw[hacc];rfl
  simp only[go_sem,h1,h5,h6,q1s hlt]
  rw[z0n,z0s hB rfl ht q1r q1r (by simp only[List.length_map];omega)]
  simp only[go_sem,h1,h5,h6,←List.map_append,z0c (n:=(i:Int) + 1) (by omega) (by omega)]
  refine hn (l.length - (i + 1)) _ (by omega) ⟨i + 1,acc++l[i],_,_,_,_,hlt,rfl, ?_,h1, ?_,rfl,rfl, .inr (.inr ⟨_,rfl,rfl⟩)⟩
  ·rw[hacc,List.take_succ_eq_append_getElem hlt]
   simp only[List.flatten_append,List.flatten_cons,List.flatten_nil,List.append_nil,List.cons_append]
  ·simp only[z0b,z0,cond_true,cond_false]
 ·have hge:i=l.length:=by simp at hb;omega
  subst hge
  simp only[go_sem,h5]
  refine he _ _ ?_
  simp only[go_sem,h5]
  rw[k3w]
  rw[List.take_length] at hacc
  rw[hacc]
  exact hT _
def dec (n:Nat):List Nat:=if n < 10 then [48 + n] else dec (n / 10)++[48 + n % 10]
termination_by n
def z0i (z:Int):List Nat:=if z < 0 then 45::dec z.natAbs else dec z.natAbs
theorem z7d {n:Nat} (h:n < 10):dec n=[48 + n]:=by rw[dec,if_pos h]
theorem k3y {n:Nat} (h:10≤n):dec n=dec (n / 10)++[48 + n % 10]:=by rw[dec,if_neg (by omega)]
theorem z7w (n:Nat):dec n≠[]:=by
 rw[dec]
 split
 ·simp
 ·simp
theorem z1m (n:Nat):∀ c∈dec n,48≤c∧c≤57:=by
 induction n using Nat.strongRecOn with
 | ind n ih=>
   rw[dec]
   split
   ·intro c hc;simp at hc;omega
   ·intro c hc
    rw[List.mem_append] at hc
    rcases hc with hc | hc
    ·exact ih (n / 10) (by omega) c hc
    ·simp at hc;omega
def z1q (s:List Nat):Nat:=s.foldl (fun a c=>10 * a + (c - 48)) 0
theorem q0u {s:List Nat} {c:Nat}:z1q (s++[c])=10 * z1q s + (c - 48):=by simp[z1q]
theorem z1u (n:Nat):z1q (dec n)=n:=by
 induction n using Nat.strongRecOn with
 | ind n ih=>
   rw[dec]
   split
   ·simp[z1q]
   ·rw[q0u,ih (n / 10) (by omega)];omega
theorem x0t {a b:Nat} (h:dec a=dec b):a=b:=by rw[←z1u a,←z1u b,h]
theorem j5r {n:Nat} (h:0 < n):∃ c s,dec n=c::s∧49≤c∧c≤57:=by
 induction n using Nat.strongRecOn with
 | ind n ih=>
   rw[dec]
   split
   ·exact⟨48 + n,[],rfl,by omega,by omega⟩
   ·obtain⟨c,s,h1,h2⟩:=ih (n / 10) (by omega) (by omega)
    exact⟨c,s++[48 + n % 10],by rw[h1];rfl,h2⟩
theorem z7e {n k:Nat} (hk:0 < k) (h:n < 10 ^ k):(dec n).length≤k:=by
 induction k generalizing n with
 | zero=>omega
 | succ k ih=>
   rw[dec]
   split
   ·simp
   ·rw[List.length_append,List.length_singleton]
    have h1:n / 10 < 10 ^ k:=by rw[Nat.pow_succ] at h;omega
    have hk0:0 < k:=by
     rcases Nat.eq_zero_or_pos k with rfl | h0
     ·simp at h1;omega
     ·exact h0
    have:=ih hk0 h1
    omega
theorem q0a:dec 0=[48]:=z7d (by omega)
theorem q4v {n:Nat}:dec n=[48]↔n=0:=⟨fun h=>x0t (h.trans q0a.symm),fun h=>h ▸ q0a⟩
theorem x4d {n:Nat}:dec n=[49]↔n=1:=⟨fun h=>x0t (h.trans (z7d (by omega):dec 1=_).symm),fun h=>h ▸ z7d (by omega)⟩
def y2y (s:List Nat):Prop:=s≠[]∧(∀ c∈s,48≤c∧c≤57)∧(s.length > 1→s.head? ≠some 48)
theorem z4m {c:Nat} {s:List Nat}:z1q (c::s)=(c - 48) * 10 ^ s.length + z1q s:=by
 have key:∀ (s:List Nat) (a:Nat),s.foldl (fun a c=>10 * a + (c - 48)) a=a * 10 ^ s.length + s.foldl (fun a c=>10 * a + (c - 48)) 0:=by
  intro s
  induction s with
  | nil=>intro a;simp
  | cons d s ih=>
    intro a
    simp only[List.foldl_cons,List.length_cons]
    rw[ih,ih (10 * 0 + (d - 48)),Nat.pow_succ,Nat.add_mul]
    simp only[Nat.mul_zero,Nat.zero_add]
    rw[show 10 * a * 10 ^ s.length=a * (10 ^ s.length * 10) by rw[Nat.mul_comm 10 a,Nat.mul_assoc,Nat.mul_comm 10]]
    omega
 simp only[z1q,List.foldl_cons]
 rw[key]
 simp
theorem k3z {s:List Nat} (h:y2y s):dec (z1q s)=s:=by
 obtain⟨h1,h2,h3⟩:=h
 induction hl:s.length generalizing s with
 | zero=>exact absurd (List.length_eq_zero_iff.1 hl) h1
 | succ n ih=>
   obtain⟨t,c,rfl⟩:∃ t c,s=t++[c]:=⟨s.dropLast,s.getLast h1,(List.dropLast_concat_getLast h1).symm⟩
   have hc:=h2 c (by simp)
   rw[q0u]
   by_cases ht:t=[]
   ·subst ht
    simp[z1q]
    rw[z7d (by omega)]
    congr 1
    omega
   ·have hcan:dec (z1q t)=t:=ih ht (fun d hd=>h2 d (List.mem_append_left _ hd)) (fun hlt=>by
     have:=h3 (by simp at hlt⊢;omega)
     obtain⟨d,t',rfl⟩:=List.exists_cons_of_ne_nil ht
     simpa using this) (by simpa using hl)
    have hpos:0 < z1q t:=by
     rcases Nat.eq_zero_or_pos (z1q t) with h0 | h0
     ·rw[h0,q0a] at hcan
      have:=h3 (by rw[←hcan];simp)
      rw[←hcan] at this
      simp at this
     ·exact h0
    rw[k3y (by omega),show (10 * z1q t + (c - 48)) / 10=z1q t by omega,hcan]
    congr 2
    omega
theorem z8i {n:Int} (hn: -2 ^ 62≤n) (hn2:n≤2 ^ 62):Pure Gam 48 [.int .i64 n] (.str (z0i n)):=by
 refine Pure.of rfl g1v rfl rfl rfl rfl rfl fun D B clk T hB hT=> ?_
 simp only[go_sem,u7m]
 refine z1f (fun m s=>∃ (v:Int) (t:List Nat) (a:AObj),m=v.natAbs + (if t=[] then 1 else 0)∧ -2 ^ 62≤v∧v≤2 ^ 62∧t.length≤100∧s.ts 0= .int .i64 n∧s.ts 4= .int .i64 v∧s.ts 3= .str t∧s.h=D++[a]∧
  (if t=[] then v=n else if v=0 then t=dec n.natAbs else dec n.natAbs=dec v.natAbs++t)) (n.natAbs + 1) ?_ ?_
 ·exact⟨n,[],_,by simp,hn,hn2,by simp,rfl,rfl,rfl,rfl,rfl⟩
 rintro m ⟨ts,h,clk⟩ P ⟨v,t,a,rfl,hv1,hv2,hl,h0,h4,h3,rfl,hd⟩ hn he hr
 dsimp only at h0 h4 h3
 have hlen:t.length≤20∨t.length≤20:=by
  by_cases ht:t=[]
  ·left;subst ht;simp
  ·rw[if_neg ht] at hd
   have h20:(dec n.natAbs).length≤20:=z7e (by omega) (by omega)
   by_cases hv:v=0
   ·rw[if_pos hv] at hd;left;rw[hd];exact h20
   ·rw[if_neg hv] at hd
    have:=congrArg List.length hd
    simp only[List.length_append] at this
    left;omega
 have hl20:t.length≤20:=hlen.elim id id
 by_cases hc:v=0∧t≠[]
 ·obtain⟨rfl,ht⟩:=hc
  have e1:decide (t=[])=false:=by simp[ht]
  simp only[go_sem,h0,h4,h3,j9o,decide_true,e1]
  refine he _ _ ?_
  rw[if_neg ht,if_pos rfl] at hd
  have ht2:t.length < 2 ^ 59:=by omega
  simp only[go_sem,h0,h3]
  refine z8n (fun hb=> ?_) (fun hb=> ?_)
  ·have hneg:n < 0:=by simpa using hb
   simp only[go_sem,h0,h3,q5v (a:=[45]) (b:=t) (by simp;omega)]
   rw[z2k rfl rfl]
   have:=hT (D++[a])
   rw[z0i,if_pos hneg,←hd] at this
   exact this
  ·have hneg:¬ n < 0:=by simpa using hb
   simp only[go_sem,h0,h3]
   rw[z2k rfl rfl]
   have:=hT (D++[a])
   rw[z0i,if_neg hneg,←hd] at this
   exact this
 ·
  have hq:IntKind.i64.wrap (v.tdiv 10)=v.tdiv 10:=IntWalk.i64_quo' _ _ (by omega)
  have hr1:(v.tmod 10).natAbs=v.natAbs % 10:=Int.natAbs_tmod v 10
  have hr2:(v.tdiv 10).natAbs=v.natAbs / 10:=Int.natAbs_tdiv v 10
  have fin:∀ (ts':Tmps) (clk':Nat),ts' 0= .int .i64 n→ts' 4= .int .i64 (v.tdiv 10)→ts' 3= .str ((48 + v.natAbs % 10)::t)→P .norm ⟨ts',D++[a],clk'⟩:=by
   intro ts' clk' g0 g4 g3
   refine hn (((v.tdiv 10).natAbs) + 0) _ ?_ ⟨v.tdiv 10,(48 + v.natAbs % 10)::t,_,by simp,by omega,by omega,by simp;omega,g0,g4,g3,rfl, ?_⟩
   ·by_cases ht:t=[]
    ·rw[if_pos ht];omega
    ·have:v≠0:=fun h=>hc ⟨h,ht⟩
     rw[if_neg ht];omega
   ·rw[if_neg (by simp)]
    by_cases ht:t=[]
    ·subst ht
     rw[if_pos rfl] at hd
     subst hd
     by_cases h10:v.natAbs < 10
     ·rw[if_pos (by omega),z7d h10,Nat.mod_eq_of_lt h10]
     ·rw[if_neg (by omega),k3y (by omega),hr2]
    ·have hv0:v≠0:=fun h=>hc ⟨h,ht⟩
     rw[if_neg ht,if_neg hv0] at hd
     by_cases h10:v.natAbs < 10
     ·rw[if_pos (by omega),hd,z7d h10,Nat.mod_eq_of_lt h10];rfl
     ·rw[if_neg (by omega),hd,k3y (n:=v.natAbs) (by omega),hr2];simp
  have e2:(48 + (v.natAbs:Int) % 10).toNat=48 + v.natAbs % 10:=by omega
  have e3:(0≤48 + (v.natAbs:Int) % 10∧48 + (v.natAbs:Int) % 10 < 256)=True:=by simp;omega
  have e4:IntKind.u8.wrap (IntKind.i64.wrap (48 + (v.natAbs:Int) % 10))=48 + (v.natAbs:Int) % 10:=by rw[z0c (by omega) (by omega),IntWalk.u8_in _ (by omega)]
  have e5:decide ((v.natAbs:Int) % 10 < 0)=false:=by simp;omega
  have hs:=q5v (h:=D++[a]) (t:= .one .str) (a:=[48 + v.natAbs % 10]) (b:=t) (by simp;omega)
  by_cases hv:v=0
  ·have ht:t=[]:=Classical.byContradiction fun h=>hc ⟨hv,h⟩
   have e6:v.tmod 10=(v.natAbs:Int) % 10:=by subst hv;rfl
   have e7:decide (v=0)=true:=by simp[hv]
   have e8:decide (t=[])=true:=by simp[ht]
   simp only[go_sem,h0,h4,h3,j9o,q2f (b:=10) (by decide),e2,e3,e4,e5,e6,e7,e8,hs,z7m,q4e (b:=10) (by decide),hq]
   exact fin _ _ (by simp[z0b,h0]) (by simp[z0b]) (by simp[z0b])
  ·have e7:decide (v=0)=false:=by simp[hv]
   by_cases hneg:v.tmod 10 < 0
   ·have e6:IntKind.i64.wrap (0 - v.tmod 10)=(v.natAbs:Int) % 10:=by rw[z0c (by omega) (by omega)];omega
    have e8:decide (v.tmod 10 < 0)=true:=by simp[hneg]
    simp only[go_sem,h0,h4,h3,j9o,q2f (b:=10) (by decide),e2,e3,e4,e5,e6,e7,e8,hs,z7m,q4e (b:=10) (by decide),hq]
    exact fin _ _ (by simp[z0b,h0]) (by simp[z0b]) (by simp[z0b])
   ·have e6:v.tmod 10=(v.natAbs:Int) % 10:=by omega
    simp only[go_sem,h0,h4,h3,j9o,q2f (b:=10) (by decide),e2,e3,e4,e5,e6,e7,hs,z7m,q4e (b:=10) (by decide),hq]
    exact fin _ _ (by simp[z0b,h0]) (by simp[z0b]) (by simp[z0b])
end Go.Proofs.YtkollgjffkdliaaGreatDoor.Am
