/- Walking: values are valid Functions of the abstract machine's program Functions of the abstract machine's program Walking: the reference asks for atoms and for kinds Walking: rows are compared Walking -/
import Derived.Test.YtkollgjffkdliaaGreatDoorM30
open Bool renaming false_eq_true → y6,not_false → j5,not_true → z7
open Int renaming cast_ofNat_Int → z9,reduceEq → z8,reduceLT → d9,reduceNegSucc → z5,reduceOfNat → z4
open List renaming all_eq_true → d6,append_nil → u5,getElem?_eq_some_iff → k7,getElem?_set_ne → l7,getElem_mem → j9,length_cons → u6,length_map → z6,length_nil → d5,length_singleton → w0,length_take → b6,map_append → v5,mem_append → j6,mem_cons_of_mem → u0,mem_cons_self → v9,mem_filter → l4,mem_map → y8,mem_singleton → u7,nil_append → d3,replicate → j1,take_length → u4,take_of_length_le → b7,take_succ_eq_append_getElem → w8
open Nat renaming le_trans → w9,zero_add → y4,zero_le → m7
set_option linter.all false
namespace Go.Proofs.YtkollgjffkdliaaGreatDoor.Am
open Go
noncomputable section
set_option maxRecDepth 100000
theorem q3t {z:Int} (h:(dec z.natAbs).length≤20000000):(z4g z).R:=⟨x4p,h,by show (dec 1).length≤_;rw[z2h];simp⟩
theorem z8s {z:Int} (h:(dec z.natAbs).length≤20000000):Pure Gam 102 [.str (z0i z)] (.bool true):=by
 have:=x7c (q3t h)
 rw[z1z] at this
 exact this
theorem x7f {a b:Int}:k7b (z4g a) (z4g b)=z4g (a - b):=by
 unfold k7b
 rw[v1f,j6r]
 rfl
theorem w5q {a b:Int} (ha:(dec a.natAbs).length≤19999999) (hb:(dec b.natAbs).length≤19999999):(dec (a - b).natAbs).length≤20000000:=by
 have h:=x6z ha hb
 exact w9 (z5a (by omega)) h
def v7j (a b:Int):Int:=if a < b then -1 else if a=b then 0 else 1
theorem j6y {a b:Int} (ha:(dec a.natAbs).length≤19999999) (hb:(dec b.natAbs).length≤19999999):Pure Gam 103 [.str (z0i a), .str (z0i b)] (.int .i64 (v7j a b)):=by
 have h:=j6v (q3t (z:=a) (by omega)) (q3t (z:=b) (by omega)) (by rw[x7f];exact q3t (w5q ha hb))
 rw[z1z,z1z,x7f] at h
 have e:q7g (z4g (a - b))=v7j a b:=by
  unfold q7g v7j z4g
  dsimp only
  by_cases h1:a < b
  ·rw[if_neg (by omega),if_pos h1,if_pos (by simp;omega)]
  ·rw[if_neg h1]
   by_cases h2:a=b
   ·rw[if_pos h2,if_pos (by omega)]
   ·rw[if_neg h2,if_neg (by omega),if_neg (by simp;omega)]
 rw[e] at h
 exact h
theorem z1o {α:Type} {l:List α} {f:α→List Nat}:(z2s (l.map f)).length=l.length:=by simp[z2s]
theorem q1o (v:Val):(eV v).ids=[]:=by simp[eV,value,AV.ids,idsL,z0x,nat]
theorem Qn.L.r {q:Qn} {N D:Nat} (h:q.L N D) (hc:q.C) (h1:N≤20000000) (h2:D≤20000000):q.R:=⟨hc,w9 h.n h1,w9 h.d h2⟩
theorem q3u {z:Int} {l:List (Int×Int)}:eV (.arr z l)= .agg [.int .i64 4, .bool false, .str (z0i z), .sl (z2s (l.map fun p=>z0i p.1)) .no, .sl (z2s (l.map fun p=>z0i p.2)) .no]:=rfl
theorem q6g {t:Nat} {q:Qn}:eV (.num t q)= .agg [.int .i64 (t:Int), .bool false, .str q.text, .sl [] .no, .sl [] .no]:=rfl
theorem z4x {b:Bool}:eV (.bool b)= .agg [.int .i64 1, .bool b, .str [], .sl [] .no, .sl [] .no]:=rfl
theorem z7y {a b:Int} (h:z0i a=z0i b):a=b:=by
 have key:∀ x:Int,x < 0→∀ y:Int,¬ y < 0→z0i x≠z0i y:=fun x hx y hy e=>by
  unfold z0i at e
  rw[if_pos hx,if_neg hy] at e
  have:=z1l y.natAbs 45 (by rw[←e];exact v9)
  omega
 by_cases ha:a < 0 <;> by_cases hb:b < 0
 ·unfold z0i at h
  rw[if_pos ha,if_pos hb,List.cons.injEq] at h
  have:=x0w h.2
  omega
 ·exact absurd h (key a ha b hb)
 ·exact absurd h.symm (key b hb a ha)
 ·unfold z0i at h
  rw[if_neg ha,if_neg hb] at h
  have:=x0w h
  omega
theorem x7g {l:List (Int×Int)} {i:Nat} {h:List AObj} {t:Tip} (hi:i < l.length):z1m h 1 (.sl (z2s (l.map fun p=>z0i p.1)) t) (.int .i64 (i:Int))=some (.iptr [.str (z0i l[i].1)] 0,h):=by
 have:=z7s (l:=l.map fun p=>z0i p.1) (i:=i) (h:=h) (t:=t) (k:= .i64) (by simpa using hi)
 simpa using this
theorem j3j {l:List (Int×Int)} {i:Nat} {h:List AObj} {t:Tip} (hi:i < l.length):z1m h 1 (.sl (z2s (l.map fun p=>z0i p.2)) t) (.int .i64 (i:Int))=some (.iptr [.str (z0i l[i].2)] 0,h):=by
 have:=z7s (l:=l.map fun p=>z0i p.2) (i:=i) (h:=h) (t:=t) (k:= .i64) (by simpa using hi)
 simpa using this
theorem x7h {m s:Nat} {v:Val} (hm:m≤330000) (h:VOk m s v):Pure Gam 101 [eV v] (.bool true):=by
 refine Pure.of rfl u4b rfl rfl rfl (az:=[eV v]) rfl (by simp[idsL,q1o]) fun D B clk T hB hT=> ?_
 cases v with
 | bool b=>
   simp only[go_sem,k3e,hB,z4x,d5,z9,z8,d9,decide_true,decide_false,z7,j5]
   rw[z0d]
   exact hT _
 | num t q=>
   obtain⟨rfl,ht,hc,hl,h1⟩:=h
   have hr:=hl.r hc (by omega) (by omega)
   rcases ht with rfl | rfl
   ·have p:=x7c hr
    rw[h1 rfl,decide_eq_true rfl] at p
    simp only[go_sem,k3e,hB,q6g,d5,z9,z8,d9,decide_true,decide_false,z7,j5,z0a p]
    rw[z0d]
    exact hT _
   ·simp only[go_sem,k3e,hB,q6g,d5,z9,z8,d9,decide_true,decide_false,z7,j5,z0a (q8y hr)]
    rw[z0d]
    exact hT _
 | arr z l=>
   obtain⟨_,hz,hs,hp,hlm⟩:=h
   simp only[go_sem,k3e,hB,q3u,z1o,z9,z8,d9,decide_true,decide_false,z7,j5,z0a (z8s (z:=z) (by omega))]
   refine z3t l.length (by omega) (fun i q=>∃ (g0:Nat),q.ts 1= .ptr (B + 0) g0 0 0∧q.ts 3= .int .i64 (i:Int)∧q.h=D++[.blk g0 [.agg [.int .i64 4, .bool false, .str (z0i z), .sl (z2s (l.map fun p=>z0i p.1)) .no, .sl (z2s (l.map fun p=>z0i p.2)) .no]] false false 0]) ⟨_,rfl,rfl,rfl⟩ ?_ ?_
   ·rintro i hlt f1 f2 ts h clk P ⟨g0,q1,q3,rfl⟩ hnx he hr
    dsimp only at q1 q3
    obtain⟨n1,n2,n3⟩:=hp _ (j9 hlt)
    have e1:decide (z0i l[i].2=z0i z)=false:=decide_eq_false fun e=>n1 (z7y e)
    have hk:=fun h=>x7g (l:=l) (h:=h) (t:= .no) hlt
    have hv:=fun h=>j3j (l:=l) (h:=h) (t:= .no) hlt
    by_cases hi0:i=0
    ·have e2:decide (0 < (i:Int))=false:=by rw[z03];omega
     simp only[go_sem,x9r,q1,q3,hB,f1,f2,z1o,hk,hv,z0a (z8s (z:=l[i].1) (by omega)),z0a (z8s (z:=l[i].2) (by omega)),z7,e1,e2]
     exact hnx _ ⟨g0,q1,rfl,rfl⟩
    ·have e2:decide (0 < (i:Int))=true:=by rw[z04];omega
     have e3:IntKind.i64.wrap ((i:Int) - 1)=((i - 1:Nat):Int):=by rw[z0e (by omega) (by omega)];omega
     have hlt':i - 1 < l.length:=by omega
     have hk':=fun h=>x7g (l:=l) (h:=h) (t:= .no) hlt'
     obtain⟨_,n4,_⟩:=hp _ (j9 hlt')
     have hord:l[i - 1].1 < l[i].1:=List.pairwise_iff_getElem.1 hs (i - 1) i hlt' hlt (by omega)
     have pc:=j6y (a:=l[i - 1].1) (b:=l[i].1) (by omega) (by omega)
     rw[v7j,if_pos hord] at pc
     simp only[go_sem,x9r,q1,q3,hB,f1,f2,z1o,hk,hv,hk',e3,z0a (z8s (z:=l[i].1) (by omega)),z0a (z8s (z:=l[i].2) (by omega)),z0a pc,z7,j5,e1,e2,Int.reduceLE,decide_false]
     exact hnx _ ⟨g0,q1,rfl,rfl⟩
   ·rintro f1 ts h clk P ⟨g0,q1,q3,rfl⟩ he hr
    dsimp only at q1 q3
    simp only[go_sem,x9r,q1,q3,hB,f1,z1o]
    refine he _ _ ?_
    simp only[go_sem,hB]
    rw[z0d]
    exact hT _
section
open Sh
set_option maxHeartbeats 0
def q10:AFun:=(fun (a:AFun) (_:Gam.fn 19=some a)=>a) _ (by conv=>lhs;reduce;simp only[z4,z5])
def j3k:ACode:=(fun (a:ACode) (_:fl [] (lp q10 1)=a)=>a) _ (by conv=>lhs;reduce;simp only[z4,z5])
attribute [local irreducible] j3k
def k0c:ACode:=(fun (a:ACode) (_:fl [j3k] (lp q10 0)=a)=>a) _ (by conv=>lhs;reduce;simp only[z4,z5])
attribute [local irreducible] k0c
def g1r:AFun:=(fun (a:AFun) (_:flF [k0c,j3k] q10=a)=>a) _ (by conv=>lhs;reduce;simp only[z4,z5])
theorem g5h:Gam.fn 19=some g1r:=by kernel_rfl
def q15:AFun:=(fun (a:AFun) (_:Gam.fn 22=some a)=>a) _ (by conv=>lhs;reduce;simp only[z4,z5])
def j0o:ACode:=(fun (a:ACode) (_:fl [] (lp q15 2)=a)=>a) _ (by conv=>lhs;reduce;simp only[z4,z5])
attribute [local irreducible] j0o
def k0d:ACode:=(fun (a:ACode) (_:fl [j0o] (lp q15 1)=a)=>a) _ (by conv=>lhs;reduce;simp only[z4,z5])
attribute [local irreducible] k0d
def k0e:ACode:=(fun (a:ACode) (_:fl [k0d,j0o] (lp q15 0)=a)=>a) _ (by conv=>lhs;reduce;simp only[z4,z5])
attribute [local irreducible] k0e
def u8e:AFun:=(fun (a:AFun) (_:flF [k0e,k0d,j0o] q15=a)=>a) _ (by conv=>lhs;reduce;simp only[z4,z5])
theorem g5i:Gam.fn 22=some u8e:=by kernel_rfl
end
section
open Sh
set_option maxHeartbeats 0
def q64:AFun:=(fun (a:AFun) (_:Gam.fn 111=some a)=>a) _ (by conv=>lhs;reduce;simp only[z4,z5])
def k5q:ACode:=(fun (a:ACode) (_:fl [] (lp q64 0)=a)=>a) _ (by conv=>lhs;reduce;simp only[z4,z5])
attribute [local irreducible] k5q
def y8f:AFun:=(fun (a:AFun) (_:flF [k5q] q64=a)=>a) _ (by conv=>lhs;reduce;simp only[z4,z5])
theorem g5j:Gam.fn 111=some y8f:=by kernel_rfl
def g1s:AFun:=(fun (a:AFun) (_:Gam.fn 112=some a)=>a) _ (by conv=>lhs;reduce;simp only[z4,z5])
theorem g5k:Gam.fn 112=some g1s:=by kernel_rfl
def y8g:AFun:=
 {ntmps:=38,nslots:=3,results:=[.tmp 6],byref:=[],owned:=false,
  body:=(.seq (.region 4 [N 3 (.box 0 (.tmp 0)),N 4 (.box 1 (.tmp 1)),N 5 (.box 2 (.tmp 2)),N 6 (.move (.const (.bool false)))] []) (.seq (.region 32 [A 7 4 0,L 8 7,A 9 5 0,L 10 9,N 11 (.call 177 [(.tmp 8),(.tmp 10)]),M 12 11,V 13 (.fieldAddr (.tmp 4) 2) 12,V 14 (.load none (.tmp 13)) 12,V 15 (.fieldAddr (.tmp 5) 2) 12,V 16 (.load none (.tmp 15)) 12,V 17 (.call 178 [(.tmp 14),(.tmp 16)]) 12,N 18 (.pick (.tmp 12) (.tmp 17) (.const (.bool false))),M 19 18,V 20 (.load (some 2) (.tmp 3)) 19,V 21 (.fieldAddr (.tmp 4) 3) 19,V 22 (.load (some 2) (.tmp 21)) 19,V 23 (.call 61 [(.tmp 20),(.tmp 22)]) 19,V 24 (.load (some 2) (.tmp 3)) 19,V 25 (.fieldAddr (.tmp 5) 3) 19,V 26 (.load (some 2) (.tmp 25)) 19,V 27 (.call 61 [(.tmp 24),(.tmp 26)]) 19,V 28 (.call 179 [(.tmp 23),(.tmp 27)]) 19,N 29 (.pick (.tmp 19) (.tmp 28) (.const (.bool false))),M 30 29,V 31 (.fieldAddr (.tmp 4) 1) 30,V 32 (.load none (.tmp 31)) 30,V 33 (.fieldAddr (.tmp 5) 1) 30,V 34 (.load none (.tmp 33)) 30,V 35 (.makeFunc 181 [.tmp 3]) 30,V 36 (.call 180 [(.tmp 32),(.tmp 34),(.tmp 35)]) 30,N 37 (.pick (.tmp 30) (.tmp 36) (.const (.bool false))),M 6 37] [(16,17),(16,19)]) .ret))}
theorem g5l:Gam.fn 113=some y8g:=by kernel_rfl
def y8h:AFun:=(fun (a:AFun) (_:Gam.fn 181=some a)=>a) _ (by conv=>lhs;reduce;simp only[z4,z5])
theorem u8f:Gam.fn 181=some y8h:=by kernel_rfl
def w5r:AFun:=(fun (a:AFun) (_:Gam.fn 179=some a)=>a) _ (by conv=>lhs;reduce;simp only[z4,z5])
theorem u8g:Gam.fn 179=some w5r:=by kernel_rfl
def y8i:AFun:=(fun (a:AFun) (_:Gam.fn 238=some a)=>a) _ (by conv=>lhs;reduce;simp only[z4,z5])
theorem u8h:Gam.fn 238=some y8i:=by kernel_rfl
def g1t:AFun:=(fun (a:AFun) (_:Gam.fn 180=some a)=>a) _ (by conv=>lhs;reduce;simp only[z4,z5])
def j0p:ACode:=(fun (a:ACode) (_:fl [] (lp g1t 0)=a)=>a) _ (by conv=>lhs;reduce;simp only[z4,z5])
attribute [local irreducible] j0p
def w5s:AFun:=(fun (a:AFun) (_:flF [j0p] g1t=a)=>a) _ (by conv=>lhs;reduce;simp only[z4,z5])
theorem u8i:Gam.fn 180=some w5s:=by kernel_rfl
def u8j:AFun:=(fun (a:AFun) (_:Gam.fn 61=some a)=>a) _ (by conv=>lhs;reduce;simp only[z4,z5])
theorem g5m:Gam.fn 61=some u8j:=by kernel_rfl
def u1m:AFun:=(fun (a:AFun) (_:Gam.fn 59=some a)=>a) _ (by conv=>lhs;reduce;simp only[z4,z5])
theorem g5n:Gam.fn 59=some u1m:=by kernel_rfl
def q63:AFun:=(fun (a:AFun) (_:Gam.fn 110=some a)=>a) _ (by conv=>lhs;reduce;simp only[z4,z5])
def k5r:ACode:=(fun (a:ACode) (_:fl [] (lp q63 0)=a)=>a) _ (by conv=>lhs;reduce;simp only[z4,z5])
attribute [local irreducible] k5r
def g1u:AFun:=(fun (a:AFun) (_:flF [k5r] q63=a)=>a) _ (by conv=>lhs;reduce;simp only[z4,z5])
theorem g5o:Gam.fn 110=some g1u:=by kernel_rfl
def q37:AFun:=(fun (a:AFun) (_:Gam.fn 60=some a)=>a) _ (by conv=>lhs;reduce;simp only[z4,z5])
def k5s:ACode:=(fun (a:ACode) (_:fl [] (lp q37 0)=a)=>a) _ (by conv=>lhs;reduce;simp only[z4,z5])
attribute [local irreducible] k5s
def w7a:AFun:=(fun (a:AFun) (_:flF [k5s] q37=a)=>a) _ (by conv=>lhs;reduce;simp only[z4,z5])
theorem g5p:Gam.fn 60=some w7a:=by kernel_rfl
end
theorem x7i {l:List App} {i:Nat} {h:List AObj} {t:Tip} {k:IntKind} (hi:i < l.length):z1m h 2 (.sl (l.map z2b) t) (.int k (i:Int))=some (.iptr [.str l[i].pred, .sl (l[i].args.map z0k) .no] 0,h):=z3a hi rfl rfl
theorem k5t {x:Tf}:decide ((x.drops.length:Int)=0)=decide (x.drops=[]):=by
 cases x.drops with
 | nil=>rfl
 | cons a l=>simp;omega
section
open Sh
def eqC (e:Nat) (ld:Option Nat) (ty:ETy):ACode:=(.seq (.region 1 [N 14 (.binOp .lss (.one .int) (.tmp 13) (.tmp 12))] []) (.seq (.cond (.tmp 14) .skip (.exit 0)) (.seq (.block 1 (.seq (.region 2 [M 15 13,M 5 15] []) (.seq (.region 9 [M 16 0,M 17 5,N 18 (.indexAddr none e (.tmp 16) (.tmp 17)),N 19 (.load ld (.tmp 18)),M 20 1,M 21 5,N 22 (.indexAddr none e (.tmp 20) (.tmp 21)),N 23 (.load ld (.tmp 22)),N 24 (.binOp .neq ty (.tmp 19) (.tmp 23))] []) (.cond (.tmp 24) (.seq (.region 1 [N 4 (.move (.const (.bool false)))] []) .ret) .skip)))) (.region 2 [N 25 (.binOp .add (.one .int) (.tmp 13) (I 1)),M 13 25] []))))
def eqF (e:Nat) (ld:Option Nat) (ty:ETy):AFun:=
 {ntmps:=26,nslots:=0,results:=[.tmp 4],byref:=[],owned:=false,
  body:=(.seq (.region 1 [N 4 (.move (.const (.bool false)))] []) (.seq (.seq (.region 5 [M 6 0,N 7 (.len .sl (.tmp 6)),M 8 1,N 9 (.len .sl (.tmp 8)),N 10 (.binOp .neq (.one .int) (.tmp 7) (.tmp 9))] []) (.cond (.tmp 10) (.seq (.region 1 [N 4 (.move (.const (.bool false)))] []) .ret) .skip)) (.seq (.seq (.region 3 [M 11 0,N 12 (.len .sl (.tmp 11)),N 13 (.move (I 0))] []) (.block 0 (.loop (eqC e ld ty)))) (.seq (.region 1 [N 4 (.move (.const (.bool true)))] []) .ret))))}
theorem u8k:Gam.fn 97=some (eqF 1 none (.one .int)):=by kernel_rfl
theorem u8l:Gam.fn 177=some (eqF 2 (some 2) (.agg [.str, .int])):=by kernel_rfl
theorem u8m:Gam.fn 178=some (eqF 5 (some 5) (.agg [.int, .int, .str, .str, .int])):=by kernel_rfl
theorem u8n:Gam.fn 237=some y8f:=by kernel_rfl
theorem q6h {α:Type} {enc:α→AV} {e i:Nat} {xs:List α} {t:Tip} {k:IntKind} {h:List AObj} (hE:∀ x,(enc x).cells.length=e) (hi:i < xs.length):z1m h e (.sl (xs.map enc) t) (.int k (i:Int))=some (.iptr (enc xs[i]).cells 0,h):=z4a (by simp[hi]) (hE _)
theorem q3v {a b:Nat}:decide ((a:Int)=(b:Int))=decide (a=b):=by
 by_cases h:a=b
 ·simp[h]
 ·rw[decide_eq_false h,z03];omega
theorem y8j {α:Type} {xs ys:List α} {i:Nat} (hx:i < xs.length) (hy:i < ys.length) (h:xs.take i=ys.take i) (h1:xs[i]=ys[i]):xs.take (i + 1)=ys.take (i + 1):=by
 rw[w8 hx,w8 hy,h,h1]
theorem j3l {α:Type} [DecidableEq α] {enc:α→AV} {f e:Nat} {ld:Option Nat} {ty:ETy} {xs ys:List α} {u v:Tip} (hext:Gam.ext f=none) (hfn:Gam.fn f=some (eqF e ld ty)) (hE:∀ x,(enc x).cells.length=e) (hld:∀ x h,z9e h ld (.iptr (enc x).cells 0)=some (enc x,h)) (hbv:∀ x y h,z7i h .neq ty (enc x) (enc y)=some (.bool (!decide (x=y)),h)) (hid:∀ x,(enc x).ids=[]) (hl:xs.length≤2 ^ 20) (hl2:ys.length≤2 ^ 20):
  Pure Gam f [.sl (xs.map enc) u, .sl (ys.map enc) v] (.bool (decide (xs=ys))):=by
 refine Pure.of hext hfn rfl rfl rfl (az:=[.sl (xs.map enc) .no, .sl (ys.map enc) .no]) rfl (by simp[idsL,AV.ids,z0c hid]) fun D B clk T hB hT=> ?_
 cases hlen:decide (xs.length=ys.length) with
 | true=>
   have hlen':xs.length=ys.length:=of_decide_eq_true hlen
   simp only[go_sem,eqF,hB,z6,q3v,hlen,z7]
   refine z3t xs.length (by omega) (fun i q=>xs.take i=ys.take i∧q.ts 0= .sl (xs.map enc) .no∧q.ts 1= .sl (ys.map enc) .no∧q.ts 12= .int .i64 (xs.length:Int)∧q.ts 13= .int .i64 (i:Int)) ⟨by simp,rfl,rfl,rfl,rfl⟩ ?_ ?_
   ·rintro i hlt f1 f2 ts h clk P ⟨he0,q0,q1,q12,q13⟩ hnx he hr
    dsimp only at q0 q1 q12 q13
    have hlt2:i < ys.length:=by omega
    have hx:=fun h=>q6h (enc:=enc) (t:= .no) (k:= .i64) (h:=h) hE hlt
    have hy:=fun h=>q6h (enc:=enc) (t:= .no) (k:= .i64) (h:=h) hE hlt2
    cases hc:decide (xs[i]=ys[i]) with
    | true=>
      simp only[go_sem,eqC,q0,q1,q12,q13,f1,f2,hx,hy,hld,hbv,hc,z7]
      exact hnx _ ⟨y8j hlt hlt2 he0 (of_decide_eq_true hc),q0,q1,q12,rfl⟩
    | false=>
      simp only[go_sem,eqC,q0,q1,q12,q13,f1,f2,hx,hy,hld,hbv,hc,j5]
      refine hr _ ?_
      rw[decide_eq_false fun e=>of_decide_eq_false hc (by subst e;rfl)] at hT
      simp only[go_sem,]
      rw[z0d]
      exact hT _
   ·rintro f1 ts h clk P ⟨he0,q0,q1,q12,q13⟩ he hr
    dsimp only at q0 q1 q12 q13
    simp only[go_sem,eqC,q0,q1,q12,q13,f1]
    refine he _ _ ?_
    rw[u4,hlen',u4] at he0
    rw[decide_eq_true he0] at hT
    simp only[go_sem,]
    rw[z0d]
    exact hT _
 | false=>
   simp only[go_sem,eqF,hB,z6,q3v,hlen,j5]
   rw[decide_eq_false fun e=>of_decide_eq_false hlen (by rw[e])] at hT
   rw[z0d]
   exact hT _
theorem w5t {xs ys:List Nat} {u v:Tip} (hl:xs.length≤2 ^ 20) (hl2:ys.length≤2 ^ 20):Pure Gam 97 [.sl (xs.map nat) u, .sl (ys.map nat) v] (.bool (decide (xs=ys))):=
 j3l rfl u8k (fun _=>rfl) (fun _ _=>rfl) (fun x y h=>by simp only[nat,v4o,q3v]) (fun _=>rfl) hl hl2
theorem w5u {xs ys:List Var} {u v:Tip} (hl:xs.length≤2 ^ 20) (hl2:ys.length≤2 ^ 20):Pure Gam 177 [.sl (xs.map z1k) u, .sl (ys.map z1k) v] (.bool (decide (xs=ys))):=
 j3l rfl u8l (fun _=>rfl) (fun _ _=>rfl) (fun x y h=>by
  obtain⟨a,b⟩:=x
  obtain⟨c,d⟩:=y
  by_cases h1:a=c <;> by_cases h2:b=d <;> simp[z1k,nat,z7i,z4p,AV.eqv,eqL,AV.eq1,h1,h2,Int.ofNat_inj]) (fun _=>rfl) hl hl2
theorem k5u {xs ys:Term} {u v:Tip} (hl:xs.length≤2 ^ 20) (hl2:ys.length≤2 ^ 20):Pure Gam 178 [.sl (xs.map eNode) u, .sl (ys.map eNode) v] (.bool (decide (xs=ys))):=
 j3l rfl u8m (fun _=>rfl) (fun _ _=>rfl) (fun x y h=>by
  obtain⟨a,b,c,d,e⟩:=x
  obtain⟨a',b',c',d',e'⟩:=y
  by_cases h1:a=a' <;> by_cases h2:b=b' <;> by_cases h3:c=c' <;> by_cases h4:d=d' <;> by_cases h5:e=e' <;> simp[eNode,nat,z7i,z4p,AV.eqv,eqL,AV.eq1,h1,h2,h3,h4,h5,Int.ofNat_inj]) (fun _=>rfl) hl hl2
end
section
open Sh
theorem Reads.pure {f:Nat} {args:List AV} {v:AV} (hr:Reads [] f args v):Pure Gam f args v:=fun h clk=>by
 obtain⟨h1,h2⟩:=hr h clk Has.nil
 refine⟨h1,List.eq_nil_iff_forall_not_mem.2 fun x hx=> ?_⟩
 simpa using h2 x hx
section
variable {α β:Type} {xs:List α} {ys:List β} {P:α→β→Bool} {i:Nat}
theorem v7k (hx:i < xs.length) (hy:i < ys.length):(xs.zip ys).take (i + 1)=(xs.zip ys).take i++[(xs[i],ys[i])]:=by
 have hz:i < (xs.zip ys).length:=by rw[List.length_zip];omega
 rw[w8 hz,List.getElem_zip]
theorem j0q (hx:i < xs.length) (hy:i < ys.length) (h:P xs[i] ys[i]=false):((xs.zip ys).all fun p=>P p.1 p.2)=false:=by
 have hz:i < (xs.zip ys).length:=by rw[List.length_zip];omega
 rw[List.all_eq_false]
 exact⟨(xs[i],ys[i]),by rw[←List.getElem_zip (h:=hz)];exact j9 hz,by rw[h];simp⟩
end
theorem x7j {α γ:Type} [DecidableEq γ]:∀ {xs ys:List α} {g:α→γ},(decide (xs.length=ys.length) && (xs.zip ys).all fun p=>decide (g p.1=g p.2))=decide (xs.map g=ys.map g)
 | [],[],_=>by simp
 | [],_::_,_=>by simp
 | _::_,[],_=>by simp
 | x::xs,y::ys,g=>by
   have ih:=x7j (xs:=xs) (ys:=ys) (g:=g)
   simp only[u6,Nat.add_right_cancel_iff,List.zip_cons_cons,List.all_cons,List.map_cons,List.cons.injEq,Bool.decide_and]
   rw[←ih]
   cases decide (g x=g y) <;> simp
theorem y8k {α β:Type} {enc:α→AV} {enc':β→AV} {f c:Nat} {xs:List α} {ys:List β} {S:List (Nat×AObj)} {cap:List AV} {P:α→β→Bool} {t u:Tip} (hext:Gam.ext f=none) (hfn:Gam.fn f=some y8f) (hE:∀ x,(enc x).cells.length=1) (hE':∀ x,(enc' x).cells.length=1) (hld:∀ x h,z9e h none (.iptr (enc x).cells 0)=some (enc x,h)) (hld':∀ x h,z9e h none (.iptr (enc' x).cells 0)=some (enc' x,h)) (hid:∀ x,(enc x).ids=[]) (hid':∀ x,(enc' x).ids=[]) (hl:xs.length≤2 ^ 20) (hC:Cov S (idsL cap)) (hP:∀ x∈xs,∀ y∈ys,Reads S c (enc x::enc' y::cap) (.bool (P x y))):
  Reads S f [.sl (xs.map enc) t, .sl (ys.map enc') u, .fn c cap] (.bool (decide (xs.length=ys.length) && (xs.zip ys).all fun p=>P p.1 p.2)):=by
 have hC':Cov S (idsL [.sl (xs.map enc) .no, .sl (ys.map enc') .no, .fn c cap]):=by
  have:idsL [.sl (xs.map enc) .no, .sl (ys.map enc') .no, .fn c cap]=idsL cap:=by simp[idsL,AV.ids,z0c hid,z0c hid']
  rw[this];exact hC
 refine Reads.of hext hfn rfl rfl rfl (az:=[.sl (xs.map enc) .no, .sl (ys.map enc') .no, .fn c cap]) rfl hC' fun D B clk T hB hS hlt hT=> ?_
 cases hlen:decide (xs.length=ys.length) with
 | true=>
   have hlen':xs.length=ys.length:=of_decide_eq_true hlen
   rw[hlen,Bool.true_and] at hT
   simp only[go_sem,y8f,z6,q3v,hlen,z7]
   refine z3t xs.length (by omega) (fun i q=>(∀ p∈(xs.zip ys).take i,P p.1 p.2=true)∧q.ts 1= .sl (ys.map enc') .no∧q.ts 2= .fn c cap∧q.ts 15= .sl (xs.map enc) .no∧q.ts 16= .int .i64 (xs.length:Int)∧q.ts 17= .int .i64 (i:Int)∧q.h=D++[]) ⟨by simp,rfl,rfl,rfl,rfl,rfl,rfl⟩ ?_ ?_
   ·rintro i hi f1 f2 ts h clk Q ⟨hp,q1,q2,q15,q16,q17,rfl⟩ hnx he hr
    dsimp only at q1 q2 q15 q16 q17
    have hi2:i < ys.length:=by omega
    have hx:=fun h=>q6h (enc:=enc) (t:= .no) (k:= .i64) (h:=h) hE hi
    have hy:=fun h=>q6h (enc:=enc') (t:= .no) (k:= .i64) (h:=h) hE' hi2
    have hc:=hP _ (j9 hi) _ (j9 hi2)
    cases hb:P xs[i] ys[i] with
    | true=>
      rw[hb] at hc
      simp only[go_sem,k5q,q1,q2,q15,q16,q17,f1,f2,hx,hy,hld,hld',z1g hc hS.app,z7]
      refine hnx _ ⟨fun p hp'=> ?_,q1,q2,q15,q16,rfl,rfl⟩
      rw[v7k hi hi2,j6,u7] at hp'
      rcases hp' with hp' | rfl
      ·exact hp p hp'
      ·exact hb
    | false=>
      rw[hb] at hc
      simp only[go_sem,k5q,q1,q2,q15,q16,q17,f1,f2,hx,hy,hld,hld',z1g hc hS.app,j5]
      refine hr _ ?_
      rw[j0q hi hi2 hb] at hT
      simp only[go_sem,]
      rw[z0d]
      exact hT _ hS.app
   ·rintro f1 ts h clk Q ⟨hp,q1,q2,q15,q16,q17,rfl⟩ he hr
    dsimp only at q1 q2 q15 q16 q17
    simp only[go_sem,k5q,q1,q2,q15,q16,q17,f1]
    refine he _ _ ?_
    rw[b7 (by rw[List.length_zip];omega)] at hp
    rw[d6.2 hp] at hT
    simp only[go_sem,]
    rw[z0d]
    exact hT _ hS.app
 | false=>
   rw[hlen,Bool.false_and] at hT
   simp only[go_sem,y8f,z6,q3v,hlen,j5]
   rw[z0d]
   exact hT _ hS.app
theorem v1n {c:Nat} {xs ys:List App} {S:List (Nat×AObj)} {cap:List AV} {P:App→App→Bool} {t u:Tip} (hl:xs.length≤2 ^ 20) (hC:Cov S (idsL cap)) (hP:∀ x∈xs,∀ y∈ys,Reads S c (z2b x::z2b y::cap) (.bool (P x y))):
  Reads S 180 [.sl (xs.map z2b) t, .sl (ys.map z2b) u, .fn c cap] (.bool (decide (xs.length=ys.length) && (xs.zip ys).all fun p=>P p.1 p.2)):=by
 have hC':Cov S (idsL [.sl (xs.map z2b) .no, .sl (ys.map z2b) .no, .fn c cap]):=by
  have:idsL [.sl (xs.map z2b) .no, .sl (ys.map z2b) .no, .fn c cap]=idsL cap:=by simp[idsL,AV.ids,z0c z8b]
  rw[this];exact hC
 refine Reads.of rfl u8i rfl rfl rfl (az:=[.sl (xs.map z2b) .no, .sl (ys.map z2b) .no, .fn c cap]) rfl hC' fun D B clk T hB hS hlt hT=> ?_
 cases hlen:decide (xs.length=ys.length) with
 | true=>
   have hlen':xs.length=ys.length:=of_decide_eq_true hlen
   rw[hlen,Bool.true_and] at hT
   simp only[go_sem,w5s,hB,z6,q3v,hlen,z7]
   refine z3t xs.length (by omega) (fun i q=>∃ o0 o1,(∀ p∈(xs.zip ys).take i,P p.1 p.2=true)∧q.ts 1= .sl (ys.map z2b) .no∧q.ts 2= .fn c cap∧q.ts 15= .sl (xs.map z2b) .no∧q.ts 16= .int .i64 (xs.length:Int)∧q.ts 17= .int .i64 (i:Int)∧q.h=D++[o0,o1]) ⟨_,_,by simp,rfl,rfl,rfl,rfl,rfl,rfl⟩ ?_ ?_
   ·rintro i hi f1 f2 ts h clk Q ⟨o0,o1,hp,q1,q2,q15,q16,q17,rfl⟩ hnx he hr
    dsimp only at q1 q2 q15 q16 q17
    have hi2:i < ys.length:=by omega
    have hx:=fun h=>x7i (t:= .no) (k:= .i64) (h:=h) hi
    have hy:=fun h=>x7i (t:= .no) (k:= .i64) (h:=h) hi2
    have hc:=hP _ (j9 hi) _ (j9 hi2)
    simp only[z2b] at hc
    cases hb:P xs[i] ys[i] with
    | true=>
      rw[hb] at hc
      simp only[go_sem,j0p,hB,q1,q2,q15,q16,q17,f1,f2,hx,hy,z1g hc hS.app,z7]
      refine hnx _ ⟨_,_,fun p hp'=> ?_,q1,q2,q15,q16,rfl,rfl⟩
      rw[v7k hi hi2,j6,u7] at hp'
      rcases hp' with hp' | rfl
      ·exact hp p hp'
      ·exact hb
    | false=>
      rw[hb] at hc
      simp only[go_sem,j0p,hB,q1,q2,q15,q16,q17,f1,f2,hx,hy,z1g hc hS.app,j5]
      refine hr _ ?_
      rw[j0q hi hi2 hb] at hT
      simp only[go_sem,]
      rw[z0d]
      exact hT _ hS.app
   ·rintro f1 ts h clk Q ⟨o0,o1,hp,q1,q2,q15,q16,q17,rfl⟩ he hr
    dsimp only at q1 q2 q15 q16 q17
    simp only[go_sem,j0p,q1,q2,q15,q16,q17,f1]
    refine he _ _ ?_
    rw[b7 (by rw[List.length_zip];omega)] at hp
    rw[d6.2 hp] at hT
    simp only[go_sem,]
    rw[z0d]
    exact hT _ hS.app
 | false=>
   rw[hlen,Bool.false_and] at hT
   simp only[go_sem,w5s,hB,z6,q3v,hlen,j5]
   rw[z0d]
   exact hT _ hS.app
end
instance:DecidableEq App:=fun a b=>decidable_of_iff (a.pred=b.pred∧a.args=b.args) (by cases a;cases b;simp)
instance:DecidableEq Clause:=fun a b=>decidable_of_iff (a.vars=b.vars∧a.guard=b.guard∧a.head=b.head∧a.body=b.body) (by cases a;cases b;simp only[Clause.mk.injEq];exact⟨fun ⟨h1,h2,h3,h4⟩=>⟨h1,h4,h2,h3⟩,fun ⟨h1,h2,h3,h4⟩=>⟨h1,h3,h4,h2⟩⟩)
def z8d (p q:List Nat) (a:App):App:=⟨if a.pred=p then q else a.pred,a.args⟩
def x1v (p q:List Nat) (c:Clause):Clause:=⟨c.vars,c.body.map (z8d p q),c.guard,z8d p q c.head⟩
def q4z (p q:List Nat):AV:= .agg [.str p, .str q]
theorem w5v {p q:List Nat} {c d:Clause}:decide (x1v p q c=x1v p q d)=(decide (c.vars=d.vars) && (decide (c.guard=d.guard) && (decide (z8d p q c.head=z8d p q d.head) && decide (c.body.map (z8d p q)=d.body.map (z8d p q))))):=by
 simp only[x1v,Clause.mk.injEq]
 by_cases h1:c.vars=d.vars <;> by_cases h2:c.guard=d.guard <;> by_cases h3:z8d p q c.head=z8d p q d.head <;> by_cases h4:c.body.map (z8d p q)=d.body.map (z8d p q) <;> simp[h1,h2,h3,h4]
def SmA (a:App):Prop:=a.args.length≤20000∧∀ t∈a.args,t.length≤20000
theorem j0r {p q:List Nat} {a:App}:Pure Gam 61 [q4z p q,z2b a] (z2b (z8d p q a)):=by
 refine Pure.of rfl g5m rfl rfl rfl (az:=[q4z p q,z2b a]) rfl (by simp[idsL,AV.ids,q4z,z8b]) fun D B clk T hB hT=> ?_
 cases h:decide (a.pred=p) with
 | true=>
   simp only[go_sem,u8j,hB,q4z,z2b,h,z0m,z0l,z0f]
   rw[z2n rfl (by simp[AV.cv,cvL,AV.ids,idsL,z0c z2c])]
   simp only[z8d,if_pos (of_decide_eq_true h),z2b] at hT
   exact hT _
 | false=>
   simp only[go_sem,u8j,hB,q4z,z2b,h,z0m,z0l,z0f]
   rw[z2n rfl (by simp[AV.cv,cvL,AV.ids,idsL,z0c z2c])]
   simp only[z8d,if_neg (of_decide_eq_false h),z2b] at hT
   exact hT _
theorem w5w {t u:Term} (hl:t.length≤20000) (hl2:u.length≤20000):Pure Gam 238 [z0k t,z0k u] (.bool (decide (t=u))):=by
 have p1:=k5u (xs:=t) (ys:=u) (u:= .no) (v:= .no) (by omega) (by omega)
 refine Pure.of rfl u8h rfl rfl rfl (az:=[z0k t,z0k u]) rfl (by simp[idsL,z2c]) fun D B clk T hB hT=> ?_
 simp only[go_sem,y8i,z0k,z0a p1]
 rw[z0d]
 exact hT _
theorem k5v {a b:App} (ha:SmA a) (hb:SmA b):Pure Gam 179 [z2b a,z2b b] (.bool (decide (a=b))):=by
 have p1:Pure Gam 237 [.sl (a.args.map z0k) .no, .sl (b.args.map z0k) .no, .fn 238 []] (.bool (decide (a.args=b.args))):=by
  have:=(y8k (enc:=z0k) (enc':=z0k) (c:=238) (cap:=[]) (P:=fun t u=>decide (t=u)) (t:= .no) (u:= .no) (xs:=a.args) (ys:=b.args) rfl u8n (fun _=>rfl) (fun _=>rfl) (fun _ _=>rfl) (fun _ _=>rfl) z2c z2c (by have:=ha.1;omega) Cov.none (fun t ht u hu=>(w5w (ha.2 t ht) (hb.2 u hu)).reads)).pure
  have e:=x7j (xs:=a.args) (ys:=b.args) (g:=id)
  rw[List.map_id,List.map_id] at e
  rw[←e]
  exact this
 have e0:decide (a=b)=(decide (a.pred=b.pred) && decide (a.args=b.args)):=by cases a;cases b;simp
 rw[e0]
 refine Pure.of rfl u8g rfl rfl rfl (az:=[z2b a,z2b b]) rfl (by simp[idsL,z8b]) fun D B clk T hB hT=> ?_
 cases h:decide (a.pred=b.pred) with
 | true=>
   rw[h] at hT
   simp only[go_sem,w5r,hB,z2b,h,z0a p1]
   rw[z0d]
   exact hT _
 | false=>
   rw[h] at hT
   simp only[go_sem,w5r,hB,z2b,h]
   rw[z0d]
   exact hT _
theorem j6z {p q:List Nat} {a:App} (h:SmA a):SmA (z8d p q a):=h
theorem v1o {s g:Nat} {p q:List Nat} {a b:App} (ha:SmA a) (hb:SmA b):Reads [(s, .blk g [q4z p q] false false 0)] 181 [z2b a,z2b b, .ptr s g 0 0] (.bool (decide (z8d p q a=z8d p q b))):=by
 have p1:=j0r (p:=p) (q:=q) (a:=a)
 have p2:=j0r (p:=p) (q:=q) (a:=b)
 have p3:=k5v (j6z (p:=p) (q:=q) ha) (j6z (p:=p) (q:=q) hb)
 refine Reads.of rfl u8f rfl rfl rfl (az:=[z2b a,z2b b, .ptr s g 0 0]) rfl (by simpa [idsL,AV.ids,z8b] using Cov.one (by simp[AObj.ids,idsL,q4z,AV.ids])) fun D B clk T hB hS hlt hT=> ?_
 have hs:s < B:=hlt (s,_) v9
 have hD:D[s]? =some (.blk g [q4z p q] false false 0):=hS (s,_) v9
 have hs2:s < B + 2:=by omega
 have hbl:∀ L,z1u (D++L) s g=some ([q4z p q],false,false,0):=fun L=>by rw[z2x hB hs,z2g hD]
 simp only[z2b,q4z] at p1 p2 p3 hbl
 simp only[go_sem,y8h,hB,z2b,z1a,hbl,z0a p1,z0a p2,z0a p3]
 refine⟨by simp[z1b,apart,z0j,z0z,z1d,AOp.isCall,hB,AV.ids,idsL,z0c z2c,hs2], ?_⟩
 rw[z0d]
 exact hT _ hS.app
theorem y8l {p q:List Nat} {c d:Clause} (hc:CmpC c) (hd:CmpC d):Pure Gam 113 [q4z p q,z0g c,z0g d] (.bool (decide (x1v p q c=x1v p q d))):=by
 have p1:=w5u (xs:=c.vars) (ys:=d.vars) (u:= .no) (v:= .no) (by have:=hc.vars;omega) (by have:=hd.vars;omega)
 have p2:=k5u (xs:=c.guard) (ys:=d.guard) (u:= .no) (v:= .no) (by have:=hc.guard;omega) (by have:=hd.guard;omega)
 have p3:=j0r (p:=p) (q:=q) (a:=c.head)
 have p4:=j0r (p:=p) (q:=q) (a:=d.head)
 have p5:=k5v (j6z (p:=p) (q:=q) hc.head) (j6z (p:=p) (q:=q) hd.head)
 have p6:∀ s g,Reads [(s, .blk g [q4z p q] false false 0)] 180 [.sl (c.body.map z2b) .no, .sl (d.body.map z2b) .no, .fn 181 [.ptr s g 0 0]] (.bool (decide (c.body.map (z8d p q)=d.body.map (z8d p q)))):=fun s g=>by
  rw[←x7j]
  exact v1n (P:=fun a b=>decide (z8d p q a=z8d p q b)) (by have:=hc.body;omega) (by simpa [idsL,AV.ids] using Cov.one (by simp[AObj.ids,idsL,q4z,AV.ids])) fun a ha b hb=>v1o (hc.atoms a ha) (hd.atoms b hb)
 rw[w5v]
 simp only[z2b,q4z] at p3 p4 p5 p6
 have hf:∀ s g D L k,D.length=k→s=k + 0→Has [(s, .blk g [AV.agg [.str p, .str q]] false false 0)] (D++ .blk g [AV.agg [.str p, .str q]] false false 0::L):=fun s g D L k hk hs=>by
  refine Has.cons ?_ Has.nil
  subst hs hk
  show (D++_::L)[D.length + 0]? =_
  rw[z2u rfl]
  rfl
 refine Pure.of rfl g5l rfl rfl rfl (az:=[q4z p q,z0g c,z0g d]) rfl (by simp[idsL,AV.ids,q4z,z5w]) fun D B clk T hB hT=> ?_
 cases h1:decide (c.vars=d.vars) with
 | false=>
   rw[h1] at p1 hT
   simp only[go_sem,y8g,hB,q4z,z0g,z0k,z1a,z0a p1]
   refine⟨by simp[z1b,apart,z0j,z0z,z1d,AOp.isCall,hB,AV.ids,idsL,z0c z2c,z0c z2l], ?_⟩
   rw[z0d]
   exact hT _
 | true=>
   cases h2:decide (c.guard=d.guard) with
   | false=>
     rw[h1] at p1 hT
     rw[h2] at p2 hT
     simp only[go_sem,y8g,hB,q4z,z0g,z0k,z1a,z0a p1,z0a p2]
     refine⟨by simp[z1b,apart,z0j,z0z,z1d,AOp.isCall,hB,AV.ids,idsL,z0c z2c,z0c z2l], ?_⟩
     rw[z0d]
     exact hT _
   | true=>
     cases h3:decide (z8d p q c.head=z8d p q d.head) with
     | false=>
       rw[h1] at p1 hT
       rw[h2] at p2 hT
       rw[h3] at p5 hT
       simp only[go_sem,y8g,hB,q4z,z0g,z0k,z1a,z0a p1,z0a p2,z0a p3,z0a p4,z0a p5]
       refine⟨by simp[z1b,apart,z0j,z0z,z1d,AOp.isCall,hB,AV.ids,idsL,z0c z2c,z0c z2l], ?_⟩
       rw[z0d]
       exact hT _
     | true=>
       rw[h1] at p1 hT
       rw[h2] at p2 hT
       rw[h3] at p5 hT
       simp only[go_sem,y8g,hB,q4z,z0g,z0k,z1a,z0a p1,z0a p2,z0a p3,z0a p4,z0a p5]
       refine z6l (p6 _ _) (hf _ _ _ _ _ hB rfl) ?_
       simp only[go_sem,hB]
       refine⟨by simp[z1b,apart,z0j,z0z,z1d,AOp.isCall,hB,AV.ids,idsL,z0c z2c,z0c z2l], ?_⟩
       rw[z0d]
       exact hT _
theorem append_nil {D L:List AObj} {B k esz b gen:Nat} {ys:List AV} {u:Tip} {o:AObj} (hB:D.length=B) (ho:L[k]? =some o) (hy:z0n esz ys=true) (hl:ys.length * (b + 1)≤2 ^ 46):
  z0r (D++L) (B + k) gen esz b false (.sl [] .nil) (.sl ys u)=some (.sl ys (.at (B + k) gen),D++L.set k (.tip gen esz)):=
 z0q (xs:=[]) hB ho (.inl rfl) rfl hy (by simpa using hl)
def v7l (s:Sys) (i:Nat):List Nat:=((s.clauses[i]?).map (·.head.pred)).getD []
def clI (s:Sys) (a:List Nat) (n:Nat):List Nat:=(List.range n).filter fun i=>decide (v7l s i=a)
theorem v1p {s:Sys} {a:List Nat} {n:Nat}:clI s a (n + 1)=clI s a n++if v7l s n=a then [n] else []:=by
 unfold clI
 rw[List.range_succ,List.filter_append]
 by_cases h:v7l s n=a <;> simp[h]
theorem k5w {s:Sys} {a:List Nat} {n:Nat}:(clI s a n).length≤n:=w9 (List.length_filter_le _ _) (by simp)
theorem v7m {s:Sys} {a:List Nat} {n i:Nat} (h:i∈clI s a n):i < n:=by
 have:=(l4.1 h).1
 simpa using this
theorem j3m {s:Sys} {i:Nat} (h:i < s.clauses.length):v7l s i=s.clauses[i].head.pred:=by simp[v7l,h]
def cls (s:Sys) (a:List Nat):List Nat:=clI s a s.clauses.length
def noC:Clause:=⟨[],[],[],[],[]⟩
def x2u (s:Sys) (i:Nat):Clause:=(s.clauses[i]?).getD noC
def q3w (s:Sys) (p q:Func):Bool:= !decide (p.name=q.name) && decide (p.args=q.args) && decide ((cls s p.name).map (fun i=>x1v p.name q.name (x2u s i))=(cls s q.name).map fun i=>x1v p.name q.name (x2u s i))
theorem j7a {D L:List AObj} {B k gen i:Nat} {xs:List Nat} {t:Tip} {o:AObj} (hB:D.length=B) (ho:L[k]? =some o) (ht:z8x B k o t 1) (hl:xs.length≤2 ^ 20):
  z0r (D++L) (B + k) gen 1 8 false (.sl (xs.map nat) t) (.sl [.int .i64 (i:Int)] .full)=some (.sl ((xs++[i]).map nat) (.at (B + k) gen),D++L.set k (.tip gen 1)):=by
 rw[show [AV.int .i64 (i:Int)]=[i].map nat from rfl,z0q hB ho ht z4k z4k (by simp only[z6,w0];omega),v5]
theorem v7n {s:Sys} {a:List Nat} (hl:s.clauses.length≤2 ^ 18):Pure Gam 110 [z2i s, .str a] (.sl ((cls s a).map nat) .no):=by
 refine Pure.of rfl g5o rfl rfl rfl (az:=[z2i s, .str a]) rfl (by simp[idsL,AV.ids,z3n]) fun D B clk T hB hT=> ?_
 simp only[go_sem,g1u,hB,z2i,z6]
 refine z3t s.clauses.length (by omega) (fun i q=>∃ (t:Tip) (o0 o1 o2 o3:AObj),q.ts 1= .str a∧q.ts 5= .sl ((clI s a i).map nat) t∧q.ts 9= .sl (s.clauses.map z0g) .no∧q.ts 10= .int .i64 (s.clauses.length:Int)∧q.ts 11= .int .i64 (i:Int)∧q.h=D++[o0,o1,o2,o3]∧z8x B 3 o3 t 1) ⟨.nil,_,_,_,_,rfl,rfl,rfl,rfl,rfl,rfl, .inl rfl⟩ ?_ ?_
 ·rintro i hlt f1 f2 ts h clk P ⟨t,o0,o1,o2,o3,q1,q5,q9,q10,q11,rfl,ht⟩ hnx he hr
  dsimp only at q1 q5 q9 q10 q11
  have hix:=fun h=>q0r (l:=s.clauses) (i:=i) (h:=h) (t:= .no) (k:= .i64) hlt
  have hc:=v1p (s:=s) (a:=a) (n:=i)
  have hg:=fun {L gen}=>j7a (D:=D) (L:=L) (B:=B) (k:=3) (gen:=gen) (i:=i) (xs:=clI s a i) (t:=t) (o:=o3) hB
  have hll:(clI s a i).length≤2 ^ 20:=w9 k5w (by omega)
  rw[j3m hlt] at hc
  generalize s.clauses[i]=c at *
  cases hd:decide (c.head.pred=a) with
  | true=>
    rw[if_pos (of_decide_eq_true hd)] at hc
    simp only[go_sem,k5r,q1,q5,q9,q10,q11,hB,f1,hix,hd]
    rw[hg rfl ht hll,←hc]
    simp only[go_sem,q1,q5,q9,q10,q11,f2]
    exact hnx _ ⟨_,_,_,_,_,q1,rfl,q9,q10,rfl,rfl, .inr (.inr ⟨_,rfl,rfl⟩)⟩
  | false=>
    rw[if_neg (of_decide_eq_false hd),u5] at hc
    simp only[go_sem,k5r,q1,q5,q9,q10,q11,hB,f1,f2,hix,hd]
    exact hnx _ ⟨t,_,_,_,_,q1,by rw[hc];exact q5,q9,q10,rfl,rfl,ht⟩
 ·rintro f1 ts h clk P ⟨t,o0,o1,o2,o3,q1,q5,q9,q10,q11,rfl,ht⟩ he hr
  dsimp only at q1 q5 q9 q10 q11
  simp only[go_sem,k5r,q1,q5,q9,q10,q11,f1]
  refine he _ _ ?_
  simp only[go_sem,q5]
  rw[z2n rfl (by simp[AV.cv,AV.ids,q3h])]
  exact hT _
theorem x7k {s:Sys} {i:Nat} (h:i < s.clauses.length):x2u s i=s.clauses[i]:=by simp[x2u,h]
theorem Cov.pair {s t:Nat} {o q:AObj} (ho:o.ids=[]) (hq:q.ids=[]):Cov [(s,o),(t,q)] [s,t]:=by
 refine⟨by simp,by simp[ho,hq],fun h hS p hp=> ?_⟩
 simp at hp
 rcases hp with rfl | rfl
 ·exact z4d (.inr (by simp))
 ·exact z4d (.inr (by simp))
theorem w5x {r s gr gs:Nat} {S:Sys} {p q:List Nat} {i k:Nat} (hi:i < S.clauses.length) (hk:k < S.clauses.length) (hc:∀ c∈S.clauses,CmpC c):Reads [(r, .blk gr [q4z p q] false false 0),(s, .blk gs [z2i S] false false 0)] 112 [nat i,nat k, .ptr r gr 0 0, .ptr s gs 0 0] (.bool (decide (x1v p q (x2u S i)=x1v p q (x2u S k)))):=by
 rw[x7k hi,x7k hk]
 have p1:=y8l (p:=p) (q:=q) (hc _ (j9 hi)) (hc _ (j9 hk))
 have hx:=fun h=>q0r (l:=S.clauses) (i:=i) (h:=h) (t:= .no) (k:= .i64) hi
 have hy:=fun h=>q0r (l:=S.clauses) (i:=k) (h:=h) (t:= .no) (k:= .i64) hk
 generalize decide (x1v p q S.clauses[i]=x1v p q S.clauses[k])=b at *
 generalize S.clauses[i]=c at *
 generalize S.clauses[k]=d at *
 refine Reads.of rfl g5k rfl rfl rfl (az:=[nat i,nat k, .ptr r gr 0 0, .ptr s gs 0 0]) rfl (by simpa [idsL,AV.ids,nat] using Cov.pair (by simp[AObj.ids,idsL,q4z,AV.ids]) (by simp[AObj.ids,idsL,z3n])) fun D B clk T hB hS hlt hT=> ?_
 have hr:r < B:=hlt (r,_) v9
 have hs:s < B:=hlt (s,_) (u0 _ v9)
 have b1:∀ L,z1u (D++L) r gr=some ([q4z p q],false,false,0):=fun L=>by rw[z2x hB hr,z2g (hS (r,_) v9)]
 have b2:∀ L,z1u (D++L) s gs=some ([z2i S],false,false,0):=fun L=>by rw[z2x hB hs,z2g (hS (s,_) (u0 _ v9))]
 simp only[q4z,z0g,z0k,z2i] at p1 b1 b2
 simp only[go_sem,g1s,hB,nat,b1,b2,hx,hy,z0a p1]
 rw[z0d]
 exact hT _ hS.app
theorem v7o {s:Sys} {p q:Func} (hl:s.clauses.length≤2 ^ 18) (hc:∀ c∈s.clauses,CmpC c) (hp:p.args.length≤20000) (hq:q.args.length≤20000):Pure Gam 59 [z2i s,z1f p,z1f q] (.bool (q3w s p q)):=by
 have p1:=w5t (xs:=p.args) (ys:=q.args) (u:= .no) (v:= .no) (by omega) (by omega)
 have p2:=v7n (s:=s) (a:=p.name) hl
 have p3:=v7n (s:=s) (a:=q.name) hl
 have p4:∀ a b g g',Reads [(a, .blk g [q4z p.name q.name] false false 0),(b, .blk g' [z2i s] false false 0)] 111 [.sl ((cls s p.name).map nat) .no, .sl ((cls s q.name).map nat) .no, .fn 112 [.ptr a g 0 0, .ptr b g' 0 0]] (.bool (decide ((cls s p.name).map (fun i=>x1v p.name q.name (x2u s i))=(cls s q.name).map fun i=>x1v p.name q.name (x2u s i)))):=fun a b g g'=>by
  rw[←x7j]
  exact y8k (enc:=nat) (enc':=nat) (P:=fun i k=>decide (x1v p.name q.name (x2u s i)=x1v p.name q.name (x2u s k))) rfl g5j (fun _=>rfl) (fun _=>rfl) (fun _ _=>rfl) (fun _ _=>rfl) (fun _=>rfl) (fun _=>rfl) (w9 k5w (by omega)) (by simpa [idsL,AV.ids] using Cov.pair (by simp[AObj.ids,idsL,q4z,AV.ids]) (by simp[AObj.ids,idsL,z3n])) fun i hi k hk=>w5x (v7m hi) (v7m hk) hc
 simp only[z2i,q4z] at p2 p3 p4
 refine Pure.of rfl g5n rfl rfl rfl (az:=[z2i s,z1f p,z1f q]) rfl (by simp[idsL,z3n,z5g]) fun D B clk T hB hT=> ?_
 unfold q3w at hT
 cases h1:decide (p.name=q.name) with
 | true=>
   rw[h1] at hT
   simp only[go_sem,u1m,hB,z2i,z1f,nat,h1]
   rw[z0d]
   exact hT _
 | false=>
   cases h2:decide (p.args=q.args) with
   | false=>
     rw[h1,h2] at hT
     rw[h2] at p1
     simp only[go_sem,u1m,hB,z2i,z1f,nat,h1,z0a p1,j5]
     rw[z0d]
     exact hT _
   | true=>
     rw[h1,h2] at hT
     rw[h2] at p1
     simp only[go_sem,u1m,hB,z2i,z1f,nat,h1,z0a p1,z7,z1a,z0a p2,z0a p3]
     refine⟨by simp[z1b,apart,z0j,z0z,z1d,AOp.isCall,hB,AV.ids,idsL,z0c z5g,z0c z5w,q3h], ?_⟩
     rw[z1g (p4 _ _ _ _) (Has.cons (by show (D++_)[B + 3]? =_;rw[z2u hB];rfl) (Has.cons (by show (D++_)[B + 0]? =_;rw[z2u hB];rfl) Has.nil))]
     simp only[go_sem,hB]
     rw[z0d]
     exact hT _
theorem v1q {ps:List Func} (hn:(ps.map (·.name)).Nodup) {i k:Nat} (hi:i < ps.length) (hk:k < ps.length) (h:i≠k):ps[i].name≠ps[k].name:=fun e=>by
 have hp:=List.pairwise_iff_getElem.1 hn
 rcases Nat.lt_or_gt_of_ne h with h | h
 ·exact hp i k (by simpa using hi) (by simpa using hk) h (by simpa using e)
 ·exact hp k i (by simpa using hk) (by simpa using hi) h (by simpa using e.symm)
theorem x4q {ps:List Func} {nm:List Nat}:decide (z9k ps nm < 0)= !decide (nm∈ps.map (·.name)):=by
 by_cases h:nm∈ps.map (·.name)
 ·rw[decide_eq_true h]
  unfold z9k
  cases hf:ps.findIdx? (fun p=>decide (p.name=nm)) with
  | none=>
    rw[List.findIdx?_eq_none_iff] at hf
    obtain⟨f,hf1,hf2⟩:=y8.1 h
    have:=hf f hf1
    simp[hf2] at this
  | some i=>simp
 ·rw[decide_eq_false h,q1n fun p hp e=>h (y8.2 ⟨p,hp,e⟩)]
  rfl
theorem k0f {D L:List AObj} {B j k esz b gen g:Nat} {xs ys:List AV} {u:Tip} (hB:D.length=B) (ho:L[j]? =some (.tip g esz)) (hx:z0n esz xs=true) (hy:z0n esz ys=true) (hl:(xs.length + ys.length) * (b + 1)≤2 ^ 46):
  z0r (D++L) (B + k) gen esz b false (.sl xs (.at (B + j) g)) (.sl ys u)=some (.sl (xs++ys) (.at (B + k) gen),D++(L.set j .dead).set k (.tip gen esz)):=by
 have hgt:¬ (xs.length + ys.length) * (b + 1) > z1e:=by unfold z1e;omega
 unfold z0r
 simp only[z4o,hy,z7,y6,if_false,hx,Bool.or_false,decide_eq_true_eq,hgt,z2u hB,ho,and_self,if_true,z2a hB]
structure TfS (x:Tf):Prop where
 un:x.un.length≤100
 und:x.und.length≤100
 drops:idsL x.drops=[]
theorem TfS.ok {x:Tf} (h:TfS x):TfOk x:=⟨by have:=h.un;omega,by have:=h.und;omega,h.drops⟩
def k0g:Sys:=⟨[],[]⟩
def x2v (x:Tf):Bool:=decide (x.kind=6) && decide (x.clause=0) && decide (x.atom=0) && decide (x.un=[]) && decide (x.und=[]) && decide (x.drops=[])
theorem v1r {α:Type} [DecidableEq α] {l:List α}:decide ((l.length:Int)=0)=decide (l=[]):=by
 cases l with
 | nil=>rfl
 | cons a l=>simp;omega
def MOk (s:Sys) (x:Tf):Prop:=∃ f g,f∈s.preds∧g∈s.preds∧f.name=x.pred∧g.name=x.into∧q3w s f g=true
def q6i (x:Tf) (ps:List Func):List Func:=ps.filter fun f=> !decide (f.name=x.pred)
def z7p (x:Tf) (cs:List Clause):List Clause:=(cs.filter fun c=> !decide (c.head.pred=x.pred)).map (x1v x.pred x.into)
def merged (s:Sys) (x:Tf):Sys:=⟨q6i x s.preds,z7p x s.clauses⟩
open Classical in
def z5i (s:Sys) (x:Tf):Sys×Int:=if x2v x=false then (k0g,1) else if ¬ MOk s x then (k0g,8) else (merged s x,0)
theorem q4v {s:Sys} {x:Tf} (h:x2v x=false):z5i s x=(k0g,1):=by
 unfold z5i
 rw[if_pos h]
theorem q2r {s:Sys} {x:Tf} (h:x2v x=true) (hn:¬ MOk s x):z5i s x=(k0g,8):=by
 unfold z5i
 rw[if_neg (by rw[h];simp),if_pos hn]
theorem q6j {s:Sys} {x:Tf} (h:x2v x=true) (hn:MOk s x):z5i s x=(merged s x,0):=by
 unfold z5i
 rw[if_neg (by rw[h];simp),if_neg (not_not_intro hn)]
theorem j0s {ps:List Func} {nm:List Nat} (h:nm∈ps.map (·.name)):∃ (i:Nat) (hi:i < ps.length),ps[i].name=nm∧z9k ps nm=(i:Int):=by
 unfold z9k
 cases e:ps.findIdx? (fun p=>decide (p.name=nm)) with
 | some i=>
   rw[List.findIdx?_eq_some_iff_getElem] at e
   obtain⟨hi,h1,_⟩:=e
   exact⟨i,hi,of_decide_eq_true h1,rfl⟩
 | none=>
   rw[List.findIdx?_eq_none_iff] at e
   obtain⟨p,hp,rfl⟩:=y8.1 h
   have:=e p hp
   simp at this
theorem j7b {ps:List Func} (hn:(ps.map (·.name)).Nodup) {f:Func} {i:Nat} (hi:i < ps.length) (hf:f∈ps) (h:ps[i].name=f.name):f=ps[i]:=by
 obtain⟨k,hk,rfl⟩:=List.getElem_of_mem hf
 by_cases e:i=k
 ·subst e;rfl
 ·exact absurd h (v1q hn hi hk e)
theorem k0h {x:Tf} {ps:List Func} {i:Nat} (hi:i < ps.length):q6i x (ps.take (i + 1))=q6i x (ps.take i)++if ps[i].name=x.pred then [] else [ps[i]]:=by
 unfold q6i
 rw[w8 hi,List.filter_append]
 by_cases h:ps[i].name=x.pred <;> simp[h]
theorem x4r {x:Tf} {cs:List Clause} {i:Nat} (hi:i < cs.length):z7p x (cs.take (i + 1))=z7p x (cs.take i)++if cs[i].head.pred=x.pred then [] else [x1v x.pred x.into cs[i]]:=by
 unfold z7p
 rw[w8 hi,List.filter_append,v5]
 by_cases h:cs[i].head.pred=x.pred <;> simp[h]
theorem k5x {x:Tf} {ps:List Func}:(q6i x ps).length≤ps.length:=List.length_filter_le _ _
theorem j0t {x:Tf} {cs:List Clause}:(z7p x cs).length≤cs.length:=by
 unfold z7p
 rw[z6]
 exact List.length_filter_le _ _
theorem CmpC.small {c:Clause} (h:CmpC c):SmallC c:=⟨by have:=h.body;omega,fun a ha=>⟨by have:=(h.atoms a ha).1;omega,fun t ht=>by have:=(h.atoms a ha).2 t ht;omega⟩,⟨by have:=h.head.1;omega,fun t ht=>by have:=h.head.2 t ht;omega⟩,by have:=h.vars;omega,by have:=h.guard;omega⟩
theorem w5y {s:Sys} {x:Tf} (hs:SysV s) (hx:TfOk x):Pure Gam 85 [z2i s,eTf x, .int .i64 6,eTf {x with pred:=[],into:=[]}] (.bool (x2v x)):=by
 have hp:=k5h hs
 rw[z2i] at hp
 have hr:TfOk {x with pred:=[],into:=[]}:=⟨hx.un,hx.und,hx.drops⟩
 have hls:∀ l:List (List Nat),decide (((z2s l).length:Int)=0)=decide (l=[]):=fun l=>by rw[z2s,z6,v1r]
 refine Pure.of rfl g5b rfl rfl rfl (az:=[z2i s,eTf x, .int .i64 6,eTf {x with pred:=[],into:=[]}]) rfl (by simp[idsL,z3n,j0n hx,j0n hr,AV.ids]) fun D B clk T hB hT=> ?_
 unfold x2v at hT
 cases b1:decide (x.kind=6) <;> rw[b1] at hT
 ·simp only[go_sem,w4r,hB,z2i,eTf,b1]
  rw[z0d]
  exact hT _
 cases b2:decide (x.clause=0) <;> rw[b2] at hT
 ·simp only[go_sem,w4r,hB,z2i,eTf,b1,b2,decide_true,z0a hp]
  rw[z0d]
  exact hT _
 cases b3:decide (x.atom=0) <;> rw[b3] at hT
 ·simp only[go_sem,w4r,hB,z2i,eTf,b1,b2,b3,decide_true,z0a hp]
  rw[z0d]
  exact hT _
 cases b4:decide (x.un=[]) <;> rw[b4] at hT
 ·simp only[go_sem,w4r,hB,z2i,eTf,b1,b2,b3,hls,b4,decide_true,z0a hp]
  rw[z0d]
  exact hT _
 cases b5:decide (x.und=[]) <;> rw[b5] at hT
 ·simp only[go_sem,w4r,hB,z2i,eTf,b1,b2,b3,hls,b4,b5,decide_true,z0a hp]
  rw[z0d]
  exact hT _
 simp only[go_sem,w4r,hB,z2i,eTf,b1,b2,b3,hls,b4,b5,decide_true,z0a hp,k5t]
 rw[z0d]
 simpa using hT _
theorem k5y {ps:List Func} {a:List Nat} {u:Tip} (hl:ps.length≤1000):Pure Gam 100 [.sl (z2s (ps.map (·.name))) u, .str a] (.int .i64 (z9k ps a)):=by
 refine Pure.of rfl g5a rfl rfl rfl (az:=[.sl (z2s (ps.map (·.name))) .no, .str a]) rfl (by simp[idsL,AV.ids,z0x]) fun D B clk T hB hT=> ?_
 have hsl:(z2s (ps.map (·.name))).length=ps.length:=by rw[z2s,z6,z6]
 simp only[go_sem,g1e,hsl]
 refine z3t ps.length (by omega) (fun i q=>(∀ p∈ps.take i,p.name≠a)∧q.ts 0= .sl (z2s (ps.map (·.name))) .no∧q.ts 1= .str a∧q.ts 7= .int .i64 (ps.length:Int)∧q.ts 8= .int .i64 (i:Int)) ⟨by simp,rfl,rfl,rfl,rfl⟩ ?_ ?_
 ·rintro i hlt f1 f2 ts h clk P ⟨hno,q0,q1,q7,q8⟩ hnx he hr
  dsimp only at q0 q1 q7 q8
  have hidx:∀ h,z1m h 1 (.sl (z2s (ps.map (·.name))) .no) (.int .i64 (i:Int))=some (.iptr [.str ps[i].name] 0,h):=fun h=>z4a (e:= .str ps[i].name) (by simp[z2s,hlt]) rfl
  have ht:=w8 hlt
  cases hc:decide (a=ps[i].name) with
  | true=>
    simp only[go_sem,v0j,q0,q1,q7,q8,f1,hidx,hc]
    refine hr _ ?_
    rw[q1m hlt (of_decide_eq_true hc).symm hno] at hT
    simp only[go_sem,]
    rw[z0h rfl rfl]
    exact hT _
  | false=>
    simp only[go_sem,v0j,q0,q1,q7,q8,f1,f2,hidx,hc]
    refine hnx _ ⟨fun p hp=> ?_,q0,q1,q7,rfl⟩
    rw[ht,j6,u7] at hp
    rcases hp with hp | rfl
    ·exact hno p hp
    ·exact fun e=>of_decide_eq_false hc e.symm
 ·rintro f1 ts h clk P ⟨hno,q0,q1,q7,q8⟩ he hr
  dsimp only at q0 q1 q7 q8
  rw[u4] at hno
  simp only[go_sem,v0j,q7,q8,f1]
  refine he _ _ ?_
  rw[q1n hno] at hT
  simp only[go_sem,]
  rw[z0h rfl rfl]
  exact hT _
def kpI (s:Sys) (a:List Nat) (n:Nat):List Nat:=(List.range n).filter fun i=> !decide (v7l s i=a)
theorem j7c {s:Sys} {a:List Nat} {n:Nat}:kpI s a (n + 1)=kpI s a n++if v7l s n=a then [] else [n]:=by
 unfold kpI
 rw[List.range_succ,List.filter_append]
 by_cases h:v7l s n=a <;> simp[h]
theorem k5z {s:Sys} {a:List Nat} {n:Nat}:(kpI s a n).length≤n:=w9 (List.length_filter_le _ _) (by simp)
theorem y8m {s:Sys} {a:List Nat} {n i:Nat} (h:i∈kpI s a n):i < n:=by
 have:=(l4.1 h).1
 simpa using this
def u1n (s:Sys) (x:Tf):List Nat:=if (z5i s x).2=0 then kpI s x.pred s.clauses.length else []
theorem y8n {s:Sys} {x:Tf} {i k:Nat} (hnd:(s.preds.map (·.name)).Nodup) (hi:i < s.preds.length) (hk:k < s.preds.length) (hi1:s.preds[i].name=x.pred) (hk1:s.preds[k].name=x.into):MOk s x↔q3w s s.preds[i] s.preds[k]=true:=by
 refine⟨fun ⟨f,g,hf,hg,h1,h2,h3⟩=> ?_,fun h=>⟨_,_,j9 hi,j9 hk,hi1,hk1,h⟩⟩
 rw[←j7b hnd hi hf (by rw[hi1,h1]),←j7b hnd hk hg (by rw[hk1,h2])]
 exact h3
theorem y8o {s:Sys} {x:Tf} (hs:SysV s) (hcs:∀ c∈s.clauses,CmpC c) (hx:TfS x):Pure Gam 60 [z2i s,eTf x] (.tup [.sl ((u1n s x).map nat) .no, .int .i64 (z5i s x).2]):=by
 have p74:=w5y hs hx.ok
 have hpl:=hs.pl
 have hcl:=hs.len
 have hnd:=hs.pr.nodup
 have hpa:∀ f∈s.preds,f.args.length≤20000:=fun f hf=>by have:=(hs.pr.args f hf).1;omega
 have p75:=y7v (ps:=s.preds) (u:= .no) (by omega)
 have p1:=k5y (ps:=s.preds) (a:=x.pred) (u:= .no) (by omega)
 have p2:=k5y (ps:=s.preds) (a:=x.into) (u:= .no) (by omega)
 have n1:=x4q (ps:=s.preds) (nm:=x.pred)
 have n2:=x4q (ps:=s.preds) (nm:=x.into)
 simp only[z2i,eTf] at p74
 refine Pure.of rfl g5p rfl rfl rfl (az:=[z2i s,eTf x]) rfl (by simp[idsL,z3n,j0n hx.ok]) fun D B clk T hB hT=> ?_
 have fin:∀ e:Int,e≠0→z5i s x=(k0g,e)→∀ h',RV [] (some [AV.sl [] .nil, .int .i64 e]) (fun v h'=>T v h') h':=fun e h0 he h'=>by
  unfold u1n at hT
  rw[he,if_neg h0] at hT
  rw[z0h rfl (by simp[z1j,AV.cv,cvL,AV.ids,idsL])]
  exact hT _
 cases hu:x2v x <;> rw[hu] at p74
 ·simp only[go_sem,w7a,hB,z2i,eTf,z0a p74,j5]
  exact fin _ (by decide) (q4v hu) _
 by_cases hp:x.pred∈s.preds.map (·.name)
 case neg=>
  rw[decide_eq_false hp] at n1
  simp only[go_sem,w7a,hB,z2i,eTf,z0a p74,z7,z0a p75,z1a,z0a p1,z0a p2]
  refine⟨by simp[z1b,apart,z0j,z0z,z1d,AOp.isCall,hB,AV.ids,idsL,z0x], ?_⟩
  simp only[go_sem,hB,n1,j5]
  exact fin _ (by decide) (q2r hu fun ⟨f,g,hf,_,h,_⟩=>hp (h ▸ y8.2 ⟨f,hf,rfl⟩)) _
 rw[decide_eq_true hp] at n1
 by_cases hq:x.into∈s.preds.map (·.name)
 case neg=>
  rw[decide_eq_false hq] at n2
  simp only[go_sem,w7a,hB,z2i,eTf,z0a p74,z7,z0a p75,z1a,z0a p1,z0a p2]
  refine⟨by simp[z1b,apart,z0j,z0z,z1d,AOp.isCall,hB,AV.ids,idsL,z0x], ?_⟩
  simp only[go_sem,hB,n1,n2,z7,j5]
  exact fin _ (by decide) (q2r hu fun ⟨f,g,_,hg,_,h,_⟩=>hq (h ▸ y8.2 ⟨g,hg,rfl⟩)) _
 rw[decide_eq_true hq] at n2
 obtain⟨i,hi,hi1,hi2⟩:=j0s hp
 obtain⟨k,hk,hk1,hk2⟩:=j0s hq
 have hM:=y8n hnd hi hk hi1 hk1
 have hix:=fun h=>z7f (l:=s.preds) (i:=i) (h:=h) (t:= .no) (k:= .i64) hi
 have hkx:=fun h=>z7f (l:=s.preds) (i:=k) (h:=h) (t:= .no) (k:= .i64) hk
 have p3:=v7o (s:=s) (p:=s.preds[i]) (q:=s.preds[k]) (by omega) hcs (hpa _ (j9 hi)) (hpa _ (j9 hk))
 rw[z2i,z1f,z1f,nat,nat] at p3
 rw[hi2] at p1 n1
 rw[hk2] at p2 n2
 cases hm:q3w s s.preds[i] s.preds[k] with
 | false=>
   rw[hm] at p3
   simp only[go_sem,w7a,hB,z2i,eTf,z0a p74,z7,z0a p75,z1a,z0a p1,z0a p2]
   refine⟨by simp[z1b,apart,z0j,z0z,z1d,AOp.isCall,hB,AV.ids,idsL,z0x], ?_⟩
   simp only[go_sem,hB,n1,n2,hix,hkx,z0a p3,z7,j5]
   exact fin _ (by decide) (q2r hu fun h=>by rw[hM.1 h] at hm;cases hm) _
 | true=>
   rw[hm] at p3
   unfold u1n at hT
   rw[q6j hu (hM.2 hm),if_pos rfl] at hT
   simp only[go_sem,w7a,hB,z2i,eTf,z0a p74,z7,z0a p75,z1a,z0a p1,z0a p2]
   refine⟨by simp[z1b,apart,z0j,z0z,z1d,AOp.isCall,hB,AV.ids,idsL,z0x], ?_⟩
   simp only[go_sem,hB,n1,n2,hix,hkx,z0a p3,z7,z6]
   refine z3t s.clauses.length (by omega) (fun i q=>∃ (gx:Nat) (t:Tip) (o0 o2 o3 o4 o5:AObj),q.ts 3= .ptr (B + 1) gx 0 0∧q.ts 10= .sl ((kpI s x.pred i).map nat) t∧q.ts 54= .sl (s.clauses.map z0g) .no∧q.ts 55= .int .i64 (s.clauses.length:Int)∧q.ts 56= .int .i64 (i:Int)∧q.h=D++[o0, .blk gx [eTf x] false false 0,o2,o3,o4,o5]∧z8x B 5 o5 t 1) ⟨_, .nil,_,_,_,_,_,rfl,rfl,rfl,rfl,rfl,rfl, .inl rfl⟩ ?_ ?_
   ·rintro j hlt f1 f2 ts h clk P ⟨gx,t,o0,o2,o3,o4,o5,q3,q10,q54,q55,q56,rfl,ht⟩ hnx he hr
    dsimp only at q3 q10 q54 q55 q56
    have hcx:=fun h=>q0r (l:=s.clauses) (i:=j) (h:=h) (t:= .no) (k:= .i64) hlt
    have hc:=j7c (s:=s) (a:=x.pred) (n:=j)
    have hg:=fun {L gen}=>j7a (D:=D) (L:=L) (B:=B) (k:=5) (gen:=gen) (i:=j) (xs:=kpI s x.pred j) (t:=t) (o:=o5) hB
    have hll:(kpI s x.pred j).length≤2 ^ 20:=w9 k5z (by omega)
    rw[j3m hlt] at hc
    generalize s.clauses[j]=c at *
    cases hd:decide (c.head.pred=x.pred) with
    | true=>
      rw[if_pos (of_decide_eq_true hd),u5] at hc
      simp only[go_sem,k5s,eTf,q3,q10,q54,q55,q56,hB,f1,f2,hcx,hd,z7]
      exact hnx _ ⟨gx,t,_,_,_,_,_,q3,by rw[hc];exact q10,q54,q55,rfl,rfl,ht⟩
    | false=>
      rw[if_neg (of_decide_eq_false hd)] at hc
      simp only[go_sem,k5s,eTf,q3,q10,q54,q55,q56,hB,f1,hcx,hd,j5]
      rw[hg rfl ht hll,←hc]
      simp only[go_sem,q3,q10,q54,q55,q56,f2]
      exact hnx _ ⟨gx,_,_,_,_,_,_,q3,rfl,q54,q55,rfl,rfl, .inr (.inr ⟨_,rfl,rfl⟩)⟩
   ·rintro f1 ts h clk P ⟨gx,t,o0,o2,o3,o4,o5,q3,q10,q54,q55,q56,rfl,ht⟩ he hr
    dsimp only at q3 q10 q54 q55 q56
    simp only[go_sem,k5s,q10,q55,q56,f1]
    refine he _ _ ?_
    simp only[go_sem,q10]
    rw[z0h rfl (by simp[z1j,AV.cv,cvL,AV.ids,idsL,q3h])]
    exact hT _
def g5q (B:Nat) (h D:List AObj) (rs:List ARes) (clk:Nat) (Q:AV→List AObj→Nat→Prop):Post:=fun e s=>(∀ i,e≠ .exit i)∧∃ vs L,z1y s.h s.ts rs=some vs∧s.h=D++L∧(((z1j vs).ids=[]∧Q (z1j vs) h clk)∨((∃ i∈(z1j vs).ids,B≤i)∧Q (z1j vs) (h++L) s.clk))
theorem q8z {f:Nat} {args az:List AV} {h:List AObj} {clk:Nat} {af:AFun} {Q:AV→List AObj→Nat→Prop} (hext:Gam.ext f=none) (hfn:Gam.fn f=some af) (hb:af.byref=[]) (ho:af.owned=true) (hobs:z3x args=[]) (has:cvL args=az) (hids:idsL az=[])
  (hw:∀ (D:List AObj) (B:Nat),D.length=B→B=h.length→K Gam B af.body [] ⟨q0u az,D++j1 af.nslots .dead,clk⟩ (g5q B h D af.results clk Q)):WC Gam f args h clk Q:=by
 obtain⟨k,e,s,he,hne,vs,L,hr,hL,hq⟩:=hw (maskFrom [] 0 h) h.length z5f rfl
 have hp:z1i h af.byref 0 args=some az:=by rw[hb,z1p hobs,has]
 have hl:z0p af.byref 0 args=[]:=by rw[hb];exact z4s hobs
 have hdrop:s.h.drop h.length=L:=by rw[hL,List.drop_left' z5f]
 rcases hq with ⟨h1,h2⟩ | ⟨⟨i,hi1,hi2⟩,h2⟩
 ·refine⟨k,z1j vs,h,clk, ?_,h2⟩
  unfold z5c z0o
  simp only[hext,hfn,hp,hl,freezeAll,hids,reach,he,hr,ho,if_true,z7w]
  cases e with
  | exit i=>exact absurd rfl (hne i)
  | norm=>simp[h1]
  | ret=>simp[h1]
 ·refine⟨k,z1j vs,h++L,s.clk, ?_,h2⟩
  have hall:(((z1j vs).ids++(List.map (fun i=>(Option.map AObj.ids s.h[i]?).getD []) ([]:List Nat)).flatten).all fun x=>decide (x < h.length))=false:=by
   rw[List.all_eq_false]
   exact⟨i,by simp[hi1],by simp;omega⟩
  unfold z5c z0o
  simp only[hext,hfn,hp,hl,freezeAll,hids,reach,he,hr,ho,if_true,z7w,hall,y6,if_false,hdrop]
  cases e with
  | exit i=>exact absurd rfl (hne i)
  | norm=>simp
  | ret=>simp
def tf0 (k:Int) (p q:List Nat):Tf:=⟨k,p,q,0,0,[],[],[]⟩
def v7p (s:Sys) (k:Int) (p q:List Nat):Prop:=(k=0∧p=[]∧q=[])∨(k=6∧∃ f g,f∈s.preds∧g∈s.preds∧f.name=p∧g.name=q∧q3w s f g=true∧p=[78]∧q=[80])
theorem j7d {α:Type}:∀ {l:List α} {i j:Nat} (hj:j < l.length) (hij:i < j),[l[i]'(by omega),l[j]].Sublist l
 | a::l,0,j + 1,hj,_=>by
   have hj':j < l.length:=by simpa using hj
   show [a,l[j]].Sublist (a::l)
   exact (List.singleton_sublist.2 (j9 hj')).cons_cons a
 | a::l,i + 1,j + 1,hj,h=>(j7d (l:=l) (by simpa using hj) (by omega)).cons a
theorem w5z:∀ a∈allPreds,∀ b∈allPreds,[a,b].Sublist allPreds→a.args=b.args→a.name≠b.name→b.name=[78]∧a.name=[80]:=by decide
theorem x1w {s:Sys} {f g:Func} (h:q3w s f g=true):f.name≠g.name∧f.args=g.args:=by
 unfold q3w at h
 simp only[Bool.and_eq_true,Bool.not_eq_true',z03,z04] at h
 exact h.1
theorem v1s {h:List AObj} {e n:Nat} {xs:List AV} {t:Tip} {k:IntKind} (hn:n≤xs.length) (he:z4q e xs=true):slV h (some e) (.sl xs t) (some (.int k (n:Int))) none none=some (.sl (xs.drop n) (if t= .nil then .nil else t),h):=by
 simp[slV,z2y,z5b,hn,he]
theorem y8p {k:Int} {p q:List Nat}:TfS (tf0 k p q):=⟨m7 _,m7 _,rfl⟩
section
def bsR (h:List AObj) (s g:Nat) (z:AV) (n:Nat) (js:List Nat) (vs:List AV):Option (AV×List AObj):=
 if !z.def? then none else match z8k h vs with
  | some ws=>(z3y z.cells.length (j1 n z) js ws).map fun es=>(.ob s g 0 n,(freezeAll h (z3x vs)).set s (.blk g es true false 0))
  | none=>none
section
variable {h:List AObj} {base g clk k n:Nat} {ts:Tmps} {z:AV} {qs:List (Nat×AOpd)} {dst:Option Nat} {os:List AOper} {ks:List Kf} {Q:Post}
theorem y8q:prim h base g ts (.buildSlice k true z n qs)=bsR h (base + k) g z n (qs.map (·.1)) (qs.map fun p=>p.2.ev ts):=by
 simp only[prim,bsR,if_true]
 rfl
theorem v1t:O Gam base .plain g (⟨dst, .buildSlice k true z n qs,none⟩::os) ⟨ts,h,clk⟩ ks Q=PP Gam base (bsR h (base + k) g z n (qs.map (·.1)) (qs.map fun p=>p.2.ev ts)) dst g os ts clk ks Q:=by rw[q4m rfl,y8q]
theorem v1u {N:Nat} {os0:List AOper} {ps:List (Nat×Nat)} {fs:List (List Nat×List Nat)}:O Gam base (.draw N os0 ps fs) g (⟨dst, .buildSlice k true z n qs,none⟩::os) ⟨ts,h,clk⟩ ks Q=PO Gam base (bsR h (base + k) g z n (qs.map (·.1)) (qs.map fun p=>p.2.ev ts)) ([],(base + k)::(z3x (qs.map fun p=>p.2.ev ts)).map (·.1)) (.draw N os0 ps fs) dst g os ts clk ks Q:=by rw[z6j rfl,y8q];rfl
end
attribute [go_sem] v1t v1u
theorem g1v {h:List AObj} {s g:Nat} {z v:AV} (hz:z.def? =true) (ho:v.obs=[]) (hd:v.cv.def? =true) (hl:v.cv.cells.length=z.cells.length):bsR h s g z 1 [0] [v]=some (.ob s g 0 1,h.set s (.blk g [v.cv] true false 0)):=by
 have hc:z8k h [v]=some [v.cv]:=by
  have:=q5r (h:=h) (vs:=[v]) (by simp[z3x,ho])
  simpa [cvL] using this
 simp only[bsR,hz,hc,z3y,hd,hl,z3x,ho,freezeAll,z7,y6,if_false,List.length_replicate,Nat.lt_one_iff,and_self,if_true,u5,Option.map_some]
 rfl
theorem x7l {h:List AObj} {s g:Nat} {l:List Int} {n:Nat} {js:List Nat} (hn:l.length=n) (hj:js=List.range n) (h3:n≤3):bsR h s g (.int .i64 0) n js (l.map fun z=> .int .i64 z)=some (.ob s g 0 n,h.set s (.blk g (l.map fun z=> .int .i64 z) true false 0)):=by
 subst hj
 match l,hn with
 | [],h=>subst h;rfl
 | [a],h=>subst h;rfl
 | [a,b],h=>subst h;rfl
 | [a,b,c],h=>subst h;rfl
 | _::_::_::_::_,h=>simp only[u6] at h;omega
theorem g5r {h:List AObj} {clk:Nat} {Q:AV→List AObj→Nat→Prop} (hQ:∀ (o0 o1 o2 o3:AObj) (g c:Nat),Q (.ob (h.length + 4) g 0 5) (h++[o0,o1,o2,o3, .blk g (z2d.map z1f) true false 0]) c):WC Gam 24 [] h clk Q:=by
 refine q8z rfl g4l rfl rfl rfl (az:=[]) rfl rfl fun D B hB hBh=> ?_
 have b1:∀ h s g a,bsR h s g (.int .i64 0) 1 [0] [.int .i64 a]=some (.ob s g 0 1,h.set s (.blk g [.int .i64 a] true false 0)):=fun h s g a=>x7l (l:=[a]) rfl rfl (by omega)
 have b2:∀ h s g a b,bsR h s g (.int .i64 0) 2 [0,1] [.int .i64 a, .int .i64 b]=some (.ob s g 0 2,h.set s (.blk g [.int .i64 a, .int .i64 b] true false 0)):=fun h s g a b=>x7l (l:=[a,b]) rfl rfl (by omega)
 have b3:∀ h s g a b c,bsR h s g (.int .i64 0) 3 [0,1,2] [.int .i64 a, .int .i64 b, .int .i64 c]=some (.ob s g 0 3,h.set s (.blk g [.int .i64 a, .int .i64 b, .int .i64 c] true false 0)):=fun h s g a b c=>x7l (l:=[a,b,c]) rfl rfl (by omega)
 have b5:∀ (g g0 g1 g2 g3:Nat) (o:AObj),bsR (D++[.blk g0 [.int .i64 2] true false 0, .blk g1 [.int .i64 2, .int .i64 2] true false 0, .blk g2 [.int .i64 1, .int .i64 2, .int .i64 2] true false 0, .blk g3 [.int .i64 3, .int .i64 4] true false 0,o]) (B + 4) g (.agg [.str [], .sl [] .nil, .int .i64 0]) 5 [0,1,2,3,4] [.agg [.str [80], .ob (B + 0) g0 0 1, .int .i64 1], .agg [.str [81], .ob (B + 1) g1 0 2, .int .i64 1], .agg [.str [82], .ob (B + 2) g2 0 3, .int .i64 1], .agg [.str [90], .sl [] .nil, .int .i64 1], .agg [.str [83], .ob (B + 3) g3 0 2, .int .i64 1]]=some (.ob (B + 4) g 0 5,D++[.blk g0 [.int .i64 2] true false 1, .blk g1 [.int .i64 2, .int .i64 2] true false 2, .blk g2 [.int .i64 1, .int .i64 2, .int .i64 2] true false 3, .blk g3 [.int .i64 3, .int .i64 4] true false 2, .blk g (z2d.map z1f) true false 0]):=fun g g0 g1 g2 g3 o=>by
  have l0:∀ (L:List AObj) (g:Nat),z1u (D++L) B g=z1u L 0 g:=fun L g=>z2k (k:=0) hB
  have l1:∀ (L:List AObj),(D++L)[B]? =L[0]? :=fun L=>z2u (k:=0) hB
  have l2:∀ (L:List AObj) (o:AObj),(D++L).set B o=D++L.set 0 o:=fun L o=>z2a (k:=0) hB
  simp[bsR,z8k,conv,q0t,l0,l1,l2,z2k hB,z2u hB,z2a hB,j4v,j4w,freezeAll,z3x,AV.obs,z3y,AV.def?,AV.cells,z2d,z1f,nat]
 simp only[go_sem,u9w,hB,b1,b2,b3]
 rw[b5]
 simp only[go_sem,hB]
 refine⟨fun _=>by simp,_,_,k2r.trans rfl,rfl, .inr ⟨⟨B + 4,by simp[z1j,AV.ids,z0b],by omega⟩, ?_⟩⟩
 subst hBh
 exact hQ _ _ _ _ _ _
def u8o {α:Type} (enc:α→AV) (B k:Nat) (cv:AV) (o:AObj) (cs:List α):Prop:=(cv= .sl [] .nil∧cs=[])∨∃ g,cv= .ob (B + k) g 0 cs.length∧o= .blk g (cs.map enc) true true 0∧cs≠[]
abbrev ClRow:=u8o z0g
theorem x4s {α:Type} {enc:α→AV} {e b:Nat} {D L:List AObj} {B k j gen g:Nat} {cs:List α} {c:α} {cv:AV} {o:AObj} (hx:∀ l:List α,z0n e (l.map enc)=true) (hB:D.length=B) (hk:L[k]? =some o) (hj:L[j]? =some (.blk g [enc c] true false 0)) (hc:u8o enc B k cv o cs) (hl:cs.length≤1000000) (hb:b≤1000):
  z0r (D++L) (B + k) gen e b true cv (.ob (B + j) g 0 1)=some (.ob (B + k) gen 0 (cs++[c]).length,D++L.set k (.blk gen ((cs++[c]).map enc) true true 0)):=by
 have hs:z4o (D++L) (.ob (B + j) g 0 1)=some ([c].map enc):=q4q hB hj rfl
 have h1:z0n e ([c].map enc)=true:=hx _
 have h2:z0n e (cs.map enc)=true:=hx _
 have h0:z0n e []=true:=rfl
 have ee:(cs++[c]).map enc=cs.map enc++[c].map enc:=v5
 have hy:([c].map enc).length=1:=rfl
 have hz:([c].map enc).isEmpty=false:=rfl
 have hgt:¬ (cs.length + 1) * (b + 1) > z1e:=by
  have:(cs.length + 1) * (b + 1)≤1000001 * 1001:=Nat.mul_le_mul (by omega) (by omega)
  unfold z1e
  omega
 rw[ee]
 generalize [c].map enc=ys at *
 rcases hc with ⟨rfl,rfl⟩ | ⟨g',rfl,rfl,hne⟩
 ·match ys,hy with
  | [y],_=>
    simp only[d5,y4,Nat.one_mul] at hgt
    simp only[z0r,hs,h1,h0,z7,y6,if_false,d5,w0,y4,Nat.one_mul,hgt,decide_false,Bool.or_false,d3,z2a hB,if_true]
    rfl
 ·have hb':z1u (D++L) (B + k) g'=some (cs.map enc,true,true,0):=by rw[z2k hB];exact z2g hk
  have h3:0 < cs.length:=List.length_pos_iff.2 hne
  have ht:List.take cs.length (cs.map enc)=cs.map enc:=b7 (by simp)
  simp[z0r,hs,h1,h2,hb',hy,hz,z2a hB,hgt,h3,ht,Nat.not_lt.1 hgt]
end
section
theorem x4t:∀ {os:List (Nat×Nat)} {h:List AObj} {s:Nat},((freezeAll h os)[s]?).map AObj.ids=(h[s]?).map AObj.ids
 | [],_,_=>rfl
 | o::os,h,s=>by
   simp only[freezeAll]
   rw[x4t]
   split
   ·rename_i g es row grow fz he
    by_cases hs:o.1=s
    ·subst hs
     have hlt:o.1 < h.length:=by
      rw[k7] at he
      exact he.1
     rw[List.getElem?_set_self hlt,he]
     rfl
    ·rw[l7 hs]
   ·rfl
theorem q8g {h:List AObj} {os:List (Nat×Nat)}:∀ {n:Nat} {seen z7l:List Nat},reach (freezeAll h os) n seen z7l=reach h n seen z7l
 | 0,_,_=>rfl
 | _ + 1,_,[]=>rfl
 | n + 1,seen,s::z7l=>by
   simp only[reach,x4t,q8g]
theorem q9a {h:List AObj}:∀ {n:Nat} {seen z7l:List Nat},(seen≠[]∨z7l≠[])→(reach h n seen z7l).isEmpty=false
 | 0,seen,z7l,hn=>by
   rw[reach]
   rcases hn with hn | hn
   ·cases seen with
    | nil=>exact absurd rfl hn
    | cons a l=>rfl
   ·cases seen with
    | nil=>
      cases z7l with
      | nil=>exact absurd rfl hn
      | cons a l=>rfl
    | cons a l=>rfl
 | _ + 1,seen,[],hn=>by
   show seen.isEmpty=false
   rcases hn with hn | hn
   ·cases seen with
    | nil=>exact absurd rfl hn
    | cons a l=>rfl
   ·exact absurd rfl hn
 | n + 1,seen,s::z7l,hn=>by
   rw[reach]
   split
   ·rename_i hc
    refine q9a (.inl fun e=> ?_)
    subst e
    simp at hc
   ·exact q9a (.inl (by simp))
section
variable {f:Nat} {args az:List AV} {h:List AObj} {clk:Nat} {af:AFun}
theorem j7e {k:Nat} (hext:Gam.ext f=none) (hfn:Gam.fn f=some af) (hb:af.byref=[]) (hpa:z1i h [] 0 args=some az) (hcv:cvL az=az) (hobs:z3x az=[]) (hne:idsL az≠[]):z5c Gam k f args h clk=z5c Gam k f az (freezeAll h (z0p [] 0 args)) clk:=by
 have hpa2:z1i (freezeAll h (z0p [] 0 args)) [] 0 az=some az:=by rw[z1p hobs,hcv]
 have hl2:z0p [] 0 az=[]:=z4s hobs
 have hT:∀ n,(reach h n [] (idsL az)).isEmpty=false:=fun n=>q9a (.inr hne)
 unfold z5c z0o
 simp only[hext,hfn,hb,hpa,hpa2,hl2,freezeAll,q7b,q8g,hT,Bool.and_false,y6,if_false]
theorem w6a (hext:Gam.ext f=none) (hfn:Gam.fn f=some af) (hb:af.byref=[]) (hpa:z1i h [] 0 args=some az) (hcv:cvL az=az) (hobs:z3x az=[]):z0y Gam f args h=(z3x args).map (·.1)++z0y Gam f az h:=by
 have hpa2:z1i h [] 0 az=some az:=by rw[z1p hobs,hcv]
 unfold z0y
 simp only[hext,hfn,hb,hpa,hpa2,hobs,List.map_nil,d3]
end
theorem k6a {l:List Int} {f B k g i j gq n fz clk gg:Nat} {w b:Bool} {R:AV→Prop} {es:List AV} {D L:List AObj} {af:AFun} {m:Md} {dst:Option Nat} {os:List AOper} {ts:Tmps} {ks:List Kf} {Q:Post} (hg:GenOk l f [.sl (es.take n) .no, .bool b] R) (hext:Gam.ext f=none) (hfn:Gam.fn f=some af) (hbr:af.byref=[]) (hB:D.length=B) (hk:L[k]? =some (z3d g l i)) (hj:L[j]? =some (.blk gq es true w fz)) (hkj:k≠j) (hn:n≤es.length) (hi:i≤l.length)
  (hQ:∀ v i',R v→i'≤l.length→O Gam B (m.add ([B + j,B + k],[B + j,B + k])) (gg + 1) os ⟨z8t ts dst v,D++(L.set j (.blk gq es true w (max fz n))).set k (z3d g l i'),clk⟩ ks Q):
  CK Gam B f [.ptr (B + k) g 0 0, .ob (B + j) gq 0 n, .bool b] (D++L) clk m dst gg os ts ks Q:=by
 have hbl:z1u (D++L) (B + j) gq=some (es,true,w,fz):=by rw[z2k hB];exact z2g hj
 have hrow:q0t (D++L) (B + j) gq 0 n=some (es.take n):=by
  simp only[q0t,hbl,y4,hn,if_true,List.drop_zero]
 have hpa:z1i (D++L) [] 0 [.ptr (B + k) g 0 0, .ob (B + j) gq 0 n, .bool b]=some [.ptr (B + k) g 0 0, .sl (es.take n) .no, .bool b]:=by
  simp[z1i,conv,hrow]
 have hlent:z0p [] 0 [.ptr (B + k) g 0 0, .ob (B + j) gq 0 n, .bool b]=[(B + j,n)]:=by simp[z0p,AV.obs]
 have hjl:j < L.length:=by
  rw[k7] at hj
  exact hj.1
 have hfz:freezeAll (D++L) [(B + j,n)]=D++L.set j (.blk gq es true w (max fz n)):=by
  simp only[freezeAll,z2u hB,hj,z2a hB]
 have hk':(L.set j (.blk gq es true w (max fz n)))[k]? =some (z3d g l i):=by rw[l7 (Ne.symm hkj)];exact hk
 have hD1:(D++L.set j (.blk gq es true w (max fz n)))[B + k]? =some (z3d g l i):=by rw[z2u hB];exact hk'
 have hD0:(D++L)[B + k]? =some (z3d g l i):=by rw[z2u hB];exact hk
 have hcv:cvL [AV.ptr (B + k) g 0 0, .sl (es.take n) .no, .bool b]=[.ptr (B + k) g 0 0, .sl (es.take n) .no, .bool b]:=rfl
 have hob:z3x [AV.ptr (B + k) g 0 0, .sl (es.take n) .no, .bool b]=[]:=rfl
 obtain⟨_,hft⟩:=hg (D++L) (B + k) g i clk (fun _ _ _=>True) hD0 hi (fun _ _ _ _=>trivial)
 obtain⟨⟨kf,v,h',c,hc,i',hi',hR,rfl,rfl⟩,_⟩:=hg (D++L.set j (.blk gq es true w (max fz n))) (B + k) g i clk (fun v h' c=>∃ i',i'≤l.length∧R v∧h'=(D++L.set j (.blk gq es true w (max fz n))).set (B + k) (z3d g l i')∧c=clk) hD1 hi (fun v i' h1 h2=>⟨i',h1,h2,rfl,rfl⟩)
 have hF:z0y Gam f [.ptr (B + k) g 0 0, .ob (B + j) gq 0 n, .bool b] (D++L)=[B + j,B + k]:=by
  rw[w6a hext hfn hbr hpa hcv hob,hft]
  simp[z3x,AV.obs]
 have hcall:=j7e (k:=kf) (clk:=c) hext hfn hbr hpa hcv hob (by simp[idsL,AV.ids])
 rw[hlent,hfz] at hcall
 refine⟨kf,v,_,c,by rw[hcall];exact hc, ?_⟩
 dsimp only
 refine j4z (f':=([B + j,B + k],[B + j,B + k])) ?_ ?_ ?_
 ·rw[hF];exact fun x hx=>hx
 ·rw[hF];exact fun x hx=>(l4.1 hx).1
 ·rw[z2a hB]
  exact hQ v i' hR hi'
end
theorem y8r {D L:List AObj} {B k g n r:Nat} {e:Nat} {es:List AV} {fz:Nat} {j:IntKind} (hB:D.length=B) (hk:L[k]? =some (.blk g es true false fz)) (hr:r≤es.length) (he:z4q e es=true):slV (D++L) (some e) (.ob (B + k) g 0 n) none (some (.int j (r:Int))) none=some (.ob (B + k) g 0 r,D++L):=by
 have hb:z1u (D++L) (B + k) g=some (es,true,false,fz):=by rw[z2k hB];exact z2g hk
 simp[slV,z2y,hb,z5b,hr,he]
theorem u8p {zs:List Int} {u:Tip} {h:List AObj} {clk:Nat} {Q:AV→List AObj→Nat→Prop} (hz:∀ z∈zs, -9223372036854775808≤z∧z≤9223372036854775807) (hN:x2q (zs.take 400)) (hQ:∀ s,SysOk s→∀ (cv:AV) (o0 o1 o2 o o4 p0 p1 p2 p3:AObj) (gp fz c:Nat),ClRow h.length 3 cv o s.clauses→fz≤s.preds.length→Q (.agg [.ob (h.length + 9) gp 0 s.preds.length,cv]) (h++[o0,o1,o2,o,o4,p0,p1,p2,p3, .blk gp (z2d.map z1f) true false fz]) c):WC Gam 6 [.sl (q3k zs) u] h clk Q:=by
 have hl:q4y (zs.take 400):=⟨by simp;omega,fun z h=>hz z (List.mem_of_mem_take h)⟩
 generalize hzs:zs.take 400=l at hN hl
 refine q8z rfl g4e rfl rfl rfl (az:=[.sl (q3k zs) .no]) rfl (by simp[idsL,AV.ids,q3d]) fun D B hB hBh=> ?_
 simp only[go_sem,u9l,hB]
 refine j5e fun g c=> ?_
 have e0:∀ (x y:AObj),(D++[x,y, .dead, .dead]).length=B + 4:=fun x y=>by simp[hB]
 have e1:∀ (x y o:AObj),(D++[x,y, .dead, .dead])++[o]=D++[x,y, .dead, .dead,o]:=fun x y o=>by simp
 rw[e0,e1,hzs]
 simp only[go_sem,hB]
 refine z4i (g5r fun p0 p1 p2 p3 gp c2=> ?_)
 have e6:∀ (x y o:AObj),(D++[x,y, .dead, .dead,o]).length + 4=B + 9:=fun x y o=>by simp[hB]
 have e7:∀ (x y o a b c d e:AObj),(D++[x,y, .dead, .dead,o])++[a,b,c,d,e]=D++[x,y, .dead, .dead,o,a,b,c,d,e]:=fun _ _ _ _ _ _ _ _=>by simp
 rw[e6,e7]
 simp only[go_sem,hB]
 refine z4m (k:=4) (z3u hl (by decide) (by decide)) hB rfl (m7 _) ?_
 rintro v i ⟨r,rfl,hr1,hr2⟩ hi
 obtain⟨n,rfl⟩:∃ k:Nat,r=k:=⟨r.toNat,by omega⟩
 have e2:IntKind.i64.wrap (2 + (n:Int))=((2 + n:Nat):Int):=by rw[z0e (by omega) (by omega)];omega
 have e3:(z2d.map z1f).take (2 + n)=(z2d.take (2 + n)).map z1f:=List.map_take.symm
 have hlen5:(z2d.map z1f).length=5:=rfl
 have e4:∀ (L:List AObj) (fz:Nat),L[9]? =some (.blk gp (z2d.map z1f) true false fz)→slV (D++L) (some 3) (.ob (B + 9) gp 0 5) none (some (.int .i64 ((2 + n:Nat):Int))) none=some (.ob (B + 9) gp 0 (2 + n),D++L):=fun L fz hk=>y8r hB hk (by rw[hlen5];omega) rfl
 have hpo:=k9r (n:=2 + n) (by omega)
 have hpn:(z2d.take (2 + n)).length=2 + n:=by rw[b6];show min (2 + n) 5=2 + n;omega
 generalize hps:z2d.take (2 + n)=ps at hpo e3 hpn
 simp only[go_sem,hB,e2,Option.map_none]
 rw[e4 _ _ rfl]
 simp only[go_sem,hB]
 refine z4m (k:=4) (z3u hl (by decide) (by decide)) hB rfl hi ?_
 rintro v i2 ⟨r,rfl,hr3,hr4⟩ hi2
 obtain⟨z,rfl⟩:∃ k:Nat,r=k:=⟨r.toNat,by omega⟩
 have e5:IntKind.i64.wrap (1 + (z:Int))=((1 + z:Nat):Int):=by rw[z0e (by omega) (by omega)];omega
 simp only[go_sem,hB,e5]
 refine z1t (fun m s=>∃ (n':Nat) (acc:List Clause) (cv:AV) (i g0 g1 fz:Nat) (x y:AObj),m=n'∧acc.length + n'≤8∧(∀ a∈acc,ClauseOk ps a)∧i≤l.length∧fz≤2 + n∧s.ts 2= .ptr (B + 0) g0 0 0∧s.ts 3= .ptr (B + 4) g 0 0∧s.ts 4= .ptr (B + 1) g1 0 0∧s.ts 5= .int .i64 (n':Int)∧
  s.h=D++[.blk g0 [.agg [.sl [] .nil, .sl [] .nil]] false false 0, .blk g1 [.agg [.ob (B + 9) gp 0 (2 + n),cv]] false false 0,x,y,z3d g l i,p0,p1,p2,p3, .blk gp (z2d.map z1f) true false fz]∧ClRow B 3 cv y acc) (1 + z) ?_ ?_
 ·exact⟨1 + z,[], .sl [] .nil,i2,_,_,0,_,_,rfl,by simp;omega,by simp,hi2,by omega,rfl,rfl,rfl,rfl,rfl, .inl ⟨rfl,rfl⟩⟩
 clear e0 e1 hi hi2 e2 e4
 rintro m ⟨ts,h1,clk⟩ P ⟨n',acc,cv,i,g0,g1,fz,x,y,rfl,hlen,hacc,hi,hfz,h2,h3,h4,h5,rfl,ht⟩ hn he hr
 dsimp only at h2 h3 h4 h5
 have fin:∀ (ts':Tmps) (i' clk':Nat),i'≤l.length→ts' 2= .ptr (B + 0) g0 0 0→ts' 4= .ptr (B + 1) g1 0 0→P (.exit 0) ⟨ts',D++[.blk g0 [.agg [.sl [] .nil, .sl [] .nil]] false false 0, .blk g1 [.agg [.ob (B + 9) gp 0 (2 + n),cv]] false false 0,x,y,z3d g l i',p0,p1,p2,p3, .blk gp (z2d.map z1f) true false fz],clk'⟩:=by
  intro ts' i' clk' hi' q2 q4
  refine he _ _ ?_
  have hcv:cv.def? =true∧cv.cells=[cv]∧cv.one=true:=by
   rcases ht with ⟨rfl,_⟩ | ⟨g',rfl,_⟩ <;> exact⟨rfl,rfl,rfl⟩
  have hst:∀ (g:Nat) (L:List AObj),L[0]? =some (.blk g [.agg [.sl [] .nil, .sl [] .nil]] false false 0)→z5q (D++L) 2 (.agg [.ob (B + 9) gp 0 (2 + n),cv]) (.ptr (B + 0) g 0 0)=some (.undef,D++L.set 0 (.blk g [.agg [.ob (B + 9) gp 0 (2 + n),cv]] false false 0)):=fun g L hL=>by
   have hb:z1u (D++L) (B + 0) g=some ([.agg [.sl [] .nil, .sl [] .nil]],false,false,0):=by rw[z2k hB];exact z2g hL
   rw[q6u (sz:=2) (v:= .agg [.ob (B + 9) gp 0 (2 + n),cv]) hb rfl rfl (by simp[AV.cells,v4q,hcv.2.2]) (by simp[AV.cells]),z2a hB]
   rfl
  simp only[go_sem,q2,q4,hB,hst]
  refine⟨fun _=>by simp,[.agg [.ob (B + 9) gp 0 (2 + n),cv]],_, ?_,rfl, .inr ⟨⟨B + 9,by simp[z1j,AV.ids,idsL],by omega⟩, ?_⟩⟩
  ·simp only[go_sem,q2,hB,z0m,z0l,z0f]
  ·have:=hQ ⟨ps,acc⟩ ⟨⟨2 + n,by omega,by omega,hps.symm⟩,by simp only;omega,hacc⟩ cv (.blk g0 [.agg [.ob (B + 9) gp 0 (2 + n),cv]] false false 0) (.blk g1 [.agg [.ob (B + 9) gp 0 (2 + n),cv]] false false 0) x y (z3d g l i') p0 p1 p2 p3 gp fz
   rw[hpn,←hBh] at this
   exact this _ ht hfz
 by_cases hm:m=0
 ·have hb:decide (0 < (m:Int))=false:=by rw[z03];omega
  simp only[go_sem,h2,h3,h4,h5,hB,k8z,hb]
  exact fin _ _ _ hi (by simp[z0b,h2]) (by simp[z0b,h4])
 ·have hb:decide (0 < (m:Int))=true:=by rw[z04];omega
  obtain⟨n',rfl⟩:∃ n',m=n' + 1:=⟨m - 1,by omega⟩
  have en:IntKind.i64.wrap (((n' + 1:Nat):Int) - 1)=(n':Int):=z5r (by omega)
  simp only[go_sem,h2,h3,h4,h5,hB,k8z,hb]
  refine z4m (k:=4) w2h hB rfl hi ?_
  clear hi
  rintro v i ⟨b,rfl⟩ hi
  simp only[go_sem,h2,h3,h4,h5,hB]
  refine z8p (fun hc=> ?_) (fun hc=> ?_)
  ·simp only[go_sem,h2,h3,h4,h5,hB,z1a]
   refine z4m (k:=4) (z3u hl (by decide) (by decide)) hB rfl hi ?_
   clear hi
   rintro v i ⟨r,rfl,hr5,hr6⟩ hi
   simp only[go_sem,h2,h3,h4,h5,hB]
   have hg53:=fun b=>u5b (l:=l) (q:=b) (u:= .no) hl hN hpo
   rw[←e3] at hg53
   refine k6a (k:=4) (j:=9) (n:=2 + n) (hg53 _) rfl u9q rfl hB rfl rfl (by decide) (by rw[hlen5];omega) hi ?_
   clear hi
   rintro v i ⟨c,rfl,hc⟩ hi
   have hmx:max fz (2 + n)≤2 + n:=by omega
   generalize max fz (2 + n)=fz' at hmx
   have hbs:∀ h s g,bsR h s g (.agg [.sl [] .nil, .sl [] .nil, .sl [] .nil, .str [], .sl [] .nil]) 1 [0] [z0g c]=some (.ob s g 0 1,h.set s (.blk g [z0g c] true false 0)):=fun h s g=>g1v rfl rfl rfl rfl
   simp only[go_sem,h2,h3,h4,h5,hB,hbs]
   rw[x4s (j:=2) (k:=3) (fun _=>z4b) hB rfl rfl ht (by omega) (by omega)]
   simp only[go_sem,h2,h3,h4,h5,hB,en]
   refine⟨by simp[z1b,apart,z0j,z0z,z1d,AOp.isCall,hB], ?_⟩
   refine hn n' _ (by omega) ⟨n',acc++[c],_,i,g0,g1,fz',_,_,rfl,by simp;omega, ?_,hi,hmx,h2,h3,h4,rfl,rfl, .inr ⟨_,rfl,rfl,by simp⟩⟩
   intro a' ha'
   rw[j6,u7] at ha'
   rcases ha' with ha' | rfl
   ·exact hacc a' ha'
   ·exact hc
  ·simp only[go_sem,h2,h3,h4,h5,hB]
   exact fin _ _ _ hi (by simp[z0b,h2]) (by simp[z0b,h4])
def x2w (c:Clause) (cv:AV):AV:= .agg [.sl (c.vars.map z1k) .no,cv, .sl (c.guard.map eNode) .no, .str c.head.pred, .sl (c.head.args.map z0k) .no]
theorem g5s {c:Clause} {h:List AObj} {clk:Nat} {Q:AV→List AObj→Nat→Prop} (hb:c.body.length≤20000) (hba:∀ a∈c.body,a.args.length≤2 ^ 20∧∀ t∈a.args,t.length≤2 ^ 20) (hh:c.head.args.length≤2 ^ 20∧∀ t∈c.head.args,t.length≤2 ^ 20) (hv:c.vars.length≤2 ^ 20) (hg:c.guard.length≤2 ^ 20)
  (h0:c.body=[]→Q (x2w c (.sl [] .nil)) h clk) (hQ:∀ o0 o1 o2 o3 o4 g c',c.body≠[]→Q (x2w c (.ob (h.length + 5) g 0 c.body.length)) (h++[o0,o1,o2,o3,o4, .blk g (c.body.map z2b) true true 0]) c'):WC Gam 40 [z0g c] h clk Q:=by
 have hp:=v7f hh.1 hh.2
 rw[z2b] at hp
 refine q8z rfl g5d rfl rfl rfl (az:=[z0g c]) rfl (by simp[idsL,z5w]) fun D B hB hBh=> ?_
 simp only[go_sem,g1g,hB,z0g,z0k,z1a,z0a (v7e hv),z0a (k5i hg),z0a hp,z6]
 refine⟨by simp[z1b,apart,z0j,z0z,z1d,AOp.isCall,hB,AV.ids,idsL,z0c z2l,z0c z1v,z0c z2c], ?_⟩
 refine z3t c.body.length (by omega) (fun i q=>∃ (g1 g2:Nat) (cv:AV) (a o3 o4 o5:AObj),q.ts 2= .ptr (B + 1) g1 0 0∧q.ts 3= .ptr (B + 2) g2 0 0∧q.ts 17= .sl (c.body.map z2b) .no∧q.ts 18= .int .i64 (c.body.length:Int)∧q.ts 19= .int .i64 (i:Int)∧q.h=D++[a, .blk g1 [.agg [.sl [] .nil, .sl [] .nil, .sl [] .nil, .str [], .sl [] .nil]] false false 0, .blk g2 [x2w c cv] false false 0,o3,o4,o5]∧u8o z2b B 5 cv o5 (c.body.take i)) ⟨_,_, .sl [] .nil,_,_,_,_,rfl,rfl,rfl,rfl,rfl,rfl, .inl ⟨rfl,by simp⟩⟩ ?_ ?_
 ·rintro i hlt f1 f2 ts h' clk' P ⟨g1,g2,cv,a,o3,o4,o5,q2,q3,q17,q18,q19,rfl,ht⟩ hnx he hr
  dsimp only at q2 q3 q17 q18 q19
  have hix:=fun h=>x7i (l:=c.body) (i:=i) (h:=h) (t:= .no) (k:= .i64) hlt
  have htk:=w8 hlt
  have hpa:=v7f (a:=c.body[i]) (hba _ (j9 hlt)).1 (hba _ (j9 hlt)).2
  have hbs:∀ h s g,bsR h s g (.agg [.str [], .sl [] .nil]) 1 [0] [.agg [.str c.body[i].pred, .sl (c.body[i].args.map z0k) .no]]=some (.ob s g 0 1,h.set s (.blk g [z2b c.body[i]] true false 0)):=fun h s g=>g1v rfl rfl rfl rfl
  have hcv:cv.ids=[]∨cv.ids=[B + 5]:=by
   rcases ht with ⟨rfl,_⟩ | ⟨g,rfl,_⟩
   ·exact .inl rfl
   ·exact .inr rfl
  rw[z2b] at hpa
  generalize c.body[i]=x at *
  simp only[go_sem,v0l,x2w,q2,q3,q17,q18,q19,hB,z1a,f1,hix,z0a hpa,hbs]
  rw[x4s (j:=4) (k:=5) (fun _=>z4z) hB rfl rfl ht (by rw[b6];omega) (by omega),←htk]
  simp only[go_sem,q2,q3,q17,q18,q19,hB,f2]
  refine⟨?_, ?_⟩
  ·rcases hcv with hcv | hcv <;> simp[z1b,apart,z0j,z0z,z1d,AOp.isCall,hB,AV.ids,idsL,z0c z2c,hcv]
  ·refine hnx _ ⟨g1,g2,_,_,_,_,_,q2,q3,q17,q18,rfl,rfl, .inr ⟨_,rfl,rfl,fun e=> ?_⟩⟩
   have:=congrArg List.length e
   rw[htk] at this
   simp at this
 ·rintro f1 ts h' clk' P ⟨g1,g2,cv,a,o3,o4,o5,q2,q3,q17,q18,q19,rfl,ht⟩ he hr
  dsimp only at q2 q3 q17 q18 q19
  rw[u4] at ht
  simp only[go_sem,v0l,q2,q3,q17,q18,q19,f1]
  refine he _ _ ?_
  have hs:=show cv.def? =true∧cv.cells=[cv]∧cv.one=true by rcases ht with ⟨rfl,_⟩ | ⟨g,rfl,_⟩ <;> exact⟨rfl,rfl,rfl⟩
  have hst:∀ (g:Nat) (L:List AObj),L[1]? =some (.blk g [.agg [.sl [] .nil, .sl [] .nil, .sl [] .nil, .str [], .sl [] .nil]] false false 0)→z5q (D++L) 5 (x2w c cv) (.ptr (B + 1) g 0 0)=some (.undef,D++L.set 1 (.blk g [x2w c cv] false false 0)):=fun g L hL=>by
   have hb:z1u (D++L) (B + 1) g=some ([.agg [.sl [] .nil, .sl [] .nil, .sl [] .nil, .str [], .sl [] .nil]],false,false,0):=by rw[z2k hB];exact z2g hL
   rw[q6u (sz:=5) (v:=x2w c cv) hb rfl rfl (by simp[x2w,AV.cells,j4r,x5n,hs.2.2]) (by simp[AV.cells]),z2a hB]
   rfl
  have hrd:∀ g L,L[2]? =some (.blk g [x2w c cv] false false 0)→z9e (D++L) (some 5) (.ptr (B + 2) g 0 0)=some (x2w c cv,D++L):=fun g L hL=>by
   rw[x9k,z2k hB,z2g hL]
   rfl
  simp only[go_sem,q2,q3,hB,hrd,hst]
  refine⟨fun _=>by simp,[x2w c cv],_, ?_,rfl, ?_⟩
  ·simp only[go_sem,q2,hB,x2w,z0m,z0l,z0f]
  ·rcases ht with ⟨rfl,h00⟩ | ⟨g,rfl,rfl,hne⟩
   ·exact .inl ⟨by simp[z1j,x2w,AV.ids,idsL,z0c z2l,z0c z1v,z0c z2c],h0 h00⟩
   ·subst hBh
    exact .inr ⟨⟨h.length + 5,by simp[z1j,x2w,AV.ids,idsL,z0c z2l,z0c z1v,z0c z2c],by omega⟩,hQ _ _ _ _ _ g _ hne⟩
end
end Go.Proofs.YtkollgjffkdliaaGreatDoor.Am
