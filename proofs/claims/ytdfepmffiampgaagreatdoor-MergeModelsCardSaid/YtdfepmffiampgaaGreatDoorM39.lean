/- Walking: names are replaced by themselves Walking: pieces of the program's Rename Walking: the program's Rename: uses of names Walking: names are replaced by themselves Functions of the abstract machi -/
import Derived.Test.YtdfepmffiampgaaGreatDoorM38
set_option linter.all false
namespace Go.Proofs.YtdfepmffiampgaaGreatDoor.Am
open Go
set_option maxRecDepth 100000
section
theorem w3v {l:List (List Nat)} {s:List Nat} {u:Tip} (hl:l.length≤1000):Pure Gam 78 [.sl (z3r l) u, .str s] (.bool (decide (s∈l))):=by
 refine Pure.of rfl u2d rfl rfl rfl (az:=[.sl (z3r l) .no, .str s]) rfl (by simp[idsL,AV.ids,z2u]) fun D B clk T hB hT=> ?_
 simp only[go_sem,y0g,hB]
 refine z2y l.length (by omega) (fun i q=>q.ts 0= .sl (z3r l) .no∧q.ts 1= .str s∧q.ts 5= .int .i64 (i:Int)∧(∀ j (h:j < l.length),j < i→l[j]≠s)) ⟨rfl,rfl,rfl,fun j h hj=>by omega⟩ ?_ ?_
 ·rintro i hlt f1 f2 ts h clk P ⟨q0,q1,q5,hno⟩ hnx he hr
  dsimp only at q0 q1 q5
  have hix:=fun h=>z8o (l:=l) (i:=i) (h:=h) (t:= .no) (k:= .i64) hlt
  have hln:((z3r l).length:Int)=(l.length:Int):=by simp[z3r]
  cases hd:decide (l[i]=s) with
  | true=>
    have hs:=of_decide_eq_true hd
    have:decide (s∈l)=true:=by rw[decide_eq_true_iff,←hs];exact List.getElem_mem hlt
    rw[this] at hT
    generalize l[i]=a at *
    simp only[go_sem,x8z,q0,q1,q5,hB,hln,f1,hix,hd]
    refine hr _ ?_
    simp only[go_sem,]
    rw[z0d]
    exact hT _
  | false=>
    have hs:=of_decide_eq_false hd
    have hno':∀ j (h:j < l.length),j < i + 1→l[j]≠s:=fun j h hj=>by
     by_cases e:j=i
     ·subst e;exact hs
     ·exact hno j h (by omega)
    generalize l[i]=a at *
    simp only[go_sem,x8z,q0,q1,q5,hB,hln,f1,f2,hix,hd]
    exact hnx _ ⟨q0,q1,rfl,hno'⟩
 ·rintro f1 ts h clk P ⟨q0,q1,q5,hno⟩ he hr
  dsimp only at q0 q1 q5
  have hln:((z3r l).length:Int)=(l.length:Int):=by simp[z3r]
  have:decide (s∈l)=false:=by
   rw[decide_eq_false_iff_not]
   intro hm
   obtain⟨j,hj,e⟩:=List.mem_iff_getElem.1 hm
   exact hno j hj hj e
  rw[this] at hT
  simp only[go_sem,x8z,q0,q1,q5,hB,hln,f1]
  refine he _ _ ?_
  simp only[go_sem,]
  rw[z0d]
  exact hT _
theorem w3w {U V:List Var} [UOk U] {t:Term} {s d:Nat} (hV:∀ v∈V,v∈U) (htl:t.length≤20000) (hd:d≤256) (h:WF V [s] d t) (hs:1≤s):Pure Gam 76 [z0i t] (.bool true):=by
 have p1:=k4b hV htl hd h hs
 refine Pure.of rfl u2g rfl rfl rfl (az:=[z0i t]) rfl (by simp[idsL,z0i,AV.ids,z0b z0x]) fun D B clk T hB hT=> ?_
 have e1:decide ((0:Int) < (s:Int))=true:=by rw[decide_eq_true_iff];omega
 simp only[nat] at p1
 simp only[go_sem,y0k,hB,z0a p1,e1]
 rw[z0d]
 exact hT _
section
variable {D L:List AObj} {B k g n j:Nat} {es:List Node} {x:Node}
theorem v6d (hB:D.length=B) (hL:L[k]? =some (.blk g (es.map eNode) true true 0)) (he:es[j]? =some x) (hj:j < n):z1n (D++L) 5 (.ob (B + k) g 0 n) (.int .i64 (j:Int))=some (.ptr (B + k) g j 0,D++L):=by
 have hb:z1s (D++L) (B + k) g=some (es.map eNode,true,true,0):=by rw[z2i hB];exact z2g hL
 have he':(es.map eNode)[j]? =some (eNode x):=by rw[List.getElem?_map,he];rfl
 simp[z1n,hb,he,hj,eNode,AV.cells]
theorem k5a (hB:D.length=B) (hL:L[k]? =some (.blk g (es.map eNode) true true 0)) (he:es[j]? =some x):z4y (D++L) 1 (.str x.name) (.ptr (B + k) g j 2)=some (.undef,D++L):=by
 have hb:z1s (D++L) (B + k) g=some (es.map eNode,true,true,0):=by rw[z2i hB];exact z2g hL
 have he':(es.map eNode)[j]? =some (eNode x):=by rw[List.getElem?_map,he];rfl
 have hp:pub (D++L) (.str x.name)=some (.str x.name,D++L):=rfl
 have hs:(es.map eNode).set j (eNode x)=es.map eNode:=by
  obtain⟨h1,h2⟩:=List.getElem?_eq_some_iff.1 he'
  rw[←h2]
  exact List.set_getElem_self h1
 have hl:L.set k (.blk g (es.map eNode) true true 0)=L:=by
  obtain⟨h1,h2⟩:=List.getElem?_eq_some_iff.1 hL
  rw[←h2]
  exact List.set_getElem_self h1
 rw[z6y,hb]
 simp only[he',if_true,hp]
 have hr:∀ cs,z7q (eNode x) cs= .agg cs:=fun _=>rfl
 have hsp:z8a (eNode x).cells 2 (AV.str x.name).cells=some (eNode x).cells:=rfl
 have hse:AV.agg (eNode x).cells=eNode x:=rfl
 simp only[hsp,Option.map_some,hr,hse,hs,z1t hB,hl]
 simp[AV.def?,AV.cells,q9y,AV.obs]
theorem k5b {e b gen:Nat} {ys:List AV} {u:Tip} (hB:D.length=B) (hy:z0o e ys=true) (h0:ys≠[]) (hl:ys.length * (b + 1)≤2 ^ 46):
  z0n (D++L) (B + k) gen e b true (.sl [] .nil) (.sl ys u)=some (.ob (B + k) gen 0 ys.length,D++L.set k (.blk gen ys true true 0)):=by
 have hs:z4e (D++L) (.sl ys u)=some ys:=rfl
 have h1:¬ (2 ^ 46 < ys.length * (b + 1)):=by omega
 cases ys with
 | nil=>exact absurd rfl h0
 | cons y ys=>
   unfold z0n
   simp only[hs,hy,z1t hB]
   simp[z1c,z0o] at *
   omega
end
theorem v0t {U V:List Var} [UOk U] {ns:List (List Nat)} {t:Term} {s d:Nat} {u v w:Tip} (hns:∀ n∈ns,z7w q1v [.str n]=some (.bool true)) (hnd:ns.Nodup) (hnl:ns.length≤1000) (hV:∀ v∈V,v∈U) (htl:t.length≤20000) (hd:d≤256) (ht:WF V [s] d t) (hs:1≤s):Pure Gam 37 [.sl (t.map eNode) u, .sl (z3r ns) v, .sl (z3r ns) w] (.tup [.sl (t.map eNode) .no, .int .i64 0]):=by
 have p206:=w3w hV htl hd ht hs
 have p156:=k4a hV htl ht.names
 have hpos:=ht.pos
 rw[z0i] at p206
 have hln:((z3r ns).length:Int)=(ns.length:Int):=by simp[z3r]
 refine Pure.of rfl y6t rfl rfl rfl (az:=[.sl (t.map eNode) .no, .sl (z3r ns) .no, .sl (z3r ns) .no]) rfl (by simp[idsL,AV.ids,z2u,z0b z0x]) fun D B clk T hB hT=> ?_
 simp only[go_sem,v5z,hB,z0a p206,Bool.not_true,decide_true,hln]
 refine z2y ns.length (by omega) (fun i q=>q.ts 0= .sl (t.map eNode) .no∧q.ts 1= .sl (z3r ns) .no∧q.ts 2= .sl (z3r ns) .no∧q.ts 8= .int .i64 (i:Int)∧q.h=D++[.dead]) ⟨rfl,rfl,rfl,rfl,rfl⟩ ?_ ?_
 ·rintro i hlt f1 f2 ts h clk P ⟨q0,q1,q2,q8,rfl⟩ hnx he hr
  dsimp only at q0 q1 q2 q8
  have hix:=fun h=>z8o (l:=ns) (i:=i) (h:=h) (t:= .no) (k:= .i64) hlt
  have p150:=x6p (hns _ (List.getElem_mem hlt))
  generalize ns[i]=a at *
  simp only[go_sem,x6v,q0,q1,q2,q8,hB,hln,f1,f2,hix,z0a p150,Bool.not_true]
  exact hnx _ ⟨q0,q1,q2,rfl,rfl⟩
 rintro f1 ts h clk P ⟨q0,q1,q2,q8,rfl⟩ he hr
 dsimp only at q0 q1 q2 q8
 simp only[go_sem,x6v,q0,q1,q2,q8,hB,hln,f1]
 refine he _ _ ?_
 clear he hr f1
 simp only[go_sem,]
 refine z2y ns.length (by omega) (fun i q=>q.ts 0= .sl (t.map eNode) .no∧q.ts 1= .sl (z3r ns) .no∧q.ts 2= .sl (z3r ns) .no∧q.ts 9= .int .i64 (i:Int)∧q.h=D++[.dead]) ⟨by simp[z0c,q0],by simp[z0c,q1],by simp[z0c,q2],by simp[z0c],rfl⟩ ?_ ?_
 ·clear q0 q1 q2 q8
  rintro i hlt f1 f2 ts h clk P ⟨q0,q1,q2,q9,rfl⟩ hnx he hr
  dsimp only at q0 q1 q2 q9
  have hix:=fun h=>z8o (l:=ns) (i:=i) (h:=h) (t:= .no) (k:= .i64) hlt
  have hsl:∀ h,slV h (some 1) (.sl (z3r ns) .no) none (some (.int .i64 (i:Int))) none=some (.sl (z3r (ns.take i)) .no,h):=fun h=>by
   rw[q8h (by simp[z3r];omega) (by cases ns <;> rfl)]
   simp[z3r]
  have p192:=w3v (l:=ns.take i) (s:=ns[i]) (u:= .no) (by simp;omega)
  have hm:decide (ns[i]∈ns.take i)=false:=by
   rw[decide_eq_false_iff_not]
   intro hm
   obtain⟨j,hj,e⟩:=List.mem_iff_getElem.1 hm
   rw[List.length_take] at hj
   rw[List.getElem_take] at e
   have:=(List.getElem_inj hnd).1 e
   omega
  rw[hm] at p192
  generalize ns[i]=a at *
  simp only[go_sem,x1h,q0,q1,q2,q9,hB,hln,f1,f2,hsl,hix,z0a p192]
  exact hnx _ ⟨q0,q1,q2,rfl,rfl⟩
 clear q0 q1 q2 q8
 rintro f1 ts h clk P ⟨q0,q1,q2,q9,rfl⟩ he hr
 dsimp only at q0 q1 q2 q9
 simp only[go_sem,x1h,q0,q1,q2,q9,hB,hln,f1]
 refine he _ _ ?_
 clear he hr f1
 simp only[go_sem,q0,hB]
 rw[k5b hB z2x (by cases t with | nil=>simp at hpos | cons a l=>simp) (by simp only[List.length_map];omega)]
 simp only[go_sem,hB]
 refine z2y t.length (by omega) (fun i q=>∃ g,q.ts 0= .sl (t.map eNode) .no∧q.ts 1= .sl (z3r ns) .no∧q.ts 2= .sl (z3r ns) .no∧q.ts 10= .ob (B + 0) g 0 t.length∧q.ts 11= .int .i64 (i:Int)∧q.h=D++[.blk g (t.map eNode) true true 0]) ⟨_,by simp[z0c,q0],by simp[z0c,q1],by simp[z0c,q2],by simp[z0c],by simp[z0c],rfl⟩ ?_ ?_
 ·clear q0 q1 q2 q9
  rintro i hlt f1 f2 ts h clk P ⟨g,q0,q1,q2,q10,q11,rfl⟩ hnx he hr
  dsimp only at q0 q1 q2 q10 q11
  simp only[go_sem,q6u,q0,q1,q2,q10,q11,hB,f1]
  refine z2y ns.length (by omega) (fun j q=>q.ts 0= .sl (t.map eNode) .no∧q.ts 1= .sl (z3r ns) .no∧q.ts 2= .sl (z3r ns) .no∧q.ts 10= .ob (B + 0) g 0 t.length∧q.ts 11= .int .i64 (i:Int)∧q.ts 12= .int .i64 (j:Int)∧q.h=D++[.blk g (t.map eNode) true true 0]) ⟨by simp[z0c,q0],by simp[z0c,q1],by simp[z0c,q2],by simp[z0c,q10],by simp[z0c,q11],by simp[z0c],rfl⟩ ?_ ?_
  ·clear q0 q1 q2 q10 q11
   rintro j hjl j1 j2 ts h clk P2 ⟨q0,q1,q2,q10,q11,q12,rfl⟩ hnx2 he2 hr2
   dsimp only at q0 q1 q2 q10 q11 q12
   have hti:t[i]? =some t[i]:=List.getElem?_eq_getElem hlt
   have hix:=fun h=>z2p (h:=h) (u:= .no) (k:= .i64) hti
   have hjx:=fun h=>z8o (l:=ns) (i:=j) (h:=h) (t:= .no) (k:= .i64) hjl
   have hod:=v6d (D:=D) (L:=[.blk g (t.map eNode) true true 0]) (B:=B) (k:=0) (g:=g) (n:=t.length) (j:=i) hB rfl hti hlt
   have hst:=k5a (D:=D) (L:=[.blk g (t.map eNode) true true 0]) (B:=B) (k:=0) (g:=g) (j:=i) hB rfl hti
   generalize t[i]=n at *
   generalize ns[j]=a at *
   cases h4:decide ((n.op:Int)=4) with
   | false=>
     simp only[go_sem,q1n,q0,q1,q2,q10,q11,q12,hB,hln,j1,j2,hix,h4]
     exact hnx2 _ ⟨q0,q1,q2,q10,q11,rfl,rfl⟩
   | true=>
     cases ha:decide (n.name=a) with
     | false=>
       simp only[go_sem,q1n,q0,q1,q2,q10,q11,q12,hB,hln,j1,j2,hix,hjx,h4,ha]
       exact hnx2 _ ⟨q0,q1,q2,q10,q11,rfl,rfl⟩
     | true=>
       have hs:=of_decide_eq_true ha
       rw[hs] at hst
       simp only[go_sem,q1n,q0,q1,q2,q10,q11,q12,hB,hln,j1,j2,hix,hjx,h4,ha,hod,hst]
       exact hnx2 _ ⟨q0,q1,q2,q10,q11,rfl,rfl⟩
  ·clear q0 q1 q2 q10 q11
   rintro j1 ts h clk P2 ⟨q0,q1,q2,q10,q11,q12,rfl⟩ he2 hr2
   dsimp only at q0 q1 q2 q10 q11 q12
   simp only[go_sem,q1n,q0,q1,q2,q10,q11,q12,hB,hln,j1]
   refine he2 _ _ ?_
   simp only[go_sem,q11,f2]
   exact hnx _ ⟨g,q0,q1,q2,q10,rfl,rfl⟩
 ·clear q0 q1 q2 q9
  rintro f1 ts h clk P ⟨g,q0,q1,q2,q10,q11,rfl⟩ he hr
  dsimp only at q0 q1 q2 q10 q11
  simp only[go_sem,q6u,q0,q1,q2,q10,q11,hB,f1]
  refine he _ _ ?_
  have hrow:=q1g (w:=true) hB (L:=[.blk g (t.map eNode) true true 0]) (k:=0) (g:=g) (es:=t.map eNode) (len:=t.length) rfl (by simp)
  have hrw:=hrow
  simp only[z4e] at hrw
  have hcv:=fun c ts os gg dst ks Q=>j2c (base:=B) (clk:=c) (args:=[.ob (B + 0) g 0 t.length]) (h:=D++[.blk g (t.map eNode) true true 0]) (dst:=dst) (gg:=gg) (ts:=ts) (os:=os) (ks:=ks) (Q:=Q) p156 rfl y0c rfl rfl (by simp only[z1d,conv,hrw,Option.map_some];rfl) (by simp[cvL,AV.cv]) rfl (by simp[idsL,AV.ids,z0b z0x]) rfl
  simp only[AV.flat,if_true] at hcv
  simp only[go_sem,q10,hcv,Bool.not_true]
  refine⟨.tup [.sl (t.map eNode) .no, .int .i64 0],by simp only[z1l,conv,z7h,hrw,Option.map_some],by simp[AV.ids,idsL,z0b z0x],rfl,hT _⟩
end
theorem v0u {n:List Nat} (h:z7w q1o [.str n]=some (.bool true)):Pure Gam 116 [.str n] (.bool false):=by
 have p:Pure Gam 117 [.str n] (.bool true):=Pure.tab (tab:=q1o) rfl rfl h
 refine Pure.of rfl y6i rfl rfl rfl (az:=[.str n]) rfl (by simp[idsL,AV.ids]) fun D B clk T hB hT=> ?_
 simp only[go_sem,v5p,z0a p,Bool.not_true]
 rw[z0d]
 exact hT _
theorem v0v {ns:List (List Nat)} {u:Tip} (hns:∀ n∈ns,z7w q1o [.str n]=some (.bool true)) (hl:ns.length≤1000):Pure Gam 180 [.sl (z3r ns) u, .fn 116 []] (.int .i64 (-1)):=by
 have hln:((z3r ns).length:Int)=(ns.length:Int):=by simp[z3r]
 refine Pure.of rfl y6q rfl rfl rfl (az:=[.sl (z3r ns) .no, .fn 116 []]) rfl (by simp[idsL,AV.ids,z2u]) fun D B clk T hB hT=> ?_
 simp only[go_sem,v5w,hln]
 refine z2y ns.length (by omega) (fun i q=>q.ts 0= .sl (z3r ns) .no∧q.ts 1= .fn 116 []∧q.ts 7= .int .i64 (ns.length:Int)∧q.ts 8= .int .i64 (i:Int)) ⟨rfl,rfl,rfl,rfl⟩ ?_ ?_
 ·rintro i hlt f1 f2 ts h clk P ⟨q0,q1,q7,q8⟩ hnx he hr
  dsimp only at q0 q1 q7 q8
  have hix:=fun h=>z8o (l:=ns) (i:=i) (h:=h) (t:= .no) (k:= .i64) hlt
  have p:=v0u (hns _ (List.getElem_mem hlt))
  generalize ns[i]=a at *
  simp only[go_sem,x6t,q0,q1,q7,q8,f1,f2,hix,z0a p]
  exact hnx _ ⟨q0,q1,q7,rfl⟩
 ·rintro f1 ts h clk P ⟨q0,q1,q7,q8⟩ he hr
  dsimp only at q0 q1 q7 q8
  simp only[go_sem,x6t,q0,q1,q7,q8,f1]
  refine he _ _ ?_
  simp only[go_sem,]
  rw[z2r]
  exact hT _
theorem v0w {ns:List (List Nat)} {u:Tip} (hns:∀ n∈ns,z7w q1o [.str n]=some (.bool true)) (hl:ns.length≤1000):Pure Gam 119 [.sl (z3r ns) u, .fn 116 []] (.bool false):=by
 have p:=v0v (u:= .no) hns hl
 have e:decide ((0:Int)≤ -1)=false:=rfl
 refine Pure.of rfl y6k rfl rfl rfl (az:=[.sl (z3r ns) .no, .fn 116 []]) rfl (by simp[idsL,AV.ids,z2u]) fun D B clk T hB hT=> ?_
 simp only[go_sem,v5r,z0a p,e]
 rw[z0d]
 exact hT _
theorem v0x {ns:List (List Nat)} {u:Tip} (hnd:ns.Nodup) (hl:ns.length≤1000):Pure Gam 120 [.sl (z3r ns) u] (.bool false):=by
 have hln:((z3r ns).length:Int)=(ns.length:Int):=by simp[z3r]
 refine Pure.of rfl y6m rfl rfl rfl (az:=[.sl (z3r ns) .no]) rfl (by simp[idsL,AV.ids,z2u]) fun D B clk T hB hT=> ?_
 simp only[go_sem,v5s,hB,hln]
 refine z2y ns.length (by omega) (fun i q=>∃ g,q.ts 3= .mp (B + 0) g∧q.ts 7= .sl (z3r ns) .no∧q.ts 8= .int .i64 (ns.length:Int)∧q.ts 9= .int .i64 (i:Int)∧q.h=D++[.map g (z5d (ns.take i))]) ⟨_,rfl,rfl,rfl,rfl,rfl⟩ ?_ ?_
 ·rintro i hlt f1 f2 ts h clk P ⟨g,q3,q7,q8,q9,rfl⟩ hnx he hr
  dsimp only at q3 q7 q8 q9
  have hix:=fun h=>z8o (l:=ns) (i:=i) (h:=h) (t:= .no) (k:= .i64) hlt
  have htake:ns.take (i + 1)=ns.take i++[ns[i]]:=List.take_succ_eq_append_getElem hlt
  have hnew:ns[i]∉ns.take i:=by
   intro hc
   have h3:(ns.take (i + 1)).Nodup:=hnd.sublist (List.take_sublist _ _)
   rw[htake,List.nodup_append] at h3
   exact h3.2.2 _ hc _ (by simp) rfl
  generalize ns[i]=a at *
  have hmu:∀ L:List AObj,z5s L 0 g=some (z5d (ns.take i))→muV (D++L) (.one .str) (.str a) (.bool true) (.mp (B + 0) g)=some (.undef,D++L.set 0 (.map g (z5d (ns.take (i + 1))))):=fun L hL=>by
   rw[htake]
   exact x3u (v:= .bool true) hB hL rfl (q3f hnew)
  simp only[go_sem,x6s,q3,q7,q8,q9,f1,hB,hix,z6n,k3t,hnew,q1i,hmu,f2]
  exact hnx _ ⟨g,q3,q7,q8,rfl,rfl⟩
 ·rintro f1 ts h clk P ⟨g,q3,q7,q8,q9,rfl⟩ he hr
  dsimp only at q3 q7 q8 q9
  simp only[go_sem,x6s,q3,q7,q8,q9,f1]
  refine he _ _ ?_
  simp only[go_sem,]
  rw[z0d]
  exact hT _
theorem v0y {U V:List Var} [UOk U] {t:Term} {s d:Nat} {u:Tip} (ht:WF V [s] d t) (hV:∀ v∈V,v∈U) (hl:t.length≤20000) (hd:d≤257):Pure Gam 118 [.sl (t.map eNode) u] (.bool true):=by
 refine Pure.of rfl y6j rfl rfl rfl (az:=[.sl (t.map eNode) .no]) rfl (by simp[idsL,AV.ids,z0b z0x]) fun D B clk T hB hT=> ?_
 simp only[go_sem,v5q,List.append_nil]
 refine z3g (k9m ht hV hl hd fun gP gV g2 P dep o3 o4 o5 o6 o7 o8 o9 c hPl hp hdep=> ?_)
 simp only[go_sem,]
 rw[z0d]
 exact hT _
section
theorem Cov.three {r a b:Nat} {o p q:AObj} (ho:o.ids=[a,b]) (hp:p.ids=[]) (hq:q.ids=[]):Cov [(r,o),(a,p),(b,q)] [r]:=by
 refine⟨by simp,by simp[ho,hp,hq],fun h hS x hx=> ?_⟩
 have h1:h[r]? =some o:=hS (r,o) (by simp)
 have hr:reach h (h.length + 1) [] [r]=reach h h.length [r] [a,b]:=by rw[z9c (by simp) h1,ho];rfl
 rw[hr]
 simp at hx
 rcases hx with rfl | rfl | rfl
 ·exact z4n (.inl List.mem_cons_self)
 ·exact z4n (.inr List.mem_cons_self)
 ·exact z4n (.inr (List.mem_cons_of_mem _ List.mem_cons_self))
theorem y6x {t:Term} {u:Tip} {h:List AObj} {clk:Nat} {Q:AV→List AObj→Nat→Prop} (h0:0 < t.length) (hl:t.length≤20000) (hQ:∀ g o c,Q (.ob (h.length + 1) g 0 t.length) (h++[o, .blk g (t.map eNode) true true 0]) c):WC Gam 1048643 [.sl (t.map eNode) u] h clk Q:=by
 refine z9u rfl y6u rfl rfl rfl (az:=[.sl (t.map eNode) .no]) rfl (by simp[idsL,AV.ids,z0b z0x]) fun D B hB hBh=> ?_
 have he:∀ h,z6w h .eql .sl (.sl (t.map eNode) .no) (.sl [] .nil)=some (.bool false,h):=fun _=>by
  cases t with
  | nil=>simp at h0
  | cons a t=>rfl
 have hbs:∀ (L:List AObj) (g:Nat),bsR (D++L) (B + 0) g (.agg [.int .i64 0, .int .i64 0, .str [], .str [], .int .i64 0]) 0 [] []=some (.ob (B + 0) g 0 0,D++L.set 0 (.blk g [] true false 0)):=fun L g=>by
  rw[←z1t hB]
  rfl
 have hap:∀ (L:List AObj) (g gen:Nat),L[0]? =some (.blk g [] true false 0)→z0n (D++L) (B + 1) gen 5 56 true (.ob (B + 0) g 0 0) (.sl (t.map eNode) .no)=some (.ob (B + 1) gen 0 t.length,D++L.set 1 (.blk gen (t.map eNode) true true 0)):=fun L g gen hL=>by
  have hb:z1s (D++L) (B + 0) g=some ([],true,false,0):=by rw[z2i hB];exact z2g hL
  have hsr:z4e (D++L) (.sl (t.map eNode) .no)=some (t.map eNode):=rfl
  have hc:z0o 5 (t.map eNode)=true:=z2x
  have h00:z0o 5 []=true:=rfl
  have hn:((t.map eNode).isEmpty)=false:=by
   cases t with
   | nil=>simp at h0
   | cons a t=>rfl
  have hsz:¬ (z1c < t.length * (56 + 1)):=by unfold z1c;omega
  have hle:¬ (t.length≤0):=by omega
  unfold z0n
  simp only[hsr,hc,Bool.not_true,Bool.false_eq_true,if_false,hb,List.length_map,h00,gt_iff_lt,Nat.zero_add,hsz,decide_false,Bool.or_self,hn,List.length_nil,hle,Nat.le_refl,if_true,List.take_nil,List.nil_append,z1t hB,beq_self_eq_true]
 simp only[go_sem,v6a,hB,he,hbs]
 rw[hap _ _ _ rfl]
 simp only[go_sem,hB]
 refine⟨fun _=>by simp,_,_,rfl,rfl, .inr ⟨⟨B + 1,by simp[z1l,AV.ids,z0c],by omega⟩, ?_⟩⟩
 have:=fun g o c=>hQ g o c
 simp only[←hBh] at this
 exact this _ _ _
theorem y6y {h:List AObj} {clk:Nat} {Q:AV→List AObj→Nat→Prop} (hQ:∀ g0 g1 g2 c,Q (.ptr (h.length + 2) g2 0 0) (h++[.map g0 [], .map g1 [], .blk g2 [.agg [.mp h.length g0, .mp (h.length + 1) g1]] false false 0]) c):WC Gam 121 [] h clk Q:=by
 refine x0t rfl y6n rfl rfl rfl (az:=[]) rfl (by simp[idsL]) fun D B R hB hBh hR=> ?_
 simp only[go_sem,v5t,hB]
 rw[q5u rfl]
 refine hR _ _ ⟨B + 2,by simp[z1l,AV.cv,AV.ids],by omega⟩ fun c=> ?_
 have:=fun g0 g1 g2=>hQ g0 g1 g2 c
 simp only[←hBh] at this
 exact this _ _ _
def z5y (acc:List Var):List (AV×AV):=acc.map fun v=>(.str v.name,nat v.sort)
section
variable {U:List Var} [UOk U]
theorem q7u {v:Var} (hv:v∈U):∀ {acc:List Var},(∀ w∈acc,w∈U)→findKey (.one .str) (.str v.name) (z5y acc)=some (if v∈acc then some (nat v.sort) else none)
 | [],_=>rfl
 | w::acc,ha=>by
   have ih:=q7u hv (acc:=acc) fun x hx=>ha x (List.mem_cons_of_mem _ hx)
   unfold z5y at ih⊢
   simp only[List.map_cons,findKey,AV.eqv,AV.eq1]
   by_cases h:v=w
   ·subst h
    simp
   ·have hne:decide (v.name=w.name)=false:=decide_eq_false fun e=>h (q5v hv (ha w List.mem_cons_self) e)
    simp only[hne,ih,List.mem_cons,h,false_or]
theorem x1l {v:Var} (hv:v∈U):∀ {acc:List Var},(∀ w∈acc,w∈U)→v∉acc→z6c (.one .str) (.str v.name) (nat v.sort) (z5y acc)=some (z5y (acc++[v]))
 | [],_,_=>rfl
 | w::acc,ha,hn=>by
   rw[List.mem_cons,not_or] at hn
   have ih:=x1l hv (acc:=acc) (fun x hx=>ha x (List.mem_cons_of_mem _ hx)) hn.2
   have hne:decide (v.name=w.name)=false:=decide_eq_false fun e=>hn.1 (q5v hv (ha w List.mem_cons_self) e)
   unfold z5y at ih⊢
   simp only[List.map_cons,List.cons_append,z6c,AV.eqv,AV.eq1,hne,ih,Option.map_some]
theorem v0z {g:Nat} {l:List Var}:(AObj.map g (z5y l)).ids=[]:=by
 simp only[AObj.ids,z5y,List.map_map,List.append_eq_nil_iff]
 constructor
 ·exact z0b (f:=Prod.fst∘fun v:Var=>(AV.str v.name,nat v.sort)) fun _=>rfl
 ·exact z0b (f:=Prod.snd∘fun v:Var=>(AV.str v.name,nat v.sort)) fun _=>rfl
def q4p (s g gV gF:Nat) (acc:List Var):List (Nat×AObj):=[(s + 2, .blk g [.agg [.mp s gV, .mp (s + 1) gF]] false false 0),(s, .map gV (z5y acc)),(s + 1, .map gF [])]
theorem x1m {s g gV gF:Nat} {acc:List Var}:Cov (q4p s g gV gF acc) [s + 2]:=Cov.three (by simp[AObj.ids,idsL,AV.ids]) v0z rfl
theorem j6c {h:List AObj} {i:Nat} {x:AObj} (hx:h[i]? =some x):h.set i x=h:=by
 obtain⟨h1,h2⟩:=List.getElem?_eq_some_iff.1 hx
 rw[←h2]
 exact List.set_getElem_self h1
theorem q6v {s g gV gF:Nat} {acc acc':List Var} {h:List AObj} (hS:Has (q4p s g gV gF acc) h):q3l h (q4p s g gV gF acc')=h.set s (.map gV (z5y acc')):=by
 have h2:=hS (s + 2, .blk g [.agg [.mp s gV, .mp (s + 1) gF]] false false 0) (by simp[q4p])
 have h1:=hS (s + 1, .map gF []) (by simp[q4p])
 dsimp only at h1 h2
 simp only[q4p,q3l,j6c h2]
 exact j6c (by rw[List.getElem?_set_ne (by omega)];exact h1)
theorem y6z {D L:List AObj} {B s g:Nat} {es es':List (AV×AV)} {n:List Nat} {v:AV} (hB:D.length=B) (hlt:s < B) (hm:z5s D s g=some es) (ho:v.obs=[]) (hp:z6c (.one .str) (.str n) v.cv es=some es'):muV (D++L) (.one .str) (.str n) v (.mp s g)=some (.undef,D.set s (.map g es')++L):=by
 have hpub:pub (D++L) v=some (v.cv,D++L):=by simp only[pub,q3y ho,Option.map_some,ho,freezeAll]
 have:((AV.str n).eqv (.one .str) (.str n)).isSome=true:=by simp[AV.eqv,AV.eq1]
 simp only[muV,q4k hB hlt,hm,hpub,this,if_true,hp,Option.map_some]
 rw[List.set_append_left _ _ (by omega)]
def v6e (acc:List Var) (v:Var):List Var:=if v∈acc then acc else acc++[v]
theorem y7a {s g gV gF:Nat} {acc:List Var} {v:Var} {h:List AObj} {clk:Nat} {Q:AV→List AObj→Nat→Prop} (hv:v∈U) (ha:∀ w∈acc,w∈U) (hS:Has (q4p s g gV gF acc) h) (hQ:Q (.bool true) (h.set s (.map gV (z5y (v6e acc v)))) clk):WC Gam 181 [.ptr (s + 2) g 0 0, .str v.name,nat v.sort] h clk Q:=by
 refine v6c (S:=q4p s g gV gF acc) rfl y6r rfl rfl rfl (az:=[.ptr (s + 2) g 0 0, .str v.name,nat v.sort]) rfl (by simp[idsL,AV.ids]) (by simpa [idsL,AV.ids,nat] using x1m) hS fun D B R hB hD hlt hR=> ?_
 have l2:=hlt (s + 2, .blk g [.agg [.mp s gV, .mp (s + 1) gF]] false false 0) (by simp[q4p])
 have l0:=hlt (s, .map gV (z5y acc)) (by simp[q4p])
 have l1:=hlt (s + 1, .map gF []) (by simp[q4p])
 have b2:=z2g (g:=g) (hD (s + 2, .blk g [.agg [.mp s gV, .mp (s + 1) gF]] false false 0) (by simp[q4p]))
 have b0:=x9o (g:=gV) (hD (s, .map gV (z5y acc)) (by simp[q4p]))
 have b1:=x9o (g:=gF) (hD (s + 1, .map gF []) (by simp[q4p]))
 dsimp only at l0 l1 l2 b0 b1 b2
 have hf:findKey (.one .str) (.str v.name) []=some none:=rfl
 have hfk:=q7u hv ha
 simp only[go_sem,v5x,hB,nat,z3p hB l2,b2,z6n,q4k hB l1,b1,q3k hf,z7b,q4k hB l0,b0,q3k hfk]
 by_cases hm:v∈acc
 ·have hadd:v6e acc v=acc:=by rw[v6e,if_pos hm]
  rw[hadd] at hQ
  have hq:=hR (.bool true)
  simp only[go_sem,hm,if_true,q0p,hB,decide_true]
  rw[z0d]
  exact hR _ _ (q4p s g gV gF acc) rfl hD.app x1m.closed (by rw[q6v hS];exact hQ)
 ·have hadd:v6e acc v=acc++[v]:=by rw[v6e,if_neg hm]
  rw[hadd] at hQ
  have hmu:=fun L=>y6z (L:=L) (v:= .int .i64 (v.sort:Int)) hB l0 b0 rfl (x1l hv ha hm)
  simp only[go_sem,hm,if_false,z7b,hB,z3p hB l2,b2,hmu]
  rw[z0d]
  refine hR _ _ (q4p s g gV gF (acc++[v])) rfl (Has.app ?_) x1m.closed (by rw[q6v hS];exact hQ)
  exact Has.cons (by rw[List.getElem?_set_ne (by omega)];exact hD (s + 2,_) (by simp[q4p])) (Has.cons (by rw[List.getElem?_set_self (by omega)]) (Has.cons (by rw[List.getElem?_set_ne (by omega)];exact hD (s + 1,_) (by simp[q4p])) Has.nil))
theorem w3x {s g gV gF:Nat} {acc acc':List Var} {D:List AObj} (hD:Has (q4p s g gV gF acc) D):Has (q4p s g gV gF acc') (D.set s (.map gV (z5y acc'))):=by
 have hl:=hD.lt (s, .map gV (z5y acc)) (by simp[q4p])
 dsimp only at hl
 exact Has.cons (by rw[List.getElem?_set_ne (by omega)];exact hD (s + 2,_) (by simp[q4p])) (Has.cons (by rw[List.getElem?_set_self (by omega)]) (Has.cons (by rw[List.getElem?_set_ne (by omega)];exact hD (s + 1,_) (by simp[q4p])) Has.nil))
def z8e:List Node→List Var→List Var
 | [],acc=>acc
 | n::t,acc=>z8e t (if n.op=4 then v6e acc ⟨n.name,n.sort⟩ else acc)
theorem q6a:∀ {a b:List Node} {acc:List Var},z8e (a++b) acc=z8e b (z8e a acc)
 | [],_,_=>rfl
 | n::a,b,acc=>by rw[List.cons_append,z8e,z8e,q6a]
theorem x4g {V:List Var}:∀ {t:Term} {acc:List Var},q4j V t→(∀ w∈acc,w∈V)→∀ w∈z8e t acc,w∈V
 | [],_,_,h=>h
 | n::t,acc,hn,h=>by
   rw[z8e]
   refine x4g (fun m hm=>hn m (List.mem_cons_of_mem _ hm)) ?_
   by_cases h4:n.op=4
   ·rw[if_pos h4]
    obtain⟨v,hv,e1,e2⟩:=(hn n List.mem_cons_self).2 h4
    have e:(⟨n.name,n.sort⟩:Var)=v:=by rw[e1,e2]
    rw[e,v6e]
    split
    ·exact h
    ·intro w hw
     rcases List.mem_append.1 hw with hw | hw
     ·exact h w hw
     ·rw[List.mem_singleton.1 hw];exact hv
   ·rw[if_neg h4];exact h
theorem y7b {s g gV gF:Nat} {V:List Var} {t:Term} {u w:Tip} {h:List AObj} {clk:Nat} {Q:AV→List AObj→Nat→Prop} (hN:q4j V t) (hV:∀ v∈V,v∈U) (hl:t.length≤20000) (hS:Has (q4p s g gV gF []) h) (hQ:Q (.bool true) (h.set s (.map gV (z5y (z8e t [])))) clk):WC Gam 122 [.ptr (s + 2) g 0 0, .sl (t.map eNode) u, .sl [] w] h clk Q:=by
 refine v6c (S:=q4p s g gV gF []) rfl v5v rfl rfl rfl (az:=[.ptr (s + 2) g 0 0, .sl (t.map eNode) .no, .sl [] .no]) rfl (by simp[idsL,AV.ids]) (by simpa [idsL,AV.ids,z0b z0x] using x1m) hS fun D B R hB hD hlt hR=> ?_
 have l2:=hlt (s + 2, .blk g [.agg [.mp s gV, .mp (s + 1) gF]] false false 0) (by simp[q4p])
 have l0:=hlt (s, .map gV []) (by simp[q4p,z5y])
 have l1:=hlt (s + 1, .map gF []) (by simp[q4p])
 dsimp only at l0 l1 l2
 simp only[go_sem,v5u,hB,List.length_map]
 refine z2y t.length (by omega) (fun i q=>∃ (D':List AObj) (o:AObj),D'.length=B∧Has (q4p s g gV gF (z8e (t.take i) [])) D'∧q.ts 0= .ptr (s + 2) g 0 0∧q.ts 1= .sl (t.map eNode) .no∧q.ts 10= .sl (t.map eNode) .no∧q.ts 11= .int .i64 (t.length:Int)∧q.ts 12= .int .i64 (i:Int)∧q.h=D'++[o]) ⟨D,_,hB,hD,rfl,rfl,rfl,rfl,rfl,rfl⟩ ?_ ?_
 ·rintro i hlt' f1 f2 ts h' clk' P ⟨D',o,hB',hD',q0,q1,q10,q11,q12,rfl⟩ hnx he hr
  dsimp only at q0 q1 q10 q11 q12
  have hti:t[i]? =some t[i]:=List.getElem?_eq_getElem hlt'
  have htk:t.take (i + 1)=t.take i++[t[i]]:=List.take_succ_eq_append_getElem hlt'
  have hno:=hN t[i] (List.getElem_mem hlt')
  have hacc:∀ x∈z8e (t.take i) [],x∈U:=fun x hx=>hV x (x4g (fun m hm=>hN m (List.mem_of_mem_take hm)) (by simp) x hx)
  have hus:z8e (t.take (i + 1)) []=if t[i].op=4 then v6e (z8e (t.take i) []) ⟨t[i].name,t[i].sort⟩ else z8e (t.take i) []:=by
   rw[htk,q6a]
   rfl
  have hix:=fun h=>z2p (h:=h) (u:= .no) (k:= .i64) hti
  generalize t[i]=n at *
  have f5:decide ((n.op:Int)=5)=false:=by rw[decide_eq_false_iff_not];have:=hno.1;omega
  by_cases h4:n.op=4
  ·rw[if_pos h4] at hus
   obtain⟨v,hv,e1,e2⟩:=hno.2 h4
   have f4:decide ((n.op:Int)=4)=true:=by rw[decide_eq_true_iff];omega
   obtain⟨vn,vs⟩:=v
   dsimp only at e1 e2
   subst e1 e2
   have hst:∀ x y:AObj,(D'++[x]).set s y=D'.set s y++[x]:=fun x y=>List.set_append_left _ _ (by omega)
   simp only[go_sem,x1f,q0,q1,q10,q11,q12,hB',f1,hix,f4]
   refine z3g (y7a (v:=⟨n.name,n.sort⟩) (hV _ hv) hacc hD'.app ?_)
   rw[hst]
   simp only[go_sem,Bool.not_true,q0,q1,q10,q11,q12,f2]
   exact hnx _ ⟨D'.set s (.map gV (z5y (z8e (t.take (i + 1)) []))),_,by rw[List.length_set];exact hB',w3x hD',q0,q1,q10,q11,rfl,by rw[hus]⟩
  ·rw[if_neg h4] at hus
   have f4:decide ((n.op:Int)=4)=false:=by rw[decide_eq_false_iff_not];omega
   simp only[go_sem,x1f,q0,q1,q10,q11,q12,hB',f1,f2,hix,f4,f5]
   exact hnx _ ⟨D',_,hB',by rw[hus];exact hD',q0,q1,q10,q11,rfl,rfl⟩
 ·rintro f1 ts h' clk' P ⟨D',o,hB',hD',q0,q1,q10,q11,q12,rfl⟩ he hr
  dsimp only at q0 q1 q10 q11 q12
  rw[List.take_length] at hD'
  simp only[go_sem,x1f,q0,q1,q10,q11,q12,hB',f1]
  refine he _ _ ?_
  simp only[go_sem,]
  rw[z0d]
  exact hR _ _ (q4p s g gV gF (z8e t [])) rfl hD'.app x1m.closed (by rw[q6v hS];exact hQ)
end
end
def x6x (l:List (List Nat)):List (AV×AV):=l.map fun a=>(.str a, .str a)
theorem x4h {a:List Nat}:∀ {l:List (List Nat)},findKey (.one .str) (.str a) (x6x l)=some (if a∈l then some (.str a) else none)
 | []=>rfl
 | b::l=>by
   have ih:=x4h (a:=a) (l:=l)
   unfold x6x at ih⊢
   simp only[List.map_cons,findKey,AV.eqv,AV.eq1]
   by_cases h:a=b
   ·subst h
    simp
   ·simp only[h,decide_false,ih,List.mem_cons,false_or]
theorem x9z {a:List Nat}:∀ {l:List (List Nat)},a∉l→z6c (.one .str) (.str a) (.str a) (x6x l)=some (x6x (l++[a]))
 | [],_=>rfl
 | b::l,hn=>by
   rw[List.mem_cons,not_or] at hn
   have ih:=x9z (a:=a) (l:=l) hn.2
   unfold x6x at ih⊢
   simp only[List.map_cons,List.cons_append,z6c,AV.eqv,AV.eq1,hn.1,decide_false,ih,Option.map_some]
theorem w3y {D L:List AObj} {B k g j fz:Nat} {es:List Node} {x:Node} (hB:D.length=B) (hL:L[k]? =some (.blk g (es.map eNode) true true fz)) (he:es[j]? =some x):z8j (D++L) (some 5) (.ptr (B + k) g j 0)=some (.agg [.int .i64 (x.op:Int), .int .i64 (x.sort:Int), .str x.name, .str x.num, .int .i64 (x.kids:Int)],D++L):=by
 have hb:z1s (D++L) (B + k) g=some (es.map eNode,true,true,fz):=by rw[z2i hB];exact z2g hL
 have he':(es.map eNode)[j]? =some (eNode x):=by rw[List.getElem?_map,he];rfl
 simp only[z8j,hb,he']
 rfl
theorem y7c {D L:List AObj} {B k g len fz:Nat} {w:Bool} {es:List AV} (hB:D.length=B) (hL:L[k]? =some (.blk g es true w fz)) (hl:es.length=len):q0r (D++L) (B + k) g 0 len=some es:=by
 have hb:z1s (D++L) (B + k) g=some (es,true,w,fz):=by rw[z2i hB];exact z2g hL
 subst hl
 simp only[q0r,hb,Nat.zero_add,Nat.le_refl,if_true,List.drop_zero,List.take_length]
theorem v1a {U V:List Var} [UOk U] {ns:List (List Nat)} {t:Term} {s d:Nat} {u v w:Tip} (hns:∀ n∈ns,z7w q1o [.str n]=some (.bool true)) (hnd:ns.Nodup) (hnl:ns.length≤1000) (hV:∀ v∈V,v∈U) (htl:t.length≤20000) (hd:d≤256) (ht:WF V [s] d t):Pure Gam 74 [.sl (t.map eNode) u, .sl (z3r ns) v, .sl (z3r ns) w] (.tup [.sl (t.map eNode) .no, .int .i64 0]):=by
 have p1054:=v0y (u:= .no) ht hV htl (by omega)
 have p1055:=v0w (u:= .no) hns hnl
 have p1056:=v0x (u:= .no) hnd hnl
 have p212:=j2l (u:= .no) ht hV htl (by omega)
 have hpos:=ht.pos
 have hln:((z3r ns).length:Int)=(ns.length:Int):=by simp[z3r]
 refine Pure.of rfl y6s rfl rfl rfl (az:=[.sl (t.map eNode) .no, .sl (z3r ns) .no, .sl (z3r ns) .no]) rfl (by simp[idsL,AV.ids,z2u,z0b z0x]) fun D B clk T hB hT=> ?_
 simp only[go_sem,v5y,hB,z0a p1054,z0a p1055,z0a p1056,Bool.not_true,decide_true,hln]
 refine z2y ns.length (by omega) (fun i q=>∃ (g:Nat),q.ts 0= .sl (t.map eNode) .no∧q.ts 2= .sl (z3r ns) .no∧q.ts 9= .mp (B + 0) g∧q.ts 42= .sl (z3r ns) .no∧q.ts 43= .int .i64 (ns.length:Int)∧q.ts 44= .int .i64 (i:Int)∧q.h=D++[.map g (x6x (ns.take i)), .dead]) ⟨_,rfl,rfl,rfl,rfl,rfl,rfl,rfl⟩ ?_ ?_
 ·rintro i hlt f1 f2 ts h clk P ⟨g,q0,q2,q9,q42,q43,q44,rfl⟩ hnx he hr
  dsimp only at q0 q2 q9 q42 q43 q44
  have hix:=fun h=>z8o (l:=ns) (i:=i) (h:=h) (t:= .no) (k:= .i64) hlt
  have htake:ns.take (i + 1)=ns.take i++[ns[i]]:=List.take_succ_eq_append_getElem hlt
  have hnew:ns[i]∉ns.take i:=by
   intro hc
   have h3:(ns.take (i + 1)).Nodup:=hnd.sublist (List.take_sublist _ _)
   rw[htake,List.nodup_append] at h3
   exact h3.2.2 _ hc _ (by simp) rfl
  generalize ns[i]=a at *
  have hmu:∀ L:List AObj,z5s L 0 g=some (x6x (ns.take i))→muV (D++L) (.one .str) (.str a) (.str a) (.mp (B + 0) g)=some (.undef,D++L.set 0 (.map g (x6x (ns.take (i + 1))))):=fun L hL=>by
   rw[htake]
   exact x3u (v:= .str a) hB hL rfl (x9z hnew)
  simp only[go_sem,x6u,q0,q2,q9,q42,q43,q44,f1,hB,hix,hmu,f2]
  exact hnx _ ⟨g,q0,q2,q9,q42,q43,rfl,rfl⟩
 rintro f1 ts h clk P ⟨g,q0,q2,q9,q42,q43,q44,rfl⟩ he hr
 dsimp only at q0 q2 q9 q42 q43 q44
 rw[List.take_length]
 simp only[go_sem,x6u,q0,q2,q9,q42,q43,q44,f1]
 refine he _ _ ?_
 clear he hr f1
 simp only[go_sem,q0]
 refine z3g (y6x hpos htl fun gO o c=> ?_)
 have e0:∀ x y:AObj,(D++[x,y]).length + 1=B + 3:=fun x y=>by simp[hB]
 have e1:∀ x y a b:AObj,(D++[x,y])++[a,b]=D++[x,y,a,b]:=fun _ _ _ _=>by simp
 rw[e0,e1]
 simp only[go_sem,hB]
 refine z2y t.length (by omega) (fun i q=>∃ (o1:AObj),q.ts 0= .sl (t.map eNode) .no∧q.ts 9= .mp (B + 0) g∧q.ts 12= .ob (B + 3) gO 0 t.length∧q.ts 58= .ob (B + 3) gO 0 t.length∧q.ts 59= .int .i64 (t.length:Int)∧q.ts 60= .int .i64 (i:Int)∧q.h=D++[.map g (x6x ns),o1,o, .blk gO (t.map eNode) true true 0]) ⟨_,by simp[z0c,q0],by simp[z0c,q9],by simp[z0c],by simp[z0c],by simp[z0c],by simp[z0c],rfl⟩ ?_ ?_
 ·clear q0 q2 q9 q42 q43 q44
  rintro i hlt f1 f2 ts h clk P ⟨o1,q0,q9,q12,q58,q59,q60,rfl⟩ hnx he hr
  dsimp only at q0 q9 q12 q58 q59 q60
  have hti:t[i]? =some t[i]:=List.getElem?_eq_getElem hlt
  have hod:=fun x y z=>v6d (D:=D) (L:=[x,y,z, .blk gO (t.map eNode) true true 0]) (B:=B) (k:=3) (g:=gO) (n:=t.length) (j:=i) hB rfl hti hlt
  have hld:=fun x y z=>w3y (D:=D) (L:=[x,y,z, .blk gO (t.map eNode) true true 0]) (B:=B) (k:=3) (g:=gO) (j:=i) hB rfl hti
  have hst:=fun x y z=>k5a (D:=D) (L:=[x,y,z, .blk gO (t.map eNode) true true 0]) (B:=B) (k:=3) (g:=gO) (j:=i) hB rfl hti
  generalize t[i]=n at *
  have hfk:=x4h (a:=n.name) (l:=ns)
  simp only[go_sem,x1g,q0,q9,q12,q58,q59,q60,hB,f1,hod,hld,z6n,q3k hfk]
  by_cases hm:n.name∈ns
  ·cases h4:decide ((n.op:Int)=4) with
   | false=>
     simp only[go_sem,hm,if_true,q0p,q0,q9,q12,q58,q59,q60,hB,h4,f2]
     exact hnx _ ⟨_,q0,q9,q12,q58,q59,rfl,rfl⟩
   | true=>
     simp only[go_sem,hm,if_true,q0p,q0,q9,q12,q58,q59,q60,hB,h4,hod,hst,f2]
     exact hnx _ ⟨_,q0,q9,q12,q58,q59,rfl,rfl⟩
  ·simp only[go_sem,hm,if_false,z7b,q0,q9,q12,q58,q59,q60,hB,f2]
   exact hnx _ ⟨_,q0,q9,q12,q58,q59,rfl,rfl⟩
 clear q0 q2 q9 q42 q43 q44
 rintro f1 ts h clk P ⟨o1,q0,q9,q12,q58,q59,q60,rfl⟩ he hr
 dsimp only at q0 q9 q12 q58 q59 q60
 simp only[go_sem,x1g,q0,q9,q12,q58,q59,q60,f1]
 refine he _ _ ?_
 clear he hr f1
 simp only[go_sem,q0,q12]
 refine z3g (y6y fun g0 g1 g2 c=> ?_)
 have e2:∀ x y z w:AObj,(D++[x,y,z,w]).length=B + 4:=fun x y z w=>by simp[hB]
 have e3:∀ x y z w a b c:AObj,(D++[x,y,z,w])++[a,b,c]=D++[x,y,z,w,a,b,c]:=fun _ _ _ _ _ _ _=>by simp
 rw[e2,e3]
 simp only[go_sem,q0,q12,z0a p212]
 have hrow:=fun (x y z a b c:AObj) (fz:Nat)=>y7c (D:=D) (L:=[x,y,z, .blk gO (t.map eNode) true true fz,a,b,c]) (B:=B) (k:=3) (g:=gO) (len:=t.length) hB rfl (by simp)
 have hfz:∀ x y z a b c:AObj,freezeAll (D++[x,y,z, .blk gO (t.map eNode) true true 0,a,b,c]) [(B + 3,t.length)]=D++[x,y,z, .blk gO (t.map eNode) true true (max 0 t.length),a,b,c]:=fun x y z a b c=>by
  simp only[freezeAll,z2v hB,z1t hB]
  simp[z1t hB]
 refine j2z (az:=[.ptr (B + 4 + 2) g2 0 0, .sl (t.map eNode) .no, .sl [] .no]) rfl v5v rfl (by simp only[z1d,conv,hrow];rfl) (by simp[cvL,AV.cv]) rfl (by simp[idsL,AV.ids]) ?_
 rw[show ∀ v,z0p [] 0 [.ptr (B + 4 + 2) g2 0 0, .ob (B + 3) gO 0 t.length, .sl [] v]=[(B + 3,t.length)] from fun v=>by simp[z0p,AV.obs],hfz]
 refine y7b (s:=B + 4) (gV:=g0) (gF:=g1) ht.names hV htl ?_ ?_
 ·refine Has.cons ?_ (Has.cons ?_ (Has.cons ?_ Has.nil))
  ·show (D++_)[B + 6]? =_
   rw[z2v hB]
   rfl
  ·rw[z2v hB];rfl
  ·show (D++_)[B + 5]? =_
   rw[z2v hB]
   rfl
 ·rw[z1t hB]
  simp only[go_sem,Bool.not_true,q12]
  refine⟨.tup [.sl (t.map eNode) .no, .int .i64 0],by simp only[z1l,conv,z7h,hrow,Option.map_some],by simp[AV.ids,idsL,z0b z0x],rfl,hT _⟩
section
open Sh
set_option maxHeartbeats 0
noncomputable def y7d:AFun:=(fun (a:AFun) (_:Gam.fn 75=some a)=>a) _ (by conv=>lhs;reduce;simp only[Int.reduceOfNat,Int.reduceNegSucc])
noncomputable def x1n:ACode:=(fun (a:ACode) (_:fl [] (lp y7d 0)=a)=>a) _ (by conv=>lhs;reduce;simp only[Int.reduceOfNat,Int.reduceNegSucc])
attribute [local irreducible] x1n
noncomputable def v6f:AFun:=(fun (a:AFun) (_:flF [x1n] y7d=a)=>a) _ (by conv=>lhs;reduce;simp only[Int.reduceOfNat,Int.reduceNegSucc])
theorem y7e:Gam.fn 75=some v6f:=by kernel_rfl
noncomputable def y7f:AFun:=(fun (a:AFun) (_:Gam.fn 34=some a)=>a) _ (by conv=>lhs;reduce;simp only[Int.reduceOfNat,Int.reduceNegSucc])
noncomputable def x6y:ACode:=(fun (a:ACode) (_:fl [] (lp y7f 0)=a)=>a) _ (by conv=>lhs;reduce;simp only[Int.reduceOfNat,Int.reduceNegSucc])
attribute [local irreducible] x6y
noncomputable def v6g:AFun:=(fun (a:AFun) (_:flF [x6y] y7f=a)=>a) _ (by conv=>lhs;reduce;simp only[Int.reduceOfNat,Int.reduceNegSucc])
theorem y7g:Gam.fn 34=some v6g:=by kernel_rfl
noncomputable def j6d:AFun:=(fun (a:AFun) (_:Gam.fn 8=some a)=>a) _ (by conv=>lhs;reduce;simp only[Int.reduceOfNat,Int.reduceNegSucc])
theorem y7h:Gam.fn 8=some j6d:=by kernel_rfl
noncomputable def y7i:AFun:=(fun (a:AFun) (_:Gam.fn 10=some a)=>a) _ (by conv=>lhs;reduce;simp only[Int.reduceOfNat,Int.reduceNegSucc])
noncomputable def q6w:ACode:=(fun (a:ACode) (_:fl [] (lp y7i 0)=a)=>a) _ (by conv=>lhs;reduce;simp only[Int.reduceOfNat,Int.reduceNegSucc])
attribute [local irreducible] q6w
noncomputable def j6e:AFun:=(fun (a:AFun) (_:flF [q6w] y7i=a)=>a) _ (by conv=>lhs;reduce;simp only[Int.reduceOfNat,Int.reduceNegSucc])
theorem y7j:Gam.fn 10=some j6e:=by kernel_rfl
noncomputable def y7k:AFun:=(fun (a:AFun) (_:Gam.fn 9=some a)=>a) _ (by conv=>lhs;reduce;simp only[Int.reduceOfNat,Int.reduceNegSucc])
noncomputable def x1o:ACode:=(fun (a:ACode) (_:fl [] (lp y7k 0)=a)=>a) _ (by conv=>lhs;reduce;simp only[Int.reduceOfNat,Int.reduceNegSucc])
attribute [local irreducible] x1o
noncomputable def j6f:AFun:=(fun (a:AFun) (_:flF [x1o] y7k=a)=>a) _ (by conv=>lhs;reduce;simp only[Int.reduceOfNat,Int.reduceNegSucc])
theorem y7l:Gam.fn 9=some j6f:=by kernel_rfl
noncomputable def j6g:AFun:=(fun (a:AFun) (_:Gam.fn 11=some a)=>a) _ (by conv=>lhs;reduce;simp only[Int.reduceOfNat,Int.reduceNegSucc])
theorem y7m:Gam.fn 11=some j6g:=by kernel_rfl
noncomputable def k5c:AFun:=(fun (a:AFun) (_:Gam.fn 28=some a)=>a) _ (by conv=>lhs;reduce;simp only[Int.reduceOfNat,Int.reduceNegSucc])
theorem v6h:Gam.fn 28=some k5c:=by kernel_rfl
noncomputable def y7n:AFun:=(fun (a:AFun) (_:Gam.fn 3=some a)=>a) _ (by conv=>lhs;reduce;simp only[Int.reduceOfNat,Int.reduceNegSucc])
noncomputable def x6z:ACode:=(fun (a:ACode) (_:fl [] (lp y7n 0)=a)=>a) _ (by conv=>lhs;reduce;simp only[Int.reduceOfNat,Int.reduceNegSucc])
attribute [local irreducible] x6z
noncomputable def v6i:AFun:=(fun (a:AFun) (_:flF [x6z] y7n=a)=>a) _ (by conv=>lhs;reduce;simp only[Int.reduceOfNat,Int.reduceNegSucc])
theorem y7o:Gam.fn 3=some v6i:=by kernel_rfl
end
section
attribute [-go_sem] v0b v0c
theorem v1b {U V:List Var} [UOk U] {a b:Term} {d:Nat} {u:Tip} (hV:∀ v∈V,v∈U) (ha:WF V [1] d a) (hb:WF V [1] d b) (hal:a.length≤9000) (hbl:b.length≤9000) (hd:d≤200):Pure Gam 75 [.agg [.int .i64 7, .int .i64 0, .str [], .str [], .int .i64 0], .sl [z0i a,z0i b] u] (.tup [z0i (x1t a b), .int .i64 0]):=by
 have hn:NodeOk V (bare 7 2) [1,1] 1 (a++b):= .andor (k:=2) (.inl rfl)
 have hw:WF V [1] (d + 1) (x1t a b):=WF.one (ha.append hb) hn rfl
 have hlt:(x1t a b).length=a.length + b.length + 1:=by simp[x1t]
 have pa:=x5u (u:= .no) ha hV (by omega) (by omega)
 have pb:=x5u (u:= .no) hb hV (by omega) (by omega)
 have p249:=k3k hn hV
 have p250:=k3l hn
 have p252:=fun u=>k3m (t:=u) hn (by decide)
 have r2:=fun {s sP gV gP P}=>q8j (s:=s) (sP:=sP) (gV:=gV) (gP:=gP) (P:=P) (t:=x1t a b) (by omega) hw.names hV
 simp only[eNode,nat,bare,Int.cast_ofNat_Int,List.map_cons,List.map_nil] at p249 p250 p252 pa pb
 refine Pure.of rfl y7e rfl rfl rfl (az:=[.agg [.int .i64 7, .int .i64 0, .str [], .str [], .int .i64 0], .sl [z0i a,z0i b] .no]) rfl (by simp[idsL,AV.ids,z0i,z0b z0x]) fun D B clk T hB hT=> ?_
 have hix0:∀ h,z1n h 1 (.sl [.sl (a.map eNode) .no, .sl (b.map eNode) .no] .no) (.int .i64 0)=some (.iptr [.sl (a.map eNode) .no] 0,h):=fun _=>rfl
 have hix1:∀ h,z1n h 1 (.sl [.sl (a.map eNode) .no, .sl (b.map eNode) .no] .no) (.int .i64 1)=some (.iptr [.sl (b.map eNode) .no] 0,h):=fun _=>rfl
 have l2:((([AV.sl (a.map eNode) .no, .sl (b.map eNode) .no]:List AV).length:Nat):Int)=2:=rfl
 have e01:decide ((0:Int) < 2)=true:=rfl
 have e12:decide ((1:Int) < 2)=true:=rfl
 have e22:decide ((2:Int) < 2)=false:=rfl
 have w1:IntKind.i64.wrap (0 + 1)=1:=by decide
 have w2:IntKind.i64.wrap (1 + 1)=2:=by decide
 have zy1:decide ((1:Int)=0)=false:=rfl
 have ap1:∀ (L:List AObj) (gen:Nat),L[3]? =some .dead→z0n (D++L) (B + 3) gen 1 8 false (.sl [] .nil) (.sl [.int .i64 1] .full)=some (.sl [.int .i64 1] (.at (B + 3) gen),D++L.set 3 (.tip gen 1)):=fun L gen h=>append_nil (k:=3) hB h (by decide) (by simp)
 have ap2:∀ (L:List AObj) (g gen:Nat),L[3]? =some (.tip g 1)→z0n (D++L) (B + 3) gen 1 8 false (.sl [.int .i64 1] (.at (B + 3) g)) (.sl [.int .i64 1] .full)=some (.sl [.int .i64 1, .int .i64 1] (.at (B + 3) gen),D++L.set 3 (.tip gen 1)):=fun L g gen h=>z0k (k:=3) hB h (.inr (.inr ⟨_,rfl,rfl⟩)) (by decide) (by decide) (by simp)
 obtain⟨ca,hca⟩:∃ ca:Term,ca=bare 7 2::a:=⟨_,rfl⟩
 have hcal:ca.length=a.length + 1:=by simp[hca]
 have at1:∀ (L:List AObj) (gen:Nat),L[4]? =some .dead→z0n (D++L) (B + 4) gen 5 56 false (.sl [.agg [.int .i64 7, .int .i64 0, .str [], .str [], .int .i64 2]] .full) (.sl (a.map eNode) .no)=some (.sl (ca.map eNode) (.at (B + 4) gen),D++L.set 4 (.tip gen 5)):=fun L gen h=>by
  have:=z0k (D:=D) (L:=L) (B:=B) (k:=4) (gen:=gen) (b:=56) (u:= .no) hB h (.inr (.inl rfl)) (z2x (l:=[bare 7 2])) (z2x (l:=a)) (by simp only[List.length_map,List.length_singleton];omega)
  rw[show [bare 7 2].map eNode++a.map eNode=ca.map eNode from by simp[hca]] at this
  exact this
 have at2:∀ (L:List AObj) (g gen:Nat),L[4]? =some (.tip g 5)→z0n (D++L) (B + 4) gen 5 56 false (.sl (ca.map eNode) (.at (B + 4) g)) (.sl (b.map eNode) .no)=some (.sl ((x1t a b).map eNode) (.at (B + 4) gen),D++L.set 4 (.tip gen 5)):=fun L g gen h=>by
  rw[z0k (k:=4) hB h (.inr (.inr ⟨_,rfl,rfl⟩)) z2x z2x (by simp only[List.length_map];omega)]
  simp[x1t,hca]
 simp only[go_sem,v6f,hB,z0i,l2]
 refine z2e ?_
 simp only[go_sem,x1n,hB,e01,hix0,z0a pa,zy1]
 rw[ap1 _ _ rfl]
 simp only[go_sem,hB]
 rw[at1 _ _ rfl]
 simp only[go_sem,hB,w1]
 refine z2e ?_
 simp only[go_sem,x1n,hB,e12,hix1,z0a pb,zy1]
 rw[ap2 _ _ _ rfl]
 simp only[go_sem,hB]
 rw[at2 _ _ _ rfl]
 simp only[go_sem,hB,w2]
 refine z2e ?_
 have x15:decide ((7:Int)=15)=false:=rfl
 simp only[go_sem,x1n,hB,e22,z0a p249,z0a p250,Bool.not_true,x15,z0a (p252 _),zy1]
 refine z3g (y4j hw hV (by omega) (by omega) fun gP gV g2 P dep o3 o4 o5 o6 o7 o8 o9 c hPl hp hdep=> ?_)
 have hBx:∀ x0 x1 x2 x3 x4:AObj,(D++[x0,x1,x2,x3,x4]).length=B + 5:=fun _ _ _ _ _=>by simp[hB]
 rw[hBx]
 have r1:=j5l (s:=B + 5 + 1) (sP:=B + 5 + 0) (gV:=gV) (gP:=gP) (t:=x1t a b) (by omega) hp (by dsimp only;omega) hPl
 have r2':=r2 (s:=B + 5 + 1) (sP:=B + 5 + 0) (gV:=gV) (gP:=gP) (P:=P)
 have hh:=fun x0 x1 x2 x3 x4=>q8k (t:=x1t a b) (gP:=gP) (gV:=gV) (g2:=g2) (P:=P) (o3:=o3) (o4:=o4) (o5:=o5) (o6:=o6) (o7:=o7) (o8:=o8) (o9:=o9) (hBx x0 x1 x2 x3 x4)
 simp only[go_sem,Bool.not_true,z1m r2' (hh _ _ _ _ _),z1m r1 (hh _ _ _ _ _)]
 rw[z0j rfl (by simp[z1l,AV.cv,cvL,AV.ids,idsL,z0b z0x])]
 exact hT _
end
section
attribute [-go_sem] v0b v0c
theorem v1c {d o:Def} (hp:o.params=d.params) (hu:UOk d.params) (hns:∀ n∈d.params.map (·.name),z7w q1o [.str n]=some (.bool true)) (hnd:(d.params.map (·.name)).Nodup) (hl:d.params.length≤20) (hd:GT d.params 1 6 396 d.body) (ho:GT d.params 1 6 396 o.body):Pure Gam 34 [z2b d,z2b o] (.tup [z2b ⟨d.pred,d.params,x1t d.body o.body⟩, .int .i64 0]):=by
 haveI:=hu
 have hdl:=hd.2.1
 have hol:=ho.2.1
 have p1041:=fun u v=>v1a (U:=d.params) (V:=d.params) (u:= .no) (v:=u) (w:=v) hns hnd (by simp;omega) (fun v h=>h) (by omega) (by omega) ho.1
 have p1042:=fun u=>v1b (U:=d.params) (V:=d.params) (u:=u) (fun v h=>h) hd.1 ho.1 (by omega) (by omega) (by omega)
 have p1027:=q5z (d:=d) (u:= .no) (v:= .no) ⟨by omega,by omega⟩
 simp only[z2b,z0i] at p1027 p1042
 refine Pure.of rfl y7g rfl rfl rfl (az:=[z2b d,z2b o]) rfl (by simp[idsL,z1x]) fun D B clk T hB hT=> ?_
 have hcell:(z3r (d.params.map (·.name))).length≤1000:=by simp[z3r];omega
 simp only[go_sem,v6g,hB,z2b,hp,List.length_map]
 refine z2y d.params.length (by omega) (fun i q=>∃ (g0 g1 g2:Nat) (t6 t7:Tip) (o3 o4 o5 o6 o7 o8 o9:AObj),q.ts 2= .ptr (B + 0) g0 0 0∧q.ts 3= .ptr (B + 1) g1 0 0∧q.ts 4= .ptr (B + 2) g2 0 0∧q.ts 6= .sl (z3r ((d.params.take i).map (·.name))) t6∧q.ts 7= .sl (z3r ((d.params.take i).map (·.name))) t7∧q.ts 14= .sl (d.params.map z1h) .no∧q.ts 15= .int .i64 (d.params.length:Int)∧q.ts 16= .int .i64 (i:Int)∧q.h=D++[.blk g0 [.agg [.str d.pred, .sl (d.params.map z1h) .no, .sl (d.body.map eNode) .no]] false false 0, .blk g1 [.agg [.str o.pred, .sl (d.params.map z1h) .no, .sl (o.body.map eNode) .no]] false false 0, .blk g2 [.agg [.str [], .sl [] .nil, .sl [] .nil]] false false 0,o3,o4,o5,o6,o7,o8,o9]∧z7x B 5 o5 t6 1∧z7x B 7 o7 t7 1) ⟨_,_,_, .nil, .nil,_,_,_,_,_,_,_,rfl,rfl,rfl,rfl,rfl,rfl,rfl,rfl,rfl, .inl rfl, .inl rfl⟩ ?_ ?_
 ·rintro i hlt f1 f2 ts h clk P ⟨g0,g1,g2,t6,t7,o3,o4,o5,o6,o7,o8,o9,q2,q3,q4,q6,q7,q14,q15,q16,rfl,ht6,ht7⟩ hnx he hr
  dsimp only at q2 q3 q4 q6 q7 q14 q15 q16
  have hix:∀ h,z1n h 2 (.sl (d.params.map z1h) .no) (.int .i64 (i:Int))=some (.iptr [.str d.params[i].name, .int .i64 (d.params[i].sort:Int)] 0,h):=fun h=>z3j hlt rfl rfl
  have e8:z3r ((d.params.take i).map (·.name))++z3r [d.params[i].name]=z3r ((d.params.take (i + 1)).map (·.name)):=by
   rw[List.take_succ_eq_append_getElem hlt,List.map_append]
   simp[z3r]
  generalize d.params[i]=v at *
  simp only[go_sem,x6y,q2,q3,q4,q6,q7,q14,q15,q16,hB,f1,hix,z0y]
  rw[show [AV.str v.name]=z3r [v.name] from rfl,z0k (k:=5) hB rfl ht6 z5k z5k (by simp[z3r];omega),e8]
  simp only[go_sem,q2,q3,q4,q6,q7,q14,q15,q16,hB,hix]
  rw[show [AV.str v.name]=z3r [v.name] from rfl,z0k (k:=7) hB rfl ht7 z5k z5k (by simp[z3r];omega),e8]
  simp only[go_sem,q2,q3,q4,q6,q7,q14,q15,q16,hB,f2]
  refine⟨by rcases ht6 with rfl | rfl | ⟨_,rfl,_⟩ <;> rcases ht7 with rfl | rfl | ⟨_,rfl,_⟩ <;> simp[z0v,apart,z0h,z0s,z0w,AOp.isCall,hB,AV.ids,idsL,z2u,z0b z1k], ?_⟩
  exact hnx _ ⟨_,_,_,_,_,_,_,_,_,_,_,_,q2,q3,q4,rfl,rfl,q14,q15,rfl,rfl, .inr (.inr ⟨_,rfl,rfl⟩), .inr (.inr ⟨_,rfl,rfl⟩)⟩
 ·rintro f1 ts h clk P ⟨g0,g1,g2,t6,t7,o3,o4,o5,o6,o7,o8,o9,q2,q3,q4,q6,q7,q14,q15,q16,rfl,ht6,ht7⟩ he hr
  dsimp only at q2 q3 q4 q6 q7 q14 q15 q16
  rw[List.take_length] at q6 q7
  simp only[go_sem,x6y,q2,q3,q4,q6,q7,q14,q15,q16,f1]
  refine he _ _ ?_
  simp only[go_sem,q2,q3,q4,q6,q7,hB,z0a (p1041 _ _),z0a p1027,z0a (p1042 _),decide_true]
  rw[z0j rfl (by simp[z1l,AV.cv,cvL,AV.ids,idsL,z0b z0x,z0b z1k])]
  exact hT _
end
theorem v1d {k f:Nat} {args args':List AV} {h:List AObj} {clk:Nat} {af:AFun} (hext:Gam.ext f=none) (hfn:Gam.fn f=some af) (hb:af.byref=[]) (ho:z3y args=[]) (ho':z3y args'=[]) (hc:cvL args=cvL args'):z5f Gam k f args h clk=z5f Gam k f args' h clk:=by
 unfold z5f z0q
 simp only[hext,hfn,hb,z1o ho,z1o ho',z5a ho,z5a ho',hc]
theorem GenOk.cv {l:List Int} {f:Nat} {args args':List AV} {R:AV→Prop} {af:AFun} (hext:Gam.ext f=none) (hfn:Gam.fn f=some af) (hb:af.byref=[]) (ho:z3y args=[]) (ho':z3y args'=[]) (hc:cvL args=cvL args') (hg:GenOk l f args R):GenOk l f args' R:=by
 intro h s g i clk Q hs hi hQ
 have o1:z3y (.ptr s g 0 0::args)=[]:=by simp[z3y,AV.obs,ho]
 have o2:z3y (.ptr s g 0 0::args')=[]:=by simp[z3y,AV.obs,ho']
 have o3:cvL (.ptr s g 0 0::args)=cvL (.ptr s g 0 0::args'):=by simp[cvL,hc]
 obtain⟨h1,h2⟩:=hg h s g i clk Q hs hi hQ
 refine⟨?_, ?_⟩
 ·obtain⟨k,v,h',c,h3,h4⟩:=h1
  exact⟨k,v,h',c,(v1d hext hfn hb o1 o2 o3) ▸ h3,h4⟩
 ·rw[←h2]
  unfold z0z
  simp only[hext,hfn,hb,z1o o1,z1o o2,o1,o2,o3]
theorem v1e {l:List Int} {V:List Var} {u:Tip} (hl:q6i l) (hV:V.length≤400):GenOk l 21 [.int .i64 2, .sl (V.map z1h) u] (x0e V 1 6 396):=by
 have h:=(q2e hl hV (v4e hl) 2 (by omega)).2
 refine GenOk.cv (args:=[nat 2, .sl (V.map z1h) .no]) rfl v9v rfl (by simp[z3y,AV.obs,nat]) (by simp[z3y,AV.obs]) (by simp[cvL,AV.cv,nat]) h
theorem v1f:Pure Gam 20 [.int .i64 0] (.str []):=by
 refine Pure.of rfl y5h rfl rfl rfl (az:=[.int .i64 0]) rfl (by simp[idsL,AV.ids]) fun D B clk T hB hT=> ?_
 simp only[go_sem,v4w,hB,decide_true]
 rw[z2q rfl (by simp[AV.cv,AV.ids])]
 exact hT _
def x7a:List (List Nat):=[[117],[118],[121,48],[121,49],[107],[109],[110],[111],[114],[115],[116],[104]]
theorem g3v {h:List AObj}:bsV h (.str []) 12 [0,1,2,3,4,5,6,7,8,9,10,11] [.str [117], .str [118], .str [121,48], .str [121,49], .str [107], .str [109], .str [110], .str [111], .str [114], .str [115], .str [116], .str [104]]=some (.sl (z3r x7a) .full,h):=(rfl)
theorem v1g {n:Nat} (hn:n < 3) {h:List AObj} {k:IntKind}:z1n h 1 (.sl (z3r x7a) .full) (.int k (n:Int))=some (.iptr [.str (q1s[n]'hn)] 0,h):=by
 rw[z8o (l:=x7a) (by simp[x7a];omega)]
 have:n=0∨n=1∨n=2:=by omega
 rcases this with rfl | rfl | rfl <;> rfl
theorem q2v {f:Func} (hf:f∈allPreds):(z4o f).length=f.args.length∧f.args.length≤3:=by
 have h1:=congrArg List.length (j5y _ hf).2.2.2
 have h2:=(j5y _ hf).2.2.1
 rw[List.length_map] at h1
 omega
theorem x7b {f:Func} (hf:f∈allPreds) {k:Nat} (hk:k < f.args.length) (h3:k < 3):((z4o f).take k).map z1h++[(⟨q1s[k]'h3,f.args[k]⟩:Var)].map z1h=((z4o f).take (k + 1)).map z1h:=by
 have hl:=q2v hf
 rw[List.take_succ_eq_append_getElem (by omega),List.map_append]
 congr 2
 simp[z4o]
 rfl
theorem w3z {s:Sys} {f:Func} {B clk g0 g1 g2 g3 ip g jp i:Nat} {D:List AObj} {a1 a2:AV} {o4 o5 o6 o7 o8 oc:AObj} {ts:Tmps} {ks:List Kf} {Q:Post} (hB:D.length=B) (hf:f∈allPreds) (hi:i < s.preds.length) (hfi:s.preds[i]=f) (h2:ts 2= .ptr (B + 0) g0 0 0) (h4:ts 4= .ptr (B + 1) g1 0 0) (h5:ts 5= .ptr ip g jp 0) (h6:ts 6= .ptr (B + 2) g2 0 0) (h7:ts 7= .int .i64 (i:Int)) (h8:ts 8= .ptr (B + 3) g3 0 0) (h9:ts 9= .int .i64 0) (ht6:z7x B 6 o6 .nil 2)
  (hQ:∀ (ts':Tmps) (t:Tip) (o4 o5 o6:AObj) (clk':Nat),ts' 2= .ptr (B + 0) g0 0 0→ts' 4= .ptr (B + 1) g1 0 0→ts' 5= .ptr ip g jp 0→ts' 6= .ptr (B + 2) g2 0 0→ts' 7= .int .i64 (i:Int)→ts' 8= .ptr (B + 3) g3 0 0→K Gam B (.exit 2) ks ⟨ts',D++[.blk g0 [z1b s] false false 0, .blk g1 [a1] false false 0, .blk g2 [a2] false false 0, .blk g3 [.agg [.str f.name, .sl ((z4o f).map z1h) t, .sl [] .nil]] false false 0,o4,o5,o6,o7,o8,oc],clk'⟩ Q):
  K Gam B (.loop x6i) ks ⟨ts,D++[.blk g0 [z1b s] false false 0, .blk g1 [a1] false false 0, .blk g2 [a2] false false 0, .blk g3 [.agg [.str f.name, .sl [] .nil, .sl [] .nil]] false false 0,o4,o5,o6,o7,o8,oc],clk⟩ Q:=by
 have hl:=q2v hf
 have hix:=fun h=>z4u (l:=s.preds) (i:=i) (h:=h) (t:= .no) (k:= .i64) hi
 rw[hfi] at hix
 refine z2y f.args.length (by omega) (fun k q=>∃ (t:Tip) (o4 o5 o6:AObj),q.ts 2= .ptr (B + 0) g0 0 0∧q.ts 4= .ptr (B + 1) g1 0 0∧q.ts 5= .ptr ip g jp 0∧q.ts 6= .ptr (B + 2) g2 0 0∧q.ts 7= .int .i64 (i:Int)∧q.ts 8= .ptr (B + 3) g3 0 0∧q.ts 9= .int .i64 (k:Int)∧q.h=D++[.blk g0 [z1b s] false false 0, .blk g1 [a1] false false 0, .blk g2 [a2] false false 0, .blk g3 [.agg [.str f.name, .sl (((z4o f).take k).map z1h) t, .sl [] .nil]] false false 0,o4,o5,o6,o7,o8,oc]∧z7x B 6 o6 t 2) ⟨.nil,_,_,_,h2,h4,h5,h6,h7,h8,h9,rfl,ht6⟩ ?_ ?_
 ·clear h2 h4 h5 h6 h7 h8 h9
  rintro k hlt f1 f2 ts h clk P ⟨t,o4,o5,o6,q2,q4,q5,q6,q7,q8,q9,rfl,ht⟩ hnx he hr
  dsimp only at q2 q4 q5 q6 q7 q8 q9
  have h3:k < 3:=by omega
  have e8:=x7b hf hlt h3
  have hn:=fun h=>v1g (k:= .i64) (h:=h) h3
  have hrem:∀ h,z6w h .rem (.one .int) (.int .i64 (k:Int)) (.int .i64 12)=some (.int .i64 (k:Int),h):=fun h=>by
   rw[q7m (by decide),Int.tmod_eq_of_lt (by omega) (by omega)]
  have hquo:∀ h,z6w h .quo (.one .int) (.int .i64 (k:Int)) (.int .i64 12)=some (.int .i64 0,h):=fun h=>by
   rw[x3d (by decide),Int.tdiv_eq_zero_of_lt (by omega) (by omega)]
   rfl
  have hai:∀ h,z1n h 1 (.sl (f.args.map nat) .no) (.int .i64 (k:Int))=some (.iptr [.int .i64 (f.args[k]:Int)] 0,h):=fun h=>z3j hlt rfl rfl
  have ha:∀ h,z6w h .add (.one .str) (.str (q1s[k]'h3)) (.str [])=some (.str (q1s[k]'h3),h):=fun h=>by
   rw[q7n (by
    have:k=0∨k=1∨k=2:=by omega
    rcases this with rfl | rfl | rfl <;> simp[q1s]),List.append_nil]
  generalize f.args[k]=so at *
  generalize q1s[k]=nm at *
  simp only[go_sem,x6i,z1b,q2,q4,q5,q6,q7,q8,q9,hB,f1,z0y,List.length_map,hix,g3v,hrem,hquo,hn,hai,z0a v1f,ha]
  rw[show [AV.agg [.str nm, .int .i64 (so:Int)]]=[(⟨nm,so⟩:Var)].map z1h from rfl,z0k hB rfl ht z3d z3d (by simp only[List.length_map,List.length_singleton,List.length_take];omega),e8]
  simp only[go_sem,q2,q4,q5,q6,q7,q8,q9,hB,f2]
  refine⟨by simp[z0v,apart,z0h,z0s,z0w,AOp.isCall,hB,AV.ids,idsL,z2u,z0b z2a,z0b (fun _=>z3q)], ?_⟩
  exact hnx _ ⟨_,_,_,_,q2,q4,q5,q6,q7,q8,rfl,rfl, .inr (.inr ⟨_,rfl,rfl⟩)⟩
 ·clear h2 h4 h5 h6 h7 h8 h9
  rintro f1 ts h clk P ⟨t,o4,o5,o6,q2,q4,q5,q6,q7,q8,q9,rfl,ht⟩ he hr
  dsimp only at q2 q4 q5 q6 q7 q8 q9
  rw[List.take_of_length_le (Nat.le_of_eq hl.1)]
  simp only[go_sem,x6i,z1b,q2,q4,q5,q6,q7,q8,q9,hB,f1,z0y,List.length_map,hix]
  exact he _ _ (hQ _ t _ _ _ _ (by simp[z0c,q2]) (by simp[z0c,q4]) (by simp[z0c,q5]) (by simp[z0c,q6]) (by simp[z0c,q7]) (by simp[z0c,q8]))
structure ModOk (s:Sys) (m:List Def):Prop where
 defs:∀ d∈m,DOk d
 names:m.map (·.pred)=s.preds.map (·.name)
 nar:∀ d∈m,GT d.params 1 6 396 d.body
theorem v1h {V:List Var} {b:Bool}:GT V 1 6 396 (v0p b):=by
 have h1:GT V 1 1 1 (v0p b):=by
  cases b
  ·exact GT.leaf (.bool (.inr rfl)) rfl (by omega) (by omega)
  ·exact GT.leaf (.bool (.inl rfl)) rfl (by omega) (by omega)
 exact h1.up (by omega) (by omega)
theorem j6h {n:List Nat} {p:List Var} {b:Term}:[AV.agg [.str n, .sl (p.map z1h) .no, .sl (b.map eNode) .no]]=[(⟨n,p,b⟩:Def)].map z2b:=rfl
theorem x1p {α:Type} {P:α→Prop} {l:List α} {a:α} (h:∀ x∈l,P x) (ha:P a):∀ x∈l++[a],P x:=fun x hx=>by
 rw[List.mem_append,List.mem_singleton] at hx
 rcases hx with hx | rfl
 ·exact h x hx
 ·exact ha
theorem y7p {s:Sys} {zs:List Int} {u:Tip} {h:List AObj} {clk:Nat} {Q:AV→List AObj→Nat→Prop} (hs:SysV s) (hz:∀ z∈zs, -9223372036854775808≤z∧z≤9223372036854775807) (hQ:∀ m,ModOk s m→Q (z4s m) h clk):WC Gam 7 [z1b s, .sl (z6z zs) u] h clk Q:=by
 have hl:q6i (zs.take 400):=⟨by simp;omega,fun z h=>hz z (List.mem_of_mem_take h)⟩
 have hpl:=hs.pl
 refine q3z rfl v4u rfl rfl rfl (az:=[z1b s, .sl (z6z zs) .no]) rfl (by simp[idsL,z2k,AV.ids,z8k]) fun D B T hB hT=> ?_
 simp only[go_sem,v4t,hB,z1b]
 refine j4o fun g c=> ?_
 have e0:∀ x0 x1 x2 x3 x4 x5 x6 x7 x8:AObj,(D++[x0,x1,x2,x3,x4,x5,x6,x7,x8]).length=B + 9:=fun _ _ _ _ _ _ _ _ _=>by simp[hB]
 have e1:∀ x0 x1 x2 x3 x4 x5 x6 x7 x8 o:AObj,(D++[x0,x1,x2,x3,x4,x5,x6,x7,x8])++[o]=D++[x0,x1,x2,x3,x4,x5,x6,x7,x8,o]:=fun _ _ _ _ _ _ _ _ _ _=>by simp
 rw[e0,e1]
 clear e0 e1
 generalize zs.take 400=l at hl
 simp only[go_sem,hB]
 refine z2y s.preds.length (by omega) (fun i q=>∃ (g0 g1 g2:Nat) (acc:List Def) (t:Tip) (o3 o4 o5 o6 o7 o8:AObj) (j:Nat),(∀ d∈acc,u9n d)∧acc.map (·.pred)=(s.preds.take i).map (·.name)∧j≤l.length∧q.ts 2= .ptr (B + 0) g0 0 0∧q.ts 4= .ptr (B + 1) g1 0 0∧q.ts 5= .ptr (B + 9) g 0 0∧q.ts 6= .ptr (B + 2) g2 0 0∧q.ts 7= .int .i64 (i:Int)∧q.h=D++[.blk g0 [z1b s] false false 0, .blk g1 [.agg [.sl [] .nil]] false false 0, .blk g2 [.agg [.sl (acc.map z2b) t]] false false 0,o3,o4,o5,o6,o7,o8,z3v g l j]∧z7x B 8 o8 t 3) ⟨_,_,_,[], .nil,_,_,_,_,_,_,0,by simp,by simp,Nat.zero_le _,rfl,rfl,rfl,rfl,rfl,rfl, .inl rfl⟩ ?_ ?_
 ·rintro i hlt f1 f2 ts h clk P ⟨g0,g1,g2,acc,t,o3,o4,o5,o6,o7,o8,j,hacc,hnm,hj,q2,q4,q5,q6,q7,rfl,ht⟩ hnx he hr
  dsimp only at q2 q4 q5 q6 q7
  have hix:=fun h=>z4u (l:=s.preds) (i:=i) (h:=h) (t:= .no) (k:= .i64) hlt
  have hf:=hs.preds.mem (List.getElem_mem hlt)
  have hal:acc.length≤5:=by
   have:=congrArg List.length hnm
   simp only[List.length_map,List.length_take] at this
   omega
  have hnm1:∀ d:Def,d.pred=s.preds[i].name→(acc++[d]).map (·.pred)=(s.preds.take (i + 1)).map (·.name):=fun d hd=>by
   rw[List.take_succ_eq_append_getElem hlt,List.map_append,List.map_append,hnm,List.map_singleton,List.map_singleton,hd]
  have hpl:=q2v hf
  generalize hfi:s.preds[i]=f at *
  simp only[go_sem,j2x,z1b,q2,q4,q5,q6,q7,hB,f1,List.length_map,hix]
  refine w3z (s:=s) (f:=f) (ip:=B + 9) (g:=g) (jp:=0) hB hf hlt hfi (by simp[z0c,q2]) (by simp[z0c,q4]) (by simp[z0c,q5]) (by simp[z0c,q6]) (by simp[z0c,q7]) (by simp[z0c]) (by simp[z0c]) (.inl rfl) fun ts' u o4 o5 o6 clk' r2 r4 r5 r6 r7 r8=> ?_
  have hG:=v1e (l:=l) (V:=z4o f) (u:=u) hl (by omega)
  simp only[go_sem,z1b,r2,r4,r5,r6,r7,r8,hB]
  refine z1w (k:=9) hG hB rfl hj ?_
  rintro v j2 ⟨b,rfl,hb⟩ hj2
  simp only[go_sem,z0i,r2,r4,r5,r6,r7,r8,hB]
  refine z1w (k:=9) (z3i hl (by decide) (by decide)) hB rfl hj2 ?_
  rintro v j3 ⟨r,rfl,hr1,hr2⟩ hj3
  simp only[go_sem,r2,r4,r5,r6,r7,r8,hB]
  have fin:∀ (b:Term),GT (z4o f) 1 6 396 b→u9n ⟨f.name,z4o f,b⟩:=fun b hb=>⟨⟨f,hf,rfl,rfl,hb.up (by omega) (by omega)⟩,hb⟩
  refine z8i (fun hc=> ?_) (fun hc=> ?_)
  ·simp only[go_sem,r2,r4,r5,r6,r7,r8,hB]
   refine z1w (k:=9) (z3i hl (by decide) (by decide)) hB rfl hj3 ?_
   rintro v j4 ⟨q,rfl,hq1,hq2⟩ hj4
   have p141:Pure Gam 22 [.bool (decide (0 < q))] (.sl ((v0p (decide (0 < q))).map eNode) .no):=x5b
   have hd:=fin _ (v1h (b:=decide (0 < q)))
   generalize v0p (decide (0 < q))=bt at *
   simp only[go_sem,r2,r4,r5,r6,r7,r8,hB,z0a p141]
   rw[j6h (n:=f.name) (p:=z4o f) (b:=bt),z0k hB rfl ht z1y z1y (by simp only[List.length_map,List.length_singleton];omega),←List.map_append]
   simp only[go_sem,r2,r4,r5,r6,r7,r8,hB,f2]
   exact hnx _ ⟨_,_,_,_,_,_,_,_,_,_,_,j4,x1p hacc hd,hnm1 _ rfl,hj4,r2,r4,r5,r6,rfl,rfl, .inr (.inr ⟨_,rfl,rfl⟩)⟩
  ·simp only[go_sem,r2,r4,r5,r6,r7,r8,hB]
   have hd:=fin _ hb
   rw[j6h (n:=f.name) (p:=z4o f) (b:=b),z0k hB rfl ht z1y z1y (by simp only[List.length_map,List.length_singleton];omega),←List.map_append]
   simp only[go_sem,r2,r4,r5,r6,r7,r8,hB,f2]
   exact hnx _ ⟨_,_,_,_,_,_,_,_,_,_,_,j3,x1p hacc hd,hnm1 _ rfl,hj3,r2,r4,r5,r6,rfl,rfl, .inr (.inr ⟨_,rfl,rfl⟩)⟩
 ·rintro f1 ts h clk P ⟨g0,g1,g2,acc,t,o3,o4,o5,o6,o7,o8,j,hacc,hnm,hj,q2,q4,q5,q6,q7,rfl,ht⟩ he hr
  dsimp only at q2 q4 q5 q6 q7
  rw[List.take_length] at hnm
  simp only[go_sem,j2x,z1b,q2,q4,q5,q6,q7,hB,f1,List.length_map]
  refine he _ _ ?_
  simp only[go_sem,q2,q4,q6,hB,z0m,z0l,z0g]
  rw[z2q rfl (by simp[AV.cv,cvL,AV.ids,idsL,z0b z1x])]
  exact hT _ _ (hQ acc ⟨fun d hd=>(hacc d hd).1,hnm,fun d hd=>(hacc d hd).2⟩)
theorem v1i {s:Sys} {m:List Def} {u:Tip} (hs:SysV s) (hm:∀ d∈m,DOk d) (hl:m.length≤1000) (hsh:z3b s m=true):Pure Gam 35 [z1b s, .agg [.sl (m.map z2b) u], .int .i64 0] (.tup [z4s m, .int .i64 0]):=by
 have p:=x6o hs hm hl
 rw[hsh] at p
 rw[z1b,z4s] at p
 refine Pure.of rfl y6e rfl rfl rfl (az:=[z1b s,z4s m, .int .i64 0]) rfl (by simp[idsL,z2k,z4x,AV.ids]) fun D B clk T hB hT=> ?_
 rw[z4s] at hT
 simp only[go_sem,v5k,hB,z1b,z4s,decide_true,Bool.not_true,z0a p,z0m,z0l,z0g]
 rw[z0j rfl (by simp[z1l,AV.cv,cvL,AV.ids,idsL,z0b z1x])]
 exact hT _
theorem j6i {s:Sys} {m:List Def} {u:Tip} (hs:SysV s) (hm:∀ d∈m,DOk d) (hl:m.length≤1000) (hsh:z3b s m=true):Pure Gam 33 [z1b s, .agg [.sl (m.map z2b) u]] (.tup [z4s m, .int .i64 0]):=by
 have p:=x6q hs hm hl
 have p2:=v0h (u:= .no) hl fun d hd=>(hm d hd).ok.s
 rw[hsh] at p
 rw[z1b,z4s] at p
 rw[z4s] at p2
 refine Pure.of rfl v5m rfl rfl rfl (az:=[z1b s,z4s m]) rfl (by simp[idsL,z2k,z4x]) fun D B clk T hB hT=> ?_
 rw[z4s] at hT
 simp only[go_sem,v5l,hB,z1b,z4s,Bool.not_true,z0a p,z0a p2,z0m,z0l,z0g]
 rw[z0j rfl (by simp[z1l,AV.cv,cvL,AV.ids,idsL,z0b z1x])]
 exact hT _
theorem v1j {m:List Def} {h:List AObj} {clk:Nat} {Q:AV→List AObj→Nat→Prop} (h0:0 < m.length) (hl:m.length≤1000) (hm:∀ d∈m,DefS d) (hQ:∀ g o0 o1 o2 o3 o4 c,Q (.agg [.sl (m.map z2b) (.at (h.length + 5) g)]) (h++[o0,o1,o2,o3,o4, .tip g 3]) c):WC Gam 1048601 [z4s m] h clk Q:=by
 refine z9u rfl v0q rfl rfl rfl (az:=[z4s m]) rfl (by simp[idsL,z4x]) fun D B hB hBh=> ?_
 simp only[go_sem,j5z,hB,z4s,List.length_map]
 refine z2y m.length (by omega) (fun i q=>∃ (g0 g1 g2:Nat) (t:Tip) (o3 o4 o5:AObj),q.ts 1= .ptr (B + 0) g0 0 0∧q.ts 2= .ptr (B + 1) g1 0 0∧q.ts 3= .ptr (B + 2) g2 0 0∧q.ts 7= .sl (m.map z2b) .no∧q.ts 8= .int .i64 (m.length:Int)∧q.ts 9= .int .i64 (i:Int)∧q.h=D++[.blk g0 [.agg [.sl (m.map z2b) .no]] false false 0, .blk g1 [.agg [.sl [] .nil]] false false 0, .blk g2 [.agg [.sl ((m.take i).map z2b) t]] false false 0,o3,o4,o5]∧z7x B 5 o5 t 3∧(0 < i→∃ g,t= .at (B + 5) g∧o5= .tip g 3)) ⟨_,_,_, .nil,_,_,_,rfl,rfl,rfl,rfl,rfl,rfl,rfl, .inl rfl,fun h=>absurd h (by omega)⟩ ?_ ?_
 ·rintro i hlt f1 f2 ts h clk P ⟨g0,g1,g2,t,o3,o4,o5,q1,q2,q3,q7,q8,q9,rfl,ht,_⟩ hnx he hr
  dsimp only at q1 q2 q3 q7 q8 q9
  have hix:=fun h=>z7m (l:=m) (i:=i) (h:=h) (t:= .no) (k:= .i64) hlt
  have e8:(m.take i).map z2b++[m[i]].map z2b=(m.take (i + 1)).map z2b:=by rw[List.take_succ_eq_append_getElem hlt,List.map_append]
  have hp:=q5z (u:= .no) (v:= .no) (hm _ (List.getElem_mem hlt))
  rw[z2b] at hp
  generalize m[i]=d at *
  simp only[go_sem,x1j,q1,q2,q3,q7,q8,q9,hB,z0y,f1,hix,z0a hp]
  rw[show [AV.agg [.str d.pred, .sl (d.params.map z1h) .no, .sl (d.body.map eNode) .no]]=[d].map z2b from rfl,z0k hB rfl ht z1y z1y (by simp only[List.length_map,List.length_singleton,List.length_take];omega),e8]
  simp only[go_sem,q1,q2,q3,q7,q8,q9,hB,f2]
  refine⟨by simp[z0v,apart,z0h,z0s,z0w,AOp.isCall,hB,AV.ids,idsL,z0b z1x,z0b z1k,z0b z0x], ?_⟩
  exact hnx _ ⟨g0,g1,g2,_,_,_,_,q1,q2,q3,q7,q8,rfl,rfl, .inr (.inr ⟨_,rfl,rfl⟩),fun _=>⟨_,rfl,rfl⟩⟩
 ·rintro f1 ts h clk P ⟨g0,g1,g2,t,o3,o4,o5,q1,q2,q3,q7,q8,q9,rfl,ht,hg⟩ he hr
  dsimp only at q1 q2 q3 q7 q8 q9
  obtain⟨g,rfl,rfl⟩:=hg h0
  rw[List.take_length]
  simp only[go_sem,x1j,q1,q2,q3,q7,q8,q9,hB,f1]
  refine he _ _ ?_
  simp only[go_sem,q2,q3,hB]
  refine⟨fun _=>by simp,[.agg [.sl (m.map z2b) (.at (B + 5) g)]],_, ?_,rfl, .inr ⟨⟨B + 5,by simp[z1l,AV.ids,idsL],by omega⟩, ?_⟩⟩
  ·simp only[go_sem,q2,hB,z0m,z0l,z0g]
  ·have:=hQ g
   simp only[←hBh] at this
   exact this _ _ _ _ _ _
end Go.Proofs.YtdfepmffiampgaaGreatDoor.Am
