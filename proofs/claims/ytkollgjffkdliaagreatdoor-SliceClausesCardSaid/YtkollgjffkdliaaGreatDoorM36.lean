/- Walking: constant definitions Plain facts about lists of definitions, and slices that grow at two places Walking: values are stored in arrays Functions of the abstract machine's program Walking: rows  -/
import Derived.Test.YtkollgjffkdliaaGreatDoorM35
set_option linter.all false
namespace Go.Proofs.YtkollgjffkdliaaGreatDoor.Am
open Go
set_option maxRecDepth 100000
def z5c:List Nat→Nat→List Var
 | [],_=>[]
 | s::l,i=>⟨[112,48 + i],s⟩::z5c l (i + 1)
theorem q8o {s:Nat}:∀ {l:List Nat} {k:Nat},z5c (l++[s]) k=z5c l k++[⟨[112,48 + (k + l.length)],s⟩]
 | [],k=>by simp[z5c]
 | a::l,k=>by
   have e:k + 1 + l.length=k + (l.length + 1):=by omega
   simp only[List.cons_append,z5c,q8o,List.length_cons,e]
theorem x2i:∀ {l:List Nat} {k:Nat},(z5c l k).length=l.length
 | [],_=>rfl
 | _::l,k=>by simp[z5c,x2i]
def q7p (b:Bool):Term:=[⟨if b then 1 else 2,0,[],[],0⟩]
def x5d (f:Func) (b:Bool):Def:=⟨f.name,z5c f.args 0,q7p b⟩
theorem w5q {i:Nat} (hi:i < 3):Pure Gam 99 [.int .i64 (i:Int)] (.str [48 + i]):=by
 refine Pure.tab (tab:=k0v) rfl rfl ?_
 obtain rfl | rfl | rfl:i=0∨i=1∨i=2:=by omega
 ·rfl
 ·rfl
 ·rfl
theorem j1c {h:List AObj} {s g:Nat}:u5s h s g (.agg [.int .i64 0, .int .i64 0, .str [], .str [], .int .i64 0]) (.agg [.int .i64 2, .int .i64 0, .str [], .str [], .int .i64 0])=some (.ob s g 0 1,h.set s (.blk g [.agg [.int .i64 2, .int .i64 0, .str [], .str [], .int .i64 0]] true false 0)):=(rfl)
theorem v3d {D L:List AObj} {B k g:Nat} {cs:List AV} {w:Bool} (hB:D.length=B) (hL:L[k]? =some (.blk g [.agg cs] true w 0)) (hc:cs.length=5):z1p (D++L) 5 (.ob (B + k) g 0 1) (.int .i64 0)=some (.ptr (B + k) g 0 0,D++L):=by
 have hb:z2g (D++L) (B + k) g=some ([.agg cs],true,w,0):=by rw[z7b hB];exact z5m hL
 simp[z1p,hb,AV.cells,hc]
theorem k0m {D L:List AObj} {B k g:Nat} {cs:List AV} {w:Bool} {n m:Int} (hB:D.length=B) (hL:L[k]? =some (.blk g [.agg (.int .i64 m::cs)] true w 0)):z9z (D++L) 1 (.int .i64 n) (.ptr (B + k) g 0 0)=some (.undef,D++L.set k (.blk g [.agg (.int .i64 n::cs)] true w 0)):=by
 have hb:z2g (D++L) (B + k) g=some ([.agg (.int .i64 m::cs)],true,w,0):=by rw[z7b hB];exact z5m hL
 rw[q0s,hb]
 have hp:pub (D++L) (.int .i64 n)=some (.int .i64 n,D++L):=rfl
 simp[hp,q0k,AV.cells,j2p,x5v,j2y,z9s,z5l hB]
theorem v3e {H:List AObj} {n:List Nat} {p es:List AV} {u:Tip} {a b c d:Nat} (h:z5s H (.ob a b c d)=some es):conv H (z1l [.agg [.str n, .sl p u, .ob a b c d]])=some (.agg [.str n, .sl p .no, .sl es .no]):=by
 simp only[z5s] at h
 simp only[z1l,conv,q0j,h,Option.map_some]
theorem v3f {f:Func} {b:Bool} (hf:f.args.length≤3):Pure Gam 46 [z0y f, .bool b] (z6x (x5d f b)):=by
 refine Pure.of rfl y7x rfl rfl rfl (az:=[z0y f, .bool b]) rfl (by simp[idsL,AV.ids,z4i]) fun D B clk T hB hT=> ?_
 have hix0:=fun (L:List AObj) (g:Nat) (hL:L[2]? =some (.blk g [.agg [.int .i64 2, .int .i64 0, .str [], .str [], .int .i64 0]] true false 0))=>v3d (D:=D) (B:=B) (k:=2) hB hL rfl
 have hst0:=fun (L:List AObj) (g:Nat) (hL:L[2]? =some (.blk g [.agg [.int .i64 2, .int .i64 0, .str [], .str [], .int .i64 0]] true false 0))=>k0m (D:=D) (B:=B) (k:=2) (n:=1) hB hL
 have loop:∀ (ts:Tmps) (g0 g1 g2 g3 clk:Nat) (o4 o5:AObj) (ks:List Kf) (Q:Post),ts 4= .ptr (B + 1) g1 0 0→ts 5= .ptr (B + 3) g3 0 0→ts 19= .sl (f.args.map nat) .no→ts 20= .int .i64 (f.args.length:Int)→ts 21= .int .i64 0→
   (∀ (ts':Tmps) (t:Tip) (o4 o5:AObj) (clk':Nat),ts' 4= .ptr (B + 1) g1 0 0→ts' 5= .ptr (B + 3) g3 0 0→K Gam B (.exit 0) ks ⟨ts',D++[.blk g0 [z0y f] false false 0, .blk g1 [.agg [.str [], .sl [] .nil, .sl [] .nil]] false false 0, .blk g2 ((q7p b).map eNode) true false 0, .blk g3 [.agg [.str f.name, .sl ((z5c f.args 0).map z1h) t, .ob (B + 2) g2 0 1]] false false 0,o4,o5],clk'⟩ Q)→
   K Gam B (.loop x2e) ks ⟨ts,D++[.blk g0 [z0y f] false false 0, .blk g1 [.agg [.str [], .sl [] .nil, .sl [] .nil]] false false 0, .blk g2 ((q7p b).map eNode) true false 0, .blk g3 [.agg [.str f.name, .sl [] .nil, .ob (B + 2) g2 0 1]] false false 0,o4,o5],clk⟩ Q:=by
  intro ts g0 g1 g2 g3 clk o4 o5 ks Q h4 h5 h19 h20 h21 hQ
  refine z6k f.args.length (by omega) (fun i q=>∃ (t:Tip) (o4 o5:AObj),q.ts 4= .ptr (B + 1) g1 0 0∧q.ts 5= .ptr (B + 3) g3 0 0∧q.ts 19= .sl (f.args.map nat) .no∧q.ts 20= .int .i64 (f.args.length:Int)∧q.ts 21= .int .i64 (i:Int)∧q.h=D++[.blk g0 [z0y f] false false 0, .blk g1 [.agg [.str [], .sl [] .nil, .sl [] .nil]] false false 0, .blk g2 ((q7p b).map eNode) true false 0, .blk g3 [.agg [.str f.name, .sl ((z5c (f.args.take i) 0).map z1h) t, .ob (B + 2) g2 0 1]] false false 0,o4,o5]∧z9p B 5 o5 t 2) ⟨.nil,_,_,h4,h5,h19,h20,h21,rfl, .inl rfl⟩ ?_ ?_
  ·clear h4 h5 h19 h20 h21
   rintro i hlt f1 f2 ts h clk P ⟨t,o4,o5,q4,q5,q19,q20,q21,rfl,ht⟩ hnx he hr
   dsimp only at q4 q5 q19 q20 q21
   have hix:∀ h,z1p h 1 (.sl (f.args.map nat) .no) (.int .i64 (i:Int))=some (.iptr [.int .i64 (f.args[i]:Int)] 0,h):=fun h=>z2d hlt rfl rfl
   have hp:=w5q (i:=i) (by omega)
   have ha:∀ h,z7j h .add (.one .str) (.str [112]) (.str [48 + i])=some (.str [112,48 + i],h):=fun h=>q5v (by simp)
   have e8:(z5c (f.args.take i) 0).map z1h++[(⟨[112,48 + i],f.args[i]⟩:Var)].map z1h=(z5c (f.args.take (i + 1)) 0).map z1h:=by
    rw[List.take_succ_eq_append_getElem hlt,q8o,List.map_append,List.length_take,Nat.zero_add,Nat.min_eq_left (by omega)]
   generalize f.args[i]=s at *
   simp only[go_sem,x2e,q4,q5,q19,q20,q21,hB,z1b,f1,hix,z0a hp,ha]
   rw[show [AV.agg [.str [112,48 + i], .int .i64 (s:Int)]]=[(⟨[112,48 + i],s⟩:Var)].map z1h from rfl,z0s hB rfl ht z3e z3e (by simp only[List.length_map,List.length_singleton,x2i,List.length_take];omega),e8]
   simp only[go_sem,q4,q5,q19,q20,q21,hB,f2]
   refine⟨by simp[z1e,apart,z0l,z0z,z1i,AOp.isCall,hB,AV.ids,idsL,z0d z2z], ?_⟩
   exact hnx _ ⟨_,_,_,q4,q5,q19,q20,rfl,rfl, .inr (.inr ⟨_,rfl,rfl⟩)⟩
  ·clear h4 h5 h19 h20 h21
   rintro f1 ts h clk P ⟨t,o4,o5,q4,q5,q19,q20,q21,rfl,ht⟩ he hr
   dsimp only at q4 q5 q19 q20 q21
   rw[List.take_length]
   simp only[go_sem,x2e,q4,q5,q19,q20,q21,hB,f1]
   exact he _ _ (hQ _ t _ _ _ (by simp[z0b,q4]) (by simp[z0b,q5]))
 have fin:∀ (ts':Tmps) (g1 g2 g3 clk':Nat) (t:Tip) (H:List AObj),z5s H (.ob (B + 2) g2 0 1)=some ((q7p b).map eNode)→RV [] (some [.agg [.str f.name, .sl ((z5c f.args 0).map z1h) t, .ob (B + 2) g2 0 1]]) T H:=fun ts' g1 g2 g3 clk' t H hs=>by
  refine⟨_,v3e hs,by simp[AV.ids,idsL,z0d z2z,z0d z2i],rfl,hT _⟩
 rw[z0y] at loop
 cases b
 ·simp only[go_sem,k6m,hB,z0y,j1c,List.length_map]
  refine loop _ _ _ _ _ _ _ _ _ _ rfl rfl rfl rfl rfl fun ts' t o4 o5 clk' r4 r5=> ?_
  simp only[go_sem,r4,r5,hB,z0k,z0j,z0f]
  exact fin ts' 0 _ 0 0 t _ (z9g hB rfl rfl)
 ·simp only[go_sem,k6m,hB,z0y,j1c,List.length_map,hix0,hst0]
  refine loop _ _ _ _ _ _ _ _ _ _ rfl rfl rfl rfl rfl fun ts' t o4 o5 clk' r4 r5=> ?_
  simp only[go_sem,r4,r5,hB,z0k,z0j,z0f]
  exact fin ts' 0 _ 0 0 t _ (z9g hB rfl rfl)
def u6k:Def:=⟨[],[],[]⟩
def x7t (m:List Def) (n:List Nat):Def:=(m.find? fun d=>decide (d.pred=n)).getD u6k
theorem q9g {m:List Def} {j:Nat} (hj:j < m.length) (hn:(m.map (·.pred)).Nodup):x7t m m[j].pred=m[j]:=by
 have:m.find? (fun d=>decide (d.pred=m[j].pred))=some m[j]:=by
  rw[List.find?_eq_some_iff_getElem]
  refine⟨by simp,j,hj,rfl,fun k hk=> ?_⟩
  have hne:m[k].pred≠m[j].pred:=fun e=>by
   have:=(List.getElem_inj (xs:=m.map (·.pred)) (i:=k) (j:=j) (h₀:=by simp;omega) (h₁:=by simpa using hj) hn).1 (by simpa using e)
   omega
  simp[hne]
 rw[x7t,this]
 rfl
theorem k0n {D L:List AObj} {B p q e b gen:Nat} {xs ys:List AV} {t u:Tip} {o o':AObj} (hB:D.length=B) (hp:L[p]? =some o) (hq:L[q]? =some o') (ht:z9p B p o t e∨z9p B q o' t e) (hx:z0v e xs=true) (hy:z0v e ys=true) (hl:(xs.length + ys.length) * (b + 1)≤2 ^ 46):
  ∃ L',(L'=L∨L'=L.set q .dead)∧z1k (D++L) (B + p) gen e b false (.sl xs t) (.sl ys u)=some (.sl (xs++ys) (.at (B + p) gen),D++L'.set p (.tip gen e)):=by
 rcases ht with ht | rfl | rfl | ⟨g,rfl,rfl⟩
 ·exact⟨L, .inl rfl,z0s hB hp ht hx hy hl⟩
 ·exact⟨L, .inl rfl,z0s hB hp (.inl rfl) hx hy hl⟩
 ·exact⟨L, .inl rfl,z0s hB hp (.inr (.inl rfl)) hx hy hl⟩
 ·exact⟨_, .inr rfl,q7l hB hq hx hy hl⟩
theorem z8j {D L:List AObj} {B p q e b gen d g clk:Nat} {xs ys:List AV} {t u:Tip} {o o':AObj} {f:List Nat×List Nat} {m:Md} {os:List AOper} {ts:Tmps} {ks:List Kf} {Q:Post} (hB:D.length=B) (hp:L[p]? =some o) (hq:L[q]? =some o') (ht:z9p B p o t e∨z9p B q o' t e) (hx:z0v e xs=true) (hy:z0v e ys=true) (hl:(xs.length + ys.length) * (b + 1)≤2 ^ 46)
  (hQ:∀ L',(L'=L∨L'=L.set q .dead)→O Gam B (m.add f) (g + 1) os ⟨upd ts d (.sl (xs++ys) (.at (B + p) gen)),D++L'.set p (.tip gen e),clk⟩ ks Q):PO Gam B (z1k (D++L) (B + p) gen e b false (.sl xs t) (.sl ys u)) f m (some d) g os ts clk ks Q:=by
 obtain⟨L',h1,h2⟩:=k0n (b:=b) (gen:=gen) (u:=u) hB hp hq ht hx hy hl
 rw[h2]
 exact hQ L' h1
section
set_option maxHeartbeats 0
def w6l (z k w:Int):List (Int×Int):=if w=z then [] else [(k,w)]
def j4h (z k w:Int) (l:List (Int×Int)) (put:Bool):List (Int×Int):=(l.filter fun p=>decide (p.1 < k))++((if put=true then w6l z k w else [])++l.filter fun p=>decide (k < p.1))
theorem w5r {z k w:Int} {l:List (Int×Int)}:j4h z k w l true=v2g z l k w:=rfl
def q2b (k:Int) (l:List (Int×Int)):Bool:=l.any fun p=>decide (k≤p.1)
theorem v3g {z k w:Int} {l:List (Int×Int)} {i:Nat} (hs:l.Pairwise (fun p q=>p.1 < q.1)) (hi:i < l.length):
  q2b k (l.take (i + 1))=(q2b k (l.take i) || decide (k≤l[i].1))∧j4h z k w (l.take (i + 1)) (q2b k (l.take (i + 1)))=j4h z k w (l.take i) (q2b k (l.take i))++((if q2b k (l.take i)=false∧k≤l[i].1 then w6l z k w else [])++(if l[i].1=k then [] else [l[i]]))∧(q2b k (l.take i)=true→k < l[i].1):=by
 have ht:l.take (i + 1)=l.take i++[l[i]]:=List.take_succ_eq_append_getElem hi
 have h1:q2b k (l.take (i + 1))=(q2b k (l.take i) || decide (k≤l[i].1)):=by rw[ht,q2b,List.any_append];simp[q2b]
 have h3:q2b k (l.take i)=true→k < l[i].1:=fun h=>by
  obtain⟨p,hp,h2⟩:=List.any_eq_true.1 h
  have h2:=of_decide_eq_true h2
  obtain⟨j,hj,rfl⟩:=List.mem_iff_getElem.1 hp
  have hj':j < i:=by simp at hj;omega
  have:=List.pairwise_iff_getElem.1 hs j i (by omega) hi hj'
  simp only[List.getElem_take] at h2
  omega
 refine⟨h1, ?_,h3⟩
 rw[h1,ht]
 unfold j4h
 rw[List.filter_append,List.filter_append]
 cases hp:q2b k (l.take i) with
 | true=>
   have:=h3 hp
   have a1:¬ l[i].1 < k:=by omega
   have a2:l[i].1≠k:=by omega
   simp[this,a1,a2,List.filter_cons]
 | false=>
   have hno:(l.take i).filter (fun p=>decide (k < p.1))=[]:=by
    rw[List.filter_eq_nil_iff]
    intro p hp'
    have:=List.any_eq_false.1 hp p hp'
    simp only[decide_eq_true_eq] at this⊢
    omega
   rw[hno]
   rcases Int.lt_trichotomy l[i].1 k with h | h | h
   ·have a1:¬ k≤l[i].1:=by omega
    have a2:¬ k < l[i].1:=by omega
    have a3:l[i].1≠k:=by omega
    simp[h,a1,a2,a3,List.filter_cons]
   ·have a1:k≤l[i].1:=by omega
    have a2:¬ k < l[i].1:=by omega
    have a3:¬ l[i].1 < k:=by omega
    simp[h,a1,a2,a3,List.filter_cons]
   ·have a1:k≤l[i].1:=by omega
    have a2:¬ l[i].1 < k:=by omega
    have a3:l[i].1≠k:=by omega
    simp[h,a1,a2,a3,List.filter_cons]
theorem v3h {z k w:Int} {l:List (Int×Int)} (h:q2b k l=false):j4h z k w l true=j4h z k w l false++w6l z k w:=by
 have hno:l.filter (fun p=>decide (k < p.1))=[]:=by
  rw[List.filter_eq_nil_iff]
  intro p hp'
  have:=List.any_eq_false.1 h p hp'
  simp only[decide_eq_true_eq] at this⊢
  omega
 unfold j4h
 rw[hno]
 simp
theorem z5f {l:List (Int×Int)} {f:Int×Int→List Nat} {x:List (Int×Int)}:z1n (l.map f)++z1n (x.map f)=z1n ((l++x).map f):=by simp[z1n]
theorem v3i {z k w:Int} {l:List (Int×Int)} {b:Bool}:(j4h z k w l b).length≤2 * l.length + 1:=by
 unfold j4h w6l
 have h1:=List.length_filter_le (fun p:Int×Int=>decide (p.1 < k)) l
 have h2:=List.length_filter_le (fun p:Int×Int=>decide (k < p.1)) l
 simp only[List.length_append]
 split
 ·split <;> simp <;> omega
 ·simp;omega
theorem v3j {m:Nat} {z k w:Int} {l:List (Int×Int)} (hm:m≤80000) (h:VOk m 4 (.arr z l)) (hk:(dec k.natAbs).length≤3999999) (hw:(dec w.natAbs).length≤3999999):Pure Gam 1048625 [eV (.arr z l), .str (z0i k), .str (z0i w)] (.tup [eV (.arr z (v2g z l k w)), .int .i64 0]):=by
 have p1:=x7l hm h
 rw[q4i] at p1
 obtain⟨_,hz,hs,hp,hlm⟩:=h
 refine Pure.of rfl y2b rfl rfl rfl (az:=[eV (.arr z l), .str (z0i k), .str (z0i w)]) rfl (by simp[idsL,q1z,AV.ids]) fun D B clk T hB hT=> ?_
 simp only[go_sem,v6w,hB,q4i,z0a p1,Int.cast_ofNat_Int,Int.reduceEq,decide_true,decide_false,Bool.not_true,Bool.not_false,z0a (z8r (z:=k) (by omega)),z0a (z8r (z:=w) (by omega))]
 refine z6k (l.length + 1) (by omega) (fun i q=>∃ (g0 g1 g2:Nat) (put:Bool) (t u:Tip) (o3 o4 o5 o6 o7 o8 o9 o10:AObj),put=(if i≤l.length then q2b k (l.take i) else true)∧q.ts 1= .str (z0i k)∧q.ts 2= .str (z0i w)∧q.ts 3= .ptr (B + 0) g0 0 0∧q.ts 6= .ptr (B + 1) g1 0 0∧q.ts 7= .int .i64 0∧q.ts 8= .ptr (B + 2) g2 0 0∧q.ts 9= .bool put∧q.ts 10= .int .i64 (i:Int)∧q.h=D++[.blk g0 [.agg [.int .i64 4, .bool false, .str (z0i z), .sl (z1n (l.map fun p=>z0i p.1)) .no, .sl (z1n (l.map fun p=>z0i p.2)) .no]] false false 0, .blk g1 [.agg [.int .i64 0, .bool false, .str [], .sl [] .nil, .sl [] .nil]] false false 0, .blk g2 [.agg [.int .i64 4, .bool false, .str (z0i z), .sl (z1n ((j4h z k w (l.take i) put).map fun p=>z0i p.1)) t, .sl (z1n ((j4h z k w (l.take i) put).map fun p=>z0i p.2)) u]] false false 0,o3,o4,o5,o6,o7,o8,o9,o10]∧(z9p B 4 o4 t 1∨z9p B 8 o8 t 1)∧(z9p B 6 o6 u 1∨z9p B 10 o10 u 1)) ⟨_,_,_,false, .nil, .nil,_,_,_,_,_,_,_,_,by simp[q2b],rfl,rfl,rfl,rfl,rfl,rfl,rfl,rfl,rfl, .inl (.inl rfl), .inl (.inl rfl)⟩ ?_ ?_
 ·rintro i hlt f1 f2 ts h clk P ⟨g0,g1,g2,put,t,u,o3,o4,o5,o6,o7,o8,o9,o10,hput,q1,q2,q3,q6,q7,q8,q9,q10,rfl,ht,hu⟩ hnx he hr
  dsimp only at q1 q2 q3 q6 q7 q8 q9 q10
  have tn:∀ t:Tip,(z9p B 4 o4 t 1∨z9p B 8 o8 t 1)→∀ j,j < 4→∀ x,(x∈match t with | Tip.at s gen=>[s] | _=>[])→¬ x=B + j:=fun t ht j hj x hx=>by
   rcases ht with (rfl | rfl | ⟨g,rfl,_⟩) | (rfl | rfl | ⟨g,rfl,_⟩) <;> simp at hx <;> omega
  have hil:i≤l.length:=by omega
  rw[if_pos hil] at hput
  have f3:decide ((i:Int)≤(l.length:Int))=true:=by rw[decide_eq_true_iff];omega
  have hol:(j4h z k w (l.take i) put).length≤200000:=Nat.le_trans v3i (by rw[List.length_take];omega)
  by_cases hlen:i < l.length
  ·have f4:decide ((i:Int) < (l.length:Int))=true:=by rw[decide_eq_true_iff];omega
   have f5:decide ((i:Int)=(l.length:Int))=false:=by rw[decide_eq_false_iff_not];omega
   obtain⟨s1,s2,s3⟩:=v3g (z:=z) (k:=k) (w:=w) hs hlen
   rw[←hput] at s1 s2 s3
   have hk':=fun h=>x7k (l:=l) (h:=h) (t:= .no) hlen
   have hv:=fun h=>j4e (l:=l) (h:=h) (t:= .no) hlen
   obtain⟨n1,n2,n3⟩:=hp _ (List.getElem_mem hlen)
   have pc:=j7n (a:=l[i].1) (b:=k) (by omega) hk
   have hil2:i + 1≤l.length:=hlen
   generalize l[i]=x at *
   cases put with
   | true=>
     have hx:=s3 rfl
     have s1':q2b k (l.take (i + 1))=true:=by rw[s1];rfl
     have eK:decide (z0i x.1=z0i k)=false:=decide_eq_false fun e=>by have:=z8a e;omega
     rw[s1',if_neg (by simp),if_neg (by omega),List.nil_append] at s2
     simp only[go_sem,z9e,q1,q2,q3,q6,q7,q8,q9,q10,hB,f3,f4,z1r,hk',eK,Bool.not_true,Bool.not_false,z1b]
     rw[show [AV.str (z0i x.1)]=z1n ([x].map fun p=>z0i p.1) from rfl]
     refine z8j (q:=4) hB rfl rfl ht.symm z0m z0m (by simp only[z1r,List.length_singleton,List.length_append];omega) fun L1 h1=> ?_
     rw[z5f]
     rcases h1 with rfl | rfl
     all_goals
      simp only[go_sem,q1,q2,q3,q6,q7,q8,q9,q10,hB,hv]
      rw[show [AV.str (z0i x.2)]=z1n ([x].map fun p=>z0i p.2) from rfl]
      refine z8j (q:=6) hB rfl rfl hu.symm z0m z0m (by simp only[z1r,List.length_singleton,List.length_append];omega) fun L2 h2=> ?_
      rw[z5f]
      rcases h2 with rfl | rfl
      all_goals
       simp only[go_sem,q1,q2,q3,q6,q7,q8,q9,q10,hB,hv,f2]
       refine⟨by simp[z1e,apart,z0l,z0z,z1i,AOp.isCall,hB,AV.ids,idsL,z0q] <;> first | exact⟨tn t ht 2 (by omega),tn t ht 0 (by omega)⟩ | exact tn t ht 2 (by omega) | exact tn t ht 0 (by omega), ?_⟩
       exact hnx _ ⟨g0,g1,g2,true,_,_,_,_,_,_,_,_,_,_,(by rw[if_pos hil2,s1']),q1,q2,q3,q6,q7,q8,q9,rfl,by rw[s2] <;> rfl, .inr (.inr (.inr ⟨_,rfl,rfl⟩)), .inr (.inr (.inr ⟨_,rfl,rfl⟩))⟩
   | false=>
     by_cases hkx:k≤x.1
     ·have s1':q2b k (l.take (i + 1))=true:=by rw[s1,decide_eq_true hkx];rfl
      have e0:decide (0≤v7p x.1 k)=true:=by rw[v7p,if_neg (by omega)];split <;> rfl
      rw[s1',if_pos ⟨rfl,hkx⟩,w6l] at s2
      by_cases hwz:w=z
      ·have eW:decide (z0i w=z0i z)=true:=decide_eq_true (by rw[hwz])
       rw[if_pos hwz,List.nil_append] at s2
       by_cases hxk:x.1=k
       ·have eK:decide (z0i x.1=z0i k)=true:=decide_eq_true (by rw[hxk])
        rw[if_pos hxk,List.append_nil] at s2
        simp only[go_sem,z9e,q1,q2,q3,q6,q7,q8,q9,q10,hB,f2,f3,f4,f5,z1r,hk',eK,eW,z0a pc,e0,Bool.not_true,Bool.not_false]
        exact hnx _ ⟨g0,g1,g2,true,_,_,_,_,_,_,_,_,_,_,(by rw[if_pos hil2,s1']),q1,q2,q3,q6,q7,q8,rfl,rfl,by rw[s2] <;> rfl,ht,hu⟩
       ·have eK:decide (z0i x.1=z0i k)=false:=decide_eq_false fun e=>hxk (z8a e)
        rw[if_neg hxk] at s2
        simp only[go_sem,z9e,q1,q2,q3,q6,q7,q8,q9,q10,hB,f3,f4,f5,z1r,hk',eK,eW,z0a pc,e0,Bool.not_true,Bool.not_false,z1b]
        rw[show [AV.str (z0i x.1)]=z1n ([x].map fun p=>z0i p.1) from rfl]
        refine z8j (q:=4) hB rfl rfl ht.symm z0m z0m (by simp only[z1r,List.length_singleton,List.length_append];omega) fun L1 h1=> ?_
        rw[z5f]
        rcases h1 with rfl | rfl
        all_goals
         simp only[go_sem,q1,q2,q3,q6,q7,q8,q9,q10,hB,hv]
         rw[show [AV.str (z0i x.2)]=z1n ([x].map fun p=>z0i p.2) from rfl]
         refine z8j (q:=6) hB rfl rfl hu.symm z0m z0m (by simp only[z1r,List.length_singleton,List.length_append];omega) fun L2 h2=> ?_
         rw[z5f]
         rcases h2 with rfl | rfl
         all_goals
          simp only[go_sem,q1,q2,q3,q6,q7,q8,q9,q10,hB,hv,f2]
          refine⟨by simp[z1e,apart,z0l,z0z,z1i,AOp.isCall,hB,AV.ids,idsL,z0q] <;> first | exact⟨tn t ht 2 (by omega),tn t ht 0 (by omega)⟩ | exact tn t ht 2 (by omega) | exact tn t ht 0 (by omega), ?_⟩
          exact hnx _ ⟨g0,g1,g2,true,_,_,_,_,_,_,_,_,_,_,(by rw[if_pos hil2,s1']),q1,q2,q3,q6,q7,q8,rfl,rfl,by rw[s2] <;> rfl, .inr (.inr (.inr ⟨_,rfl,rfl⟩)), .inr (.inr (.inr ⟨_,rfl,rfl⟩))⟩
      ·have eW:decide (z0i w=z0i z)=false:=decide_eq_false fun e=>hwz (z8a e)
       rw[if_neg hwz,←List.append_assoc] at s2
       by_cases hxk:x.1=k
       ·have eK:decide (z0i x.1=z0i k)=true:=decide_eq_true (by rw[hxk])
        rw[if_pos hxk,List.append_nil] at s2
        simp only[go_sem,z9e,q1,q2,q3,q6,q7,q8,q9,q10,hB,f3,f4,f5,z1r,hk',eK,eW,z0a pc,e0,Bool.not_true,Bool.not_false,z1b]
        rw[show [AV.str (z0i k)]=z1n ([(k,w)].map fun p=>z0i p.1) from rfl]
        refine z8j (q:=8) hB rfl rfl ht z0m z0m (by simp only[z1r,List.length_singleton,List.length_append];omega) fun L1 h1=> ?_
        rw[z5f]
        rcases h1 with rfl | rfl
        all_goals
         simp only[go_sem,q1,q2,q3,q6,q7,q8,q9,q10,hB,hv]
         rw[show [AV.str (z0i w)]=z1n ([(k,w)].map fun p=>z0i p.2) from rfl]
         refine z8j (q:=10) hB rfl rfl hu z0m z0m (by simp only[z1r,List.length_singleton,List.length_append];omega) fun L2 h2=> ?_
         rw[z5f]
         rcases h2 with rfl | rfl
         all_goals
          simp only[go_sem,q1,q2,q3,q6,q7,q8,q9,q10,hB,z1b]
          refine⟨by simp[z1e,apart,z0l,z0z,z1i,AOp.isCall,hB,AV.ids,idsL,z0q] <;> first | exact⟨tn t ht 2 (by omega),tn t ht 0 (by omega)⟩ | exact tn t ht 2 (by omega) | exact tn t ht 0 (by omega), ?_⟩
          simp only[go_sem,q1,q2,q3,q6,q7,q8,q9,q10,hB,f2,f4,z1r,hk',eK,Bool.not_true,Bool.not_false]
          exact hnx _ ⟨g0,g1,g2,true,_,_,_,_,_,_,_,_,_,_,(by rw[if_pos hil2,s1']),q1,q2,q3,q6,q7,q8,rfl,rfl,by rw[s2] <;> rfl, .inl (.inr (.inr ⟨_,rfl,rfl⟩)), .inl (.inr (.inr ⟨_,rfl,rfl⟩))⟩
       ·have eK:decide (z0i x.1=z0i k)=false:=decide_eq_false fun e=>hxk (z8a e)
        rw[if_neg hxk] at s2
        have hol2:(j4h z k w (l.take i) false++[(k,w)]).length≤200001:=by rw[List.length_append];simp;omega
        simp only[go_sem,z9e,q1,q2,q3,q6,q7,q8,q9,q10,hB,f3,f4,f5,z1r,hk',eK,eW,z0a pc,e0,Bool.not_true,Bool.not_false,z1b]
        rw[show [AV.str (z0i k)]=z1n ([(k,w)].map fun p=>z0i p.1) from rfl]
        refine z8j (q:=8) hB rfl rfl ht z0m z0m (by simp only[z1r,List.length_singleton,List.length_append];omega) fun L1 h1=> ?_
        rw[z5f]
        rcases h1 with rfl | rfl
        all_goals
         simp only[go_sem,q1,q2,q3,q6,q7,q8,q9,q10,hB,hv]
         rw[show [AV.str (z0i w)]=z1n ([(k,w)].map fun p=>z0i p.2) from rfl]
         refine z8j (q:=10) hB rfl rfl hu z0m z0m (by simp only[z1r,List.length_singleton,List.length_append];omega) fun L2 h2=> ?_
         rw[z5f]
         rcases h2 with rfl | rfl
         all_goals
          simp only[go_sem,q1,q2,q3,q6,q7,q8,q9,q10,hB,z1b]
          refine⟨by simp[z1e,apart,z0l,z0z,z1i,AOp.isCall,hB,AV.ids,idsL,z0q] <;> first | exact⟨tn t ht 2 (by omega),tn t ht 0 (by omega)⟩ | exact tn t ht 2 (by omega) | exact tn t ht 0 (by omega), ?_⟩
          simp only[go_sem,q1,q2,q3,q6,q7,q8,q9,q10,hB,f4,z1r,hk',eK,Bool.not_true,Bool.not_false,z1b]
          rw[show [AV.str (z0i x.1)]=z1n ([x].map fun p=>z0i p.1) from rfl]
          refine z8j (q:=4) hB rfl rfl (.inr (.inr (.inr ⟨_,rfl,rfl⟩))) z0m z0m (by simp only[z1r,List.length_singleton,List.length_append];omega) fun L1 h1=> ?_
          rw[z5f]
          rcases h1 with rfl | rfl
          all_goals
           simp only[go_sem,q1,q2,q3,q6,q7,q8,q9,q10,hB,hv]
           rw[show [AV.str (z0i x.2)]=z1n ([x].map fun p=>z0i p.2) from rfl]
           refine z8j (q:=6) hB rfl rfl (.inr (.inr (.inr ⟨_,rfl,rfl⟩))) z0m z0m (by simp only[z1r,List.length_singleton,List.length_append];omega) fun L2 h2=> ?_
           rw[z5f]
           rcases h2 with rfl | rfl
           all_goals
            simp only[go_sem,q1,q2,q3,q6,q7,q8,q9,q10,hB,hv,f2]
            refine⟨by simp[z1e,apart,z0l,z0z,z1i,AOp.isCall,hB,AV.ids,idsL,z0q] <;> first | exact⟨tn t ht 2 (by omega),tn t ht 0 (by omega)⟩ | exact tn t ht 2 (by omega) | exact tn t ht 0 (by omega), ?_⟩
            exact hnx _ ⟨g0,g1,g2,true,_,_,_,_,_,_,_,_,_,_,(by rw[if_pos hil2,s1']),q1,q2,q3,q6,q7,q8,rfl,rfl,by rw[s2] <;> rfl, .inr (.inr (.inr ⟨_,rfl,rfl⟩)), .inr (.inr (.inr ⟨_,rfl,rfl⟩))⟩
     ·have s1':q2b k (l.take (i + 1))=false:=by rw[s1,decide_eq_false hkx];rfl
      have eK:decide (z0i x.1=z0i k)=false:=decide_eq_false fun e=>by have:=z8a e;omega
      have e0:decide (0≤v7p x.1 k)=false:=by rw[v7p,if_pos (by omega)];rfl
      rw[s1',if_neg (by omega),if_neg (by omega),List.nil_append] at s2
      simp only[go_sem,z9e,q1,q2,q3,q6,q7,q8,q9,q10,hB,f3,f4,f5,z1r,hk',eK,z0a pc,e0,Bool.not_true,Bool.not_false,z1b]
      rw[show [AV.str (z0i x.1)]=z1n ([x].map fun p=>z0i p.1) from rfl]
      refine z8j (q:=4) hB rfl rfl ht.symm z0m z0m (by simp only[z1r,List.length_singleton,List.length_append];omega) fun L1 h1=> ?_
      rw[z5f]
      rcases h1 with rfl | rfl
      all_goals
       simp only[go_sem,q1,q2,q3,q6,q7,q8,q9,q10,hB,hv]
       rw[show [AV.str (z0i x.2)]=z1n ([x].map fun p=>z0i p.2) from rfl]
       refine z8j (q:=6) hB rfl rfl hu.symm z0m z0m (by simp only[z1r,List.length_singleton,List.length_append];omega) fun L2 h2=> ?_
       rw[z5f]
       rcases h2 with rfl | rfl
       all_goals
        simp only[go_sem,q1,q2,q3,q6,q7,q8,q9,q10,hB,hv,f2]
        refine⟨by simp[z1e,apart,z0l,z0z,z1i,AOp.isCall,hB,AV.ids,idsL,z0q] <;> first | exact⟨tn t ht 2 (by omega),tn t ht 0 (by omega)⟩ | exact tn t ht 2 (by omega) | exact tn t ht 0 (by omega), ?_⟩
        exact hnx _ ⟨g0,g1,g2,false,_,_,_,_,_,_,_,_,_,_,(by rw[if_pos hil2,s1']),q1,q2,q3,q6,q7,q8,q9,rfl,by rw[s2] <;> rfl, .inr (.inr (.inr ⟨_,rfl,rfl⟩)), .inr (.inr (.inr ⟨_,rfl,rfl⟩))⟩
  ·obtain rfl:i=l.length:=by omega
   have f4:decide ((l.length:Int) < (l.length:Int))=false:=by simp
   have f5:decide ((l.length:Int)=(l.length:Int))=true:=by simp
   have hs2:j4h z k w (l.take (l.length + 1)) true=j4h z k w (l.take l.length) true:=by rw[List.take_of_length_le (by omega),List.take_of_length_le (by omega)]
   have hfin:(true=if l.length + 1≤l.length then q2b k (l.take (l.length + 1)) else true):=by rw[if_neg (by omega)]
   cases put with
   | true=>
     have s2:=hs2
     simp only[go_sem,z9e,q1,q2,q3,q6,q7,q8,q9,q10,hB,f2,f3,f4,f5,decide_true,decide_false,z1r,Bool.not_true,Bool.not_false]
     exact hnx _ ⟨g0,g1,g2,true,_,_,_,_,_,_,_,_,_,_,hfin,q1,q2,q3,q6,q7,q8,q9,rfl,by rw[s2] <;> rfl,ht,hu⟩
   | false=>
     have s2:=hs2.trans (v3h (z:=z) (w:=w) hput.symm)
     rw[w6l] at s2
     by_cases hwz:w=z
     ·have eW:decide (z0i w=z0i z)=true:=decide_eq_true (by rw[hwz])
      rw[if_pos hwz,List.append_nil] at s2
      simp only[go_sem,z9e,q1,q2,q3,q6,q7,q8,q9,q10,hB,f2,f3,f4,f5,decide_true,decide_false,z1r,eW,Bool.not_true,Bool.not_false]
      exact hnx _ ⟨g0,g1,g2,true,_,_,_,_,_,_,_,_,_,_,hfin,q1,q2,q3,q6,q7,q8,rfl,rfl,by rw[s2] <;> rfl,ht,hu⟩
     ·have eW:decide (z0i w=z0i z)=false:=decide_eq_false fun e=>hwz (z8a e)
      rw[if_neg hwz] at s2
      have hv:=f5
      simp only[go_sem,z9e,q1,q2,q3,q6,q7,q8,q9,q10,hB,f3,f4,f5,decide_true,decide_false,z1r,eW,Bool.not_true,Bool.not_false,z1b]
      rw[show [AV.str (z0i k)]=z1n ([(k,w)].map fun p=>z0i p.1) from rfl]
      refine z8j (q:=8) hB rfl rfl ht z0m z0m (by simp only[z1r,List.length_singleton,List.length_append];omega) fun L1 h1=> ?_
      rw[z5f]
      rcases h1 with rfl | rfl
      all_goals
       simp only[go_sem,q1,q2,q3,q6,q7,q8,q9,q10,hB,hv]
       rw[show [AV.str (z0i w)]=z1n ([(k,w)].map fun p=>z0i p.2) from rfl]
       refine z8j (q:=10) hB rfl rfl hu z0m z0m (by simp only[z1r,List.length_singleton,List.length_append];omega) fun L2 h2=> ?_
       rw[z5f]
       rcases h2 with rfl | rfl
       all_goals
        simp only[go_sem,q1,q2,q3,q6,q7,q8,q9,q10,hB,z1b]
        refine⟨by simp[z1e,apart,z0l,z0z,z1i,AOp.isCall,hB,AV.ids,idsL,z0q] <;> first | exact⟨tn t ht 2 (by omega),tn t ht 0 (by omega)⟩ | exact tn t ht 2 (by omega) | exact tn t ht 0 (by omega), ?_⟩
        simp only[go_sem,q1,q2,q3,q6,q7,q8,q9,q10,hB,f2,f4,decide_true,decide_false,z1r,Bool.not_true,Bool.not_false]
        exact hnx _ ⟨g0,g1,g2,true,_,_,_,_,_,_,_,_,_,_,hfin,q1,q2,q3,q6,q7,q8,rfl,rfl,by rw[s2] <;> rfl, .inl (.inr (.inr ⟨_,rfl,rfl⟩)), .inl (.inr (.inr ⟨_,rfl,rfl⟩))⟩
 ·rintro f1 ts h clk P ⟨g0,g1,g2,put,t,u,o3,o4,o5,o6,o7,o8,o9,o10,hput,q1,q2,q3,q6,q7,q8,q9,q10,rfl,ht,hu⟩ he hr
  dsimp only at q1 q2 q3 q6 q7 q8 q9 q10
  rw[if_neg (by omega)] at hput
  subst hput
  have f3:decide (((l.length + 1:Nat):Int)≤(l.length:Int))=false:=by rw[decide_eq_false_iff_not];omega
  rw[List.take_of_length_le (by omega),w5r]
  simp only[go_sem,z9e,q1,q2,q3,q6,q7,q8,q9,q10,hB,f3,z1r]
  refine he _ _ ?_
  simp only[go_sem,q6,q7,q8,hB,z0k,z0j,z0f]
  rw[z0g rfl (by simp[z1l,AV.cv,cvL,AV.ids,idsL,z0q])]
  exact hT _
end
section
open Sh
set_option maxHeartbeats 0
end
section
open Sh
theorem q3g {a b:Nat}:decide ((a:Int)=(b:Int))=decide (a=b):=by
 by_cases h:a=b
 ·simp[h]
 ·rw[decide_eq_false h,decide_eq_false_iff_not];omega
theorem k6r {α:Type} {xs ys:List α} {i:Nat} (hx:i < xs.length) (hy:i < ys.length) (h:xs.take i=ys.take i) (h1:xs[i]=ys[i]):xs.take (i + 1)=ys.take (i + 1):=by
 rw[List.take_succ_eq_append_getElem hx,List.take_succ_eq_append_getElem hy,h,h1]
end
theorem v3k {b:Bool}:Pure Gam 283 [.bool b] (eV (.bool b)):=by
 refine Pure.of rfl y1u rfl rfl rfl rfl rfl fun D B clk T hB hT=> ?_
 rw[z4x] at hT
 simp only[go_sem,v6q,hB,z0k,z0j,z0f]
 rw[z2k rfl (by simp[AV.cv,cvL,AV.ids,idsL])]
 exact hT _
theorem v8c {a b:List (List Nat)} {u v:Tip} (hl:a.length≤2 ^ 40):Pure Gam 257 [.sl (z1n a) u, .sl (z1n b) v] (.bool (decide (a=b))):=by
 refine Pure.of rfl g1o rfl rfl rfl (az:=[.sl (z1n a) .no, .sl (z1n b) .no]) rfl (by simp[idsL,AV.ids,z0q]) fun D B clk T hB hT=> ?_
 have hla:(z1n a).length=a.length:=List.length_map _
 have hlb:(z1n b).length=b.length:=List.length_map _
 cases hlen:decide (a.length=b.length) with
 | true=>
   have hlen':a.length=b.length:=of_decide_eq_true hlen
   simp only[go_sem,u1q,hB,hla,hlb,q3g,hlen,Bool.not_true]
   refine z6k a.length (by omega) (fun i q=>a.take i=b.take i∧q.ts 0= .sl (z1n a) .no∧q.ts 1= .sl (z1n b) .no∧q.ts 5= .int .i64 (i:Int)) ⟨by simp,rfl,rfl,rfl⟩ ?_ ?_
   ·rintro i hlt f1 f2 ts h clk P ⟨he0,q0,q1,q5⟩ hnx he hr
    dsimp only at q0 q1 q5
    have hlt2:i < b.length:=by omega
    cases hc:decide (a[i]=b[i]) with
    | true=>
      simp only[go_sem,k9n,q0,q1,q5,f1,f2,hla,q0c hlt,q0c hlt2,hc,Bool.not_true]
      exact hnx _ ⟨k6r hlt hlt2 he0 (of_decide_eq_true hc),q0,q1,rfl⟩
    | false=>
      simp only[go_sem,k9n,q0,q1,q5,f1,f2,hla,q0c hlt,q0c hlt2,hc,Bool.not_false]
      refine hr _ ?_
      rw[decide_eq_false fun e=>of_decide_eq_false hc (by subst e;rfl)] at hT
      simp only[go_sem,]
      rw[z0e]
      exact hT _
   ·rintro f1 ts h clk P ⟨he0,q0,q1,q5⟩ he hr
    dsimp only at q0 q1 q5
    simp only[go_sem,k9n,q0,q1,q5,f1,hla]
    refine he _ _ ?_
    rw[List.take_length,hlen',List.take_length] at he0
    rw[decide_eq_true he0] at hT
    simp only[go_sem,]
    rw[z0e]
    exact hT _
 | false=>
   simp only[go_sem,u1q,hB,hla,hlb,q3g,hlen,Bool.not_false]
   rw[decide_eq_false fun e=>of_decide_eq_false hlen (by rw[e])] at hT
   rw[z0e]
   exact hT _
theorem y8l {m s:Nat} {a b:Val} (ha:VOk m s a) (hm:m≤80000):Pure Gam 205 [eV a,eV b] (.bool (v2h a b)):=by
 have hl:a.l.length≤80000:=by
  cases a with
  | bool b=>simp[Val.l]
  | num t q=>simp[Val.l]
  | arr z l=>have:=ha.2.2.2.2;simp only[Val.l];omega
 have p1:=v8c (a:=a.l.map fun p=>z0i p.1) (b:=b.l.map fun p=>z0i p.1) (u:= .no) (v:= .no) (by rw[List.length_map];omega)
 have p2:=v8c (a:=a.l.map fun p=>z0i p.2) (b:=b.l.map fun p=>z0i p.2) (u:= .no) (v:= .no) (by rw[List.length_map];omega)
 refine Pure.of rfl g1n rfl rfl rfl (az:=[eV a,eV b]) rfl (by simp[idsL,q1z]) fun D B clk T hB hT=> ?_
 rw[v2h] at hT
 have d1:decide ((a.s:Int)=(b.s:Int))=decide (a.s=b.s):=q3g
 cases c1:decide (a.s=b.s) <;> rw[c1] at hT d1
 ·simp only[go_sem,w6i,hB,eV,value,nat,d1]
  rw[z0e]
  exact hT _
 cases c2:decide (a.b=b.b) <;> rw[c2] at hT
 ·have c2':(a.b==b.b)=false:=by simpa using c2
  simp only[go_sem,w6i,hB,eV,value,nat,d1,c2,c2']
  rw[z0e]
  exact hT _
 have c2':(a.b==b.b)=true:=by simpa using c2
 cases c3:decide (a.t=b.t) <;> rw[c3] at hT
 ·simp only[go_sem,w6i,hB,eV,value,nat,d1,c2,c2',c3]
  rw[z0e]
  exact hT _
 cases c4:decide ((a.l.map fun p=>z0i p.1)=b.l.map fun p=>z0i p.1) <;> rw[c4] at hT p1
 ·simp only[go_sem,w6i,hB,eV,value,nat,d1,c2,c2',c3,z0a p1]
  rw[z0e]
  exact hT _
 simp only[go_sem,w6i,hB,eV,value,nat,d1,c2,c2',c3,z0a p1,z0a p2]
 rw[z0e]
 simpa using hT _
theorem v3l {m s:Nat} {v:Val} (h:VOk m s v) (hm:m≤80000):Pure Gam 174 [eV v] (eV v):=by
 have hl:v.l.length≤80000:=by
  cases v with
  | bool b=>simp[Val.l]
  | num t q=>simp[Val.l]
  | arr z l=>have:=h.2.2.2.2;simp only[Val.l];omega
 refine Pure.of rfl y1s rfl rfl rfl (az:=[eV v]) rfl (by simp[idsL,q1z]) fun D B clk T hB hT=> ?_
 rw[eV,value] at hT
 simp only[go_sem,v6p,hB,eV,value,nat,z1b]
 rw[append_nil hB rfl z0m (by rw[z1r];omega)]
 simp only[go_sem,hB]
 rw[append_nil hB rfl z0m (by rw[z1r];omega)]
 simp only[go_sem,hB,z0k,z0j,z0f]
 refine⟨by simp[z1e,apart,z0l,z0z,z1i,AOp.isCall,hB,AV.ids,idsL,z0q], ?_⟩
 rw[z2k rfl (by simp[AV.cv,cvL,AV.ids,idsL,z0q])]
 exact hT _
theorem v3m {m:Nat} {z i:Int} {l:List (Int×Int)} (hm:m≤80000) (h:VOk m 4 (.arr z l)) (hi:(dec i.natAbs).length≤3999999):Pure Gam 288 [eV (.arr z l), .str (z0i i)] (.str (z0i (atA z l i))):=by
 have p1:=x7l hm h
 rw[q4i] at p1
 obtain⟨_,hz,hs,hp,hlm⟩:=h
 refine Pure.of rfl y1x rfl rfl rfl (az:=[eV (.arr z l), .str (z0i i)]) rfl (by simp[idsL,q1z,AV.ids]) fun D B clk T hB hT=> ?_
 simp only[go_sem,v6t,hB,q4i,z0a p1,Int.cast_ofNat_Int,Int.reduceEq,decide_true,decide_false,Bool.not_true,Bool.not_false,z0a (z8r (z:=i) (by omega))]
 refine z6k l.length (by omega) (fun j q=>∃ g0:Nat,(∀ p∈l.take j,p.1≠i)∧q.ts 1= .str (z0i i)∧q.ts 2= .ptr (B + 0) g0 0 0∧q.ts 5= .int .i64 (j:Int)∧q.h=D++[.blk g0 [.agg [.int .i64 4, .bool false, .str (z0i z), .sl (z1n (l.map fun p=>z0i p.1)) .no, .sl (z1n (l.map fun p=>z0i p.2)) .no]] false false 0]) ⟨_,by simp,rfl,rfl,rfl,rfl⟩ ?_ ?_
 ·rintro j hlt f1 f2 ts h clk P ⟨g0,hno,q1,q2,q5,rfl⟩ hnx he hr
  dsimp only at q1 q2 q5
  have hk:=fun h=>x7k (l:=l) (h:=h) (t:= .no) hlt
  have hv:=fun h=>j4e (l:=l) (h:=h) (t:= .no) hlt
  by_cases hki:l[j].1=i
  ·have e1:decide (z0i l[j].1=z0i i)=true:=decide_eq_true (by rw[hki])
   have hat:atA z l i=l[j].2:=by
    have:l.find? (fun p=>decide (p.1=i))=some l[j]:=by
     rw[List.find?_eq_some_iff_getElem]
     refine⟨by simp[hki],j,hlt,rfl,fun k hk=> ?_⟩
     have:=hno l[k] (List.mem_take_iff_getElem.2 ⟨k,by omega,rfl⟩)
     simp[this]
    rw[atA,this]
    rfl
   rw[hat] at hT
   simp only[go_sem,x6a,q1,q2,q5,hB,f1,z1r,hk,hv,e1]
   refine hr _ ?_
   simp only[go_sem,]
   rw[z3f]
   exact hT _
  ·have e1:decide (z0i l[j].1=z0i i)=false:=decide_eq_false fun e=>hki (z8a e)
   simp only[go_sem,x6a,q1,q2,q5,hB,f1,f2,z1r,hk,hv,e1]
   refine hnx _ ⟨g0,fun p hp=> ?_,q1,q2,rfl,rfl⟩
   rw[List.take_succ_eq_append_getElem hlt] at hp
   rcases List.mem_append.1 hp with hp | hp
   ·exact hno p hp
   ·rw[List.mem_singleton.1 hp];exact hki
 ·rintro f1 ts h clk P ⟨g0,hno,q1,q2,q5,rfl⟩ he hr
  dsimp only at q1 q2 q5
  have hat:atA z l i=z:=by
   rw[List.take_length] at hno
   have:l.find? (fun p=>decide (p.1=i))=none:=by
    rw[List.find?_eq_none]
    intro p hp
    simp[hno p hp]
   rw[atA,this]
   rfl
  rw[hat] at hT
  simp only[go_sem,x6a,q1,q2,q5,hB,f1,z1r]
  refine he _ _ ?_
  simp only[go_sem,q2,hB]
  rw[z3f]
  exact hT _
theorem v3n {q:Qn} (h:q.R):Pure Gam 321 [.str q.text] (.str q.text):=by
 refine Pure.of rfl y2a rfl rfl rfl rfl rfl fun D B clk T hB hT=> ?_
 simp only[go_sem,v6v,hB,z0a (q9e h),Bool.not_true]
 rw[z3f]
 exact hT _
theorem v3o {q:Qn} (h:q.R) (hn:q.neg=false):Pure Gam 313 [.str q.text] (.str q.text):=by
 have e:decide (q7k q < 0)=false:=by
  unfold q7k
  rw[hn]
  split <;> rfl
 refine Pure.of rfl y1z rfl rfl rfl rfl rfl fun D B clk T hB hT=> ?_
 simp only[go_sem,v6u,hB,z0a (x7i h),e,z0a (v3n h)]
 rw[z3f]
 exact hT _
def w5s (x y:Qn):Qn:=q3y (!(x.neg==y.neg)) (x.n * y.d) (x.d * y.n)
theorem v3p {x y:Qn} (hx:x.R) (hy:y.R) (h0:y.n≠0):Pure Gam 301 [.str x.text, .str y.text] (.str (w5s x y).text):=by
 have p1:=z7h hx
 have p2:=z7h hy
 have m1:=z9h (a:=x.n) (b:=y.d) hx.n hy.d
 have m2:=z9h (a:=x.d) (b:=y.n) hx.d hy.n
 have l1:=z6p hx.n hy.d
 have l2:=z6p hx.d hy.n
 have hpos:=Nat.mul_pos hx.c.pos (Nat.pos_of_ne_zero h0)
 have hl:=q8k (neg:= !(x.neg==y.neg)) l1 l2
 have f1:=x7g (neg:= !(x.neg==y.neg)) hpos (by omega) (by omega:(dec (x.d * y.n)).length≤_) (a:=x.n * y.d)
 have f2:=q9d (q:=q3y (!(x.neg==y.neg)) (x.n * y.d) (x.d * y.n)) (by have:=hl.n;omega) (by have:=hl.d;omega)
 have e1:decide (dec y.n=[48])=false:=by rw[z1t];simp[h0]
 unfold w5s
 refine Pure.of rfl y3l rfl rfl rfl rfl rfl fun D B clk T hB hT=> ?_
 simp only[go_sem,w2m,hB]
 rw[z0a p1]
 simp only[go_sem,hB,q0i]
 rw[z0a p2]
 simp only[go_sem,hB,q0i,Bool.not_true,Bool.not_false,e1,z1b,z0a m1,z0a m2]
 rw[z0a f1]
 simp only[go_sem,]
 rw[z0a f2]
 simp only[go_sem,]
 refine⟨by simp[z1e,apart,z0l,z0z,z1i,AOp.isCall,hB], ?_⟩
 rw[z3f]
 exact hT _
def x2j (q:Qn):Nat:=q.n / q.d + (if q.neg=true∧q.n % q.d≠0 then 1 else 0)
def k6s (q:Qn):Qn:=⟨q.neg && !decide (x2j q=0),x2j q,1⟩
theorem v3q {q:Qn} (h:q.R):Pure Gam 312 [.str q.text] (.str (k6s q).text):=by
 have hp:=z7h h
 rw[q0i] at hp
 have p2:=x6k (a:=q.n) (b:=q.d) h.c.pos (by have:=h.n;omega) (by have:=h.d;omega)
 have hl1:(dec (q.n / q.d)).length≤4000000:=j3y h.n
 have p3:Pure Gam 280 [.str (dec (q.n / q.d)), .str [49]] (.str (dec (q.n / q.d + 1))):=by
  have:=k4l (a:=q.n / q.d) (b:=1) (by omega) (by rw[z2f];simp)
  rwa [z2f] at this
 have p4:∀ neg m,(dec m).length≤4000001→Pure Gam 231 [.agg [.bool neg, .str (dec m), .str [49]]] (.str (z3o neg m 1)):=fun neg m hm=>by
  have:=q7d (neg:=neg) (n:=m) (d:=1) (by omega) (by rw[z2f];simp)
  rwa [q0i,z2f] at this
 have hl2:(dec (q.n / q.d + 1)).length≤4000001:=x7e (b:=1) hl1 (by rw[z2f];simp)
 refine Pure.of rfl y1y rfl rfl rfl rfl rfl fun D B clk T hB hT=> ?_
 have hT:∀ h',T (.str (z3o (q.neg && !decide (x2j q=0)) (x2j q) 1)) h':=hT
 unfold x2j at hT
 cases hn:q.neg <;> rw[hn] at hT hp
 ·rw[if_neg (by simp),Nat.add_zero,Bool.false_and] at hT
  simp only[go_sem,x9u,hB,z0a hp,Bool.not_true,z0a p2,z0a (p4 false (q.n / q.d) (by omega))]
  rw[z3f]
  exact hT _
 ·cases hr:decide (q.n % q.d=0) with
  | true=>
    have e1:decide (dec (q.n % q.d)=[48])=true:=by rw[z1t,hr]
    rw[if_neg (by simp only[true_and,Classical.not_not];exact of_decide_eq_true hr),Nat.add_zero,Bool.true_and] at hT
    cases hm:decide (q.n / q.d=0) <;> rw[hm] at hT
    ·have e2:decide (dec (q.n / q.d)=[48])=false:=by rw[z1t,hm]
     simp only[go_sem,x9u,hB,z0a hp,Bool.not_true,Bool.not_false,z0a p2,e1,e2,z0a (p4 true (q.n / q.d) (by omega))]
     rw[z3f]
     exact hT _
    ·have e2:decide (dec (q.n / q.d)=[48])=true:=by rw[z1t,hm]
     simp only[go_sem,x9u,hB,z0a hp,Bool.not_true,Bool.not_false,z0a p2,e1,e2,z0a (p4 false (q.n / q.d) (by omega))]
     rw[z3f]
     exact hT _
  | false=>
    have e1:decide (dec (q.n % q.d)=[48])=false:=by rw[z1t,hr]
    rw[if_pos ⟨rfl,of_decide_eq_false hr⟩,Bool.true_and,show decide (q.n / q.d + 1=0)=false from rfl] at hT
    have e2:decide (dec (q.n / q.d + 1)=[48])=false:=by rw[z1t];rfl
    simp only[go_sem,x9u,hB,z0a hp,Bool.not_true,Bool.not_false,z0a p2,z0a p3,e1,e2,z0a (p4 true (q.n / q.d + 1) hl2)]
    rw[z3f]
    exact hT _
theorem k6t {z:Int} {k:Nat} (h1:1≤k) (h5:k≤5):k6s (w5s (z4f z) (z4f (k:Int)))=z4f (z / (k:Int)):=by
 have hk:decide ((k:Int) < 0)=false:=by simp
 have e:w5s (z4f z) (z4f (k:Int))=q3y (decide (z < 0)) z.natAbs k:=by
  simp only[w5s,z4f,hk,Nat.mul_one,Nat.one_mul,Int.natAbs_natCast]
  cases decide (z < 0) <;> rfl
 rw[e]
 have hg:0 < Nat.gcd z.natAbs k:=Nat.gcd_pos_of_pos_right _ (by omega)
 obtain⟨a,ha⟩:=Nat.gcd_dvd_left z.natAbs k
 obtain⟨b,hb⟩:=Nat.gcd_dvd_right z.natAbs k
 have e1:(q3y (decide (z < 0)) z.natAbs k).n / (q3y (decide (z < 0)) z.natAbs k).d=z.natAbs / k:=by
  simp only[q3y]
  generalize Nat.gcd z.natAbs k=g at *
  rw[ha,hb,Nat.mul_div_cancel_left _ hg,Nat.mul_div_cancel_left _ hg,Nat.mul_div_mul_left _ _ hg]
 have e2:(q3y (decide (z < 0)) z.natAbs k).n % (q3y (decide (z < 0)) z.natAbs k).d=0↔z.natAbs % k=0:=by
  simp only[q3y]
  generalize Nat.gcd z.natAbs k=g at *
  rw[ha,hb,Nat.mul_div_cancel_left _ hg,Nat.mul_div_cancel_left _ hg,Nat.mul_mod_mul_left]
  constructor
  ·intro h;rw[h,Nat.mul_zero]
  ·intro h;exact (Nat.mul_eq_zero.1 h).resolve_left (by omega)
 have e3:(q3y (decide (z < 0)) z.natAbs k).neg=decide (z < 0):=by
  simp only[q3y]
  by_cases hz:z < 0
  ·have:z.natAbs / Nat.gcd z.natAbs k≠0:=by
    have:=Nat.div_pos (Nat.gcd_le_left k (show 0 < z.natAbs by omega)) hg
    omega
   simp[hz,this]
  ·simp[hz]
 have e4:x2j (q3y (decide (z < 0)) z.natAbs k)=(z / (k:Int)).natAbs:=by
  unfold x2j
  rw[e1,e3]
  simp only[ne_eq,e2,decide_eq_true_eq]
  rcases (by omega:k=1∨k=2∨k=3∨k=4∨k=5) with rfl | rfl | rfl | rfl | rfl <;> split <;> omega
 unfold k6s z4f
 rw[e4,e3]
 have:(decide (z < 0) && !decide ((z / (k:Int)).natAbs=0))=decide (z / (k:Int) < 0):=by
  by_cases hz:z < 0
  ·have hq:z / (k:Int) < 0:=Int.ediv_neg_of_neg_of_pos hz (by omega)
   have:(z / (k:Int)).natAbs≠0:=by omega
   simp[hz,hq];omega
  ·have hq:¬ z / (k:Int) < 0:=by have:=Int.ediv_nonneg (show 0≤z by omega) (show (0:Int)≤k by omega);omega
   simp[hz,hq]
 rw[this]
theorem y8m {x y:Qn} (hx:(dec x.n).length + (dec y.d).length≤4000000) (hy:(dec x.d).length + (dec y.n).length≤4000000) (h:0 < x.d * y.n):(w5s x y).R:=by
 have hl:=q8k (neg:= !(x.neg==y.neg)) (z6p (Nat.le_refl (dec x.n).length) (Nat.le_refl (dec y.d).length)) (z6p (Nat.le_refl (dec x.d).length) (Nat.le_refl (dec y.n).length))
 exact⟨j7d h,Nat.le_trans hl.n hx,Nat.le_trans hl.d hy⟩
theorem j7r {z:Int} {k:Nat} (hz:(dec z.natAbs).length≤3999990) (h1:1≤k) (h5:k≤5):Pure Gam 286 [.str (z0i z), .str (dec k)] (.str (z0i (z / (k:Int)))):=by
 have hkl:(dec k).length≤1:=by rw[z7d (by omega)];simp
 have ek:(z4f (k:Int)).text=dec k:=by rw[z2b,z0i,if_neg (by omega),Int.natAbs_natCast]
 have hkr:(z4f (k:Int)).R:=q4h (by rw[Int.natAbs_natCast];omega)
 have hzr:(z4f z).R:=q4h (by omega)
 have d1:(dec 1).length=1:=by rw[z2f];rfl
 have hdr:(w5s (z4f z) (z4f (k:Int))).R:=y8m (by show (dec z.natAbs).length + (dec 1).length≤_;omega) (by show (dec 1).length + (dec (k:Int).natAbs).length≤_;rw[Int.natAbs_natCast];omega) (by show 0 < 1 * (k:Int).natAbs;rw[Int.natAbs_natCast];omega)
 have p1:=z8r (z:=z) (by omega)
 have p2:=x7h hkr
 have p3:=v3o hkr (by simp[z4f])
 have p4:=v3p hzr hkr (by show (k:Int).natAbs≠0;rw[Int.natAbs_natCast];omega)
 have p5:=v3q hdr
 have p6:=x7i hkr
 rw[k6t h1 h5,z2b] at p5
 rw[z2b] at p4
 rw[ek] at p2 p3 p4 p6
 rw[show decide ((z4f (k:Int)).d=1)=true from rfl] at p2
 have e1:decide (dec k=[48])=false:=by rw[z1t];simp;omega
 have e2:decide (q7k (z4f (k:Int)) < 0)=false:=by
  unfold q7k z4f
  dsimp only
  rw[if_neg (by omega),if_neg (by simp)]
  rfl
 refine Pure.of rfl y1v rfl rfl rfl rfl rfl fun D B clk T hB hT=> ?_
 simp only[go_sem,v6r,hB,z0a p1,z0a p2,Bool.not_true,e1,z0a p3,z0a p4,z0a p5,z0a p6,e2]
 rw[z3f]
 exact hT _
theorem v3r {z:Int} {k:Nat} (hz:(dec z.natAbs).length≤3999900) (h1:1≤k) (h5:k≤5):Pure Gam 287 [.str (z0i z), .str (dec k)] (.str (z0i (z % (k:Int)))):=by
 have hkl:(dec k).length≤1:=by rw[z7d (by omega)];simp
 have ek:(z4f (k:Int)).text=dec k:=by rw[z2b,z0i,if_neg (by omega),Int.natAbs_natCast]
 have hkr:(z4f (k:Int)).R:=q4h (by rw[Int.natAbs_natCast];omega)
 have hql:(dec (z / (k:Int)).natAbs).length≤3999900:=Nat.le_trans (z4z (Int.natAbs_ediv_le_natAbs z k)) hz
 have p1:=j7r (z:=z) (by omega) h1 h5
 have p2:=j7m hkr (q4h (z:=z / (k:Int)) (by omega))
 rw[j7g,ek,z2b,z2b] at p2
 have hml:(dec ((k:Int) * (z / (k:Int))).natAbs).length≤3999901:=by
  rw[Int.natAbs_mul,Int.natAbs_natCast]
  exact Nat.le_trans (z6p hkl hql) (by omega)
 have p3:=j7k (q4h (z:=z) (by omega)) (q4h (z:=(k:Int) * (z / (k:Int))) (by omega))
 rw[x7j,z2b,z2b,z2b,←Int.emod_def] at p3
 have e1:decide (z0i (z / (k:Int))=[])=false:=by
  rw[decide_eq_false_iff_not]
  unfold z0i
  split
  ·simp
  ·exact z7w _
 refine Pure.of rfl y1w rfl rfl rfl rfl rfl fun D B clk T hB hT=> ?_
 simp only[go_sem,v6s,hB,z0a p1,e1,z0a p2,z0a p3]
 rw[z3f]
 exact hT _
section
variable {h:List AObj} {v:Val} {l:List AV} {a b:AV} {t:Tip} {k:IntKind}
theorem q6m:z1p h 5 (.sl (eV v::l) t) (.int k 0)=some (.iptr [nat v.s, .bool v.b, .str v.t, .sl (z1n (v.l.map fun p=>z0i p.1)) .no, .sl (z1n (v.l.map fun p=>z0i p.2)) .no] 0,h):=z4h (i:=0) (e:=eV v) rfl rfl
theorem x7u:z1p h 5 (.sl (a::eV v::l) t) (.int k 1)=some (.iptr [nat v.s, .bool v.b, .str v.t, .sl (z1n (v.l.map fun p=>z0i p.1)) .no, .sl (z1n (v.l.map fun p=>z0i p.2)) .no] 0,h):=z4h (i:=1) (e:=eV v) rfl rfl
theorem y8n:z1p h 5 (.sl (a::b::eV v::l) t) (.int k 2)=some (.iptr [nat v.s, .bool v.b, .str v.t, .sl (z1n (v.l.map fun p=>z0i p.1)) .no, .sl (z1n (v.l.map fun p=>z0i p.2)) .no] 0,h):=z4h (i:=2) (e:=eV v) rfl rfl
theorem k6u {vs:List Val} {i:Nat} (hi:i < vs.length):z1p h 5 (.sl (vs.map eV) t) (.int k (i:Int))=some (.iptr [nat vs[i].s, .bool vs[i].b, .str vs[i].t, .sl (z1n (vs[i].l.map fun p=>z0i p.1)) .no, .sl (z1n (vs[i].l.map fun p=>z0i p.2)) .no] 0,h):=z2d hi rfl rfl
end
theorem z5y {vs:List Val}:idsL (vs.map eV)=[]:=z0d q1z
theorem x3c (b:Bool):Pure Gam 283 [.bool b] (.agg [.int .i64 1, .bool b, .str [], .sl [] .no, .sl [] .no]):=v3k
theorem k6v {v:Val} {u:Tip}:Pure Gam 289 [.int .i64 6, .sl [eV v] u] (eV (.bool (!v.b))):=by
 refine Pure.of rfl k3g rfl rfl rfl (az:=[.int .i64 6, .sl [eV v] .no]) rfl (by simp[idsL,AV.ids,q1z]) fun D B clk T hB hT=> ?_
 rw[z4x] at hT
 simp only[go_sem,x9t,hB,q6m,Int.reduceEq,decide_true,decide_false,z0a (x3c _),z0k,z0j,z0f]
 rw[z2k rfl (by simp[AV.cv,cvL,AV.ids,idsL])]
 exact hT _
theorem k6w {v w:Val} {u:Tip}:Pure Gam 289 [.int .i64 9, .sl [eV v,eV w] u] (eV (.bool (!v.b || w.b))):=by
 refine Pure.of rfl k3g rfl rfl rfl (az:=[.int .i64 9, .sl [eV v,eV w] .no]) rfl (by simp[idsL,AV.ids,q1z]) fun D B clk T hB hT=> ?_
 rw[z4x] at hT
 cases hv:v.b <;> rw[hv] at hT
 ·simp only[go_sem,x9t,hB,q6m,x7u,hv,Int.reduceEq,decide_true,decide_false,Bool.not_false,z0a (x3c _),z0k,z0j,z0f]
  rw[z2k rfl (by simp[AV.cv,cvL,AV.ids,idsL])]
  exact hT _
 ·simp only[go_sem,x9t,hB,q6m,x7u,hv,Int.reduceEq,decide_true,decide_false,Bool.not_true,z0a (x3c _),z0k,z0j,z0f]
  rw[z2k rfl (by simp[AV.cv,cvL,AV.ids,idsL])]
  exact hT _
theorem x5e {o:Nat} {vs:List Val} {u:Tip} (ho:o=7∨o=8) (hl:vs.length≤2 ^ 40):Pure Gam 289 [.int .i64 (o:Int), .sl (vs.map eV) u] (eV (.bool (if o=8 then vs.any Val.b else vs.all Val.b))):=by
 refine Pure.of rfl k3g rfl rfl rfl (az:=[.int .i64 (o:Int), .sl (vs.map eV) .no]) rfl (by simp[idsL,AV.ids,z5y]) fun D B clk T hB hT=> ?_
 rw[z4x] at hT
 have o6:decide ((o:Int)=6)=false:=by rw[decide_eq_false_iff_not];omega
 have o9:decide ((o:Int)=9)=false:=by rw[decide_eq_false_iff_not];omega
 have o7:decide ((o:Int)=7)= !decide (o=8):=by rcases ho with rfl | rfl <;> rfl
 have o8:decide ((o:Int)=8)=decide (o=8):=by rcases ho with rfl | rfl <;> rfl
 simp only[go_sem,x9t,hB,o6,o9]
 refine z6k vs.length (by omega) (fun i q=>∃ g:Nat,(∀ v∈vs.take i,v.b= !decide (o=8))∧q.ts 0= .int .i64 (o:Int)∧q.ts 1= .sl (vs.map eV) .no∧q.ts 4= .ptr (B + 0) g 0 0∧q.ts 5= .int .i64 (i:Int)∧q.h=D++[.blk g [.agg [.int .i64 0, .bool false, .str [], .sl [] .nil, .sl [] .nil]] false false 0]) ⟨_,by simp,rfl,rfl,rfl,rfl,rfl⟩ ?_ ?_
 ·rintro i hlt f1 f2 ts h clk P ⟨g,hno,q0,q1,q4,q5,rfl⟩ hnx he hr
  dsimp only at q0 q1 q4 q5
  have hx:=fun h=>k6u (h:=h) (t:= .no) (k:= .i64) hlt
  by_cases hb:vs[i].b=decide (o=8)
  ·have hres:(if o=8 then vs.any Val.b else vs.all Val.b)=decide (o=8):=by
    split
    ·rename_i h8
     rw[decide_eq_true h8] at hb⊢
     exact List.any_eq_true.2 ⟨_,List.getElem_mem hlt,hb⟩
    ·rename_i h8
     rw[decide_eq_false h8] at hb⊢
     exact List.all_eq_false.2 ⟨_,List.getElem_mem hlt,by simp[hb]⟩
   rw[hres] at hT
   have e1:(decide (o=8)==decide (o=8))=true:=by simp
   have e2:decide (decide (o=8)=decide (o=8))=true:=by simp
   simp only[go_sem,x6b,q0,q1,q4,q5,hB,f1,List.length_map,hx,hb,o8,e1,e2,z0a (x3c _)]
   refine hr _ ?_
   simp only[go_sem,q4,hB,z0k,z0j,z0f]
   rw[z2k rfl (by simp[AV.cv,cvL,AV.ids,idsL])]
   exact hT _
  ·have e1:(vs[i].b==decide (o=8))=false:=by simpa using hb
   simp only[go_sem,x6b,q0,q1,q4,q5,hB,f1,f2,List.length_map,hx,o8,e1]
   refine hnx _ ⟨g,fun v hv=> ?_,q0,q1,q4,rfl,rfl⟩
   rw[List.take_succ_eq_append_getElem hlt] at hv
   rcases List.mem_append.1 hv with hv | hv
   ·exact hno v hv
   ·rw[List.mem_singleton.1 hv]
    cases h:vs[i].b <;> cases h':decide (o=8) <;> simp[h,h'] at hb⊢
 ·rintro f1 ts h clk P ⟨g,hno,q0,q1,q4,q5,rfl⟩ he hr
  dsimp only at q0 q1 q4 q5
  rw[List.take_length] at hno
  have hres:(if o=8 then vs.any Val.b else vs.all Val.b)= !decide (o=8):=by
   split
   ·rename_i h8
    rw[decide_eq_true h8] at hno⊢
    exact List.any_eq_false.2 fun v hv=>by simp[hno v hv]
   ·rename_i h8
    rw[decide_eq_false h8] at hno⊢
    exact List.all_eq_true.2 fun v hv=>by simp[hno v hv]
  rw[hres] at hT
  simp only[go_sem,x6b,q0,q1,q4,q5,hB,f1,List.length_map]
  refine he _ _ ?_
  simp only[go_sem,q0,q4,hB,o7,z0a (x3c _),z0k,z0j,z0f]
  rw[z2k rfl (by simp[AV.cv,cvL,AV.ids,idsL])]
  exact hT _
end Go.Proofs.YtkollgjffkdliaaGreatDoor.Am
