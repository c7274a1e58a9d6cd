/- Walking: a term is looked at from its last node on: a node Walking: calls that answer a pointer to something new Walking: a term is looked at Walking: the names of a term Walking: the names of a term  -/
import Derived.Test.YtahdahokpjigiaaGreatDoorM28
set_option linter.all false
namespace Go.Proofs.YtahdahokpjigiaaGreatDoor.Am
open Go
set_option maxRecDepth 100000
section
variable {U:List Var} [UOk U]
section
variable {h:List AObj} {base g k:Nat} {ts:Tmps} {z:AV} {dst:Option Nat} {os:List AOper} {clk:Nat} {ks:List Kf} {Q:Post}
def bwV (h:List AObj) (f:Nat) (v:AV):Option (AV×List AObj):=if (z7c v).isSome then some (.bwd f v,h) else none
theorem w9n {f n:Nat} {v:AV} (hr:z7c v=some n):bwV h f v=some (.bwd f v,h):=by simp[bwV,hr]
theorem j6v {f:Nat} {x:AOpd}:O Gam base .plain g (⟨dst, .backward f x,none⟩::os) ⟨ts,h,clk⟩ ks Q=PP Gam base (bwV h f (x.ev ts)) dst g os ts clk ks Q:=by
 rw[q3c rfl];rfl
def y8n (h:List AObj) (s g:Nat) (z:AV) (v:AV):Option (AV×List AObj):=
 if !z.def? then none else match z9t h [v] with
  | some vs=>(z5n z.cells.length [z] [0] vs).map fun es=>(.ob s g 0 1,(freezeAll h (z4k [v])).set s (.blk g es true false 0))
  | none=>none
theorem k7g {s:Nat} {K J:IntKind} {a b:Int}:y8n h s g (.int K a) (.int J b)=some (.ob s g 0 1,h.set s (.blk g [.int J b] true false 0)):=(rfl)
theorem y8o {x:AOpd}:O Gam base .plain g (⟨dst, .buildSlice k true z 1 [(0,x)],none⟩::os) ⟨ts,h,clk⟩ ks Q=PP Gam base (y8n h (base + k) g z (x.ev ts)) dst g os ts clk ks Q:=by
 rw[q3c rfl]
 congr 1
end
attribute [go_sem] j6v y8o k7g
theorem q7r {D:List AObj} {B gP n i:Nat} {P:List Pt} {L:List AObj} {p:Pt} (hB:D.length=B) (hi:P[i]? =some p) (hn:P.length=n):z1m (D++ .blk gP (P.map ePt) true false 0::L) 3 (.ob (B + 0) gP 0 n) (.int .i64 (i:Int))=some (.ptr (B + 0) gP i 0,D++ .blk gP (P.map ePt) true false 0::L):=by
 have hb:z2a (D++ .blk gP (P.map ePt) true false 0::L) (B + 0) gP=some (P.map ePt,true,false,0):=by rw[z6w hB];simp[z2a]
 have hlt:i < n:=by
  rw[List.getElem?_eq_some_iff] at hi
  have:=hi.1
  omega
 have h1:(P.map ePt)[0 + i]? =some (ePt p):=by rw[Nat.zero_add,List.getElem?_map,hi];rfl
 simp only[z1m,Int.natCast_nonneg,if_true,hb,Int.toNat_natCast,h1]
 rw[if_pos ⟨hlt,rfl⟩,Nat.zero_add]
theorem x4u {P:List Pt} {i:Nat} {p:Pt} (hi:P[i]? =some p):(P.map ePt)[i]? =some (.agg [.int .i64 (p.sort:Int), .int .i64 (p.depth:Int), .int .i64 (p.fin:Int)]):=by rw[List.getElem?_map,hi];rfl
theorem z3a {t:Term} {i:Nat} {n:Node} {h:List AObj} {u:Tip} {k:IntKind} (hi:t[i]? =some n):z1m h 5 (.sl (t.map eNode) u) (.int k (i:Int))=some (.iptr [.int .i64 (n.op:Int), .int .i64 (n.sort:Int), .str n.name, .str n.num, .int .i64 (n.kids:Int)] 0,h):=by
 have hlt:i < t.length:=by
  rw[List.getElem?_eq_some_iff] at hi
  exact hi.1
 have h1:t[i]=n:=by
  rw[List.getElem?_eq_some_iff] at hi
  exact hi.2
 rw[z2f (f:=eNode) hlt (cs:=[.int .i64 (n.op:Int), .int .i64 (n.sort:Int), .str n.name, .str n.num, .int .i64 (n.kids:Int)]) (esz:=5) (by rw[h1];rfl) rfl]
def w9o:ACode:=(.region 1 [⟨(some 12), .move (.tmp 66),none⟩] [])
def w9p:ACode:=(.block 3 (.seq (.region 12 [⟨(some 67), .load none (.tmp 10),none⟩,⟨(some 68), .load none (.tmp 4),none⟩,⟨(some 69), .nilCheck (.tmp 68),none⟩,⟨(some 70), .fieldAddr (.tmp 69) 1,none⟩,⟨(some 71), .load none (.tmp 70),none⟩,⟨(some 72), .move (.tmp 12),none⟩,⟨(some 73), .indexAddr none 3 (.tmp 71) (.tmp 72),none⟩,⟨(some 74), .fieldAddr (.tmp 73) 0,none⟩,⟨(some 75), .load none (.tmp 74),none⟩,⟨(some 76), .buildSlice 6 false (.int .i64 0) 1 [(0,(.tmp 75))],none⟩,⟨(some 77), .append 7 1 8 false (.tmp 67) (.tmp 76),none⟩,⟨none, .store 1 (.tmp 10) (.tmp 77),none⟩] [(0,9)]) (.seq (.region 14 [⟨(some 78), .fieldAddr (.tmp 9) 1,none⟩,⟨(some 79), .load none (.tmp 78),none⟩,⟨(some 80), .load none (.tmp 4),none⟩,⟨(some 81), .nilCheck (.tmp 80),none⟩,⟨(some 82), .fieldAddr (.tmp 81) 1,none⟩,⟨(some 83), .load none (.tmp 82),none⟩,⟨(some 84), .move (.tmp 12),none⟩,⟨(some 85), .indexAddr none 3 (.tmp 83) (.tmp 84),none⟩,⟨(some 86), .fieldAddr (.tmp 85) 1,none⟩,⟨(some 87), .load none (.tmp 86),none⟩,⟨(some 88), .binOp .add (.one .int) (.tmp 87) (.const (.int .i64 1)),none⟩,⟨(some 89), .minmax true (.tmp 79) (.tmp 88),none⟩,⟨(some 90), .fieldAddr (.tmp 9) 1,none⟩,⟨none, .store 1 (.tmp 90) (.tmp 89),none⟩] []) (.region 10 [⟨(some 91), .load none (.tmp 4),none⟩,⟨(some 92), .nilCheck (.tmp 91),none⟩,⟨(some 93), .fieldAddr (.tmp 92) 1,none⟩,⟨(some 94), .load none (.tmp 93),none⟩,⟨(some 95), .move (.tmp 12),none⟩,⟨(some 96), .indexAddr none 3 (.tmp 94) (.tmp 95),none⟩,⟨(some 97), .fieldAddr (.tmp 96) 2,none⟩,⟨(some 98), .load none (.tmp 97),none⟩,⟨(some 99), .fieldAddr (.tmp 9) 2,none⟩,⟨none, .store 1 (.tmp 99) (.tmp 98),none⟩] []))))
theorem j6w {Kk:List Tr} {j:Nat} (hj:j < Kk.length):((Kk.take (j + 1)).map (·.s)).map nat=((Kk.take j).map (·.s)).map nat++[.int .i64 (Kk[j].s:Int)]:=by
 rw[List.take_succ_eq_append_getElem hj,List.map_append,List.map_append]
 rfl
theorem k1r {D:List AObj} {B:Nat} {t:Term} {gP gV g2 g3 g4 g5 i d clk:Nat} {N:AV} {P:List Pt} {Kk G:List Tr} {kv:AV} {o6 o7 o8 o9:AObj} {ts:Tmps} {ks:List Kf} {Q:Post} (hB:D.length=B) (hPl:P.length=t.length) (hPo:PartsOk P (i + 1) (Kk++G)) (hKd:∀ f∈Kk,f.dep≤d) (hd:d≤1000) (hKl:Kk.length≤2 ^ 20)
  (hrow:z7c kv=some Kk.length) (helem:∀ j (P:List Pt) o3 o4 o5 o6 o7 o8,j < Kk.length→q6n (D++[.blk gP (P.map ePt) true false 0, .blk gV [.agg [z0l t, .ob (B + 0) gP 0 t.length]] false false 0, .blk g2 [.ptr (B + 1) gV 0 0] false false 0,o3,o4,o5,o6,o7,o8,o9]) kv (Kk.length - 1 - j)=some (nat (i + 1 + z9h (Kk.take j))))
  (h4:ts 4= .ptr (B + 2) g2 0 0) (h9:ts 9= .ptr (B + 4) g4 0 0) (h10:ts 10= .ptr (B + 5) g5 0 0) (h64:ts 64= .bwd 325 kv)
  (hQ:∀ (dep:Nat) (u:Tip) (o6 o7:AObj) (clk':Nat),1≤dep→dep≤d + 1→K Gam B .skip ks ⟨ts,D++[.blk gP (P.map ePt) true false 0, .blk gV [.agg [z0l t, .ob (B + 0) gP 0 t.length]] false false 0, .blk g2 [.ptr (B + 1) gV 0 0] false false 0, .blk g3 [N] false false 0, .blk g4 [.agg [.int .i64 0, .int .i64 (dep:Int), .int .i64 ((i + 1 + z9h Kk:Nat):Int)]] false false 0, .blk g5 [.sl ((Kk.map (·.s)).map nat) u] false false 0,o6,o7,o8,o9],clk'⟩ Q):
  K Gam B (.rangeB (.tmp 64) 65 66 w9o w9p) ks ⟨ts,D++[.blk gP (P.map ePt) true false 0, .blk gV [.agg [z0l t, .ob (B + 0) gP 0 t.length]] false false 0, .blk g2 [.ptr (B + 1) gV 0 0] false false 0, .blk g3 [N] false false 0, .blk g4 [.agg [.int .i64 0, .int .i64 1, .int .i64 ((i + 1:Nat):Int)]] false false 0, .blk g5 [.sl [] .nil] false false 0,o6,o7,o8,o9],clk⟩ Q:=by
 refine k4o (f:=325) (n:=Kk.length) (v:=kv) (by simpa [AOpd.ev] using h64) hrow rfl (fun m h _=>∃ (dep:Nat) (u:Tip) (o6 o7:AObj),1≤dep∧dep≤d + 1∧h=D++[.blk gP (P.map ePt) true false 0, .blk gV [.agg [z0l t, .ob (B + 0) gP 0 t.length]] false false 0, .blk g2 [.ptr (B + 1) gV 0 0] false false 0, .blk g3 [N] false false 0, .blk g4 [.agg [.int .i64 0, .int .i64 (dep:Int), .int .i64 ((i + 1 + z9h (Kk.take (Kk.length - m)):Nat):Int)]] false false 0, .blk g5 [.sl (((Kk.take (Kk.length - m)).map (·.s)).map nat) u] false false 0,o6,o7,o8,o9]∧z8k B 7 o7 u 1) ?_ ?_ ?_
 ·refine⟨1, .nil,o6,o7,Nat.le_refl _,by omega, ?_, .inl rfl⟩
  rw[Nat.sub_self,List.take_zero]
  rfl
 ·rintro m h c Pq hm ⟨dep,u,o6,o7,hd1,hd2,rfl,hu⟩ hfin
  have hj:Kk.length - (m + 1) < Kk.length:=by omega
  have hjm:Kk.length - m=Kk.length - (m + 1) + 1:=by omega
  have hel:=helem (Kk.length - (m + 1)) P (.blk g3 [N] false false 0) (.blk g4 [.agg [.int .i64 0, .int .i64 (dep:Int), .int .i64 ((i + 1 + z9h (Kk.take (Kk.length - (m + 1))):Nat):Int)]] false false 0) (.blk g5 [.sl (((Kk.take (Kk.length - (m + 1))).map (·.s)).map nat) u] false false 0) o6 o7 o8 hj
  rw[show Kk.length - 1 - (Kk.length - (m + 1))=m by omega] at hel
  refine⟨_,hel, ?_⟩
  have hpo:=hPo (Kk.length - (m + 1)) Kk[Kk.length - (m + 1)] (by rw[List.getElem?_append_left hj];simp[hj])
  have htk:(Kk++G).take (Kk.length - (m + 1))=Kk.take (Kk.length - (m + 1)):=List.take_append_of_le_length (by omega)
  rw[htk] at hpo
  have hfd:=hKd _ (List.getElem_mem hj)
  have hls:=k1p hj
  have hss:=j6w hj
  rw[←hjm] at hls hss
  generalize Kk[Kk.length - (m + 1)]=f at hpo hfd hls hss
  generalize hst:i + 1 + z9h (Kk.take (Kk.length - (m + 1)))=st at hpo
  have hget:=x4u hpo
  dsimp only at hget
  have hix:∀ L,z1m (D++ .blk gP (P.map ePt) true false 0::L) 3 (.ob (B + 0) gP 0 t.length) (.int .i64 (st:Int))=some (.ptr (B + 0) gP st 0,D++ .blk gP (P.map ePt) true false 0::L):=fun L=>q7r hB hpo hPl
  have e1:IntKind.i64.wrap ((f.dep:Int) + 1)=((f.dep + 1:Nat):Int):=z0d (by omega) (by omega)
  have e2:(if ((f.dep + 1:Nat):Int) > (dep:Int) then ((f.dep + 1:Nat):Int) else (dep:Int))=((max dep (f.dep + 1):Nat):Int):=by split <;> omega
  simp only[go_sem,w9o,w9p,z1i,h4,h9,h10,hB,nat,hix,hget]
  rw[show [AV.int .i64 (f.s:Int)]=[f.s].map nat from rfl,z0j hB rfl hu z3y z3y (by simp only[List.length_map,List.length_singleton,List.length_take];omega)]
  have hst2:st + f.len=i + 1 + z9h (Kk.take (Kk.length - m)):=by omega
  simp only[go_sem,h4,h9,h10,hB,nat,hix,hget,e1,e2,←hss,hst2]
  exact⟨by simp[z1f,apart,z0i,z1d,z1h,AOp.isCall,hB],hfin _ ⟨max dep (f.dep + 1),_,_,_,by omega,by omega,rfl, .inr (.inr ⟨_,rfl,rfl⟩)⟩⟩
 ·rintro h c ⟨dep,u,o6,o7,hd1,hd2,rfl,hu⟩
  rw[Nat.sub_zero,List.take_length]
  exact hQ dep u o6 o7 c hd1 hd2
theorem j6x {D L:List AObj} {B gP i:Nat} {P:List Pt} {p q:Pt} (hB:D.length=B) (hi:P[i]? =some q):z8s (D++ .blk gP (P.map ePt) true false 0::L) 3 (.agg [.int .i64 (p.sort:Int), .int .i64 (p.depth:Int), .int .i64 (p.fin:Int)]) (.ptr (B + 0) gP i 0)=some (.undef,D++ .blk gP ((P.set i p).map ePt) true false 0::L):=by
 have hb:z2a (D++ .blk gP (P.map ePt) true false 0::L) (B + 0) gP=some (P.map ePt,true,false,0):=by rw[z6w hB];simp[z2a]
 have hp:∀ h:List AObj,pub h (.agg [.int .i64 (p.sort:Int), .int .i64 (p.depth:Int), .int .i64 (p.fin:Int)])=some (.agg [.int .i64 (p.sort:Int), .int .i64 (p.depth:Int), .int .i64 (p.fin:Int)],h):=fun h=>rfl
 have hg:(P.map ePt)[i]? =some (ePt q):=by rw[List.getElem?_map,hi];rfl
 rw[q0h,hb]
 simp only[hg,if_true,hp]
 rw[if_pos ⟨rfl,rfl,rfl,fun _=>⟨Nat.zero_le _,rfl⟩⟩]
 have:z9z (ePt q).cells 0 (AV.agg [.int .i64 (p.sort:Int), .int .i64 (p.depth:Int), .int .i64 (p.fin:Int)]).cells=some [.int .i64 (p.sort:Int), .int .i64 (p.depth:Int), .int .i64 (p.fin:Int)]:=rfl
 rw[this,Option.map_some,z5i hB,List.map_set]
 rfl
theorem k1s {D:List AObj} {B:Nat} {t:Term} {gP gV g2:Nat} {V:List Var} {n:Node} {ss:List Nat} {s d:Nat} {ksT pre post:Term} {Kk G:List Tr} {st:St} {ks:List Kf} {Q:Post} (hB:D.length=B) (hn:NodeOk V n ss s ksT) (hV:∀ v∈V,v∈U) (hk:n.kids=ss.length) (ht:t=pre++n::(ksT++post)) (hKs:Kk.map (·.s)=ss) (hKd:∀ f∈Kk,f.dep≤d) (hd:d≤1000) (hN:(Kk++G).length≤2 ^ 20) (htl:t.length≤2 ^ 20)
  (hst:j3x D B t gP gV g2 (pre.length + 1) (Kk++G) st)
  (hQ:∀ st' dep,dep≤d + 1→j3x D B t gP gV g2 pre.length (⟨s,1 + z9h Kk,dep⟩::G) st'→K Gam B (.loop q5c) ks st' Q):K Gam B (.loop q5c) ks st Q:=by
 obtain⟨ts,h,clk⟩:=st
 obtain⟨P,o3,o4,o5,o6,o7,o8,o9,hPl,hPo,h0,h4,h6,hr,rfl⟩:=hst
 dsimp only at h0 h4 h6 hr
 generalize hip:pre.length=i at *
 have hKlen:Kk.length=n.kids:=by rw[hk,←hKs,List.length_map]
 have hNl:(Kk++G).length=n.kids + G.length:=by rw[List.length_append,hKlen]
 have hss:ss.length≤2 ^ 20:=by omega
 have hti:t[i]? =some n:=by
  rw[ht,List.getElem?_append_right (by omega),show i - pre.length=0 by omega]
  rfl
 have hilt:i < t.length:=by
  rw[List.getElem?_eq_some_iff] at hti
  exact hti.1
 obtain⟨hlen,kv,rv,hkv,hrv,hrow,helem,happ⟩:=j0s (t:=t) (gP:=gP) (gV:=gV) (g2:=g2) hB hr hN
 simp only[z7u] at hkv hrv helem happ⊢
 generalize h5:ts 5=r5 at *
 have e0:((i + 1:Nat):Int) - 1=(i:Int):=by omega
 rw[e0] at h6
 have e1:decide ((0:Int)≤(i:Int))=true:=by rw[decide_eq_true_iff];omega
 have e2:decide ((n.kids:Int) < 0)=false:=by rw[decide_eq_false_iff_not];omega
 have e3:decide (((Kk++G).length:Int) < (n.kids:Int))=false:=by rw[decide_eq_false_iff_not];omega
 have e4:IntKind.i64.wrap (((Kk++G).length:Int) - (n.kids:Int))=(G.length:Int):=by rw[z0d (by omega) (by omega)];omega
 have e5:IntKind.i64.wrap ((i:Int) + 1)=((i + 1:Nat):Int):=z0d (by omega) (by omega)
 have e6:IntKind.i64.wrap ((i:Int) - 1)=(i:Int) - 1:=z0d (by omega) (by omega)
 have h249:Pure Gam 216 [.agg [.int .i64 (n.op:Int), .int .i64 (n.sort:Int), .str n.name, .str n.num, .int .i64 (n.kids:Int)]] (.bool true):=v7y hn hV
 have h250:Pure Gam 217 [.int .i64 (n.op:Int), .int .i64 (n.kids:Int)] (.bool true):=v7z hn
 rw[z0l] at h0
 refine z3f ?_
 simp only[go_sem,q5c,h0,h4,h5,h6,hB,e1,z3a hti,e2,hlen,e3,z0a h249,z0a h250,Bool.not_true,e4,e5,hkv,w9n hrow]
 refine k1r (P:=P) hB hPl hPo hKd hd (by omega) hrow helem (by simp[z0b,h4]) (by simp[z0b]) (by simp[z0b]) (by simp[z0b]) ?_
 intro dep u o6 o7 clk' hd1 hd2
 have h252:∀ u,Pure Gam 218 [.agg [.int .i64 (n.op:Int), .int .i64 (n.sort:Int), .str n.name, .str n.num, .int .i64 (n.kids:Int)], .sl (ss.map nat) u] (.int .i64 (s:Int)):=fun u=>v8a hn hss
 have hs:=hn.pos hV
 have e7:decide ((s:Int)=0)=false:=by rw[decide_eq_false_iff_not];omega
 obtain⟨q,hq⟩:∃ q,P[i]? =some q:=⟨P[i],by simp[hPl,hilt]⟩
 have happ':=fun P o3 o4 o5 o6 o7 g8 gen=>happ ⟨s,1 + z9h Kk,dep⟩ P o3 o4 o5 o6 o7 g8 gen rfl
 have hPo':=PartsOk.node (s:=s) (dep:=dep) hPo (by omega)
 have hst:=fun L=>j6x (L:=L) (B:=B) (gP:=gP) (p:=⟨s,dep,i + 1 + z9h Kk⟩) hB hq
 simp only at hst
 simp only[nat] at happ'
 have fin:∀ (ts':Tmps) (P':List Pt) (o3 o4 o5 o6 o7 o8:AObj) (gen clk':Nat),P'=P.set i ⟨s,dep,i + 1 + z9h Kk⟩→ts' 0= .sl (t.map eNode) .no→ts' 4= .ptr (B + 2) g2 0 0→ts' 5= .ob (B + 9) gen 0 (G.length + 1)→ts' 6= .int .i64 ((i:Int) - 1)→
   K Gam B (.loop q5c) ks ⟨ts',z7u D B t gP gV g2 P' o3 o4 o5 o6 o7 o8 (.blk gen ((z4i i (⟨s,1 + z9h Kk,dep⟩::G)).reverse.map nat) true true 0),clk'⟩ Q:=by
  intro ts' P' o3 o4 o5 o6 o7 o8 gen clk' hP' q0 q4 q5 q6
  refine hQ _ dep hd2 ⟨P',_,_,_,_,_,_,_,by rw[hP',List.length_set];exact hPl, ?_,q0,q4,q6, .inr ⟨by simp,gen,q5,rfl⟩,rfl⟩
  rw[hP',Nat.add_assoc]
  exact hPo'
 by_cases h15:n.op=15
 ·obtain⟨m,r,hmr,hm3⟩:=hn.mul_num h15
  have ht1:t[i + 1]? =some m:=by
   rw[ht,List.getElem?_append_right (by omega),show i + 1 - pre.length=1 by omega,hmr]
   rfl
  have f1:decide ((n.op:Int)=15)=true:=by rw[decide_eq_true_iff];omega
  have f2:decide ((m.op:Int)=3)=true:=by rw[decide_eq_true_iff];omega
  simp only[go_sem,h0,h4,h5,h6,hB,hKs,z0a (h252 _),e7,f1,e5,z3a ht1,f2,Bool.not_true,q7r hB hq hPl,hst,hlen,e4,hrv,happ',e6]
  exact fin _ _ _ _ _ _ _ _ _ _ rfl (by simp[z0b,h0]) (by simp[z0b,h4]) (by simp[z0b]) (by simp[z0b])
 ·have f1:decide ((n.op:Int)=15)=false:=by rw[decide_eq_false_iff_not];omega
  simp only[go_sem,h0,h4,h5,h6,hB,hKs,z0a (h252 _),e7,f1,q7r hB hq hPl,hst,hlen,e4,hrv,happ',e6]
  exact fin _ _ _ _ _ _ _ _ _ _ rfl (by simp[z0b,h0]) (by simp[z0b,h4]) (by simp[z0b]) (by simp[z0b])
end
def RVG (x:Option (List AV)) (R:AV→List AObj→Prop) (h:List AObj):Prop:=
 match x with
 | some vs=>(z1k vs).obs=[]∧R (z1k vs).cv h
 | none=>False
def y8p (rs:List ARes) (R:AV→List AObj→Prop):Post:=fun e s=>(∀ i,e≠ .exit i)∧RVG (z1s s.h s.ts rs) R s.h
theorem k7h {rs:List ARes} {R:AV→List AObj→Prop} {ts:Tmps} {h:List AObj} {c:Nat}:y8p rs R .ret ⟨ts,h,c⟩=RVG (z1s h ts rs) R h:=by simp[y8p]
theorem q5h {vs:List AV} {R:AV→List AObj→Prop} {h:List AObj} (ho:(z1k vs).obs=[]):RVG (some vs) R h=R (z1k vs).cv h:=by simp[RVG,ho]
attribute [go_sem] k7h
theorem q9z {f:Nat} {args az:List AV} {h:List AObj} {clk:Nat} {af:AFun} {Q:AV→List AObj→Nat→Prop} (hext:Gam.ext f=none) (hfn:Gam.fn f=some af) (hb:af.byref=[]) (ho:af.owned=false) (hobs:z4k args=[]) (has:cvL args=az) (hids:idsL az=[])
  (hw:∀ (D:List AObj) (B:Nat) (R:AV→List AObj→Prop),D.length=B→B=h.length→(∀ v L',(∃ i∈v.ids,B≤i)→(∀ c,Q v (h++L') c)→R v (D++L'))→K Gam B af.body [] ⟨q0b az,D++List.replicate af.nslots .dead,clk⟩ (y8p af.results R)):WC Gam f args h clk Q:=by
 obtain⟨k,e,s,he,hne,hend⟩:=hw (maskFrom [] 0 h) h.length (fun v h'=>(∃ i∈v.ids,h.length≤i)∧∀ c,Q v (h++h'.drop h.length) c) (z4g) rfl (fun v L' hi hq=>⟨hi,by
  rw[List.drop_left' z4g]
  exact hq⟩)
 have hp:z1n h af.byref 0 args=some az:=by rw[hb,z1j hobs,has]
 have hl:z0s af.byref 0 args=[]:=by rw[hb];exact z4n hobs
 unfold RVG at hend
 split at hend
 ·rename_i vs hr
  obtain⟨hob,⟨i,hi1,hi2⟩,hq⟩:=hend
  have hc:=q5v (h:=s.h) hob
  refine⟨k,(z1k vs).cv,h++s.h.drop h.length,s.clk, ?_,hq _⟩
  have hall:((z1k vs).cv.ids.all fun x=>decide (x < h.length))=false:=by
   rw[List.all_eq_false]
   exact⟨i,hi1,by simp;omega⟩
  unfold z5b z0k
  simp only[hext,hfn,hp,hl,freezeAll,hids,reach,he,ho,Bool.false_eq_true,if_false,hr,hc,hob,z5y,List.map_nil,List.flatten_nil,List.append_nil,ite_self]
  cases e with
  | exit i=>exact absurd rfl (hne i)
  | norm=>simp[hall]
  | ret=>simp[hall]
 ·exact hend.elim
theorem z6f {f base gg clk:Nat} {args:List AV} {h:List AObj} {dst:Option Nat} {os:List AOper} {ts:Tmps} {ks:List Kf} {Q:Post} (hw:WC Gam f args h clk fun v h' c=>O Gam base .plain (gg + 1) os ⟨z9f ts dst v,h',c⟩ ks Q):CK Gam base f args h clk .plain dst gg os ts ks Q:=hw
section
variable {U:List Var} [UOk U]
theorem j0t {D:List AObj} {B:Nat} {t:Term} {gP gV g2:Nat} {V:List Var} {ks:List Kf} {Q:Post} (hB:D.length=B) (hV:∀ v∈V,v∈U) (htl:t.length≤2 ^ 19) {ss:List Nat} {d:Nat} {u:Term} (h:WF V ss d u):∀ {pre post:Term} {G:List Tr} {st:St},d≤1000→t=pre++(u++post)→G.length≤post.length→j3x D B t gP gV g2 (pre.length + u.length) G st→
  (∀ st' Fu,Fu.map (·.s)=ss→z9h Fu=u.length→Fu.length≤u.length→(∀ f∈Fu,f.dep≤d)→j3x D B t gP gV g2 pre.length (Fu++G) st'→K Gam B (.loop q5c) ks st' Q)→K Gam B (.loop q5c) ks st Q:=by
 induction h with
 | nil=>
   intro pre post G st _ _ _ hst hQ
   exact hQ st [] rfl rfl (by simp) (by simp) (by simpa using hst)
 | @cons n ss ks' s d ss' rest h1 h2 h3 h4 ih1 ih2=>
   intro pre post G st hd ht hG hst hQ
   have e1:t=(pre++n::ks')++(rest++post):=by rw[ht];simp
   refine ih2 (pre:=pre++n::ks') (post:=post) hd e1 hG (by
    have e:pre.length + (n::(ks'++rest)).length=(pre++n::ks').length + rest.length:=by simp;omega
    rw[←e]
    exact hst) fun st1 Fr hr1 hr2 hr2' hr3 hr4=> ?_
   have e2:t=(pre++[n])++(ks'++(rest++post)):=by rw[ht];simp
   have hlen:=congrArg List.length ht
   simp only[List.length_append,List.length_cons] at hlen
   refine ih1 (pre:=pre++[n]) (post:=rest++post) (G:=Fr++G) (by omega) e2 (by simp only[List.length_append];omega) (by
    have e:(pre++n::ks').length=(pre++[n]).length + ks'.length:=by simp;omega
    rw[←e]
    exact hr4) fun st2 Fk hk1 hk2 hk2' hk3 hk4=> ?_
   refine k1s (t:=t) (pre:=pre) (post:=rest++post) (Kk:=Fk) (G:=Fr++G) hB h2 hV h3 (by rw[ht];simp) hk1 hk3 (by omega) (by simp only[List.length_append];omega) (by omega) (by simpa using hk4) fun st3 dep hd3 hst3=> ?_
   refine hQ st3 (⟨s,1 + z9h Fk,dep⟩::Fr) (by simp[hr1]) ?_ ?_ ?_ (by simpa using hst3)
   ·rw[q5f,hk2,hr2];simp;omega
   ·simp only[List.length_cons,List.length_append];omega
   ·intro f hf
    rw[List.mem_cons] at hf
    rcases hf with rfl | hf
    ·exact hd3
    ·exact hr3 f hf
theorem y8q {V:List Var} {s d:Nat} {t:Term} {u:Tip} {h:List AObj} {clk:Nat} {Q:AV→List AObj→Nat→Prop} (ht:WF V [s] d t) (hV:∀ v∈V,v∈U) (hl:t.length≤20000) (hd:d≤1000)
  (hQ:∀ gP gV g2 P dep o3 o4 o5 o6 o7 o8 o9 c,P.length=t.length→P[0]? =some ⟨s,dep,t.length⟩→dep≤d→Q (.tup [.ptr (h.length + 1) gV 0 0, .bool true]) (z7u h h.length t gP gV g2 P o3 o4 o5 o6 o7 o8 o9) c):WC Gam 219 [.sl (t.map eNode) u] h clk Q:=by
 refine q9z rfl y7g rfl rfl rfl (az:=[z0l t]) rfl (by simp[idsL,z2q]) fun D B R hB hBh hR=> ?_
 have hms:∀ h s g,msV h s g (.agg [.int .i64 0, .int .i64 0, .int .i64 0]) 24 (.int .i64 (t.length:Int)) (.int .i64 (t.length:Int))=some (.ob s g 0 t.length,h.set s (.blk g (List.replicate t.length (.agg [.int .i64 0, .int .i64 0, .int .i64 0])) true false 0)):=fun h s g=>q4y rfl (by omega)
 have hrep:List.replicate t.length (AV.agg [.int .i64 0, .int .i64 0, .int .i64 0])=(List.replicate t.length (⟨0,0,0⟩:Pt)).map ePt:=by rw[List.map_replicate];rfl
 have e0:IntKind.i64.wrap ((t.length:Int) - 1)=(t.length:Int) - 1:=z0d (by omega) (by omega)
 simp only[go_sem,w8f,hB,z0l,List.length_map,hms,hrep,e0]
 refine j0t (pre:=[]) (post:=[]) (G:=[]) hB hV (by omega) ht hd (by simp) (by simp) ⟨List.replicate t.length ⟨0,0,0⟩,_,_,_,_,_,_,_,by simp,PartsOk.nil,by simp[z0b,z2w,z0l],by simp[z0b],by simp[z0b], .inl ⟨rfl,by simp[z0b]⟩,rfl⟩ ?_
 rintro ⟨ts,h',clk'⟩ Fu hF1 hF2 hF3 hF4 ⟨P,o3,o4,o5,o6,o7,o8,o9,hPl,hPo,h0,h4,h6,hr,rfl⟩
 dsimp only at h0 h4 h6 hr
 obtain⟨f,rfl⟩:∃ f,Fu=[f]:=by
  match Fu,hF1 with
  | [f],_=>exact⟨f,rfl⟩
 have hfs:f.s=s:=by simpa using hF1
 have hfl:f.len=t.length:=by simpa [z9h] using hF2
 rcases hr with ⟨hbad,_⟩ | ⟨_,g,h5,ho9⟩
 ·simp at hbad
 have hp0:=hPo 0 f (by simp)
 rw[hfs,hfl] at hp0
 have hp0':P[0]? =some ⟨s,f.dep,t.length⟩:=by simpa [z9h] using hp0
 have e1:decide ((0:Int)≤ -1)=false:=by decide
 have h6':ts 6= .int .i64 (-1):=by rw[h6];rfl
 refine z3f ?_
 simp only[go_sem,q5c,h6',e1,h4,h5,z7u,hB,z0l,decide_true]
 rw[q5h rfl]
 refine hR _ _ ⟨B + 1,by simp[z1k,AV.cv,cvL,AV.ids,idsL],by omega⟩ fun c=> ?_
 have:=fun gP gV g2=>hQ gP gV g2 P f.dep o3 o4 o5 o6 o7 o8 o9 c hPl hp0' (hF4 f (by simp))
 simp only[←hBh,z7u,z0l] at this
 exact this _ _ _
end
section
variable {U:List Var} [UOk U]
theorem WF.nodes {V:List Var} {ss:List Nat} {d:Nat} {t:Term} (h:WF V ss d t):∀ n∈t,∃ ss' s' ks,NodeOk V n ss' s' ks:=by
 induction h with
 | nil=>simp
 | cons h1 h2 h3 h4 ih1 ih2=>
   intro n hn
   rw[List.mem_cons,List.mem_append] at hn
   rcases hn with rfl | hn | hn
   ·exact⟨_,_,_,h2⟩
   ·exact ih1 n hn
   ·exact ih2 n hn
theorem NodeOk.name {V:List Var} {n:Node} {ss:List Nat} {s:Nat} {ks:Term} (hn:NodeOk V n ss s ks):n.op≠5∧(n.op=4→∃ v∈V,n.name=v.name∧n.sort=v.sort):=by
 cases hn with
 | var h=>exact⟨by simp,fun _=>⟨_,h,rfl,rfl⟩⟩
 | bool h=>exact⟨by simp[bare];omega,fun e=>by simp[bare] at e;omega⟩
 | andor h=>exact⟨by simp[bare];omega,fun e=>by simp[bare] at e;omega⟩
 | cmp h hs=>exact⟨by simp[bare];omega,fun e=>by simp[bare] at e;omega⟩
 | div h _ _=>exact⟨by simp;omega,fun e=>by simp at e;omega⟩
 | _=>exact⟨by simp[bare],fun e=>by simp[bare] at e⟩
def x0a (V:List Var) (t:Term):Prop:=∀ n∈t,n.op≠5∧(n.op=4→∃ v∈V,n.name=v.name∧n.sort=v.sort)
theorem WF.names {V:List Var} {ss:List Nat} {d:Nat} {t:Term} (h:WF V ss d t):x0a V t:=fun n hn=>by
 obtain⟨_,_,_,h⟩:=h.nodes n hn
 exact h.name
def z2y:Term→List Var→List Var
 | [],acc=>acc
 | n::t,acc=>if n.op=4∧(⟨n.name,n.sort⟩:Var)∉acc then z2y t (acc++[⟨n.name,n.sort⟩]) else z2y t acc
theorem q0p {V:List Var}:∀ {t:Term} {acc:List Var},x0a V t→(∀ v∈acc,v∈V)→∀ v∈z2y t acc,v∈V
 | [],acc,_,ha,v,hv=>ha v hv
 | n::t,acc,hn,ha,v,hv=>by
   have ht:x0a V t:=fun m hm=>hn m (List.mem_cons_of_mem _ hm)
   simp only[z2y] at hv
   split at hv
   ·rename_i hc
    refine q0p ht (fun w hw=> ?_) v hv
    rw[List.mem_append,List.mem_singleton] at hw
    rcases hw with hw | rfl
    ·exact ha w hw
    ·obtain⟨v',hv',e1,e2⟩:=(hn n List.mem_cons_self).2 hc.1
     rw[e1,e2]
     exact hv'
   ·exact q0p ht ha v hv
theorem x4v {t u:Term} {acc:List Var}:z2y (t++u) acc=z2y u (z2y t acc):=by
 induction t generalizing acc with
 | nil=>rfl
 | cons n t ih=>
   simp only[List.cons_append,z2y]
   split
   ·exact ih
   ·exact ih
theorem q0q:∀ {t:Term} {acc:List Var},(z2y t acc).length≤acc.length + t.length
 | [],acc=>Nat.le_refl _
 | n::t,acc=>by
   simp only[z2y,List.length_cons]
   split
   ·have:=q0q (t:=t) (acc:=acc++[⟨n.name,n.sort⟩])
    simp at this
    omega
   ·have:=q0q (t:=t) (acc:=acc)
    omega
theorem x4w {v w:Var} (hv:v∈U) (hw:w∈U) (h:v.name=w.name):v=w:=UOk.inj v hv w hw h
def q2e (acc:List Var):List (AV×AV):=acc.map fun v=>(.str v.name,z1b v)
theorem q7c {v:Var} (hv:v∈U):∀ {acc:List Var},(∀ w∈acc,w∈U)→findKey (.one .str) (.str v.name) (q2e acc)=some (if v∈acc then some (z1b v) else none)
 | [],_=>rfl
 | w::acc,ha=>by
   have ih:=q7c hv (acc:=acc) fun x hx=>ha x (List.mem_cons_of_mem _ hx)
   unfold q2e at ih⊢
   simp only[List.map_cons,findKey,AV.eqv,AV.eq1]
   by_cases h:v=w
   ·subst h
    simp
   ·have hne:decide (v.name=w.name)=false:=decide_eq_false fun e=>h (x4w hv (ha w List.mem_cons_self) e)
    simp only[hne,ih,List.mem_cons,h,false_or]
theorem x0b {v:Var} (hv:v∈U):∀ {acc:List Var},(∀ w∈acc,w∈U)→v∉acc→z7o (.one .str) (.str v.name) (z1b v) (q2e acc)=some (q2e (acc++[v]))
 | [],_,_=>rfl
 | w::acc,ha,hn=>by
   rw[List.mem_cons,not_or] at hn
   have ih:=x0b hv (acc:=acc) (fun x hx=>ha x (List.mem_cons_of_mem _ hx)) hn.2
   have hne:decide (v.name=w.name)=false:=decide_eq_false fun e=>hn.1 (x4w hv (ha w List.mem_cons_self) e)
   unfold q2e at ih⊢
   simp only[List.map_cons,List.cons_append,z7o,AV.eqv,AV.eq1,hne,ih,Option.map_some]
theorem x0c {h:List AObj} {z:AV} {es:List (AV×AV)} {s:List Nat} {r:Option AV} (hf:findKey (.one .str) (.str s) es=some r):lkV h (.one .str) z true (some es) (.str s)=some (q7f true z r,h):=by
 have:((AV.str s).eqv (.one .str) (.str s)).isSome=true:=by simp[AV.eqv,AV.eq1]
 simp only[lkV,this,if_true,hf,Option.map_some]
theorem v8b {h:List AObj} {z:AV} {es:List (AV×AV)} {s:List Nat} {r:Option AV} (hf:findKey (.one .str) (.str s) es=some r):lkV h (.one .str) z false (some es) (.str s)=some (q7f false z r,h):=by
 have:((AV.str s).eqv (.one .str) (.str s)).isSome=true:=by simp[AV.eqv,AV.eq1]
 simp only[lkV,this,if_true,hf,Option.map_some]
theorem x3b {z v:AV}:q7f true z (some v)= .tup [v, .bool true]:=(rfl)
theorem q0r {z:AV}:q7f true z none= .tup [z, .bool false]:=(rfl)
theorem z9c {z v:AV}:q7f false z (some v)=v:=(rfl)
theorem z5k {z:AV}:q7f false z none=z:=(rfl)
theorem z3u {h:List AObj} {s g:Nat}:x5p h (.mp s g)=z5m h s g:=(rfl)
theorem x7x {D L:List AObj} {B k g:Nat} {es es':List (AV×AV)} {s:List Nat} {v:AV} (hB:D.length=B) (hm:z5m L k g=some es) (ho:v.obs=[]) (hp:z7o (.one .str) (.str s) v.cv es=some es'):muV (D++L) (.one .str) (.str s) v (.mp (B + k) g)=some (.undef,D++L.set k (.map g es')):=by
 have hpub:pub (D++L) v=some (v.cv,D++L):=by simp only[pub,q5v ho,Option.map_some,ho,freezeAll]
 have:((AV.str s).eqv (.one .str) (.str s)).isSome=true:=by simp[AV.eqv,AV.eq1]
 simp only[muV,x4d hB,hm,hpub,this,if_true,hp,Option.map_some,z5i hB]
end
section
variable {U:List Var} [UOk U]
def q6e (gV:Nat) (t:Term) (sP gP:Nat):AObj:= .blk gV [.agg [z0l t, .ob sP gP 0 t.length]] false false 0
def j3y (gP:Nat) (P:List Pt):AObj:= .blk gP (P.map ePt) true false 0
def x1h (s sP gV gP:Nat) (t:Term) (P:List Pt):List (Nat×AObj):=[(s,q6e gV t sP gP),(sP,j3y gP P)]
theorem j3z {s sP gV gP:Nat} {t:Term} {P:List Pt}:Cov (x1h s sP gV gP t P) [s]:=by
 refine Cov.two ?_ ?_
 ·simp[q6e,AObj.ids,idsL,AV.ids,z2q]
 ·simp[j3y,AObj.ids,z0c (f:=ePt) fun _=>rfl]
theorem k7i {s sP gV gP:Nat} {t:Term} {P:List Pt} {p:Pt} (hl:t.length≤20000) (hP:P[0]? =some p) (hd:p.depth≤257) (hPl:P.length=t.length):Reads (x1h s sP gV gP t P) 221 [.ptr s gV 0 0] (.bool false):=by
 refine Reads.of rfl y7h rfl rfl rfl rfl j3z fun D B clk T hB hS hlt hT=> ?_
 have h1:=hlt (s,q6e gV t sP gP) (by simp[x1h])
 have h2:=hlt (sP,j3y gP P) (by simp[x1h])
 have b1:=z5z (g:=gV) (hS (s,q6e gV t sP gP) (by simp[x1h]))
 have b2:=z5z (g:=gP) (hS (sP,j3y gP P) (by simp[x1h]))
 dsimp only at h1 h2 b1 b2
 have hpos:0 < t.length:=by
  rw[←hPl]
  rw[List.getElem?_eq_some_iff] at hP
  exact hP.1
 have hg:(P.map ePt)[0]? =some (.agg [.int .i64 (p.sort:Int), .int .i64 (p.depth:Int), .int .i64 (p.fin:Int)]):=x4u hP
 have hix:∀ L,z1m (D++L) 3 (.ob sP gP 0 t.length) (.int .i64 0)=some (.ptr sP gP 0 0,D++L):=fun L=>by
  have:z2a (D++L) sP gP=some (P.map ePt,true,false,0):=by rw[z4e hB h2,b2]
  simp only[z1m,Int.le_refl,if_true,this,Int.toNat_zero,Nat.add_zero,hg]
  rw[if_pos ⟨hpos,rfl⟩]
 have e1:decide ((20000:Int) < (t.length:Int))=false:=by rw[decide_eq_false_iff_not];omega
 have e2:decide ((257:Int) < (p.depth:Int))=false:=by rw[decide_eq_false_iff_not];omega
 simp only[go_sem,w8g,z4e hB h1,b1,z4e hB h2,b2,z0l,List.length_map,e1,hix,hg,e2]
 rw[z0e]
 exact hT _ hS.app
theorem x4x {s sP gV gP:Nat} {t:Term} {P:List Pt} {V:List Var} (hl:t.length≤20000) (hn:x0a V t) (hV:∀ v∈V,v∈U):Reads (x1h s sP gV gP t P) 220 [.ptr s gV 0 0] (.tup [.sl ((z2y t []).map z1b) .no, .sl [] .no, .bool true]):=by
 refine Reads.of rfl y7f rfl rfl rfl rfl j3z fun D B clk T hB hS hlt hT=> ?_
 have h1:=hlt (s,q6e gV t sP gP) (by simp[x1h])
 have b1:=z5z (g:=gV) (hS (s,q6e gV t sP gP) (by simp[x1h]))
 dsimp only at h1 b1
 simp only[go_sem,w8e,hB,z4e hB h1,b1,z0l,List.length_map]
 refine z0y (fun m q=>∃ (i:Nat) (u:Tip) (g0 g1:Nat) (o2 o3 o4 o5 o6 o7 o8 o9 o10 o11:AObj),i≤t.length∧m=t.length - i∧q.ts 5= .mp (B + 0) g0∧q.ts 6= .mp (B + 1) g1∧q.ts 7= .sl ((z2y (t.take i) []).map z1b) u∧q.ts 8= .sl [] .nil∧q.ts 25= .sl (t.map eNode) .no∧q.ts 26= .int .i64 (t.length:Int)∧q.ts 27= .int .i64 (i:Int)∧q.h=D++[.map g0 (q2e (z2y (t.take i) [])), .map g1 [],o2,o3,o4,o5,o6,o7,o8,o9,o10,o11]∧z8k B 5 o5 u 2) t.length ⟨0, .nil,_,_,_,_,_,_,_,_,_,_,_,_,by omega,rfl,rfl,rfl,rfl,rfl,rfl,rfl,rfl,rfl, .inl rfl⟩ ?_
 rintro m ⟨ts,h,clk⟩ Pq ⟨i,u,g0,g1,o2,o3,o4,o5,o6,o7,o8,o9,o10,o11,hi,rfl,q5,q6,q7,q8,q25,q26,q27,rfl,hu⟩ hnx he hr
 dsimp only at q5 q6 q7 q8 q25 q26 q27
 have hacc:∀ v∈z2y (t.take i) [],v∈V:=q0p (fun n hn'=>hn n (List.mem_of_mem_take hn')) (by simp)
 by_cases hlt':i < t.length
 ·have e1:decide ((i:Int) < (t.length:Int))=true:=by rw[decide_eq_true_iff];omega
  have e2:IntKind.i64.wrap ((i:Int) + 1)=((i + 1:Nat):Int):=z0d (by omega) (by omega)
  have hti:t[i]? =some t[i]:=by simp[hlt']
  obtain⟨hn5,hn4⟩:=hn _ (List.getElem_mem hlt')
  have htake:t.take (i + 1)=t.take i++[t[i]]:=List.take_succ_eq_append_getElem hlt'
  generalize t[i]=n at hti hn5 hn4 htake
  have hvo:z2y (t.take (i + 1)) []=if n.op=4∧(⟨n.name,n.sort⟩:Var)∉z2y (t.take i) [] then z2y (t.take i) []++[⟨n.name,n.sort⟩] else z2y (t.take i) []:=by
   rw[htake,x4v]
   simp only[z2y]
  by_cases h4:n.op=4
  ·obtain⟨v,hv,e3,e4⟩:=hn4 h4
   have hfk:=q7c (hV v hv) (acc:=z2y (t.take i) []) fun w hw=>hV w (hacc w hw)
   have hf0:findKey (.one .str) (.str v.name) []=some none:=rfl
   have f4:decide ((n.op:Int)=4)=true:=by rw[decide_eq_true_iff];omega
   have hve:(⟨n.name,n.sort⟩:Var)=v:=by rw[e3,e4]
   rw[hve] at hvo
   by_cases hin:v∈z2y (t.take i) []
   ·rw[if_pos hin] at hfk
    rw[if_neg (fun hc=>hc.2 hin)] at hvo
    simp only[go_sem,x2s,q5,q6,q7,q8,q25,q26,q27,hB,e1,z3a hti,f4,e3,e4,z3u,x0c hfk,x0c hf0,x3b,q0r,z1b,nat,Bool.not_true,decide_true,e2]
    rw[←hvo] at q7⊢
    exact hnx (t.length - (i + 1)) _ (by omega) ⟨i + 1,u,g0,g1,_,_,_,_,_,_,_,_,_,_,hlt',rfl,q5,q6,q7,q8,q25,q26,rfl,rfl,hu⟩
   ·rw[if_neg hin] at hfk
    rw[if_pos ⟨h4,hin⟩] at hvo
    have hput:=x0b (hV v hv) (acc:=z2y (t.take i) []) (fun w hw=>hV w (hacc w hw)) hin
    have hmu:∀ L:List AObj,z5m L 0 g0=some (q2e (z2y (t.take i) []))→muV (D++L) (.one .str) (.str v.name) (.agg [.str v.name, .int .i64 (v.sort:Int)]) (.mp (B + 0) g0)=some (.undef,D++L.set 0 (.map g0 (q2e (z2y (t.take i) []++[v])))):=fun L hL=>x7x (v:=z1b v) hB hL rfl hput
    have hlen:(z2y (t.take i) []).length≤20000:=by
     have:=q0q (t:=t.take i) (acc:=[])
     rw[List.length_take] at this
     simp only[List.length_nil] at this
     omega
    simp only[go_sem,x2s,q5,q6,q7,q8,q25,q26,q27,hB,e1,z3a hti,f4,e3,e4,z3u,x0c hfk,q0r,Bool.not_false,hmu]
    have e8:(z2y (t.take i) []).map z1b++[AV.agg [AV.str v.name,AV.int .i64 (v.sort:Int)]]=(z2y (t.take (i + 1)) []).map z1b:=by rw[hvo,List.map_append];rfl
    rw[show [AV.agg [AV.str v.name,AV.int .i64 (v.sort:Int)]]=[v].map z1b from rfl,z0j hB rfl hu z2e z2e (by simp only[List.length_map,List.length_singleton];omega)]
    simp only[go_sem,q5,q6,q7,q8,q25,q26,q27,hB,z3u,x0c hf0,q0r,decide_true,Bool.not_true,e2,z1b,nat,e8,←hvo]
    exact hnx (t.length - (i + 1)) _ (by omega) ⟨i + 1,_,g0,g1,_,_,_,_,_,_,_,_,_,_,hlt',rfl,q5,q6,rfl,q8,q25,q26,rfl,rfl, .inr (.inr ⟨_,rfl,rfl⟩)⟩
  ·rw[if_neg (fun hc=>h4 hc.1)] at hvo
   have f4:decide ((n.op:Int)=4)=false:=by rw[decide_eq_false_iff_not];omega
   have f5:decide ((n.op:Int)=5)=false:=by rw[decide_eq_false_iff_not];omega
   simp only[go_sem,x2s,q5,q6,q7,q8,q25,q26,q27,hB,e1,z3a hti,f4,f5,e2]
   rw[←hvo] at q7⊢
   exact hnx (t.length - (i + 1)) _ (by omega) ⟨i + 1,u,g0,g1,_,_,_,_,_,_,_,_,_,_,hlt',rfl,q5,q6,q7,q8,q25,q26,rfl,rfl,hu⟩
 ·have e1:decide ((i:Int) < (t.length:Int))=false:=by rw[decide_eq_false_iff_not];omega
  have hti:t.take i=t:=List.take_of_length_le (by omega)
  rw[hti] at q7
  simp only[go_sem,x2s,q5,q6,q7,q8,q25,q26,q27,hB,e1]
  refine he _ _ ?_
  simp only[go_sem,q7,q8]
  rw[z0h rfl (by simp[z1k,AV.cv,cvL,AV.ids,idsL,z0c (f:=z1b) fun _=>rfl])]
  exact hT _ hS.app
end
section
variable {U:List Var} [UOk U]
theorem x4y {D:List AObj} {B:Nat} {t:Term} {gP gV g2:Nat} {P:List Pt} {o3 o4 o5 o6 o7 o8 o9:AObj} (hB:D.length=B):Has (x1h (B + 1) (B + 0) gV gP t P) (z7u D B t gP gV g2 P o3 o4 o5 o6 o7 o8 o9):=by
 refine Has.cons ?_ (Has.cons ?_ Has.nil)
 ·simp only[z7u,z6k hB];rfl
 ·simp only[z7u,z6k hB];rfl
theorem WF.pos {V:List Var} {s d:Nat} {t:Term} (h:WF V [s] d t):0 < t.length:=by
 cases h with
 | cons=>simp
theorem v8c {V:List Var} {s d:Nat} {t:Term} {u:Tip} {h:List AObj} {clk:Nat} {Q:AV→List AObj→Nat→Prop} (ht:WF V [s] d t) (hV:∀ v∈V,v∈U) (hl:t.length≤20000) (hd:d≤257)
  (hQ:∀ gP gV g2 P dep o3 o4 o5 o6 o7 o8 o9 c,P.length=t.length→P[0]? =some ⟨s,dep,t.length⟩→dep≤d→Q (.tup [.ptr (h.length + 1) gV 0 0, .bool true]) (z7u h h.length t gP gV g2 P o3 o4 o5 o6 o7 o8 o9) c):WC Gam 249 [.sl (t.map eNode) u] h clk Q:=by
 refine q9z rfl y7e rfl rfl rfl (az:=[.sl (t.map eNode) .no]) rfl (by simp[idsL,AV.ids,z0c z1y]) fun D B R hB hBh hR=> ?_
 have hpos:=ht.pos
 have e1:decide ((t.length:Int)=0)=false:=by rw[decide_eq_false_iff_not];omega
 have e2:decide ((20000:Int) < (t.length:Int))=false:=by rw[decide_eq_false_iff_not];omega
 simp only[go_sem,w8d,hB,List.length_map,e1,e2,List.append_nil]
 refine z6f (y8q ht hV hl (by omega) fun gP gV g2 P dep o3 o4 o5 o6 o7 o8 o9 c hPl hp hdep=> ?_)
 rw[hB]
 have r1:=k7i (s:=B + 1) (sP:=B + 0) (gV:=gV) (gP:=gP) hl hp (by dsimp only;omega) hPl
 have r2:=x4x (s:=B + 1) (sP:=B + 0) (gV:=gV) (gP:=gP) (P:=P) hl ht.names hV
 have hh:=x4y (t:=t) (gP:=gP) (gV:=gV) (g2:=g2) (P:=P) (o3:=o3) (o4:=o4) (o5:=o5) (o6:=o6) (o7:=o7) (o8:=o8) (o9:=o9) hB
 simp only[go_sem,Bool.not_true,z0w r1 hh,z0w r2 hh]
 rw[q5h rfl]
 have:=fun gP gV g2 c=>hQ gP gV g2 P dep o3 o4 o5 o6 o7 o8 o9 c hPl hp hdep
 simp only[←hBh] at this
 exact hR _ _ ⟨B + 1,by simp[z1k,AV.cv,cvL,AV.ids,idsL],by omega⟩ fun c=>this _ _ _ c
theorem k1t {V:List Var} {s d:Nat} {t:Term} {u:Tip} (ht:WF V [s] d t) (hV:∀ v∈V,v∈U) (hl:t.length≤20000) (hd:d≤257):Pure Gam 180 [.sl (t.map eNode) u] (nat s):=by
 refine Pure.of rfl y7b rfl rfl rfl (az:=[.sl (t.map eNode) .no]) rfl (by simp[idsL,AV.ids,z0c z1y]) fun D B clk T hB hT=> ?_
 simp only[go_sem,w8a,List.append_nil]
 refine z6f (v8c ht hV hl hd fun gP gV g2 P dep o3 o4 o5 o6 o7 o8 o9 c hPl hp hdep=> ?_)
 rw[hB]
 have hix:∀ L,z1m (D++ .blk gP (P.map ePt) true false 0::L) 3 (.ob (B + 0) gP 0 t.length) (.int .i64 0)=some (.ptr (B + 0) gP 0 0,D++ .blk gP (P.map ePt) true false 0::L):=fun L=>q7r (i:=0) hB hp hPl
 simp only[go_sem,Bool.not_true,z7u,hB,hix,x4u hp]
 rw[z2m]
 exact hT _
theorem k1u {V:List Var} {s d:Nat} {t:Term} {u:Tip} (ht:WF V [s] d t) (hV:∀ v∈V,v∈U) (hl:t.length≤20000) (hd:d≤257):Pure Gam 181 [.sl (t.map eNode) u] (.sl [] .no):=by
 refine Pure.of rfl y7c rfl rfl rfl (az:=[.sl (t.map eNode) .no]) rfl (by simp[idsL,AV.ids,z0c z1y]) fun D B clk T hB hT=> ?_
 simp only[go_sem,w8b,List.append_nil]
 refine z6f (v8c ht hV hl hd fun gP gV g2 P dep o3 o4 o5 o6 o7 o8 o9 c hPl hp hdep=> ?_)
 rw[hB]
 have r2:=x4x (s:=B + 1) (sP:=B + 0) (gV:=gV) (gP:=gP) (P:=P) hl ht.names hV
 have hh:=x4y (t:=t) (gP:=gP) (gV:=gV) (g2:=g2) (P:=P) (o3:=o3) (o4:=o4) (o5:=o5) (o6:=o6) (o7:=o7) (o8:=o8) (o9:=o9) hB
 simp only[go_sem,Bool.not_true,z0w r2 hh]
 rw[z0h rfl rfl]
 exact hT _
theorem k1v {V:List Var} {s d:Nat} {t:Term} {u:Tip} (ht:WF V [s] d t) (hV:∀ v∈V,v∈U) (hl:t.length≤20000) (hd:d≤257):Pure Gam 183 [.sl (t.map eNode) u] (.sl ((z2y t []).map z1b) .no):=by
 refine Pure.of rfl y7d rfl rfl rfl (az:=[.sl (t.map eNode) .no]) rfl (by simp[idsL,AV.ids,z0c z1y]) fun D B clk T hB hT=> ?_
 simp only[go_sem,w8c,List.append_nil]
 refine z6f (v8c ht hV hl hd fun gP gV g2 P dep o3 o4 o5 o6 o7 o8 o9 c hPl hp hdep=> ?_)
 rw[hB]
 have r2:=x4x (s:=B + 1) (sP:=B + 0) (gV:=gV) (gP:=gP) (P:=P) hl ht.names hV
 have hh:=x4y (t:=t) (gP:=gP) (gV:=gV) (g2:=g2) (P:=P) (o3:=o3) (o4:=o4) (o5:=o5) (o6:=o6) (o7:=o7) (o8:=o8) (o9:=o9) hB
 simp only[go_sem,Bool.not_true,z0w r2 hh]
 rw[z2x rfl (by simp[AV.cv,AV.ids,z0c (f:=z1b) fun _=>rfl])]
 exact hT _
end
section
variable {U:List Var} [UOk U]
theorem k1w {D:List AObj} {s g:Nat} {es:List (AV×AV)} (h:D[s]? =some (.map g es)):z5m D s g=some es:=by simp[z5m,h]
theorem x4z {D L:List AObj} {B s g:Nat} (hB:D.length=B) (h:s < B):z5m (D++L) s g=z5m D s g:=by
 unfold z5m
 rw[z0u hB h]
def z1l (V:List Var):List (AV×AV):=V.map fun v=>(z1b v, .bool true)
theorem x5a {v w:Var}:(z1b v).eqv (.agg [.str, .int]) (z1b w)=some (decide (v=w)):=by
 have:(decide (v.name=w.name) && (decide ((v.sort:Int)=(w.sort:Int)) && true))=decide (v=w):=by
  rw[Bool.and_true,Bool.eq_iff_iff]
  simp only[Bool.and_eq_true,decide_eq_true_iff]
  constructor
  ·rintro ⟨h1,h2⟩
   cases v;cases w
   simp only[Var.mk.injEq] at h1 h2⊢
   exact⟨h1,by omega⟩
  ·rintro rfl
   exact⟨rfl,rfl⟩
 rw[←this]
 rfl
theorem x0d {v:Var}:∀ {V:List Var},findKey (.agg [.str, .int]) (z1b v) (z1l V)=some (if v∈V then some (.bool true) else none)
 | []=>rfl
 | w::V=>by
   have ih:=x0d (v:=v) (V:=V)
   unfold z1l at ih⊢
   simp only[List.map_cons,findKey,x5a]
   by_cases h:v=w
   ·subst h
    simp
   ·simp only[h,decide_false,ih,List.mem_cons,false_or]
theorem x3c {v:Var}:∀ {V:List Var},v∉V→z7o (.agg [.str, .int]) (z1b v) (.bool true) (z1l V)=some (z1l (V++[v]))
 | [],_=>rfl
 | w::V,hn=>by
   rw[List.mem_cons,not_or] at hn
   have ih:=x3c (v:=v) (V:=V) hn.2
   unfold z1l at ih⊢
   simp only[List.map_cons,List.cons_append,z7o,x5a,hn.1,decide_false,ih,Option.map_some]
theorem q2f {g:Nat} {V:List Var}:(AObj.map g (z1l V)).ids=[]:=by
 simp only[AObj.ids,z1l,List.map_map,List.append_eq_nil_iff]
 constructor
 ·have:(Prod.fst∘fun v:Var=>(z1b v,AV.bool true))=z1b:=rfl
  rw[this]
  exact z0c fun _=>rfl
 ·exact z0c (f:=Prod.snd∘fun v:Var=>(z1b v,AV.bool true)) fun _=>rfl
theorem v1g {h:List AObj} {z:AV} {v:Var} {V:List Var}:lkV h (.agg [.str, .int]) z false (some (z1l V)) (.agg [.str v.name, .int .i64 (v.sort:Int)])=some (q7f false z (if v∈V then some (.bool true) else none),h):=by
 have h1:((z1b v).eqv (.agg [.str, .int]) (z1b v)).isSome=true:=by rw[x5a];rfl
 have h2:=x0d (v:=v) (V:=V)
 rw[show z1b v= .agg [.str v.name, .int .i64 (v.sort:Int)] from rfl] at h1 h2
 simp only[lkV,h1,if_true,h2,Option.map_some]
theorem k7j {s g sX gX:Nat} {v:Var} {V:List Var}:Reads [(s, .blk g [.mp sX gX] false false 0),(sX, .map gX (z1l V))] 320 [z1b v, .ptr s g 0 0] (.bool (!decide (v∈V))):=by
 refine Reads.of rfl y8l rfl rfl rfl (az:=[z1b v, .ptr s g 0 0]) rfl (Cov.two rfl q2f) fun D B clk T hB hS hlt hT=> ?_
 have h1:=hlt (s, .blk g [.mp sX gX] false false 0) (by simp)
 have h2:=hlt (sX, .map gX (z1l V)) (by simp)
 have b1:=z5z (g:=g) (hS (s, .blk g [.mp sX gX] false false 0) (by simp))
 have b2:=k1w (g:=gX) (hS (sX, .map gX (z1l V)) (by simp))
 dsimp only at h1 h2 b1 b2
 by_cases hin:v∈V
 ·simp only[go_sem,v7w,hB,z1b,nat,z4e hB h1,b1,z3u,x4z hB h2,b2,v1g,hin,z9c,Bool.not_true]
  rw[z0e]
  simp only[hin,decide_true,Bool.not_true] at hT
  exact hT _ hS.app
 ·simp only[go_sem,v7w,hB,z1b,nat,z4e hB h1,b1,z3u,x4z hB h2,b2,v1g,hin,z5k,Bool.not_false]
  rw[z0e]
  simp only[hin,decide_false,Bool.not_false] at hT
  exact hT _ hS.app
theorem Cov.mp1 {s g:Nat} {es:List (AV×AV)} (h:(AObj.map g es).ids=[]):Cov [(s, .map g es)] [s]:=Cov.one h
theorem j4a {sX gX s d:Nat} {V:List Var} {t:Term} {u:Tip} (ht:WF V [s] d t) (hV:∀ v∈V,v∈U) (hl:t.length≤20000) (hd:d≤257):Reads [(sX, .map gX (z1l V))] 266 [.mp sX gX, .sl (t.map eNode) u,nat s] (.bool true):=by
 refine Reads.of rfl y8i rfl rfl rfl (az:=[.mp sX gX, .sl (t.map eNode) .no,nat s]) rfl (by simpa [idsL,AV.ids,z0c z1y,nat] using Cov.mp1 q2f) fun D B clk T hB hS hlt hT=> ?_
 have h2:=hlt (sX, .map gX (z1l V)) (by simp)
 have p1:=k1t (u:= .no) ht hV hl hd
 have p2:=k1u (u:= .no) ht hV hl hd
 have p3:=k1v (u:= .no) ht hV hl hd
 rw[nat] at p1
 have hvl:(z2y t []).length≤2 ^ 20:=by
  have:=q0q (t:=t) (acc:=[])
  simp only[List.length_nil] at this
  omega
 have hr:∀ g,Reads [(B + 0, .blk g [.mp sX gX] false false 0),(sX, .map gX (z1l V))] 182 [.sl ((z2y t []).map z1b) .no, .fn 320 [.ptr (B + 0) g 0 0]] (.bool ((z2y t []).any fun v=> !decide (v∈V))):=fun g=>
  j3w (enc:=z1b) (P:=fun v=> !decide (v∈V)) (fun _=>rfl) (fun _ _=>rfl) (fun _=>rfl) hvl (by simpa [idsL,AV.ids] using Cov.two (s:=B + 0) (t:=sX) rfl q2f) fun v _=>k7j
 have e:((z2y t []).any fun v=> !decide (v∈V))=false:=by
  rw[List.any_eq_false]
  intro v hv
  have:=q0p ht.names (acc:=[]) (by simp) v hv
  simp[this]
 rw[e] at hr
 have hh:∀ g,Has [(B + 0, .blk g [.mp sX gX] false false 0),(sX, .map gX (z1l V))] (D++[.blk g [.mp sX gX] false false 0]):=fun g=>by
  refine Has.cons ?_ (Has.cons ?_ Has.nil)
  ·dsimp only;rw[z6k hB];rfl
  ·have:=hS.app (L:=[.blk g [.mp sX gX] false false 0]) (sX, .map gX (z1l V)) (by simp)
   exact this
 simp only[go_sem,w9j,hB,nat,z0a p1,decide_true,Bool.not_true,z0a p2,Int.reduceLT,decide_false,z0a p3]
 rw[z0w (hr _) (hh _)]
 simp only[go_sem,Bool.not_false]
 rw[z0e]
 exact hT _ hS.app
end
theorem k1x {s:Nat} (h1:1≤s) (h4:s≤4):Pure Gam 261 [nat s] (.bool true):=by
 refine Pure.of rfl y8m rfl rfl rfl rfl rfl fun D B clk T hB hT=> ?_
 have e1:decide ((1:Int)≤(s:Int))=true:=by rw[decide_eq_true_iff];omega
 have e2:decide ((s:Int)≤4)=true:=by rw[decide_eq_true_iff];omega
 simp only[go_sem,w9m,nat,e1,e2]
 rw[z0e]
 exact hT _
def z4f:Nat→List Func→List (AV×AV)
 | _,[]=>[]
 | k,p::ps=>(.str p.name, .int .i64 (k:Int))::z4f (k + 1) ps
theorem j0u {k:Nat} {ps:List Func}:(z4f k ps).length=ps.length:=by
 induction ps generalizing k with
 | nil=>rfl
 | cons p ps ih=>simp[z4f,ih]
theorem k7k {g k:Nat} {ps:List Func}:(AObj.map g (z4f k ps)).ids=[]:=by
 simp only[AObj.ids,List.append_eq_nil_iff]
 induction ps generalizing k with
 | nil=>exact⟨rfl,rfl⟩
 | cons p ps ih=>exact⟨by simpa [z4f,idsL,AV.ids] using (ih (k:=k + 1)).1,by simpa [z4f,idsL,AV.ids] using (ih (k:=k + 1)).2⟩
theorem q2g {a:List Nat}:∀ {ps:List Func} {k:Nat},(∀ p∈ps,p.name≠a)→findKey (.one .str) (.str a) (z4f k ps)=some none
 | [],_,_=>rfl
 | p::ps,k,h=>by
   have hne:decide (a=p.name)=false:=decide_eq_false fun e=>h p List.mem_cons_self e.symm
   simp only[z4f,findKey,AV.eqv,AV.eq1,hne]
   exact q2g fun q hq=>h q (List.mem_cons_of_mem _ hq)
theorem q2h:∀ {ps:List Func} {k j:Nat} {f:Func},(ps.map (·.name)).Nodup→ps[j]? =some f→findKey (.one .str) (.str f.name) (z4f k ps)=some (some (.int .i64 ((k + j:Nat):Int)))
 | [],_,_,_,_,h=>by simp at h
 | p::ps,k,0,f,_,h=>by
   simp at h
   subst h
   simp[z4f,findKey,AV.eqv,AV.eq1]
 | p::ps,k,j + 1,f,hn,h=>by
   rw[List.map_cons,List.nodup_cons] at hn
   simp only[List.getElem?_cons_succ] at h
   have hne:decide (f.name=p.name)=false:=decide_eq_false fun e=>hn.1 (by rw[←e];exact List.mem_map.2 ⟨f,List.mem_of_getElem? h,rfl⟩)
   simp only[z4f,findKey,AV.eqv,AV.eq1,hne]
   rw[q2h hn.2 h,show k + 1 + j=k + (j + 1) by omega]
theorem x0e {a:List Nat} {n:Nat}:∀ {ps:List Func} {k:Nat} {r:List Nat} {q:Nat},(∀ p∈ps,p.name≠a)→n=k + ps.length→z7o (.one .str) (.str a) (.int .i64 (n:Int)) (z4f k ps)=some (z4f k (ps++[⟨a,r,q⟩]))
 | [],k,r,q,_,hn=>by
   simp at hn
   subst hn
   rfl
 | p::ps,k,r,q,h,hn=>by
   have hne:decide (a=p.name)=false:=decide_eq_false fun e=>h p List.mem_cons_self e.symm
   have ih:=x0e (a:=a) (n:=n) (ps:=ps) (k:=k + 1) (r:=r) (q:=q) (fun q hq=>h q (List.mem_cons_of_mem _ hq)) (by simp at hn;omega)
   simp only[List.cons_append,z4f,z7o,AV.eqv,AV.eq1,hne,ih,Option.map_some]
def z4z (gC:Nat) (s:Sys) (sP gP:Nat):AObj:= .blk gC [.agg [.sl (s.preds.map z0q) .no, .sl (s.clauses.map z0f) .no, .mp sP gP, .sl [] .nil]] false false 0
def z9i (gP:Nat) (s:Sys):AObj:= .map gP (z4f 0 s.preds)
theorem q6f {gC sP gP:Nat} {s:Sys}:(z4z gC s sP gP).ids=[sP]:=by
 simp[z4z,AObj.ids,idsL,AV.ids,z0c z2j,z0c z1z]
theorem x3d {gP:Nat} {s:Sys}:(z9i gP s).ids=[]:=k7k
structure PrOk (ps:List Func):Prop where
 nodup:(ps.map (·.name)).Nodup
 args:∀ f∈ps,f.args.length≤40∧∀ s∈f.args,1≤s∧s≤4
 name:∀ f∈ps,f.name≠[]
theorem Cov.atom {sC sP sX:Nat} {oC oP oX:AObj} (hC:oC.ids=[sP]) (hP:oP.ids=[]) (hX:oX.ids=[]):Cov [(sC,oC),(sP,oP),(sX,oX)] [sC,sX]:=by
 refine⟨by simp,by simp[hC,hP,hX],fun h hS p hp=> ?_⟩
 have h1:h[sC]? =some oC:=hS (sC,oC) (by simp)
 have hr:reach h (h.length + 1) [] [sC,sX]=reach h h.length [sC] [sP,sX]:=by rw[q0m (by simp) h1,hC];rfl
 rw[hr]
 simp at hp
 rcases hp with rfl | rfl | rfl
 ·exact z6x (.inl List.mem_cons_self)
 ·exact z6x (.inr List.mem_cons_self)
 ·exact z6x (.inr (List.mem_cons_of_mem _ List.mem_cons_self))
theorem j4b {sC gC sP gP sX gX:Nat} {s:Sys} {a:App} {V:List Var} (hp:PrOk s.preds) (ha:AppOk s.preds V a) (hV:∀ v∈V,v∈z2h):Reads [(sC,z4z gC s sP gP),(sP,z9i gP s),(sX, .map gX (z1l V))] 265 [.ptr sC gC 0 0,z3x a, .mp sX gX] (.bool true):=by
 obtain⟨f,hf,hname,hlen,hargs⟩:=ha
 obtain⟨j,hj⟩:=List.getElem?_of_mem hf
 have hjl:j < s.preds.length:=by
  rw[List.getElem?_eq_some_iff] at hj
  exact hj.1
 refine Reads.of rfl y8h rfl rfl rfl (az:=[.ptr sC gC 0 0,z3x a, .mp sX gX]) rfl (by simpa [idsL,AV.ids,z4w] using Cov.atom q6f (x3d (gP:=gP) (s:=s)) q2f) fun D B clk T hB hS hlt hT=> ?_
 have h1:=hlt (sC,z4z gC s sP gP) (by simp)
 have h2:=hlt (sP,z9i gP s) (by simp)
 have b1:=z5z (g:=gC) (hS (sC,z4z gC s sP gP) (by simp))
 have b2:=k1w (g:=gP) (hS (sP,z9i gP s) (by simp))
 dsimp only at h1 h2 b1 b2
 have hfk:=q2h (k:=0) hp.nodup hj
 rw[Nat.zero_add,←hname] at hfk
 have hpl:=hp.args f hf
 have hix:∀ h,z1m h 3 (.sl (s.preds.map z0q) .no) (.int .i64 (j:Int))=some (.iptr [.str f.name, .sl (f.args.map nat) .no,nat f.result] 0,h):=fun h=>by
  have h2:s.preds[j]=f:=by
   rw[List.getElem?_eq_some_iff] at hj
   exact hj.2
  rw[z8e hjl,h2]
 have e1:decide ((a.args.length:Int)=(f.args.length:Int))=true:=by rw[decide_eq_true_iff];omega
 simp only[go_sem,w9i,hB,z3x,z4e hB h1,b1,z3u,x4z hB h2,b2,x0c hfk,x3b,Bool.not_true,List.length_map,hix,e1]
 refine z0y (fun m q=>∃ (i:Nat),i≤a.args.length∧m=a.args.length - i∧q.ts 0= .ptr sC gC 0 0∧q.ts 2= .mp sX gX∧q.ts 7= .int .i64 (j:Int)∧q.ts 40= .sl (a.args.map z0l) .no∧q.ts 41= .int .i64 (a.args.length:Int)∧q.ts 42= .int .i64 (i:Int)∧∃ o,q.h=D++[o]) a.args.length ⟨0,by omega,rfl,rfl,rfl,by simp[z0b],rfl,rfl,rfl,_,rfl⟩ ?_
 rintro m ⟨ts,h,clk⟩ Pq ⟨i,hi,rfl,q0,q2,q7,q40,q41,q42,o,rfl⟩ hnx he hr
 dsimp only at q0 q2 q7 q40 q41 q42
 by_cases hlt':i < a.args.length
 ·have f1:decide ((i:Int) < (a.args.length:Int))=true:=by rw[decide_eq_true_iff];omega
  have f2:IntKind.i64.wrap ((i:Int) + 1)=((i + 1:Nat):Int):=z0d (by omega) (by omega)
  have hia:i < f.args.length:=by omega
  have hix2:∀ h,z1m h 1 (.sl (f.args.map nat) .no) (.int .i64 (i:Int))=some (.iptr [.int .i64 (f.args[i]:Int)] 0,h):=fun h=>q9k hia
  have hz:(f.args[i],a.args[i])∈f.args.zip a.args:=by
   have:(f.args.zip a.args)[i]? =some (f.args[i],a.args[i]):=by simp[List.getElem?_zip_eq_some,hia,hlt']
   exact List.mem_of_getElem? this
  obtain⟨hwf,hsz,hs1,hs4⟩:=hargs _ hz
  dsimp only at hwf hsz hs1 hs4
  have p1:=k1x hs1 hs4
  have p2:=j4a (sX:=sX) (gX:=gX) (u:= .no) hwf hV (by omega) (by omega)
  rw[nat] at p1 p2
  have hix3:∀ h,z1m h 1 (.sl (a.args.map z0l) .no) (.int .i64 (i:Int))=some (.iptr [.sl (a.args[i].map eNode) .no] 0,h):=fun h=>q4u hlt'
  have hh:Has [(sX, .map gX (z1l V))] (D++[o]):=fun p hp'=>hS.app p (by simp at hp';subst hp';simp)
  simp only[go_sem,j3v,q0,q2,q7,q40,q41,q42,f1,hB,hix3,z4e hB h1,b1,hix,hix2,z0a p1,Bool.not_true,z0w p2 hh,f2]
  exact hnx (a.args.length - (i + 1)) _ (by omega) ⟨i + 1,hlt',rfl,q0,q2,q7,q40,q41,rfl,o,rfl⟩
 ·have f1:decide ((i:Int) < (a.args.length:Int))=false:=by rw[decide_eq_false_iff_not];omega
  simp only[go_sem,j3v,q0,q2,q7,q40,q41,q42,f1]
  refine he _ _ ?_
  simp only[go_sem,]
  rw[z0e]
  exact hT _ hS.app
def z3i (l:List (List Nat)):List (AV×AV):=l.map fun a=>(.str a, .bool true)
theorem x0f {a:List Nat}:∀ {l:List (List Nat)},findKey (.one .str) (.str a) (z3i l)=some (if a∈l then some (.bool true) else none)
 | []=>rfl
 | b::l=>by
   have ih:=x0f (a:=a) (l:=l)
   unfold z3i at ih⊢
   simp only[List.map_cons,findKey,AV.eqv,AV.eq1]
   by_cases h:a=b
   ·subst h
    simp
   ·simp only[h,decide_false,ih,List.mem_cons,false_or]
theorem q2v {a:List Nat}:∀ {l:List (List Nat)},a∉l→z7o (.one .str) (.str a) (.bool true) (z3i l)=some (z3i (l++[a]))
 | [],_=>rfl
 | b::l,hn=>by
   rw[List.mem_cons,not_or] at hn
   have ih:=q2v (a:=a) (l:=l) hn.2
   unfold z3i at ih⊢
   simp only[List.map_cons,List.cons_append,z7o,AV.eqv,AV.eq1,hn.1,decide_false,ih,Option.map_some]
theorem q2i {h:List AObj} {z:AV} {a:List Nat} {l:List (List Nat)}:lkV h (.one .str) z false (some (z3i l)) (.str a)=some (q7f false z (if a∈l then some (.bool true) else none),h):=v8b x0f
theorem k7l {sC gC sP gP:Nat} {s:Sys} {V:List Var} {u:Tip} (hp:∀ p∈s.preds,∀ v∈z2h,p.name≠v.name) (hs:V.Sublist z2h):Reads [(sC,z4z gC s sP gP),(sP,z9i gP s)] 263 [.ptr sC gC 0 0, .sl (V.map z1b) u] (.bool true):=by
 have hV:∀ v∈V,v∈z2h:=fun v hv=>hs.mem hv
 have hnd:V.Nodup:=hs.nodup (by decide)
 have hVl:V.length≤8:=hs.length_le
 refine Reads.of rfl y8f rfl rfl rfl (az:=[.ptr sC gC 0 0, .sl (V.map z1b) .no]) rfl (by simpa [idsL,AV.ids,z0c z2b] using Cov.two q6f (x3d (gP:=gP) (s:=s))) fun D B clk T hB hS hlt hT=> ?_
 have h1:=hlt (sC,z4z gC s sP gP) (by simp)
 have h2:=hlt (sP,z9i gP s) (by simp)
 have b1:=z5z (g:=gC) (hS (sC,z4z gC s sP gP) (by simp))
 have b2:=k1w (g:=gP) (hS (sP,z9i gP s) (by simp))
 dsimp only at h1 h2 b1 b2
 simp only[go_sem,w9g,hB,List.length_map]
 refine z0y (fun m q=>∃ (i g:Nat) (o:AObj),i≤V.length∧m=V.length - i∧q.ts 0= .ptr sC gC 0 0∧q.ts 5= .mp (B + 0) g∧q.ts 11= .sl (V.map z1b) .no∧q.ts 12= .int .i64 (V.length:Int)∧q.ts 13= .int .i64 (i:Int)∧q.h=D++[.map g (z3i ((V.take i).map (·.name))),o]) V.length ⟨0,_,_,by omega,rfl,rfl,rfl,rfl,rfl,rfl,rfl⟩ ?_
 rintro m ⟨ts,h,clk⟩ Pq ⟨i,g,o,hi,rfl,q0,q5,q11,q12,q13,rfl⟩ hnx he hr
 dsimp only at q0 q5 q11 q12 q13
 by_cases hlt':i < V.length
 ·have f1:decide ((i:Int) < (V.length:Int))=true:=by rw[decide_eq_true_iff];omega
  have f2:IntKind.i64.wrap ((i:Int) + 1)=((i + 1:Nat):Int):=z0d (by omega) (by omega)
  have hv:=List.getElem_mem hlt'
  have hix:∀ h,z1m h 2 (.sl (V.map z1b) .no) (.int .i64 (i:Int))=some (.iptr [.str V[i].name, .int .i64 (V[i].sort:Int)] 0,h):=fun h=>z2f hlt' rfl rfl
  have htake:V.take (i + 1)=V.take i++[V[i]]:=List.take_succ_eq_append_getElem hlt'
  have hnew:V[i].name∉(V.take i).map (·.name):=by
   intro hc
   obtain⟨w,hw,e⟩:=List.mem_map.1 hc
   have:w=V[i]:=x4w (hV w (List.mem_of_mem_take hw)) (hV _ hv) e
   subst this
   have h3:(V.take (i + 1)).Nodup:=hnd.sublist (List.take_sublist _ _)
   rw[htake,List.nodup_append] at h3
   exact h3.2.2 _ hw _ (by simp) rfl
  have hsort:=q5d (hV _ hv)
  have p1:=j0r (hV _ hv)
  have p2:=k1x hsort.1 hsort.2
  rw[nat] at p2
  have hnm:z3i ((V.take (i + 1)).map (·.name))=z3i ((V.take i).map (·.name)++[V[i].name]):=by rw[htake,List.map_append];rfl
  have hfp:=q2g (a:=V[i].name) (k:=0) (ps:=s.preds) fun p hp' e=>hp p hp' _ (hV _ hv) e
  generalize V[i]=v at *
  have hmu:∀ L:List AObj,z5m L 0 g=some (z3i ((V.take i).map (·.name)))→muV (D++L) (.one .str) (.str v.name) (.bool true) (.mp (B + 0) g)=some (.undef,D++L.set 0 (.map g (z3i ((V.take (i + 1)).map (·.name))))):=fun L hL=>by
   rw[hnm]
   exact x7x (v:= .bool true) hB hL rfl (q2v hnew)
  simp only[go_sem,j3u,q0,q5,q11,q12,q13,f1,hB,hix,z4e hB h1,b1,z3u,x4z hB h2,b2,x0c hfp,q0r,q2i,hnew,z5k,z0a p1,Bool.not_true,z0a p2,hmu,f2]
  exact hnx (V.length - (i + 1)) _ (by omega) ⟨i + 1,g,_,hlt',rfl,q0,q5,q11,q12,rfl,rfl⟩
 ·have f1:decide ((i:Int) < (V.length:Int))=false:=by rw[decide_eq_false_iff_not];omega
  simp only[go_sem,j3u,q0,q5,q11,q12,q13,f1]
  refine he _ _ ?_
  simp only[go_sem,]
  rw[z0e]
  exact hT _ hS.app
theorem y8r {V:List Var} {u:Tip} {h:List AObj} {clk:Nat} {Q:AV→List AObj→Nat→Prop} (hs:V.Sublist z2h) (hQ:∀ g o c,Q (.mp h.length g) (h++[.map g (z1l V),o]) c):WC Gam 262 [.sl (V.map z1b) u] h clk Q:=by
 have hnd:V.Nodup:=hs.nodup (by decide)
 have hVl:V.length≤8:=hs.length_le
 refine q9z rfl y8e rfl rfl rfl (az:=[.sl (V.map z1b) .no]) rfl (by simp[idsL,AV.ids,z0c z2b]) fun D B R hB hBh hR=> ?_
 simp only[go_sem,w9f,hB,List.length_map]
 refine z0y (fun m q=>∃ (i g:Nat) (o:AObj),i≤V.length∧m=V.length - i∧q.ts 3= .mp (B + 0) g∧q.ts 7= .sl (V.map z1b) .no∧q.ts 8= .int .i64 (V.length:Int)∧q.ts 9= .int .i64 (i:Int)∧q.h=D++[.map g (z1l (V.take i)),o]) V.length ⟨0,_,_,by omega,rfl,rfl,rfl,rfl,rfl,rfl⟩ ?_
 rintro m ⟨ts,h,clk⟩ Pq ⟨i,g,o,hi,rfl,q3,q7,q8,q9,rfl⟩ hnx he hr
 dsimp only at q3 q7 q8 q9
 by_cases hlt':i < V.length
 ·have f1:decide ((i:Int) < (V.length:Int))=true:=by rw[decide_eq_true_iff];omega
  have f2:IntKind.i64.wrap ((i:Int) + 1)=((i + 1:Nat):Int):=z0d (by omega) (by omega)
  have hix:∀ h,z1m h 2 (.sl (V.map z1b) .no) (.int .i64 (i:Int))=some (.iptr [.str V[i].name, .int .i64 (V[i].sort:Int)] 0,h):=fun h=>z2f hlt' rfl rfl
  have htake:V.take (i + 1)=V.take i++[V[i]]:=List.take_succ_eq_append_getElem hlt'
  have hnew:V[i]∉V.take i:=by
   intro hc
   have h3:(V.take (i + 1)).Nodup:=hnd.sublist (List.take_sublist _ _)
   rw[htake,List.nodup_append] at h3
   exact h3.2.2 _ hc _ (by simp) rfl
  generalize V[i]=v at *
  have hput:=x3c hnew
  have hmu:∀ L:List AObj,z5m L 0 g=some (z1l (V.take i))→muV (D++L) (.agg [.str, .int]) (.agg [.str v.name, .int .i64 (v.sort:Int)]) (.bool true) (.mp (B + 0) g)=some (.undef,D++L.set 0 (.map g (z1l (V.take (i + 1))))):=fun L hL=>by
   have hpub:pub (D++L) (.bool true)=some (.bool true,D++L):=rfl
   have he:((AV.agg [.str v.name, .int .i64 (v.sort:Int)]).eqv (.agg [.str, .int]) (.agg [.str v.name, .int .i64 (v.sort:Int)])).isSome=true:=by
    have:=x5a (v:=v) (w:=v)
    rw[show z1b v= .agg [.str v.name, .int .i64 (v.sort:Int)] from rfl] at this
    rw[this]
    rfl
   have hput':z7o (.agg [.str, .int]) (.agg [.str v.name, .int .i64 (v.sort:Int)]) (.bool true) (z1l (V.take i))=some (z1l (V.take (i + 1))):=by rw[htake];exact hput
   simp only[muV,x4d hB,hL,hpub,he,if_true,hput',Option.map_some,z5i hB]
  simp only[go_sem,k1o,q3,q7,q8,q9,f1,hB,hix,hmu,f2]
  exact hnx (V.length - (i + 1)) _ (by omega) ⟨i + 1,g,_,hlt',rfl,q3,q7,q8,rfl,rfl⟩
 ·have f1:decide ((i:Int) < (V.length:Int))=false:=by rw[decide_eq_false_iff_not];omega
  have hti:V.take i=V:=List.take_of_length_le (by omega)
  simp only[go_sem,k1o,q3,q7,q8,q9,f1]
  refine he _ _ ?_
  simp only[go_sem,q3]
  rw[q5h rfl,hti]
  refine hR _ _ ⟨B + 0,by simp[z1k,AV.cv,AV.ids],by omega⟩ fun c=> ?_
  have:=hQ g o c
  rw[←hBh] at this
  exact this
mutual
theorem x5b:∀ (a:AV),a.beq a=true
 | .undef=>rfl
 | .int _ _=>by simp[AV.beq]
 | .bool _=>by simp[AV.beq]
 | .str _=>by simp[AV.beq]
 | .agg cs=>by simp[AV.beq,z9d cs]
 | .tup cs=>by simp[AV.beq,z9d cs]
 | .sl cs _=>by simp[AV.beq,z9d cs]
 | .ob .. =>by simp[AV.beq]
 | .ptr .. =>by simp[AV.beq]
 | .iptr cs _=>by simp[AV.beq,z9d cs]
 | .nilptr=>rfl
 | .mp .. =>by simp[AV.beq]
 | .nilmap=>rfl
 | .fn _ cs=>by simp[AV.beq,z9d cs]
 | .nilfn=>rfl
 | .nilif=>rfl
 | .bwd _ x=>by simp[AV.beq,x5b x]
theorem z9d:∀ (l:List AV),j4s l l=true
 | []=>rfl
 | a::l=>by simp[j4s,x5b a,z9d l]
end
theorem x7y:∀ (l:List (AV×AV)),k9f l l=true
 | []=>rfl
 | a::l=>by simp[k9f,x5b,x7y l]
theorem k7m:∀ (o:AObj),o.beq o=true
 | .dead=>rfl
 | .blk .. =>by simp[AObj.beq,z9d]
 | .tip .. =>by simp[AObj.beq]
 | .map .. =>by simp[AObj.beq,x7y]
theorem x7z {F:List Nat} {h:List AObj}:z3p F h h=(F,[]):=by
 unfold z3p
 simp[k7m]
theorem z7r {f base gg clk:Nat} {args:List AV} {S:List (Nat×AObj)} {h:List AObj} {v:AV} {m:Md} {dst:Option Nat} {os:List AOper} {ts:Tmps} {ks:List Kf} {Q:Post} (hr:Reads S f args v) (hh:Has S h)
  (hO:O Gam base (m.add (S.map (·.1),[])) (gg + 1) os ⟨z9f ts dst v,h,clk⟩ ks Q):CK Gam base f args h clk m dst gg os ts ks Q:=by
 obtain⟨⟨k,hk⟩,hF⟩:=hr h clk hh
 refine⟨k,v,h,clk,hk, ?_⟩
 dsimp only
 rw[x7z]
 exact k0d hF (by simp) hO
theorem z8g {sC gC sP gP:Nat} {s:Sys} {w k:Int}:Reads [(sC,z4z gC s sP gP),(sP,z9i gP s)] 202 [.ptr sC gC 0 0, .bool false, .int .i64 w, .int .i64 k] (.tup []):=by
 refine Reads.of rfl y8c rfl rfl rfl (az:=[.ptr sC gC 0 0, .bool false, .int .i64 w, .int .i64 k]) rfl (by simpa [idsL,AV.ids] using Cov.two q6f (x3d (gP:=gP) (s:=s))) fun D B clk T hB hS hlt hT=> ?_
 simp only[go_sem,w9d]
 rw[z0h rfl rfl]
 exact hT _ hS.app
theorem Cov.five {s2 sC sP s5 sX g2 gC gP g5 gX:Nat} {s:Sys} {V:List Var} (h1:sC < sP) (h2:sP < s2) (h3:s2 < s5) (h4:s5 < sX):Cov [(s2, .blk g2 [.ptr sC gC 0 0] false false 0),(sC,z4z gC s sP gP),(sP,z9i gP s),(s5, .blk g5 [.mp sX gX] false false 0),(sX, .map gX (z1l V))] [s2,s5]:=by
 have i2:(AObj.blk g2 [.ptr sC gC 0 0] false false 0).ids=[sC]:=rfl
 have i5:(AObj.blk g5 [.mp sX gX] false false 0).ids=[sX]:=rfl
 refine⟨by simp,by simp[i2,i5,q6f,x3d,q2f],fun h hS p hp=> ?_⟩
 have a2:h[s2]? =some (.blk g2 [.ptr sC gC 0 0] false false 0):=hS (s2,_) (by simp)
 have aC:h[sC]? =some (z4z gC s sP gP):=hS (sC,z4z gC s sP gP) (by simp)
 have aP:h[sP]? =some (z9i gP s):=hS (sP,z9i gP s) (by simp)
 have a5:h[s5]? =some (.blk g5 [.mp sX gX] false false 0):=hS (s5,_) (by simp)
 have hX:=hS.lt (sX,_) (List.mem_cons_of_mem _ (List.mem_cons_of_mem _ (List.mem_cons_of_mem _ (List.mem_cons_of_mem _ List.mem_cons_self))))
 dsimp only at hX
 obtain⟨m,hm⟩:∃ m,h.length=m + 4:=⟨h.length - 4,by omega⟩
 have hr:reach h (h.length + 1) [] [s2,s5]=reach h (m + 1) [s5,sP,sC,s2] [sX]:=by
  rw[hm,q0m (by simp) a2,i2]
  rw[List.singleton_append,q0m (by simp;omega) aC,q6f]
  rw[List.singleton_append,q0m (by simp;omega) aP,x3d]
  rw[List.nil_append,q0m (by simp;omega) a5,i5]
  rfl
 rw[hr]
 simp at hp
 rcases hp with rfl | rfl | rfl | rfl | rfl <;> exact z6x (by simp)
theorem k7n {s2 sC sP s5 sX g2 gC gP g5 gX:Nat} {s:Sys} {a:App} {V:List Var} (hp:PrOk s.preds) (ha:AppOk s.preds V a) (hV:∀ v∈V,v∈z2h) (h1:sC < sP) (h2:sP < s2) (h3:s2 < s5) (h4:s5 < sX):
  Reads [(s2, .blk g2 [.ptr sC gC 0 0] false false 0),(sC,z4z gC s sP gP),(sP,z9i gP s),(s5, .blk g5 [.mp sX gX] false false 0),(sX, .map gX (z1l V))] 264 [z3x a, .ptr s2 g2 0 0, .ptr s5 g5 0 0] (.bool false):=by
 refine Reads.of rfl y8g rfl rfl rfl (az:=[z3x a, .ptr s2 g2 0 0, .ptr s5 g5 0 0]) rfl (by simpa [idsL,AV.ids,z4w] using Cov.five h1 h2 h3 h4) fun D B clk T hB hS hlt hT=> ?_
 have l2:=hlt (s2, .blk g2 [.ptr sC gC 0 0] false false 0) (by simp)
 have l5:=hlt (s5, .blk g5 [.mp sX gX] false false 0) (by simp)
 have b2:=z5z (g:=g2) (hS (s2, .blk g2 [.ptr sC gC 0 0] false false 0) (by simp))
 have b5:=z5z (g:=g5) (hS (s5, .blk g5 [.mp sX gX] false false 0) (by simp))
 dsimp only at l2 l5 b2 b5
 have hr:=j4b (sC:=sC) (gC:=gC) (sP:=sP) (gP:=gP) (sX:=sX) (gX:=gX) hp ha hV
 have hh:∀ L,Has [(sC,z4z gC s sP gP),(sP,z9i gP s),(sX, .map gX (z1l V))] (D++L):=fun L p hp'=>hS.app p (by simp at hp';rcases hp' with rfl | rfl | rfl <;> simp)
 rw[z3x] at hr
 simp only[go_sem,w9h,hB,z3x,z4e hB l2,b2,z4e hB l5,b5,z0w hr (hh _),Bool.not_true]
 rw[z0e]
 exact hT _ hS.app
end Go.Proofs.YtahdahokpjigiaaGreatDoor.Am
