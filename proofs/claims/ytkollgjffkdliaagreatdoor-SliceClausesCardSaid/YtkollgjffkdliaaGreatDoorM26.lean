/- Walking: clauses are generated Walking: clauses are generated Walking: systems are generated Walking: systems are generated Functions of the abstract machine's program Walking: the reference's magnitu -/
import Derived.Test.YtkollgjffkdliaaGreatDoorM25
open Nat renaming reduceBEq → z0,reduceAdd → z1,reduceLeDiff → z2,reduceSub → z3
set_option linter.all false
namespace Go.Proofs.YtkollgjffkdliaaGreatDoor.Am
open Go
set_option maxRecDepth 100000
section
variable {l:List Int} {V:List Var} {ps:List Func}
theorem GenOk.conv {f:Nat} {args args':List AV} {af:AFun} {R:AV→Prop} (h:GenOk l f args R) (hext:Gam.ext f=none) (hfn:Gam.fn f=some af) (hb:af.byref=[]) (ho:z4r args=[]) (ho':z4r args'=[]) (he:cvL args'=cvL args):GenOk l f args' R:=by
 have hob:∀ s g,z4r (.ptr s g 0 0::args)=[]:=fun s g=>by simp[z4r,AV.obs,ho]
 have hob':∀ s g,z4r (.ptr s g 0 0::args')=[]:=fun s g=>by simp[z4r,AV.obs,ho']
 have hcv:∀ s g,cvL (.ptr s g 0 0::args')=cvL (.ptr s g 0 0::args):=fun s g=>by simp[cvL,he]
 have key:∀ k s g h clk,z5g Gam k f (.ptr s g 0 0::args') h clk=z5g Gam k f (.ptr s g 0 0::args) h clk:=by
  intro k s g h clk
  unfold z5g z0o
  simp only[hext,hfn,hb,z1o (hob s g),z1o (hob' s g),z4u (hob s g),z4u (hob' s g),hcv s g]
 have kf:∀ s g h,z1a Gam f (.ptr s g 0 0::args') h=z1a Gam f (.ptr s g 0 0::args) h:=by
  intro s g h
  unfold z1a
  simp only[hext,hfn,hb,z1o (hob s g),z1o (hob' s g),hob s g,hob' s g,hcv s g]
 intro hh s g i clk Q h1 h2 h3
 obtain⟨⟨k,v,h',c,h4,h5⟩,h6⟩:=h hh s g i clk Q h1 h2 h3
 exact⟨⟨k,v,h',c,by rw[key];exact h4,h5⟩,by rw[kf];exact h6⟩
def z1z:List Var:=[⟨[120],2⟩,⟨[121],2⟩,⟨[122],3⟩,⟨[119],3⟩,⟨[112],1⟩,⟨[98],1⟩,⟨[97],4⟩,⟨[99],4⟩]
theorem y3h:Pure Gam 67 [] (.sl (z1z.map z1h) .no):=Pure.tab (tab:=v8j) rfl rfl rfl
def y3i (ps:List Func) (V:List Var) (a:App):Prop:=(a.pred=[]∧a.args=[])∨AppOk ps V a
def ClauseOk (ps:List Func) (c:Clause):Prop:=List.Sublist c.vars z1z∧c.body.length≤2∧(∀ a∈c.body,AppOk ps c.vars a)∧GT c.vars 1 11 3199 c.guard∧y3i ps c.vars c.head
theorem w2j {B p g i clk g0:Nat} {D:List AObj} {ts:Tmps} {o b c d x y:AObj} {ks:List Kf} {Q:Post} (hl:q6z l) (hB:D.length=B) (hs:p < B) (hD:D[p]? =some (z4p g l i)) (hi:i≤l.length) {q:Bool}
  (h0:ts 0= .ptr p g 0 0) (h1:ts 1= .sl (ps.map z0y) .no) (h2:ts 2= .bool q) (h6:ts 6= .ptr (B + 0) g0 0 0) (h7:ts 7= .sl (z1z.map z1h) .no) (h8:ts 8= .sl [] .nil) (h9:ts 9= .int .i64 0)
  (hQ:∀ (acc:List Var) (t:Tip) (ts':Tmps) (D':List AObj) (i':Nat) (b c d x y:AObj) (clk':Nat),acc.Sublist z1z→D'.length=B→D'[p]? =some (z4p g l i')→i'≤l.length→ts' 0= .ptr p g 0 0→ts' 1= .sl (ps.map z0y) .no→ts' 2= .bool q→ts' 6= .ptr (B + 0) g0 0 0→ts' 8= .sl (acc.map z1h) t→K Gam B (.exit 0) ks ⟨ts',D'++[o,b,c,d,x,y],clk'⟩ Q):
  K Gam B (.loop k9r) ks ⟨ts,D++[o,b,c,d,x,y],clk⟩ Q:=by
 refine z1f (fun m s=>∃ (j:Nat) (acc:List Var) (t:Tip) (D:List AObj) (i:Nat) (b c d x y:AObj),j≤8∧m=8 - j∧acc.Sublist (z1z.take j)∧D.length=B∧D[p]? =some (z4p g l i)∧i≤l.length∧s.ts 0= .ptr p g 0 0∧s.ts 1= .sl (ps.map z0y) .no∧s.ts 2= .bool q∧s.ts 6= .ptr (B + 0) g0 0 0∧s.ts 7= .sl (z1z.map z1h) .no∧s.ts 8= .sl (acc.map z1h) t∧s.ts 9= .int .i64 (j:Int)∧s.h=D++[o,b,c,d,x,y]∧z9p B 2 c t 2) 8 ?_ ?_
 ·exact⟨0,[], .nil,D,i,_,_,_,_,_,by omega,rfl,by simp,hB,hD,hi,h0,h1,h2,h6,h7,h8,h9,rfl, .inl rfl⟩
 clear h0 h1 h2 h6 h7 h8 h9 hB hD hi
 rintro m ⟨ts,h,clk⟩ P ⟨j,acc,t,D,i,b,c,d,x,y,hj,rfl,hacc,hB,hD,hi,h0,h1,h2,h6,h7,h8,h9,rfl,ht⟩ hn he hr
 dsimp only at h0 h1 h2 h6 h7 h8 h9
 have hlen:z1z.length=8:=rfl
 simp only[go_sem,h0,h1,h2,h6,h7,h8,h9,List.length_map,hlen,k9r]
 refine z8n (fun hb=> ?_) (fun hb=> ?_)
 ·have hlt:j < z1z.length:=by simp at hb;omega
  have e1:IntKind.i64.wrap ((j:Int) + 1)=((j + 1:Nat):Int):=z0c (by omega) (by omega)
  have hal:acc.length≤8:=by have:=hacc.length_le;simp at this;omega
  simp only[go_sem,h0,h1,h2,h6,h7,h8,h9]
  refine z0p (z2x hl (by decide) (by decide)) hB hs hD hi ?_
  rintro v D2 i2 ⟨r,rfl,hr1,hr2⟩ hB2 hD2 hi2
  simp only[go_sem,h0,h1,h2,h6,h7,h8,h9]
  refine z8n (fun hc=> ?_) (fun hc=> ?_)
  ·simp only[go_sem,h0,h1,h2,h6,h7,h8,h9,z5n hlt,nat]
   rw[show [AV.agg [.str z1z[j].name, .int .i64 (z1z[j].sort:Int)]]=[z1z[j]].map z1h from rfl,z0s hB2 rfl ht z3e z3e (by simp only[List.length_map,List.length_singleton];omega)]
   simp only[go_sem,h0,h1,h2,h6,h7,h8,h9,e1]
   refine hn (8 - (j + 1)) _ (by omega) ⟨j + 1,acc++[z1z[j]],_,D2,i2,_,_,_,_,_,by omega,rfl, ?_,hB2,hD2,hi2,h0,h1,h2,h6,h7, ?_,rfl,rfl, .inr (.inr ⟨_,rfl,rfl⟩)⟩
   ·rw[List.take_succ_eq_append_getElem hlt]
    exact hacc.append (List.Sublist.refl _)
   ·simp only[z0b,z0,cond_true,cond_false,List.map_append,List.map_cons,List.map_nil]
  ·simp only[go_sem,h0,h1,h2,h6,h7,h8,h9,e1]
   refine hn (8 - (j + 1)) _ (by omega) ⟨j + 1,acc,t,D2,i2,_,_,_,_,_,by omega,rfl, ?_,hB2,hD2,hi2,h0,h1,h2,h6,h7,h8,rfl,rfl,ht⟩
   rw[List.take_succ_eq_append_getElem hlt]
   exact hacc.trans (List.sublist_append_left _ _)
 ·simp only[go_sem,]
  refine he _ _ ?_
  exact hQ acc t _ D i _ _ _ _ _ _ (hacc.trans (List.take_sublist _ _)) hB hD hi (by simp[z0b,h0]) (by simp[z0b,h1]) (by simp[z0b,h2]) (by simp[z0b,h6]) (by simp[z0b,h8])
end
section
variable {l:List Int} {V:List Var} {ps:List Func}
def k4h (V:List Var) (tv:Tip) (body:List App) (tb:Tip):AV:= .agg [.sl (V.map z1h) tv, .sl (body.map z3u) tb, .sl [] .nil, .str [], .sl [] .nil]
theorem v0j {B p g i clk g0 g3 n:Nat} {D:List AObj} {ts:Tmps} {o b c x y:AObj} {ks:List Kf} {Q:Post} {tv:Tip} (hl:q6z l) (hV:V.length≤400) (hN:x2v l) (hP:x6i ps) (hn:n≤2) (hB:D.length=B) (hs:p < B) (hD:D[p]? =some (z4p g l i)) (hi:i≤l.length) {q:Bool}
  (h0:ts 0= .ptr p g 0 0) (h1:ts 1= .sl (ps.map z0y) .no) (h2:ts 2= .bool q) (h6:ts 6= .ptr (B + 0) g0 0 0) (h8:ts 8= .sl (V.map z1h) tv) (h10:ts 10= .ptr (B + 3) g3 0 0) (h11:ts 11= .int .i64 (n:Int))
  (hQ:∀ (acc:List App) (t:Tip) (ts':Tmps) (D':List AObj) (i':Nat) (b c x y:AObj) (clk':Nat),acc.length≤2→(∀ a∈acc,AppOk ps V a)→D'.length=B→D'[p]? =some (z4p g l i')→i'≤l.length→ts' 0= .ptr p g 0 0→ts' 1= .sl (ps.map z0y) .no→ts' 2= .bool q→ts' 6= .ptr (B + 0) g0 0 0→ts' 8= .sl (V.map z1h) tv→ts' 10= .ptr (B + 3) g3 0 0→K Gam B (.exit 2) ks ⟨ts',D'++[o,b,c, .blk g3 [k4h V tv acc t] false false 0,x,y],clk'⟩ Q):
  K Gam B (.loop k3i) ks ⟨ts,D++[o,b,c, .blk g3 [k4h V tv [] .nil] false false 0,x,y],clk⟩ Q:=by
 refine z1f (fun m s=>∃ (n:Nat) (acc:List App) (t:Tip) (D:List AObj) (i:Nat) (b c x y:AObj),m=n∧acc.length + n≤2∧(∀ a∈acc,AppOk ps V a)∧D.length=B∧D[p]? =some (z4p g l i)∧i≤l.length∧s.ts 0= .ptr p g 0 0∧s.ts 1= .sl (ps.map z0y) .no∧s.ts 2= .bool q∧s.ts 6= .ptr (B + 0) g0 0 0∧s.ts 8= .sl (V.map z1h) tv∧s.ts 10= .ptr (B + 3) g3 0 0∧s.ts 11= .int .i64 (n:Int)∧s.h=D++[o,b,c, .blk g3 [k4h V tv acc t] false false 0,x,y]∧z9p B 5 y t 2) n ?_ ?_
 ·exact⟨n,[], .nil,D,i,_,_,_,_,rfl,by simpa using hn,by simp,hB,hD,hi,h0,h1,h2,h6,h8,h10,h11,rfl, .inl rfl⟩
 clear h0 h1 h2 h6 h8 h10 h11 hB hD hi
 rintro m ⟨ts,h,clk⟩ P ⟨n,acc,t,D,i,b,c,x,y,rfl,hlen,hacc,hB,hD,hi,h0,h1,h2,h6,h8,h10,h11,rfl,ht⟩ hnx he hr
 dsimp only at h0 h1 h2 h6 h8 h10 h11
 simp only[go_sem,h0,h1,h2,h6,h8,h10,h11,k3i]
 refine z8n (fun hb=> ?_) (fun hb=> ?_)
 ·have hpos:0 < m:=by simp at hb;omega
  obtain⟨n',rfl⟩:∃ n',m=n' + 1:=⟨m - 1,by omega⟩
  have en:IntKind.i64.wrap (((n' + 1:Nat):Int) - 1)=(n':Int):=z5o (by omega)
  simp only[go_sem,h0,h1,h2,h6,h8,h10,h11,z1b,hB,k4h]
  refine z0p (y3g hl hV hN hP) hB hs hD hi ?_
  rintro v D1 i1 ⟨a,rfl,ha⟩ hB1 hD1 hi1
  have happ:acc.map z3u++[z3u a]=(acc++[a]).map z3u:=by simp
  have hbs:∀ h,bsV h (.agg [.str [], .sl [] .nil]) 1 [0] [z3u a]=some (.sl [z3u a] .full,h):=fun h=>y9c rfl rfl rfl rfl
  simp only[go_sem,h0,h1,h2,h6,h8,h10,h11,hB1,hbs]
  rw[show [z3u a]=[a].map z3u from rfl,z0s hB1 rfl ht q0t q0t (by simp only[List.length_map,List.length_singleton];omega)]
  simp only[go_sem,h0,h1,h2,h6,h8,h10,h11,hB1,en,happ]
  refine⟨by simp[z1e,apart,z0l,z0z,z1i,AOp.isCall,hB];omega, ?_⟩
  refine hnx n' _ (by omega) ⟨n',acc++[a],_,D1,i1,_,_,_,_,rfl,by simp;omega, ?_,hB1,hD1,hi1,h0,h1,h2,h6,h8,h10,rfl,rfl, .inr (.inr ⟨_,rfl,rfl⟩)⟩
  intro a' ha'
  rw[List.mem_append,List.mem_singleton] at ha'
  rcases ha' with ha' | rfl
  ·exact hacc a' ha'
  ·exact ha
 ·simp only[go_sem,]
  refine he _ _ ?_
  exact hQ acc t _ D i _ _ _ _ _ (by omega) hacc hB hD hi (by simp[z0b,h0]) (by simp[z0b,h1]) (by simp[z0b,h2]) (by simp[z0b,h6]) (by simp[z0b,h8]) (by simp[z0b,h10])
theorem u2q {u:Tip} {q:Bool} (hl:q6z l) (hN:x2v l) (hP:x6i ps):GenOk l 27 [.sl (ps.map z0y) u, .bool q] (fun v=>∃ c,v=z0h c∧ClauseOk ps c):=by
 refine GenOk.of rfl g1t rfl rfl rfl (az:=[.sl (ps.map z0y) .no, .bool q]) rfl (by simp[idsL,AV.ids,z0d z4i]) fun D B p g i clk T hB hs hD hi hR=> ?_
 simp only[go_sem,u7k,hB]
 rw[z0a y3h]
 simp only[go_sem,]
 refine w2j (q:=q) (ps:=ps) hl hB hs hD hi rfl rfl rfl rfl rfl rfl rfl ?_
 clear hB hD hi
 intro V tv ts D i b c d x y clk1 hsub hB hD hi h0 h1 h2 h6 h8
 have hV:V.length≤400:=by have:=hsub.length_le;simp[z1z] at this;omega
 simp only[go_sem,h0,h1,h2,h6,h8,hB]
 refine z0p (z2x hl (by decide) (by decide)) hB hs hD hi ?_
 clear hB hD hi
 rintro v D i ⟨r,rfl,hr1,hr2⟩ hB hD hi
 obtain⟨n,rfl⟩:∃ k:Nat,r=k:=⟨r.toNat,by omega⟩
 simp only[go_sem,h0,h1,h2,h6,h8,hB]
 refine v0j (g0:=clk) (n:=n) (q:=q) (V:=V) (tv:=tv) hl hV hN hP (by omega) hB hs hD hi (by simp[z0b,h0]) (by simp[z0b,h1]) (by simp[z0b,h2]) (by simp[z0b,h6]) (by simp[z0b,h8]) rfl rfl ?_
 clear hB hD hi
 intro body tb ts2 D i b2 c2 x2 y2 clk2 hlen hbody hB hD hi q0 q1 q2 q6 q8 q10
 simp only[go_sem,q0,q1,q2,q6,q8,q10,hB,k4h]
 have hG:=GenOk.conv (args':=[nat 3, .sl (V.map z1h) tv]) (x9y (V:=V) hl hV hN 3 (by omega)) rfl u7p rfl rfl rfl rfl
 refine z0p hG hB hs hD hi ?_
 clear hB hD hi
 rintro v D i ⟨gd,rfl,hgd⟩ hB hD hi
 simp only[go_sem,q0,q1,q2,q6,q8,q10,hB,z0n]
 refine z8n (fun hc=> ?_) (fun hc=> ?_)
 ·simp only[go_sem,q0,q1,q2,q6,q8,q10,hB]
  refine z0p (y3g hl hV hN hP) hB hs hD hi ?_
  clear hB hD hi
  rintro v D i ⟨a,rfl,ha⟩ hB hD hi
  simp only[go_sem,q0,q1,q2,q6,q8,q10,hB,z3u]
  have hid:(AV.agg [.sl (V.map z1h) tv, .sl (body.map z3u) tb, .sl (gd.map eNode) .no, .str a.pred, .sl (a.args.map z0n) .no]).cv.ids=[]:=z4k ⟨V,body,gd,a⟩
  rw[z2k rfl hid]
  exact hR _ _ i (by rw[z0w hB hs];exact hD) hi ⟨⟨V,body,gd,a⟩,rfl,hsub,hlen,hbody,hgd, .inr ha⟩
 ·simp only[go_sem,q0,q1,q2,q6,q8,q10,hB]
  have hid:(AV.agg [.sl (V.map z1h) tv, .sl (body.map z3u) tb, .sl (gd.map eNode) .no, .str [], .sl [] .nil]).cv.ids=[]:=z4k ⟨V,body,gd,⟨[],[]⟩⟩
  rw[z2k rfl hid]
  exact hR _ _ i (by rw[z0w hB hs];exact hD) hi ⟨⟨V,body,gd,⟨[],[]⟩⟩,rfl,hsub,hlen,hbody,hgd, .inl ⟨rfl,rfl⟩⟩
end
theorem q9b {h:List AObj} {e n:Nat} {xs:List AV} {t:Tip} {k:IntKind} (hn:n≤xs.length) (he:z4s e xs=true):slV h (some e) (.sl xs t) none (some (.int k (n:Int))) none=some (.sl (xs.take n) (if n=xs.length then (if t= .nil then .nil else t) else .no),h):=by
 simp[slV,z2w,z5b,hn,he]
theorem u2r {zs:List Int} {u:Tip} {h:List AObj} {clk:Nat}:∃ k g c,z5g Gam k 15 [.sl (q3x zs) u] h clk=some (.ptr h.length g 0 0,h++[z4p g (zs.take 400) 0],c):=by
 have hw:∀ (D:List AObj) (B:Nat),D.length=B→K Gam B k9q.body [] ⟨q0m [.sl (q3x zs) .no],D++List.replicate k9q.nslots .dead,clk⟩ (fun e s=>e= .ret∧∃ g,s.ts 2= .ptr (B + 0) g 0 0∧s.h=D++[z4p g (zs.take 400) 0]):=by
  intro D B hB
  have hm:(if (400:Int) < (zs.length:Int) then (400:Int) else (zs.length:Int))=((min zs.length 400:Nat):Int):=by
   split <;> omega
  have hh:z4s 1 (q3x zs)=true:=by cases zs <;> rfl
  have ht:(q3x zs).take (min zs.length 400)=q3x (zs.take 400):=by
   rw[q3x,q3x,←List.map_take]
   congr 1
   rcases Nat.le_total zs.length 400 with h | h
   ·rw[Nat.min_eq_left h,List.take_length,List.take_of_length_le h]
   ·rw[Nat.min_eq_right h]
  simp only[go_sem,k9q,hB,q3s,hm,q9b (xs:=q3x zs) (n:=min zs.length 400) (by rw[q3s];omega) hh,ht]
  exact⟨_,rfl,by simp[z4p]⟩
 obtain⟨k,e,s,he,rfl,g,hp,hs⟩:=hw (maskFrom [] 0 h) _ rfl
 rw[z4g] at he hp
 have hpa:z1v h k9q.byref 0 [.sl (q3x zs) u]=some [.sl (q3x zs) .no]:=rfl
 have hl:z0u k9q.byref 0 [.sl (q3x zs) u]=[]:=rfl
 have hids:idsL [.sl (q3x zs) .no]=[]:=by simp[idsL,AV.ids,q3r]
 have hres:z1y s.h s.ts k9q.results=some [.ptr (h.length + 0) g 0 0]:=by simp only[k9q,z1y,hp,Option.map_some]
 refine⟨k,g,s.clk, ?_⟩
 unfold z5g z0o
 simp only[show Gam.ext 15=none from rfl,g1q,hpa,hl,freezeAll,hids,reach,he,show k9q.owned=false from rfl,Bool.false_eq_true,if_false,hres,z1l,conv,AV.obs,z6i]
 rw[if_neg (by simp[AV.ids])]
 rw[hs,←z4g (T:=[]) (h:=h) (k:=0),List.drop_left]
 simp
theorem z1w {l:List Int} {f B k g i clk gg:Nat} {args:List AV} {R:AV→Prop} {D L:List AObj} {m:Md} {dst:Option Nat} {os:List AOper} {ts:Tmps} {ks:List Kf} {Q:Post} (hg:GenOk l f args R) (hB:D.length=B) (hL:L[k]? =some (z4p g l i)) (hi:i≤l.length)
  (hQ:∀ v i',R v→i'≤l.length→O Gam B (m.add ([B + k],[B + k])) (gg + 1) os ⟨z9n ts dst v,D++L.set k (z4p g l i'),clk⟩ ks Q):CK Gam B f (.ptr (B + k) g 0 0::args) (D++L) clk m dst gg os ts ks Q:=by
 unfold CK
 have hD':(D++L)[B + k]? =some (z4p g l i):=by rw[z6c hB];exact hL
 obtain⟨_,hf⟩:=hg (D++L) (B + k) g i clk (fun _ _ _=>True) hD' hi (fun _ _ _ _=>trivial)
 refine (hg (D++L) (B + k) g i clk _ hD' hi fun v i' hi' hv=> ?_).1
 refine k3m (f':=([B + k],[B + k])) ?_ ?_ ?_
 ·rw[hf];exact fun x hx=>hx
 ·rw[hf];exact fun x hx=>(List.mem_filter.1 hx).1
 ·rw[z5l hB]
  exact hQ v i' hv hi'
def z5w:List Func:=[⟨[80],[2],1⟩,⟨[81],[2,2],1⟩,⟨[82],[1,2,2],1⟩,⟨[90],[],1⟩,⟨[83],[3,4],1⟩]
def w2k:Func:=⟨[78],[2],1⟩
def allPreds:List Func:=[⟨[80],[2],1⟩,⟨[81],[2,2],1⟩,⟨[82],[1,2,2],1⟩,⟨[90],[],1⟩,⟨[83],[3,4],1⟩,⟨[78],[2],1⟩]
theorem y3j:Pure Gam 24 [] (.sl (z5w.map z0y) .no):=Pure.tab (tab:=v8i) rfl rfl rfl
theorem v0k {n:Nat} (h1:0 < n):x6i (z5w.take n):=by
 refine⟨by simp[z5w];omega,by simp[z5w];omega,fun f hf=> ?_⟩
 have:=List.mem_of_mem_take hf
 simp only[z5w,List.mem_cons,List.not_mem_nil,or_false] at this
 rcases this with rfl | rfl | rfl | rfl | rfl <;> simp
def SysOk (s:Sys):Prop:=(∃ n,2≤n∧n≤5∧s.preds=z5w.take n)∧s.clauses.length≤8∧∀ c∈s.clauses,ClauseOk s.preds c
theorem j5t {zs:List Int} {u:Tip} {B gg clk:Nat} {D L:List AObj} {m:Md} {dst:Option Nat} {os:List AOper} {ts:Tmps} {ks:List Kf} {Q:Post} (hQ:∀ g c,O Gam B (m.add (z3r (z1a Gam 15 [.sl (q3x zs) u] (D++L)) (D++L) ((D++L)++[z4p g (zs.take 400) 0]))) (gg + 1) os ⟨z9n ts dst (.ptr (D++L).length g 0 0),(D++L)++[z4p g (zs.take 400) 0],c⟩ ks Q):CK Gam B 15 [.sl (q3x zs) u] (D++L) clk m dst gg os ts ks Q:=by
 obtain⟨k,g,c,hk⟩:=u2r (u:=u) (h:=D++L) (clk:=clk)
 exact⟨k,_,_,_,hk,hQ g c⟩
theorem g2f {zs:List Int} {u:Tip} {h:List AObj} {clk:Nat} {Q:AV→List AObj→Nat→Prop} (hz:∀ z∈zs, -9223372036854775808≤z∧z≤9223372036854775807) (hN:x2v (zs.take 400)) (hQ:∀ s,SysOk s→Q (z2a s) h clk):WC Gam 6 [.sl (q3x zs) u] h clk Q:=by
 have hl:q6z (zs.take 400):=⟨by simp;omega,fun z h=>hz z (List.mem_of_mem_take h)⟩
 generalize hzs:zs.take 400=l at hN hl
 refine q6x rfl g1p rfl rfl rfl (az:=[.sl (q3x zs) .no]) rfl (by simp[idsL,AV.ids,q3r]) fun D B T hB hT=> ?_
 simp only[go_sem,u7g,hB]
 refine j5t fun g c=> ?_
 have e0:∀ (x y:AObj),(D++[x,y, .dead, .dead]).length=B + 4:=fun x y=>by simp[hB]
 have e1:∀ (x y o:AObj),(D++[x,y, .dead, .dead])++[o]=D++[x,y, .dead, .dead,o]:=fun x y o=>by simp
 rw[e0,e1,hzs]
 simp only[go_sem,hB]
 rw[z0a y3j]
 simp only[go_sem,hB]
 refine z1w (k:=4) (z2x hl (by decide) (by decide)) hB rfl (Nat.zero_le _) ?_
 rintro v i ⟨r,rfl,hr1,hr2⟩ hi
 obtain⟨n,rfl⟩:∃ k:Nat,r=k:=⟨r.toNat,by omega⟩
 have e2:IntKind.i64.wrap (2 + (n:Int))=((2 + n:Nat):Int):=by rw[z0c (by omega) (by omega)];omega
 have e3:(z5w.map z0y).take (2 + n)=(z5w.take (2 + n)).map z0y:=List.map_take.symm
 have hlen5:(z5w.map z0y).length=5:=rfl
 have e4:∀ h,slV h (some 3) (.sl (z5w.map z0y) .no) none (some (.int .i64 ((2 + n:Nat):Int))) none=some (.sl ((z5w.take (2 + n)).map z0y) .no,h):=fun h=>by
  rw[q9b (by rw[hlen5];omega) rfl,e3];simp
 have hpo:=v0k (n:=2 + n) (by omega)
 generalize hps:z5w.take (2 + n)=ps at hpo e4
 simp only[go_sem,hB,e2,e4,Option.map_none]
 refine z1w (k:=4) (z2x hl (by decide) (by decide)) hB rfl hi ?_
 rintro v i2 ⟨r,rfl,hr3,hr4⟩ hi2
 obtain⟨z,rfl⟩:∃ k:Nat,r=k:=⟨r.toNat,by omega⟩
 have e5:IntKind.i64.wrap (1 + (z:Int))=((1 + z:Nat):Int):=by rw[z0c (by omega) (by omega)];omega
 simp only[go_sem,hB,e5]
 refine z1f (fun m s=>∃ (n:Nat) (acc:List Clause) (t:Tip) (i g0 g1:Nat) (x y:AObj),m=n∧acc.length + n≤8∧(∀ a∈acc,ClauseOk ps a)∧i≤l.length∧s.ts 2= .ptr (B + 0) g0 0 0∧s.ts 3= .ptr (B + 4) g 0 0∧s.ts 4= .ptr (B + 1) g1 0 0∧s.ts 5= .int .i64 (n:Int)∧
  s.h=D++[.blk g0 [.agg [.sl [] .nil, .sl [] .nil]] false false 0, .blk g1 [.agg [.sl (ps.map z0y) .no, .sl (acc.map z0h) t]] false false 0,x,y,z4p g l i]∧z9p B 3 y t 5) (1 + z) ?_ ?_
 ·exact⟨1 + z,[], .nil,i2,_,_,_,_,rfl,by simp;omega,by simp,hi2,rfl,rfl,rfl,rfl,rfl, .inl rfl⟩
 clear e0 e1 hi hi2 e2 e4 e3
 rintro m ⟨ts,h,clk⟩ P ⟨n',acc,t,i,g0,g1,x,y,rfl,hlen,hacc,hi,h2,h3,h4,h5,rfl,ht⟩ hn he hr
 dsimp only at h2 h3 h4 h5
 have fin:∀ (ts':Tmps) (i' clk':Nat),i'≤l.length→ts' 2= .ptr (B + 0) g0 0 0→ts' 4= .ptr (B + 1) g1 0 0→P (.exit 0) ⟨ts',D++[.blk g0 [.agg [.sl [] .nil, .sl [] .nil]] false false 0, .blk g1 [.agg [.sl (ps.map z0y) .no, .sl (acc.map z0h) t]] false false 0,x,y,z4p g l i'],clk'⟩:=by
  intro ts' i' clk' hi' q2 q4
  refine he _ _ ?_
  simp only[go_sem,q2,q4,hB]
  have hid:(AV.agg [.sl (ps.map z0y) .no, .sl (acc.map z0h) t]).cv.ids=[]:=z2v ⟨ps,acc⟩
  rw[z2k rfl hid]
  refine hT _ _ (hQ ⟨ps,acc⟩ ⟨⟨2 + n,by omega,by omega,hps.symm⟩,by simp only;omega,hacc⟩)
 by_cases hm:m=0
 ·have hb:decide (0 < (m:Int))=false:=by rw[decide_eq_false_iff_not];omega
  simp only[go_sem,h2,h3,h4,h5,hB,k9p,hb]
  exact fin _ _ _ hi (by simp[z0b,h2]) (by simp[z0b,h4])
 ·have hb:decide (0 < (m:Int))=true:=by rw[decide_eq_true_iff];omega
  obtain⟨n',rfl⟩:∃ n',m=n' + 1:=⟨m - 1,by omega⟩
  have en:IntKind.i64.wrap (((n' + 1:Nat):Int) - 1)=(n':Int):=z5o (by omega)
  simp only[go_sem,h2,h3,h4,h5,hB,k9p,hb]
  refine z1w (k:=4) w1r hB rfl hi ?_
  clear hi
  rintro v i ⟨b,rfl⟩ hi
  simp only[go_sem,h2,h3,h4,h5,hB]
  refine z8n (fun hc=> ?_) (fun hc=> ?_)
  ·simp only[go_sem,h2,h3,h4,h5,hB,z1b]
   refine z1w (k:=4) (z2x hl (by decide) (by decide)) hB rfl hi ?_
   clear hi
   rintro v i ⟨r,rfl,hr5,hr6⟩ hi
   simp only[go_sem,h2,h3,h4,h5,hB]
   refine z1w (k:=4) (u2q hl hN hpo) hB rfl hi ?_
   clear hi
   rintro v i ⟨c,rfl,hc⟩ hi
   have hbs:∀ h,bsV h (.agg [.sl [] .nil, .sl [] .nil, .sl [] .nil, .str [], .sl [] .nil]) 1 [0] [z0h c]=some (.sl [z0h c] .full,h):=fun h=>y9c rfl rfl rfl rfl
   have happ:acc.map z0h++[z0h c]=(acc++[c]).map z0h:=by simp
   simp only[go_sem,h2,h3,h4,h5,hB,hbs]
   rw[show [z0h c]=[c].map z0h from rfl,z0s hB rfl ht z7c z7c (by simp only[List.length_map,List.length_singleton];omega)]
   simp only[go_sem,h2,h3,h4,h5,hB,en,happ]
   refine⟨by simp[z1e,apart,z0l,z0z,z1i,AOp.isCall,hB], ?_⟩
   refine hn n' _ (by omega) ⟨n',acc++[c],_,i,g0,g1,_,_,rfl,by simp;omega, ?_,hi,h2,h3,h4,rfl,rfl, .inr (.inr ⟨_,rfl,rfl⟩)⟩
   intro a' ha'
   rw[List.mem_append,List.mem_singleton] at ha'
   rcases ha' with ha' | rfl
   ·exact hacc a' ha'
   ·exact hc
  ·simp only[go_sem,h2,h3,h4,h5,hB]
   exact fin _ _ _ hi (by simp[z0b,h2]) (by simp[z0b,h4])
section
open Sh
set_option maxHeartbeats 0
noncomputable def w2l:AFun:=(fun (a:AFun) (_:Gam.fn 285=some a)=>a) _ (by conv=>lhs;reduce;simp only[Int.reduceOfNat,Int.reduceNegSucc])
theorem y3k:Gam.fn 285=some w2l:=by kernel_rfl
noncomputable def w2m:AFun:=(fun (a:AFun) (_:Gam.fn 301=some a)=>a) _ (by conv=>lhs;reduce;simp only[Int.reduceOfNat,Int.reduceNegSucc])
theorem y3l:Gam.fn 301=some w2m:=by kernel_rfl
noncomputable def u7v:AFun:=(fun (a:AFun) (_:Gam.fn 165=some a)=>a) _ (by conv=>lhs;reduce;simp only[Int.reduceOfNat,Int.reduceNegSucc])
noncomputable def q8g:ACode:=(fun (a:ACode) (_:fl [] (lp u7v 0)=a)=>a) _ (by conv=>lhs;reduce;simp only[Int.reduceOfNat,Int.reduceNegSucc])
attribute [local irreducible] q8g
noncomputable def k4i:AFun:=(fun (a:AFun) (_:flF [q8g] u7v=a)=>a) _ (by conv=>lhs;reduce;simp only[Int.reduceOfNat,Int.reduceNegSucc])
theorem y3m:Gam.fn 165=some k4i:=by kernel_rfl
noncomputable def y3n:AFun:=(fun (a:AFun) (_:Gam.fn 230=some a)=>a) _ (by conv=>lhs;reduce;simp only[Int.reduceOfNat,Int.reduceNegSucc])
theorem u2s:Gam.fn 230=some y3n:=by kernel_rfl
noncomputable def w2n:AFun:=(fun (a:AFun) (_:Gam.fn 231=some a)=>a) _ (by conv=>lhs;reduce;simp only[Int.reduceOfNat,Int.reduceNegSucc])
theorem u2t:Gam.fn 231=some w2n:=by kernel_rfl
noncomputable def u7w:AFun:=(fun (a:AFun) (_:Gam.fn 277=some a)=>a) _ (by conv=>lhs;reduce;simp only[Int.reduceOfNat,Int.reduceNegSucc])
noncomputable def j5u:ACode:=(fun (a:ACode) (_:fl [] (lp u7w 0)=a)=>a) _ (by conv=>lhs;reduce;simp only[Int.reduceOfNat,Int.reduceNegSucc])
attribute [local irreducible] j5u
noncomputable def y3o:AFun:=(fun (a:AFun) (_:flF [j5u] u7w=a)=>a) _ (by conv=>lhs;reduce;simp only[Int.reduceOfNat,Int.reduceNegSucc])
theorem u2u:Gam.fn 277=some y3o:=by kernel_rfl
noncomputable def u2v:AFun:=(fun (a:AFun) (_:Gam.fn 278=some a)=>a) _ (by conv=>lhs;reduce;simp only[Int.reduceOfNat,Int.reduceNegSucc])
noncomputable def x4e:ACode:=(fun (a:ACode) (_:fl [] (lp u2v 1)=a)=>a) _ (by conv=>lhs;reduce;simp only[Int.reduceOfNat,Int.reduceNegSucc])
attribute [local irreducible] x4e
noncomputable def j5v:ACode:=(fun (a:ACode) (_:fl [x4e] (lp u2v 0)=a)=>a) _ (by conv=>lhs;reduce;simp only[Int.reduceOfNat,Int.reduceNegSucc])
attribute [local irreducible] j5v
noncomputable def y3p:AFun:=(fun (a:AFun) (_:flF [j5v,x4e] u2v=a)=>a) _ (by conv=>lhs;reduce;simp only[Int.reduceOfNat,Int.reduceNegSucc])
theorem u2w:Gam.fn 278=some y3p:=by kernel_rfl
noncomputable def y9e:AFun:=(fun (a:AFun) (_:Gam.fn 279=some a)=>a) _ (by conv=>lhs;reduce;simp only[Int.reduceOfNat,Int.reduceNegSucc])
noncomputable def x0x:ACode:=(fun (a:ACode) (_:fl [] (lp y9e 2)=a)=>a) _ (by conv=>lhs;reduce;simp only[Int.reduceOfNat,Int.reduceNegSucc])
attribute [local irreducible] x0x
noncomputable def x4f:ACode:=(fun (a:ACode) (_:fl [x0x] (lp y9e 1)=a)=>a) _ (by conv=>lhs;reduce;simp only[Int.reduceOfNat,Int.reduceNegSucc])
attribute [local irreducible] x4f
noncomputable def j5w:ACode:=(fun (a:ACode) (_:fl [x4f,x0x] (lp y9e 0)=a)=>a) _ (by conv=>lhs;reduce;simp only[Int.reduceOfNat,Int.reduceNegSucc])
attribute [local irreducible] j5w
noncomputable def y3q:AFun:=(fun (a:AFun) (_:flF [j5w,x4f,x0x] y9e=a)=>a) _ (by conv=>lhs;reduce;simp only[Int.reduceOfNat,Int.reduceNegSucc])
theorem u2x:Gam.fn 279=some y3q:=by kernel_rfl
noncomputable def j9w:AFun:=(fun (a:AFun) (_:Gam.fn 281=some a)=>a) _ (by conv=>lhs;reduce;simp only[Int.reduceOfNat,Int.reduceNegSucc])
theorem u2y:Gam.fn 281=some j9w:=by kernel_rfl
noncomputable def u7x:AFun:=(fun (a:AFun) (_:Gam.fn 282=some a)=>a) _ (by conv=>lhs;reduce;simp only[Int.reduceOfNat,Int.reduceNegSucc])
noncomputable def x0y:ACode:=(fun (a:ACode) (_:fl [] (lp u7x 0)=a)=>a) _ (by conv=>lhs;reduce;simp only[Int.reduceOfNat,Int.reduceNegSucc])
attribute [local irreducible] x0y
noncomputable def y3r:AFun:=(fun (a:AFun) (_:flF [x0y] u7x=a)=>a) _ (by conv=>lhs;reduce;simp only[Int.reduceOfNat,Int.reduceNegSucc])
theorem u2z:Gam.fn 282=some y3r:=by kernel_rfl
noncomputable def u7y:AFun:=(fun (a:AFun) (_:Gam.fn 208=some a)=>a) _ (by conv=>lhs;reduce;simp only[Int.reduceOfNat,Int.reduceNegSucc])
noncomputable def x9z:ACode:=(fun (a:ACode) (_:fl [] (lp u7y 0)=a)=>a) _ (by conv=>lhs;reduce;simp only[Int.reduceOfNat,Int.reduceNegSucc])
attribute [local irreducible] x9z
noncomputable def y3s:AFun:=(fun (a:AFun) (_:flF [x9z] u7y=a)=>a) _ (by conv=>lhs;reduce;simp only[Int.reduceOfNat,Int.reduceNegSucc])
theorem u3a:Gam.fn 208=some y3s:=by kernel_rfl
noncomputable def u7z:AFun:=(fun (a:AFun) (_:Gam.fn 207=some a)=>a) _ (by conv=>lhs;reduce;simp only[Int.reduceOfNat,Int.reduceNegSucc])
noncomputable def j5x:ACode:=(fun (a:ACode) (_:fl [] (lp u7z 0)=a)=>a) _ (by conv=>lhs;reduce;simp only[Int.reduceOfNat,Int.reduceNegSucc])
attribute [local irreducible] j5x
noncomputable def y3t:AFun:=(fun (a:AFun) (_:flF [j5x] u7z=a)=>a) _ (by conv=>lhs;reduce;simp only[Int.reduceOfNat,Int.reduceNegSucc])
theorem u3b:Gam.fn 207=some y3t:=by kernel_rfl
noncomputable def w2o:AFun:=(fun (a:AFun) (_:Gam.fn 290=some a)=>a) _ (by conv=>lhs;reduce;simp only[Int.reduceOfNat,Int.reduceNegSucc])
theorem y3u:Gam.fn 290=some w2o:=by kernel_rfl
noncomputable def w2p:AFun:=(fun (a:AFun) (_:Gam.fn 291=some a)=>a) _ (by conv=>lhs;reduce;simp only[Int.reduceOfNat,Int.reduceNegSucc])
theorem y3v:Gam.fn 291=some w2p:=by kernel_rfl
noncomputable def w2q:AFun:=(fun (a:AFun) (_:Gam.fn 316=some a)=>a) _ (by conv=>lhs;reduce;simp only[Int.reduceOfNat,Int.reduceNegSucc])
theorem y3w:Gam.fn 316=some w2q:=by kernel_rfl
noncomputable def w2r:AFun:=(fun (a:AFun) (_:Gam.fn 328=some a)=>a) _ (by conv=>lhs;reduce;simp only[Int.reduceOfNat,Int.reduceNegSucc])
theorem y3x:Gam.fn 328=some w2r:=by kernel_rfl
noncomputable def u8a:AFun:=(fun (a:AFun) (_:Gam.fn 292=some a)=>a) _ (by conv=>lhs;reduce;simp only[Int.reduceOfNat,Int.reduceNegSucc])
noncomputable def j5y:ACode:=(fun (a:ACode) (_:fl [] (lp u8a 0)=a)=>a) _ (by conv=>lhs;reduce;simp only[Int.reduceOfNat,Int.reduceNegSucc])
attribute [local irreducible] j5y
noncomputable def y3y:AFun:=(fun (a:AFun) (_:flF [j5y] u8a=a)=>a) _ (by conv=>lhs;reduce;simp only[Int.reduceOfNat,Int.reduceNegSucc])
theorem u3c:Gam.fn 292=some y3y:=by kernel_rfl
noncomputable def w2s:AFun:=(fun (a:AFun) (_:Gam.fn 314=some a)=>a) _ (by conv=>lhs;reduce;simp only[Int.reduceOfNat,Int.reduceNegSucc])
theorem y3z:Gam.fn 314=some w2s:=by kernel_rfl
noncomputable def w2t:AFun:=(fun (a:AFun) (_:Gam.fn 315=some a)=>a) _ (by conv=>lhs;reduce;simp only[Int.reduceOfNat,Int.reduceNegSucc])
theorem y4a:Gam.fn 315=some w2t:=by kernel_rfl
noncomputable def w2u:AFun:=(fun (a:AFun) (_:Gam.fn 322=some a)=>a) _ (by conv=>lhs;reduce;simp only[Int.reduceOfNat,Int.reduceNegSucc])
theorem y4b:Gam.fn 322=some w2u:=by kernel_rfl
noncomputable def w2v:AFun:=(fun (a:AFun) (_:Gam.fn 329=some a)=>a) _ (by conv=>lhs;reduce;simp only[Int.reduceOfNat,Int.reduceNegSucc])
theorem y4c:Gam.fn 329=some w2v:=by kernel_rfl
noncomputable def u8b:AFun:=(fun (a:AFun) (_:Gam.fn 334=some a)=>a) _ (by conv=>lhs;reduce;simp only[Int.reduceOfNat,Int.reduceNegSucc])
noncomputable def v6z:ACode:=(fun (a:ACode) (_:fl [] (lp u8b 0)=a)=>a) _ (by conv=>lhs;reduce;simp only[Int.reduceOfNat,Int.reduceNegSucc])
attribute [local irreducible] v6z
noncomputable def y4d:AFun:=(fun (a:AFun) (_:flF [v6z] u8b=a)=>a) _ (by conv=>lhs;reduce;simp only[Int.reduceOfNat,Int.reduceNegSucc])
theorem u3d:Gam.fn 334=some y4d:=by kernel_rfl
def y4e:AFun:=
 {ntmps:=8,nslots:=0,results:=[.tmp 4],byref:=[],owned:=false,
  body:=(.seq (.region 1 [N 4 (.move (I 0))] []) (.seq (.region 4 [M 5 0,M 6 1,N 7 (.call 354 [(.tmp 5),(.tmp 6)]),M 4 7] []) .ret))}
theorem u3e:Gam.fn 344=some y4e:=by kernel_rfl
noncomputable def y4f:AFun:=(fun (a:AFun) (_:Gam.fn 323=some a)=>a) _ (by conv=>lhs;reduce;simp only[Int.reduceOfNat,Int.reduceNegSucc])
theorem u3f:Gam.fn 323=some y4f:=by kernel_rfl
noncomputable def y4g:AFun:=(fun (a:AFun) (_:Gam.fn 330=some a)=>a) _ (by conv=>lhs;reduce;simp only[Int.reduceOfNat,Int.reduceNegSucc])
theorem u3g:Gam.fn 330=some y4g:=by kernel_rfl
noncomputable def u8c:AFun:=(fun (a:AFun) (_:Gam.fn 335=some a)=>a) _ (by conv=>lhs;reduce;simp only[Int.reduceOfNat,Int.reduceNegSucc])
noncomputable def j5z:ACode:=(fun (a:ACode) (_:fl [] (lp u8c 0)=a)=>a) _ (by conv=>lhs;reduce;simp only[Int.reduceOfNat,Int.reduceNegSucc])
attribute [local irreducible] j5z
noncomputable def y4h:AFun:=(fun (a:AFun) (_:flF [j5z] u8c=a)=>a) _ (by conv=>lhs;reduce;simp only[Int.reduceOfNat,Int.reduceNegSucc])
theorem u3h:Gam.fn 335=some y4h:=by kernel_rfl
noncomputable def u8d:AFun:=(fun (a:AFun) (_:Gam.fn 324=some a)=>a) _ (by conv=>lhs;reduce;simp only[Int.reduceOfNat,Int.reduceNegSucc])
noncomputable def j6a:ACode:=(fun (a:ACode) (_:fl [] (lp u8d 0)=a)=>a) _ (by conv=>lhs;reduce;simp only[Int.reduceOfNat,Int.reduceNegSucc])
attribute [local irreducible] j6a
noncomputable def y4i:AFun:=(fun (a:AFun) (_:flF [j6a] u8d=a)=>a) _ (by conv=>lhs;reduce;simp only[Int.reduceOfNat,Int.reduceNegSucc])
theorem u3i:Gam.fn 324=some y4i:=by kernel_rfl
noncomputable def u3j:AFun:=(fun (a:AFun) (_:Gam.fn 325=some a)=>a) _ (by conv=>lhs;reduce;simp only[Int.reduceOfNat,Int.reduceNegSucc])
noncomputable def x4g:ACode:=(fun (a:ACode) (_:fl [] (lp u3j 1)=a)=>a) _ (by conv=>lhs;reduce;simp only[Int.reduceOfNat,Int.reduceNegSucc])
attribute [local irreducible] x4g
noncomputable def j6b:ACode:=(fun (a:ACode) (_:fl [x4g] (lp u3j 0)=a)=>a) _ (by conv=>lhs;reduce;simp only[Int.reduceOfNat,Int.reduceNegSucc])
attribute [local irreducible] j6b
noncomputable def y4j:AFun:=(fun (a:AFun) (_:flF [j6b,x4g] u3j=a)=>a) _ (by conv=>lhs;reduce;simp only[Int.reduceOfNat,Int.reduceNegSucc])
theorem u3k:Gam.fn 325=some y4j:=by kernel_rfl
noncomputable def u8e:AFun:=(fun (a:AFun) (_:Gam.fn 326=some a)=>a) _ (by conv=>lhs;reduce;simp only[Int.reduceOfNat,Int.reduceNegSucc])
noncomputable def j6c:ACode:=(fun (a:ACode) (_:fl [] (lp u8e 0)=a)=>a) _ (by conv=>lhs;reduce;simp only[Int.reduceOfNat,Int.reduceNegSucc])
attribute [local irreducible] j6c
noncomputable def y4k:AFun:=(fun (a:AFun) (_:flF [j6c] u8e=a)=>a) _ (by conv=>lhs;reduce;simp only[Int.reduceOfNat,Int.reduceNegSucc])
theorem u3l:Gam.fn 326=some y4k:=by kernel_rfl
noncomputable def v0l:AFun:=(fun (a:AFun) (_:Gam.fn 327=some a)=>a) _ (by conv=>lhs;reduce;simp only[Int.reduceOfNat,Int.reduceNegSucc])
theorem u3m:Gam.fn 327=some v0l:=by kernel_rfl
noncomputable def u8f:AFun:=(fun (a:AFun) (_:Gam.fn 332=some a)=>a) _ (by conv=>lhs;reduce;simp only[Int.reduceOfNat,Int.reduceNegSucc])
noncomputable def j0a:ACode:=(fun (a:ACode) (_:fl [] (lp u8f 0)=a)=>a) _ (by conv=>lhs;reduce;simp only[Int.reduceOfNat,Int.reduceNegSucc])
attribute [local irreducible] j0a
noncomputable def y4l:AFun:=(fun (a:AFun) (_:flF [j0a] u8f=a)=>a) _ (by conv=>lhs;reduce;simp only[Int.reduceOfNat,Int.reduceNegSucc])
theorem y4m:Gam.fn 332=some y4l:=by kernel_rfl
noncomputable def u3n:AFun:=(fun (a:AFun) (_:Gam.fn 333=some a)=>a) _ (by conv=>lhs;reduce;simp only[Int.reduceOfNat,Int.reduceNegSucc])
noncomputable def k4j:ACode:=(fun (a:ACode) (_:fl [] (lp u3n 1)=a)=>a) _ (by conv=>lhs;reduce;simp only[Int.reduceOfNat,Int.reduceNegSucc])
attribute [local irreducible] k4j
noncomputable def v7a:ACode:=(fun (a:ACode) (_:fl [k4j] (lp u3n 0)=a)=>a) _ (by conv=>lhs;reduce;simp only[Int.reduceOfNat,Int.reduceNegSucc])
attribute [local irreducible] v7a
noncomputable def w2w:AFun:=(fun (a:AFun) (_:flF [v7a,k4j] u3n=a)=>a) _ (by conv=>lhs;reduce;simp only[Int.reduceOfNat,Int.reduceNegSucc])
theorem u3o:Gam.fn 333=some w2w:=by kernel_rfl
noncomputable def u8g:AFun:=(fun (a:AFun) (_:Gam.fn 340=some a)=>a) _ (by conv=>lhs;reduce;simp only[Int.reduceOfNat,Int.reduceNegSucc])
noncomputable def x4h:ACode:=(fun (a:ACode) (_:fl [] (lp u8g 0)=a)=>a) _ (by conv=>lhs;reduce;simp only[Int.reduceOfNat,Int.reduceNegSucc])
attribute [local irreducible] x4h
noncomputable def w2x:AFun:=(fun (a:AFun) (_:flF [x4h] u8g=a)=>a) _ (by conv=>lhs;reduce;simp only[Int.reduceOfNat,Int.reduceNegSucc])
theorem y4n:Gam.fn 340=some w2x:=by kernel_rfl
noncomputable def u8h:AFun:=(fun (a:AFun) (_:Gam.fn 341=some a)=>a) _ (by conv=>lhs;reduce;simp only[Int.reduceOfNat,Int.reduceNegSucc])
noncomputable def j6d:ACode:=(fun (a:ACode) (_:fl [] (lp u8h 0)=a)=>a) _ (by conv=>lhs;reduce;simp only[Int.reduceOfNat,Int.reduceNegSucc])
attribute [local irreducible] j6d
noncomputable def y4o:AFun:=(fun (a:AFun) (_:flF [j6d] u8h=a)=>a) _ (by conv=>lhs;reduce;simp only[Int.reduceOfNat,Int.reduceNegSucc])
theorem u3p:Gam.fn 341=some y4o:=by kernel_rfl
end
def q8h (s:List Nat):Prop:=s≠[]∧∀ c∈s,48≤c∧c≤57
theorem z6j {h:List AObj} {c:Nat} {s:List Nat} {k:IntKind}:q4u h (.str (c::s)) (.int k 0)=some (.int .u8 (c:Int),h):=x9p (i:=0) rfl
theorem q1t {h:List AObj} {s:List Nat} {i:Nat} {k:IntKind} (hi:i < s.length):q4u h (.str s) (.int k (i:Int))=some (.int .u8 (s[i]:Int),h):=x9p (by simp[hi])
theorem x0z {h:List AObj} {c:Nat} {s:List Nat} {k:IntKind}:slV h none (.str (c::s)) (some (.int k 1)) none none=some (.str s,h):=by
 simp[slV,z2w,z5b]
theorem v0m {h:List AObj} {s:List Nat} {i:Nat} {k:IntKind} (hi:i≤s.length):slV h none (.str s) (some (.int k (i:Int))) none none=some (.str (s.drop i),h):=by
 simp[slV,z2w,z5b,hi]
theorem y4p {h:List AObj} {s:List Nat} {i:Nat} {k:IntKind} (hi:i≤s.length):slV h none (.str s) none (some (.int k (i:Int))) none=some (.str (s.take i),h):=by
 simp[slV,z2w,z5b,hi]
theorem z3f {T:List Nat} {s:List Nat} {R:AV→List AObj→Prop} {h:List AObj}:RV T (some [.str s]) R h=R (.str s) h:=z2k rfl rfl
theorem z0e {T:List Nat} {s:Bool} {R:AV→List AObj→Prop} {h:List AObj}:RV T (some [.bool s]) R h=R (.bool s) h:=z2k rfl rfl
theorem z2l {T:List Nat} {k:IntKind} {n:Int} {R:AV→List AObj→Prop} {h:List AObj}:RV T (some [.int k n]) R h=R (.int k n) h:=z2k rfl rfl
theorem q1u {s:List Nat} (hs:q8h s):Pure Gam 208 [.str s] (.str (dec (z1q s))):=by
 refine Pure.of rfl u3a rfl rfl rfl rfl rfl fun D B clk T hB hT=> ?_
 simp only[go_sem,y3s]
 refine z1f (fun m q=>∃ t:List Nat,m=t.length∧q8h t∧z1q t=z1q s∧q.ts 0= .str t∧q.h=D++[]) s.length ⟨s,rfl,hs,rfl,rfl,rfl⟩ ?_
 rintro m ⟨ts,h,clk⟩ P ⟨t,rfl,ht,hw,h0,rfl⟩ hn he hr
 dsimp only at h0
 have fin:y2y t→∀ (ts':Tmps) (clk':Nat),ts' 0= .str t→P (.exit 0) ⟨ts',D++[],clk'⟩:=by
  intro hc ts' clk' q0
  refine he _ _ ?_
  simp only[go_sem,q0]
  rw[z3f]
  have:=k3z hc
  rw[hw] at this
  rw[←this]
  exact hT _
 obtain⟨c,t',rfl⟩:=List.exists_cons_of_ne_nil ht.1
 by_cases hl:t'=[]
 ·subst hl
  simp only[go_sem,h0,x9z,Int.cast_ofNat_Int,Int.reduceLT,decide_false,Nat.zero_add]
  exact fin ⟨by simp,ht.2,by simp⟩ _ _ (by simp[z0b,h0])
 ·have hpos:0 < t'.length:=List.length_pos_iff.2 hl
  have e1:decide ((1:Int) < ((t'.length + 1:Nat):Int))=true:=by rw[decide_eq_true_iff];omega
  by_cases hc:c=48
  ·subst hc
   simp only[go_sem,h0,x9z,e1,z6j,x0z,decide_true]
   refine hn t'.length _ (by simp) ⟨t',rfl,⟨hl,fun d hd=>ht.2 d (List.mem_cons_of_mem _ hd)⟩, ?_,rfl,rfl⟩
   rw[←hw,z4m];simp
  ·have e2:decide ((c:Int)=48)=false:=by rw[decide_eq_false_iff_not];omega
   simp only[go_sem,h0,x9z,e1,z6j,x0z,e2]
   exact fin ⟨by simp,ht.2,fun _=>by simpa using hc⟩ _ _ (by simp[z0b,h0])
theorem q7b {s:List Nat} (hs:q8h s) (hlen:s.length≤20000000):Pure Gam 207 [.str s] (.bool true):=by
 refine Pure.of rfl u3b rfl rfl rfl rfl rfl fun D B clk T hB hT=> ?_
 simp only[go_sem,y3t]
 refine z1f (fun m q=>∃ j:Nat,j≤s.length∧m=s.length - j∧q.ts 0= .str s∧q.ts 3= .int .i64 (j:Int)∧q.h=D++[]) s.length ⟨0,by omega,rfl,rfl,rfl,rfl⟩ ?_
 rintro m ⟨ts,h,clk⟩ P ⟨j,hj,rfl,h0,h3,rfl⟩ hn he hr
 dsimp only at h0 h3
 by_cases hlt:j < s.length
 ·have e1:decide ((j:Int) < (s.length:Int))=true:=by rw[decide_eq_true_iff];omega
  have hc:=hs.2 s[j] (List.getElem_mem hlt)
  have e2:decide ((s[j]:Int) < 48)=false:=by rw[decide_eq_false_iff_not];omega
  have e3:decide ((57:Int) < (s[j]:Int))=false:=by rw[decide_eq_false_iff_not];omega
  have e4:IntKind.i64.wrap ((j:Int) + 1)=((j + 1:Nat):Int):=z0c (by omega) (by omega)
  simp only[go_sem,h0,h3,j5x,e1,q1t hlt,e2,e3,e4]
  exact hn (s.length - (j + 1)) _ (by omega) ⟨j + 1,hlt,rfl,h0,rfl,rfl⟩
 ·have e1:decide ((j:Int) < (s.length:Int))=false:=by rw[decide_eq_false_iff_not];omega
  have e2:decide (s=[])=false:=by simp[hs.1]
  simp only[go_sem,h0,h3,j5x,e1]
  refine he _ _ ?_
  simp only[go_sem,h0,h3,e2,Bool.not_false]
  rw[z0e]
  exact hT _
theorem z4w:∀ {s:List Nat},(∀ c∈s,48≤c∧c≤57)→z1q s < 10 ^ s.length
 | [],_=>by simp[z1q]
 | c::s,h=>by
   have h1:=z4w (s:=s) fun d hd=>h d (List.mem_cons_of_mem _ hd)
   have h2:=h c List.mem_cons_self
   rw[z4m,List.length_cons,Nat.pow_succ]
   have:(c - 48) * 10 ^ s.length≤9 * 10 ^ s.length:=Nat.mul_le_mul_right _ (by omega)
   omega
theorem v0n {c:Nat} {s:List Nat} (hc:49≤c):10 ^ s.length≤z1q (c::s):=by
 rw[z4m]
 have:1 * 10 ^ s.length≤(c - 48) * 10 ^ s.length:=Nat.mul_le_mul_right _ (by omega)
 omega
theorem q1v:∀ {s t:List Nat},s.length=t.length→(∀ c∈s,48≤c∧c≤57)→(∀ c∈t,48≤c∧c≤57)→z4d s t=decide (z1q s < z1q t)
 | [],[],_,_,_=>by simp[z4d]
 | a::s,b::t,hl,hs,ht=>by
   have hl':s.length=t.length:=by simpa using hl
   have ih:=q1v hl' (fun d hd=>hs d (List.mem_cons_of_mem _ hd)) (fun d hd=>ht d (List.mem_cons_of_mem _ hd))
   have h1:=z4w (s:=s) fun d hd=>hs d (List.mem_cons_of_mem _ hd)
   have h2:=z4w (s:=t) fun d hd=>ht d (List.mem_cons_of_mem _ hd)
   have ha:=hs a List.mem_cons_self
   have hb:=ht b List.mem_cons_self
   rw[z4d,ih,z4m,z4m,hl']
   rw[hl'] at h1
   rcases Nat.lt_trichotomy a b with h | h | h
   ·have:(a - 48 + 1) * 10 ^ t.length≤(b - 48) * 10 ^ t.length:=Nat.mul_le_mul_right _ (by omega)
    rw[Nat.add_mul,Nat.one_mul] at this
    have e1:decide (a < b)=true:=by simp[h]
    rw[e1,Bool.true_or]
    symm
    rw[decide_eq_true_iff]
    omega
   ·subst h
    simp
   ·have:(b - 48 + 1) * 10 ^ t.length≤(a - 48) * 10 ^ t.length:=Nat.mul_le_mul_right _ (by omega)
    rw[Nat.add_mul,Nat.one_mul] at this
    have e1:decide (a < b)=false:=by simp;omega
    have e2:decide (a=b)=false:=by simp;omega
    rw[e1,e2,Bool.false_or,Bool.false_and]
    symm
    rw[decide_eq_false_iff_not]
    omega
theorem z6v {a b:Nat} (h:(dec a).length < (dec b).length):a < b:=by
 have h1:=z4w (z1m a)
 rw[z1u] at h1
 rcases Nat.eq_zero_or_pos b with rfl | hb
 ·have h3:([48]:List Nat).length=1:=rfl
  rw[q0a,h3] at h
  have:=List.length_pos_iff.2 (z7w a)
  omega
 ·obtain⟨c,s,hs,hc,_⟩:=j5r hb
  have h2:=v0n (s:=s) hc
  rw[←hs,z1u] at h2
  rw[hs,List.length_cons] at h
  have:10 ^ (dec a).length≤10 ^ s.length:=Nat.pow_le_pow_right (by omega) (by omega)
  omega
theorem v0o {a b:Nat}:(decide ((dec a).length < (dec b).length) || (decide ((dec a).length=(dec b).length) && z4d (dec a) (dec b)))=decide (a < b):=by
 rcases Nat.lt_trichotomy (dec a).length (dec b).length with h | h | h
 ·have:=z6v h
  simp[h,this]
 ·rw[q1v h (z1m a) (z1m b),z1u,z1u]
  simp[h]
 ·have:=z6v h
  have e1:¬ (dec a).length < (dec b).length:=by omega
  have e2:¬ (dec a).length=(dec b).length:=by omega
  have e3:¬ a < b:=by omega
  simp[e1,e2,e3]
section
theorem k4k {a b:Nat}:Pure Gam 281 [.str (dec a), .str (dec b)] (.int .i64 (if a < b then -1 else if a=b then 0 else 1)):=by
 refine Pure.of rfl u2y rfl rfl rfl rfl rfl fun D B clk T hB hT=> ?_
 have hd:=v0o (a:=a) (b:=b)
 have fin:∀ (n:Int),n=(if a < b then -1 else if a=b then 0 else 1)→T (.int .i64 n) (D++[]):=fun n hn=>hn ▸ hT _
 have key:(decide (((dec a).length:Int) < ((dec b).length:Int))=true∧a < b)∨(decide (((dec a).length:Int) < ((dec b).length:Int))=false∧decide (((dec a).length:Int)=((dec b).length:Int))=true∧z4d (dec a) (dec b)=decide (a < b))∨(decide (((dec a).length:Int) < ((dec b).length:Int))=false∧decide (((dec a).length:Int)=((dec b).length:Int))=false∧b < a):=by
  rcases Nat.lt_trichotomy (dec a).length (dec b).length with h | h | h
  ·exact .inl ⟨by rw[decide_eq_true_iff];omega,z6v h⟩
  ·refine .inr (.inl ⟨by rw[decide_eq_false_iff_not];omega,by rw[decide_eq_true_iff];omega, ?_⟩)
   rw[q1v h (z1m a) (z1m b),z1u,z1u]
  ·exact .inr (.inr ⟨by rw[decide_eq_false_iff_not];omega,by rw[decide_eq_false_iff_not];omega,z6v h⟩)
 have heq:decide (dec a=dec b)=decide (a=b):=by
  rw[decide_eq_decide]
  exact⟨x0t,fun h=>h ▸ rfl⟩
 rcases key with ⟨e1,h1⟩ | ⟨e1,e2,e3⟩ | ⟨e1,e2,h1⟩
 ·simp only[go_sem,j9w,e1,Bool.not_true]
  rw[z2l]
  exact fin _ (by rw[if_pos h1])
 ·rcases Nat.lt_trichotomy a b with h | h | h
  ·have e4:decide (a < b)=true:=by simp[h]
   simp only[go_sem,j9w,e1,e2,e3,e4,Bool.not_false]
   rw[z2l]
   exact fin _ (by rw[if_pos h])
  ·have e4:decide (a < b)=false:=by simp;omega
   have e5:decide (a=b)=true:=by simp[h]
   simp only[go_sem,j9w,e1,e2,e3,e4,heq,e5,Bool.not_false]
   rw[z2l]
   exact fin _ (by rw[if_neg (by omega),if_pos h])
  ·have e4:decide (a < b)=false:=by simp;omega
   have e5:decide (a=b)=false:=by simp;omega
   simp only[go_sem,j9w,e1,e2,e3,e4,heq,e5,Bool.not_false]
   rw[z2l]
   exact fin _ (by rw[if_neg (by omega),if_neg (by omega)])
 ·have e5:decide (a=b)=false:=by simp;omega
  simp only[go_sem,j9w,e1,e2,heq,e5,Bool.not_false]
  rw[z2l]
  exact fin _ (by rw[if_neg (by omega),if_neg (by omega)])
section
variable {D L:List AObj} {B k g i:Nat} {es:List AV} {w:Bool}
theorem q0v {K K':IntKind} {n m:Int} (hB:D.length=B) (hL:L[k]? =some (.blk g es true w 0)) (hi:es[i]? =some (.int K' m)):z9z (D++L) 1 (.int K n) (.ptr (B + k) g i 0)=some (.undef,D++L.set k (.blk g (es.set i (.int K n)) true w 0)):=by
 have hb:z2g (D++L) (B + k) g=some (es,true,w,0):=by rw[z7b hB];exact z5m hL
 rw[q0s,hb]
 have hp:pub (D++L) (.int K n)=some (.int K n,D++L):=rfl
 simp only[hi,if_true,hp,j2p,x0q,List.length_singleton,List.all_cons,List.all_nil,x5v,Bool.and_self,true_and,Nat.zero_le,j2y,List.map_nil,List.contains_nil,Bool.not_false,and_self,implies_true,q0k,x0q,Nat.zero_add,Nat.le_refl,List.take_zero,List.nil_append,List.drop_succ_cons,List.drop_nil,List.append_nil,Option.map_some,x4a,z9c,z5l hB]
theorem q0h {len:Nat} {K:IntKind} {x:AV} (hB:D.length=B) (hL:L[k]? =some (.blk g es true w 0)) (hi:es[i]? =some x) (hx:x.cells=[x]) (hl:i < len):z1p (D++L) 1 (.ob (B + k) g 0 len) (.int K (i:Int))=some (.ptr (B + k) g i 0,D++L):=by
 have hb:z2g (D++L) (B + k) g=some (es,true,w,0):=by rw[z7b hB];exact z5m hL
 simp only[z1p,Int.natCast_nonneg,if_true,hb,Int.toNat_natCast,Nat.zero_add,hi,hl,hx,List.length_singleton,and_self]
theorem z9g {len:Nat} (hB:D.length=B) (hL:L[k]? =some (.blk g es true w 0)) (hl:es.length=len):z5s (D++L) (.ob (B + k) g 0 len)=some es:=by
 have hb:z2g (D++L) (B + k) g=some (es,true,w,0):=by rw[z7b hB];exact z5m hL
 simp only[z5s,q8p,hb,Nat.zero_add,hl,Nat.le_refl,if_true,List.drop_zero]
 rw[List.take_of_length_le (by omega)]
end
def bytes (s:List Nat):List AV:=s.map fun (c:Nat)=> .int .u8 (c:Int)
theorem z7f:∀ {s:List Nat},(∀ c∈s,c < 256)→z7m (bytes s)=some s
 | [],_=>rfl
 | c::s,h=>by
   have ih:=z7f (s:=s) fun d hd=>h d (List.mem_cons_of_mem _ hd)
   have hc:=h c List.mem_cons_self
   unfold bytes at ih⊢
   simp only[List.map_cons,z7m,ih,Option.map_some,Int.toNat_natCast]
   rw[if_pos (by omega)]
end
theorem q5x {h:List AObj} {s g b n:Nat} {z:AV} {k j:IntKind} (hz:z.def? =true) (hn:(n:Int) * ((b:Int) + 1)≤2 ^ 46):msV h s g z b (.int k (n:Int)) (.int j (n:Int))=some (.ob s g 0 n,h.set s (.blk g (List.replicate n z) true false 0)):=by
 have h1:(0≤(n:Int)∧(n:Int)≤n∧(n:Int) * (b + 1)≤(z1g:Int)∧z.def? =true):=by
  refine⟨by omega,by omega, ?_,hz⟩
  simpa [z1g] using hn
 simp only[msV,if_pos h1,Int.toNat_natCast]
theorem x6j {n i:Nat} {x y:AV} {suf:List AV} (hi:i < n):(List.replicate (n - i) x++suf).set (n - 1 - i) y=List.replicate (n - (i + 1)) x++(y::suf):=by
 obtain⟨m,hm⟩:∃ m,n - i=m + 1:=⟨n - i - 1,by omega⟩
 rw[hm,show n - 1 - i=m by omega,show n - (i + 1)=m by omega,List.replicate_succ',List.append_assoc,List.set_append_right _ _ (by simp)]
 simp
theorem q2t {n i:Nat} {x:AV} {suf:List AV} (hi:i < n):(List.replicate (n - i) x++suf)[n - 1 - i]? =some x:=by
 rw[List.getElem?_append_left (by simp;omega),List.getElem?_replicate,if_pos (by omega)]
theorem q7c {A:List Nat} {i:Nat} (hi:i < A.length):z1q (A.drop (A.length - (i + 1)))=(A[A.length - 1 - i] - 48) * 10 ^ i + z1q (A.drop (A.length - i)):=by
 have h1:A.drop (A.length - (i + 1))=A[A.length - 1 - i]::A.drop (A.length - i):=by
  rw[List.drop_eq_getElem_cons (by omega)]
  congr 2 <;> omega
 rw[h1,z4m,List.length_drop,show A.length - (A.length - i)=i by omega]
theorem q3t {c:Nat} (h:48≤c∧c≤57):IntKind.u8.wrap ((c:Int) - 48)=((c - 48:Nat):Int):=by rw[IntWalk.u8_in _ (by omega)];omega
theorem j3h {a b:Nat} (hba:b≤a) (hlen:(dec a).length≤10000100) (hlenb:(dec b).length≤10000100):Pure Gam 282 [.str (dec a), .str (dec b)] (.str (dec (a - b))):=by
 refine Pure.of rfl u2z rfl rfl rfl rfl rfl fun D B clk T hB hT=> ?_
 have hda:=z1m a
 have hdb:=z1m b
 have hna:dec a≠[]:=z7w a
 have hlab:(dec b).length≤(dec a).length:=Classical.byContradiction fun h=>by
  have:=z6v (a:=a) (b:=b) (by omega)
  omega
 have hwa:=z1u a
 have hwb:=z1u b
 generalize hA:dec a=A at *
 generalize hBb:dec b=C at *
 simp only[go_sem,y3r,hB,q5x (z:= .int .u8 0) (n:=A.length) (b:=1) rfl (by omega)]
 refine z1f (fun m q=>∃ (i r:Nat) (suf:List Nat) (gr:Nat),i≤A.length∧m=A.length - i∧suf.length=i∧(∀ c∈suf,48≤c∧c≤57)∧r≤1∧z1q suf + z1q (C.drop (C.length - i)) + 0=z1q (A.drop (A.length - i)) + r * 10 ^ i∧
  q.ts 0= .str A∧q.ts 1= .str C∧q.ts 5= .ob (B + 0) gr 0 A.length∧q.ts 6= .int .i64 (r:Int)∧q.ts 7= .int .i64 (i:Int)∧q.h=D++[.blk gr (List.replicate (A.length - i) (.int .u8 0)++bytes suf) true false 0]) A.length ?_ ?_
 ·refine⟨0,0,[],_,by omega,rfl,rfl,by simp,by omega,by simp[z1q],rfl,rfl,rfl,rfl,rfl,by simp[bytes]⟩
 rintro m ⟨ts,h,clk⟩ P ⟨i,r,suf,gr,hi,rfl,hsl,hsd,hr1,hw,h0,h1,h5,h6,h7,rfl⟩ hn he hr
 dsimp only at h0 h1 h5 h6 h7
 by_cases hlt:i < A.length
 ·have e1:decide ((i:Int) < (A.length:Int))=true:=by rw[decide_eq_true_iff];omega
  have ea:IntKind.i64.wrap (IntKind.i64.wrap ((A.length:Int) - 1) - (i:Int))=((A.length - 1 - i:Nat):Int):=by rw[z0c (n:=(A.length:Int) - 1) (by omega) (by omega),z0c (by omega) (by omega)];omega
  have hia:A.length - 1 - i < A.length:=by omega
  have hca:=hda _ (List.getElem_mem hia)
  have hdig:=q7c hlt
  generalize hc:A[A.length - 1 - i]=c at hca hdig
  have hixa:∀ h,q4u h (.str A) (.int .i64 ((A.length - 1 - i:Nat):Int))=some (.int .u8 (c:Int),h):=fun h=>by rw[q1t hia,hc]
  have ec:=q3t hca
  have ei:IntKind.i64.wrap ((i:Int) + 1)=((i + 1:Nat):Int):=z0c (by omega) (by omega)
  have ec2:IntKind.i64.wrap ((c - 48:Nat):Int)=((c - 48:Nat):Int):=z0c (by omega) (by omega)
  have fin:∀ (s:Int) (d:Nat),d≤9→s=((c - 48:Nat):Int) - r - (d:Int)→z1q (C.drop (C.length - (i + 1)))=d * 10 ^ i + z1q (C.drop (C.length - i))→
    ∀ (r':Nat) (e:Nat),((s < 0∧r'=1∧(e:Int)=s + 10)∨(0≤s∧r'=0∧(e:Int)=s))→∀ (ts':Tmps) (clk':Nat),ts' 0= .str A→ts' 1= .str C→ts' 5= .ob (B + 0) gr 0 A.length→ts' 6= .int .i64 (r':Int)→ts' 7= .int .i64 ((i + 1:Nat):Int)→P .norm ⟨ts',D++[.blk gr (List.replicate (A.length - (i + 1)) (.int .u8 0)++bytes ((48 + e)::suf)) true false 0],clk'⟩:=by
   intro s d hd hs hcd r' e hre ts' clk' q0 q1 q5 q6 q7
   refine hn (A.length - (i + 1)) _ (by omega) ⟨i + 1,r',(48 + e)::suf,gr,hlt,rfl,by simp[hsl], ?_,by omega, ?_,q0,q1,q5,q6,q7,rfl⟩
   ·intro c' hc'
    rw[List.mem_cons] at hc'
    rcases hc' with rfl | hc'
    ·omega
    ·exact hsd c' hc'
   ·rw[z4m,hsl,hcd,hdig,Nat.pow_succ,Nat.add_sub_cancel_left]
    have hx:e + d + r=(c - 48) + r' * 10:=by omega
    have:=congrArg (· * 10 ^ i) hx
    simp only[Nat.add_mul] at this
    rw[Nat.mul_assoc] at this
    rw[Nat.mul_comm (10 ^ i) 10]
    omega
  have hstore:∀ (g':Nat) (x:Int),z9z (D++[.blk g' (List.replicate (A.length - i) (.int .u8 0)++bytes suf) true false 0]) 1 (.int .u8 x) (.ptr (B + 0) g' (A.length - 1 - i) 0)=some (.undef,D++[.blk g' (List.replicate (A.length - (i + 1)) (.int .u8 0)++(.int .u8 x::bytes suf)) true false 0]):=fun g' x=>by
   have h:=q0v (K:= .u8) (n:=x) (K':= .u8) (m:=0) (D:=D) (B:=B) (g:=g') (i:=A.length - 1 - i) (es:=List.replicate (A.length - i) (AV.int .u8 0)++bytes suf) (L:=[AObj.blk g' (List.replicate (A.length - i) (AV.int .u8 0)++bytes suf) true false 0]) (k:=0) (w:=false) hB rfl (q2t hlt)
   rw[x6j hlt] at h
   exact h
  have hidx:∀ (g':Nat),z1p (D++[.blk g' (List.replicate (A.length - i) (.int .u8 0)++bytes suf) true false 0]) 1 (.ob (B + 0) g' 0 A.length) (.int .i64 ((A.length - 1 - i:Nat):Int))=some (.ptr (B + 0) g' (A.length - 1 - i) 0,D++[.blk g' (List.replicate (A.length - i) (.int .u8 0)++bytes suf) true false 0]):=fun g'=>
   q0h (L:=[.blk g' (List.replicate (A.length - i) (.int .u8 0)++bytes suf) true false 0]) (k:=0) hB rfl (q2t hlt) rfl (by omega)
  have e8:∀ e:Nat,e≤9→IntKind.u8.wrap (IntKind.i64.wrap (48 + (e:Int)))=((48 + e:Nat):Int):=fun e h=>by rw[z0c (by omega) (by omega),IntWalk.u8_in _ (by omega)];omega
  have hsub1:IntKind.i64.wrap (((c - 48:Nat):Int) - (r:Int))=((c - 48:Nat):Int) - (r:Int):=z0c (by omega) (by omega)
  by_cases hib:i < C.length
  ·have e2:decide ((i:Int) < (C.length:Int))=true:=by rw[decide_eq_true_iff];omega
   have eb:IntKind.i64.wrap (IntKind.i64.wrap ((C.length:Int) - 1) - (i:Int))=((C.length - 1 - i:Nat):Int):=by rw[z0c (n:=(C.length:Int) - 1) (by omega) (by omega),z0c (by omega) (by omega)];omega
   have hic:C.length - 1 - i < C.length:=by omega
   have hcc:=hdb _ (List.getElem_mem hic)
   have hdigb:=q7c hib
   generalize hc2:C[C.length - 1 - i]=d at hcc hdigb
   have hixb:∀ h,q4u h (.str C) (.int .i64 ((C.length - 1 - i:Nat):Int))=some (.int .u8 (d:Int),h):=fun h=>by rw[q1t hic,hc2]
   have ed:=q3t hcc
   have ed2:IntKind.i64.wrap ((d - 48:Nat):Int)=((d - 48:Nat):Int):=z0c (by omega) (by omega)
   have hsub2:IntKind.i64.wrap (((c - 48:Nat):Int) - (r:Int) - ((d - 48:Nat):Int))=((c - 48:Nat):Int) - (r:Int) - ((d - 48:Nat):Int):=z0c (by omega) (by omega)
   have fin':=fin (((c - 48:Nat):Int) - r - ((d - 48:Nat):Int)) (d - 48) (by omega) rfl hdigb
   by_cases hneg:((c - 48:Nat):Int) - (r:Int) - ((d - 48:Nat):Int) < 0
   ·have e3:decide (((c - 48:Nat):Int) - (r:Int) - ((d - 48:Nat):Int) < 0)=true:=by rw[decide_eq_true_iff];exact hneg
    obtain⟨e,he2⟩:∃ e:Nat,(e:Int)=((c - 48:Nat):Int) - (r:Int) - ((d - 48:Nat):Int) + 10:=⟨(((c - 48:Nat):Int) - (r:Int) - ((d - 48:Nat):Int) + 10).toNat,by omega⟩
    have e4:IntKind.i64.wrap (((c - 48:Nat):Int) - (r:Int) - ((d - 48:Nat):Int) + 10)=(e:Int):=by rw[z0c (by omega) (by omega)];omega
    simp only[go_sem,h0,h1,h5,h6,h7,x0y,hB,e1,ea,hixa,ec,ec2,hsub1,e2,eb,hixb,ed,ed2,hsub2,e3,e4,e8 e (by omega),hidx,hstore,ei]
    exact fin' 1 e (.inl ⟨hneg,rfl,he2⟩) _ _ (by simp[z0b,h0]) (by simp[z0b,h1]) (by simp[z0b,h5]) (by simp[z0b]) (by simp[z0b])
   ·have e3:decide (((c - 48:Nat):Int) - (r:Int) - ((d - 48:Nat):Int) < 0)=false:=by rw[decide_eq_false_iff_not];exact hneg
    obtain⟨e,he2⟩:∃ e:Nat,((c - 48:Nat):Int) - (r:Int) - ((d - 48:Nat):Int)=(e:Int):=⟨(((c - 48:Nat):Int) - (r:Int) - ((d - 48:Nat):Int)).toNat,by omega⟩
    rw[he2] at e3
    have hsub2:=hsub2.trans he2
    simp only[go_sem,h0,h1,h5,h6,h7,x0y,hB,e1,ea,hixa,ec,ec2,hsub1,e2,eb,hixb,ed,ed2,hsub2,e3,e8 e (by omega),hidx,hstore,ei]
    exact fin' 0 e (.inr ⟨by omega,rfl,he2.symm⟩) _ _ (by simp[z0b,h0]) (by simp[z0b,h1]) (by simp[z0b,h5]) (by simp[z0b]) (by simp[z0b])
  ·have e2:decide ((i:Int) < (C.length:Int))=false:=by rw[decide_eq_false_iff_not];omega
   have fin':=fin (((c - 48:Nat):Int) - r) 0 (by omega) (by omega) (by rw[show C.length - (i + 1)=0 by omega,show C.length - i=0 by omega];omega)
   by_cases hneg:((c - 48:Nat):Int) - (r:Int) < 0
   ·have e3:decide (((c - 48:Nat):Int) - (r:Int) < 0)=true:=by rw[decide_eq_true_iff];exact hneg
    obtain⟨e,he2⟩:∃ e:Nat,(e:Int)=((c - 48:Nat):Int) - (r:Int) + 10:=⟨(((c - 48:Nat):Int) - (r:Int) + 10).toNat,by omega⟩
    have e4:IntKind.i64.wrap (((c - 48:Nat):Int) - (r:Int) + 10)=(e:Int):=by rw[z0c (by omega) (by omega)];omega
    simp only[go_sem,h0,h1,h5,h6,h7,x0y,hB,e1,ea,hixa,ec,ec2,hsub1,e2,e3,e4,e8 e (by omega),hidx,hstore,ei]
    exact fin' 1 e (.inl ⟨hneg,rfl,he2⟩) _ _ (by simp[z0b,h0]) (by simp[z0b,h1]) (by simp[z0b,h5]) (by simp[z0b]) (by simp[z0b])
   ·have e3:decide (((c - 48:Nat):Int) - (r:Int) < 0)=false:=by rw[decide_eq_false_iff_not];exact hneg
    obtain⟨e,he2⟩:∃ e:Nat,((c - 48:Nat):Int) - (r:Int)=(e:Int):=⟨(((c - 48:Nat):Int) - (r:Int)).toNat,by omega⟩
    rw[he2] at e3
    have hsub1:=hsub1.trans he2
    simp only[go_sem,h0,h1,h5,h6,h7,x0y,hB,e1,ea,hixa,ec,ec2,hsub1,e2,e3,e8 e (by omega),hidx,hstore,ei]
    exact fin' 0 e (.inr ⟨by omega,rfl,he2.symm⟩) _ _ (by simp[z0b,h0]) (by simp[z0b,h1]) (by simp[z0b,h5]) (by simp[z0b]) (by simp[z0b])
 ·have hiA:i=A.length:=by omega
  have e1:decide ((i:Int) < (A.length:Int))=false:=by rw[decide_eq_false_iff_not];omega
  have hwl:=z4w hsd
  have hr0:r=0:=Classical.byContradiction fun h=>by
   have:r=1:=by omega
   subst this
   rw[hiA,Nat.sub_self,List.drop_zero,show C.length - A.length=0 by omega,List.drop_zero,hwa,hwb] at hw
   rw[hsl,hiA] at hwl
   omega
  have hws:z1q suf=a - b:=by
   rw[hiA,Nat.sub_self,List.drop_zero,show C.length - A.length=0 by omega,List.drop_zero,hwa,hwb,hr0] at hw
   omega
  have hsne:suf≠[]:=fun h=>hna (List.length_eq_zero_iff.1 (by rw[←hiA,←hsl,h];rfl))
  simp only[go_sem,h0,h1,h5,h6,h7,x0y,e1]
  refine he _ _ ?_
  have hof:k7n (D++[.blk gr (List.replicate (A.length - i) (.int .u8 0)++bytes suf) true false 0]) (.ob (B + 0) gr 0 A.length)=some (.str suf,D++[.blk gr (List.replicate (A.length - i) (.int .u8 0)++bytes suf) true false 0]):=by
   have hs:=z9g (B:=B) (D:=D) (L:=[.blk gr (List.replicate (A.length - i) (.int .u8 0)++bytes suf) true false 0]) (k:=0) (g:=gr) (len:=A.length) hB rfl (by simp[bytes,hsl];omega)
   simp only[k7n,hs,Option.bind_some]
   rw[show A.length - i=0 by omega,List.replicate_zero,List.nil_append,z7f fun c hc=>by have:=hsd c hc;omega]
   rfl
  simp only[go_sem,h5,hof]
  rw[z0a (q1u ⟨hsne,hsd⟩),hws]
  simp only[go_sem,]
  rw[z3f]
  exact hT _
end Go.Proofs.YtkollgjffkdliaaGreatDoor.Am
