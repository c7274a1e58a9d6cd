/- Walking: a call that is handed a slice with its right to grow Walking: merge Walking: merge Walking: the reference's map of models Walking: the definitions of the predicates that are left, as rows tha -/
import Derived.Test.YtdfepmffiampgaaGreatDoorM39
set_option linter.all false
namespace Go.Proofs.YtdfepmffiampgaaGreatDoor.Am
open Go
set_option maxRecDepth 100000
def u9o (B s:Nat) (h:List AObj) (rs:List ARes) (Q:AV→List AObj→Nat→Prop):Post:=fun e q=>(∀ i,e≠ .exit i)∧∃ vs D' L o',z1z q.h q.ts rs=some vs∧q.h=D'++L∧D'.length=B∧D'[s]? =some o'∧(∃ i∈(z1l vs).ids,B≤i)∧Q (z1l vs) (h.set s o'++L) q.clk
theorem y7q {f s:Nat} {args az:List AV} {h:List AObj} {clk:Nat} {af:AFun} {obj:AObj} {bl:List Nat} {Q:AV→List AObj→Nat→Prop} (hext:Gam.ext f=none) (hfn:Gam.fn f=some af) (hb:af.byref=bl) (ho:af.owned=true) (hp:z1d h bl 0 args=some az) (hl:z0p bl 0 args=[]) (hids:idsL az=[s]) (hs:h[s]? =some obj) (hoi:obj.ids=[])
  (hw:∀ (D:List AObj) (B:Nat),D.length=B→B=h.length→D[s]? =some obj→s < B→K Gam B af.body [] ⟨z9z az,D++List.replicate af.nslots .dead,clk⟩ (u9o B s h af.results Q)):WC Gam f args h clk Q:=by
 have hlt:s < h.length:=by
  rw[List.getElem?_eq_some_iff] at hs
  exact hs.1
 obtain⟨k,e,s1,he,hne,vs,D',L,o',hr,hL,hDl,hso,⟨i,hi1,hi2⟩,hQ⟩:=hw (maskFrom [s] 0 h) h.length z5b rfl (by rw[x4w (by simp)];exact hs) hlt
 refine⟨k,z1l vs,h.set s o'++L,s1.clk, ?_,hQ⟩
 have hreach:reach h (h.length + 1) [] [s]=[s]:=by
  simp only[reach,List.contains_nil,Bool.false_eq_true,if_false,hs,Option.map_some,hoi,Option.getD_some,List.nil_append]
  cases h.length <;> rfl
 have hso':s1.h[s]? =some o':=by rw[hL,List.getElem?_append_left (by omega)];exact hso
 have hm:z0r [s] 0 h s1.h=h.set s o':=by
  have:=q9v (s:=s) (h:=h) (h':=s1.h) (k:=0) hlt hso'
  rw[Nat.zero_add] at this
  exact this
 have hdrop:s1.h.drop h.length=L:=by rw[hL,List.drop_left' hDl]
 have hall:(((z1l vs).ids++(List.map (fun i=>(Option.map AObj.ids s1.h[i]?).getD []) [s]).flatten).all fun x=>decide (x < h.length))=false:=by
  rw[List.all_eq_false]
  exact⟨i,List.mem_append_left _ hi1,by simp;omega⟩
 subst hb
 unfold z5f z0q
 simp only[hext,hfn,hp,hl,freezeAll,hids,hreach,he,ho,if_true,hr,List.isEmpty_cons,Bool.and_false,Bool.false_eq_true,if_false,hm]
 cases e with
 | exit i=>exact absurd rfl (hne i)
 | norm=>simp only[hall,Bool.false_eq_true,if_false,hdrop]
 | ret=>simp only[hall,Bool.false_eq_true,if_false,hdrop]
theorem j8y {D L:List AObj} {B k s g esz b gen:Nat} {xs ys:List AV} {u:Tip} (hB:D.length=B) (hlt:s < B) (hs:D[s]? =some (.tip g esz)) (hx:z0o esz xs=true) (hy:z0o esz ys=true) (hl:(xs.length + ys.length) * (b + 1)≤2 ^ 46):
  z0n (D++L) (B + k) gen esz b false (.sl xs (.at s g)) (.sl ys u)=some (.sl (xs++ys) (.at (B + k) gen),D.set s .dead++L.set k (.tip gen esz)):=by
 have hsr:z4e (D++L) (.sl ys u)=some ys:=rfl
 have hg:(D++L)[s]? =some (.tip g esz):=by rw[List.getElem?_append_left (by omega)];exact hs
 have h1:¬ (2 ^ 46 < (xs.length + ys.length) * (b + 1)):=by omega
 have hset:((D++L).set s .dead).set (B + k) (.tip gen esz)=D.set s .dead++L.set k (.tip gen esz):=by
  rw[List.set_append_left _ _ (by omega)]
  exact z1t (by rw[List.length_set];exact hB)
 unfold z0n
 simp only[hsr,hx,hy,Bool.not_true,Bool.false_eq_true,if_false,z1c,gt_iff_lt,h1,decide_false,Bool.or_self,hg,and_self,if_true,hset]
theorem y7r {m:List Def} {d:Def} {s g clk:Nat} {h:List AObj} {Q:AV→List AObj→Nat→Prop} (hl:m.length≤1000) (hs:h[s]? =some (.tip g 3)) (hQ:∀ g' o c,Q (.sl ((m++[d]).map z2b) (.at h.length g')) (h.set s .dead++[.tip g' 3,o]) c):WC Gam 28 [.sl (m.map z2b) (.at s g), .int .i64 (m.length:Int), .sl [z2b d] .full] h clk Q:=by
 refine y7q (az:=[.sl (m.map z2b) (.at s g), .int .i64 (m.length:Int), .sl [z2b d] .no]) rfl v6h rfl rfl rfl rfl (by simp[idsL,AV.ids,z0b z1x,z1x]) hs rfl fun D B hB hBh hsD hlt=> ?_
 have hsl:∀ h,∃ t,slV h (some 3) (.sl (m.map z2b) (.at s g)) (some (.int .i64 (m.length:Int))) none none=some (.sl [] t,h):=fun h=>by
  rw[k9z (by simp) (by cases m <;> rfl)]
  exact⟨.at s g,by simp⟩
 have e1:decide ((1:Int)=0)=false:=rfl
 have l1:(([z2b d].length:Nat):Int)=1:=rfl
 have hap:∀ (L:List AObj) (gen:Nat),z0n (D++L) (B + 0) gen 3 64 false (.sl (m.map z2b) (.at s g)) (.sl [z2b d] .no)=some (.sl ((m++[d]).map z2b) (.at (B + 0) gen),D.set s .dead++L.set 0 (.tip gen 3)):=fun L gen=>by
  rw[show [z2b d]=[d].map z2b from rfl,j8y hB hlt hsD z1y z1y (by simp only[List.length_map,List.length_singleton];omega),List.map_append]
 have fin:∀ (ts:Tmps) (c g':Nat) (o:AObj),ts 6= .sl ((m++[d]).map z2b) (.at (B + 0) g')→u9o B s h [.tmp 6] Q .ret ⟨ts,D.set s .dead++[.tip g' 3,o],c⟩:=fun ts c g' o q6=>by
  refine⟨fun _=>by simp,[.sl ((m++[d]).map z2b) (.at (B + 0) g')],D.set s .dead,[.tip g' 3,o], .dead,by simp only[go_sem,q6],rfl,by rw[List.length_set];exact hB,by rw[List.getElem?_set_self (by omega)],⟨B + 0,by simp[z1l,AV.ids,idsL],by omega⟩, ?_⟩
  have:=hQ g' o c
  simp only[←hBh] at this
  exact this
 simp only[go_sem,k5c,hB,List.length_map]
 obtain⟨t,ht⟩:=hsl (D++[.dead, .dead])
 simp only[go_sem,ht,l1,e1,decide_true,List.length_map,hap]
 exact fin _ _ _ _ (by simp[z0c])
def q6x (x:Tf) (m:List Def) (f:Func):Def:=if f.name=x.pred then ⟨f.name,(z9h m x.into).params,(z9h m x.into).body⟩ else z9h m f.name
noncomputable def q3m (s:Sys) (x:Tf) (m:List Def):List Def×Int:=
 if (z2c s x).2≠0 then ([],(z2c s x).2) else if z3b (z2c s x).1 m=false then ([],1) else (s.preds.map (q6x x m),0)
theorem z7n {s:Sys} {x:Tf} (h:(z2c s x).2=0):(z2c s x).1=merged s x∧MOk s x:=by
 unfold z2c at h⊢
 split at h
 ·cases h
 ·split at h
  ·cases h
  ·rename_i h1 h2
   rw[if_neg h1,if_neg h2]
   exact⟨rfl,Classical.not_not.1 h2⟩
theorem v6j:∀ (ps:List Func),ps.Sublist allPreds→(∃ f∈ps,f.name=[78])→∃ qs,ps=qs++[⟨[78],[2],1⟩]∧∀ f∈qs,f.name≠[78]:=by
 intro ps hs ⟨f,hf,hn⟩
 have e:allPreds=z2d++[⟨[78],[2],1⟩]:=rfl
 rw[e] at hs
 obtain⟨l1,l2,rfl,h1,h2⟩:=List.sublist_append_iff.1 hs
 have hg:∀ g∈z2d,g.name≠[78]:=by decide
 cases l2 with
 | nil=>
   rw[List.append_nil] at hf
   exact absurd hn (hg f (h1.subset hf))
 | cons a l=>
   have hl:=h2.length_le
   simp only[List.length_cons,List.length_nil] at hl
   obtain rfl:l=[]:=List.eq_nil_of_length_eq_zero (by omega)
   have ha:a=⟨[78],[2],1⟩:=by simpa using h2.subset (List.mem_singleton.2 rfl)
   exact⟨l1,by rw[ha],fun f hf=>hg f (h1.subset hf)⟩
theorem j8z {s:Sys} {x:Tf} {m:List Def} (hs:SysV s) (hx:x.pred=[78]) (hM:MOk s x) (hsh:m.map (·.pred)=(z5e x s.preds).map (·.name)) (hnd:(m.map (·.pred)).Nodup):m++[⟨[78],(z9h m x.into).params,(z9h m x.into).body⟩]=s.preds.map (q6x x m):=by
 obtain⟨f,g,hf,hg,e1,e2,_⟩:=hM
 obtain⟨qs,hq,hqn⟩:=v6j s.preds hs.preds ⟨f,hf,by rw[e1,hx]⟩
 have hk:z5e x s.preds=qs:=by
  rw[hq,z5e,List.filter_append]
  have:qs.filter (fun f=> !decide (f.name=x.pred))=qs:=List.filter_eq_self.2 fun f hf=>by rw[hx];simp[hqn f hf]
  rw[this]
  simp[hx]
 rw[hk] at hsh
 rw[hq,List.map_append]
 congr 1
 ·have hl:=congrArg List.length hsh
  simp only[List.length_map] at hl
  refine List.ext_getElem (by simp[hl]) fun i h1 h2=> ?_
  have hi:i < qs.length:=by omega
  have hp:m[i].pred=qs[i].name:=by
   have:=List.getElem_of_eq hsh (i:=i) (by simpa using h1)
   simpa using this
  rw[List.getElem_map,q6x,if_neg (by rw[hx];exact hqn _ (List.getElem_mem hi)),←hp,q1m h1 hnd]
 ·simp[q6x,hx]
theorem x7c {F:List Nat} {f base gg clk:Nat} {args:List AV} {h:List AObj} {m:Md} {dst:Option Nat} {os:List AOper} {ts:Tmps} {ks:List Kf} {Q:Post} (hF:z0z Gam f args h=F) (hw:WC Gam f args h clk fun v h' c=>O Gam base (m.add (F,F)) (gg + 1) os ⟨z8c ts dst v,h',c⟩ ks Q):CK Gam base f args h clk m dst gg os ts ks Q:=by
 obtain⟨k,v,h',c,hc,hq⟩:=hw
 refine⟨k,v,h',c,hc, ?_⟩
 dsimp only at hq⊢
 rw[hF]
 exact x9a (f':=(F,F)) (fun x hx=>hx) (fun x hx=>(List.mem_filter.1 (show x∈F.filter _ from hx)).1) hq
theorem v1k {m:List Def} {d:Def} {s g n:Nat} {h:List AObj} (hs:h[s]? =some (.tip g 3)):z0z Gam 28 [.sl (m.map z2b) (.at s g), .int .i64 (n:Int), .sl [z2b d] .full] h=[s]:=by
 have hext:Gam.ext 28=none:=rfl
 have hids:idsL [AV.sl (m.map z2b) (.at s g), .int .i64 (n:Int), .sl [z2b d] .no]=[s]:=by simp[idsL,AV.ids,z0b z1x,z1x]
 have hp:z1d h [0] 0 [AV.sl (m.map z2b) (.at s g), .int .i64 (n:Int), .sl [z2b d] .full]=some [.sl (m.map z2b) (.at s g), .int .i64 (n:Int), .sl [z2b d] .no]:=rfl
 have hreach:reach h (h.length + 1) [] [s]=[s]:=by
  simp only[reach,List.contains_nil,Bool.false_eq_true,if_false,hs,Option.map_some,AObj.ids,Option.getD_some,List.nil_append]
  cases h.length <;> rfl
 have hb:k5c.byref=[0]:=rfl
 unfold z0z
 simp only[hext,v6h,hb,hp,hids,hreach]
 simp[z3y,AV.obs]
theorem v1l {s:Sys} {x:Tf} {m:List Def} (hs:SysV s) (hcs:∀ c∈s.clauses,CmpC c) (hx:TfS x) (hxp:MOk s x→x.pred=[78]∧x.into=[80]) (hmv:SysV (z2c s x).1) (hm:∀ d∈m,DOk d) (hml:m.length≤1000):Pure Gam 8 [z1b s,eTf x,z4s m] (.tup [z4s (q3m s x m).1, .int .i64 (q3m s x m).2]):=by
 have p15:=v4s hs hcs hx
 have p1016:=x6o (s:=(z2c s x).1) (m:=m) hmv hm hml
 rw[z1b,eTf,z1b] at p15
 rw[z1b,z4s] at p1016
 have h0:=z7n (s:=s) (x:=x)
 refine Pure.of rfl y7h rfl rfl rfl (az:=[z1b s,eTf x,z4s m]) rfl (by simp[idsL,z2k,q2o hx.ok,z4x]) fun D B clk T hB hT=> ?_
 unfold q3m at hT
 by_cases he:(z2c s x).2=0
 ·rw[if_neg (not_not_intro he)] at hT
  rw[he] at p15
  cases hsh:z3b (z2c s x).1 m with
  | false=>
    rw[if_pos hsh] at hT
    rw[hsh] at p1016
    simp only[go_sem,j6d,hB,z1b,eTf,z4s,z0a p15,decide_true,Bool.not_true,z0a p1016,Bool.not_false,z0m,z0l,z0g]
    rw[z0j rfl (by simp[z1l,AV.cv,cvL,AV.ids,idsL])]
    exact hT _
  | true=>
    rw[if_neg (by rw[hsh];simp)] at hT
    rw[hsh] at p1016
    obtain⟨hr,hM⟩:=h0 he
    obtain⟨x1,x2⟩:=hxp hM
    simp only[go_sem,j6d,hB,z1b,eTf,z4s,z0a p15,decide_true,Bool.not_true,z0a p1016]
    have hpn:=hs.preds.nodup (by decide)
    have hnd:(s.preds.map (·.name)).Nodup:=hs.pr.nodup
    have hsh':m.map (·.pred)=(z5e x s.preds).map (·.name):=by
     unfold z3b at hsh
     rw[decide_eq_true_iff,hr] at hsh
     exact hsh
    have hmn:(m.map (·.pred)).Nodup:=by rw[hsh'];exact hnd.sublist ((List.filter_sublist).map _)
    have hin:x.into∈m.map (·.pred):=by
     obtain⟨f,g,hf,hg,e1,e2,hmt⟩:=hM
     rw[hsh',←e2]
     refine List.mem_map_of_mem (List.mem_filter.2 ⟨hg, ?_⟩)
     have:=(q2t hmt).1
     rw[e1] at this
     simp[Ne.symm this]
    have hd0:DefS (z9h m x.into):=by
     obtain⟨d,hd,e⟩:=List.mem_map.1 hin
     obtain⟨j,hj,rfl⟩:=List.mem_iff_getElem.1 hd
     rw[←e,q1m hj hmn]
     exact (hm _ hd).ok.s
    have hmpos:0 < m.length:=by
     obtain⟨d,hd,_⟩:=List.mem_map.1 hin
     exact List.length_pos_of_mem hd
    have hms:∀ d∈m,DefS d:=fun d hd=>(hm d hd).ok.s
    have p1030:=x6w hml hmn hin
    have p1027:=q5z (u:= .no) (v:= .no) hd0
    rw[z4s,z2b] at p1030
    rw[z2b] at p1027
    have hback:=j8z hs x1 hM hsh' hmn
    have hback':m++[⟨x.pred,(z9h m x.into).params,(z9h m x.into).body⟩]=s.preds.map (q6x x m):=by rw[x1];exact hback
    generalize z9h m x.into=d0 at *
    have p75:=v4j (ps:=s.preds) (u:= .no) (by have:=hs.pl;omega)
    have hidx:z3t s.preds x.pred=(m.length:Int):=by
     obtain⟨f,_,hf,_,e1,_⟩:=hM
     obtain⟨qs,hq,hqn⟩:=v6j s.preds hs.preds ⟨f,hf,by rw[e1,x1]⟩
     have hk:z5e x s.preds=qs:=by
      rw[hq,z5e,List.filter_append]
      have:qs.filter (fun f=> !decide (f.name=x.pred))=qs:=List.filter_eq_self.2 fun f hf=>by rw[x1];simp[hqn f hf]
      rw[this]
      simp[x1]
     have hlq:=congrArg List.length hsh'
     rw[hk] at hlq
     simp only[List.length_map] at hlq
     obtain⟨i,hi,h1,h2⟩:=z7u (ps:=s.preds) (nm:=x.pred) (List.mem_map.2 ⟨f,hf,e1⟩)
     have hll:=congrArg List.length hq
     simp only[List.length_append,List.length_singleton] at hll
     have hiq:i=qs.length:=by
      refine Classical.byContradiction fun hne=> ?_
      have hlt:i < qs.length:=by omega
      have:s.preds[i]=qs[i]:=by
       have:=List.getElem_of_eq hq hi
       rw[this,List.getElem_append_left hlt]
      rw[this,x1] at h1
      exact hqn _ (List.getElem_mem hlt) h1
     rw[h2,hiq,hlq]
    have p76:=j2u (ps:=s.preds) (a:=x.pred) (u:= .no) (by have:=hs.pl;omega)
    rw[hidx] at p76
    refine z3g (v1j hmpos hml hms fun g o0 o1 o2 o3 o4 c=> ?_)
    have e0:∀ a b c d e f g h:AObj,(D++[a,b,c,d,e,f,g,h]).length=B + 8:=fun _ _ _ _ _ _ _ _=>by simp[hB]
    have e1:∀ a b c d e f g h i j k l m n:AObj,(D++[a,b,c,d,e,f,g,h])++[i,j,k,l,m,n]=D++[a,b,c,d,e,f,g,h,i,j,k,l,m,n]:=fun _ _ _ _ _ _ _ _ _ _ _ _ _ _=>by simp
    rw[e0,e1]
    simp only[go_sem,hB,z0a p1030,z0a p1027,z0y,z0a p75,z0a p76]
    have htip:∀ a b c d e f g' h i j k l m':AObj,(D++[a,b,c,d,e,f,g',h,i,j,k,l,m', .tip g 3])[B + 8 + 5]? =some (.tip g 3):=fun _ _ _ _ _ _ _ _ _ _ _ _ _=>by
     show (D++_)[B + 13]? =_
     rw[z2v hB]
     rfl
    have hset:∀ a b c d e f g' h i j k l m' p q:AObj,(D++[a,b,c,d,e,f,g',h,i,j,k,l,m', .tip g 3]).set (B + 8 + 5) .dead++[p,q]=D++[a,b,c,d,e,f,g',h,i,j,k,l,m', .dead,p,q]:=fun _ _ _ _ _ _ _ _ _ _ _ _ _ _ _=>by
     show (D++_).set (B + 13) _++_=_
     rw[z1t hB]
     simp
    have hlen:∀ a b c d e f g' h i j k l m' n:AObj,(D++[a,b,c,d,e,f,g',h,i,j,k,l,m',n]).length=B + 14:=fun _ _ _ _ _ _ _ _ _ _ _ _ _ _=>by simp[hB]
    refine x7c (v1k (d:=⟨x.pred,d0.params,d0.body⟩) (htip _ _ _ _ _ _ _ _ _ _ _ _ _)) (y7r (d:=⟨x.pred,d0.params,d0.body⟩) hml (htip _ _ _ _ _ _ _ _ _ _ _ _ _) fun g' o c=> ?_)
    rw[hset,hlen,hback']
    simp only[go_sem,hB,z0m,z0l,z0g]
    refine⟨by simp[z0v,apart,z0h,z0s,z0w,AOp.isCall,hB,AV.ids,idsL,z0b z1x,z0b z1k,z0b z0x] <;> omega, ?_⟩
    rw[z0j rfl (by simp[-List.map_map,z1l,AV.cv,cvL,AV.ids,idsL,z0b z1x])]
    exact hT _
 ·rw[if_pos he] at hT
  simp only[go_sem,j6d,hB,z1b,eTf,z4s,z0a p15,decide_eq_false he,Bool.not_false,z0m,z0l,z0g]
  rw[z0j rfl (by simp[z1l,AV.cv,cvL,AV.ids,idsL])]
  exact hT _
def x2d (x:Tf) (f:Func):List Nat:=if f.name=x.pred then x.into else f.name
theorem j0a {s:Sys} {x:Tf} (hM:MOk s x):x.into∈(z5e x s.preds).map (·.name):=by
 obtain⟨f,g,hf,hg,e1,e2,hmt⟩:=hM
 rw[←e2]
 refine List.mem_map_of_mem (List.mem_filter.2 ⟨hg, ?_⟩)
 have:=(q2t hmt).1
 rw[e1] at this
 simp[Ne.symm this]
theorem j9a {s:Sys} {x:Tf} {f:Func} (hM:MOk s x) (hf:f∈s.preds):x2d x f∈(z5e x s.preds).map (·.name):=by
 unfold x2d
 split
 ·exact j0a hM
 ·rename_i h
  exact List.mem_map_of_mem (List.mem_filter.2 ⟨hf,by simp[h]⟩)
theorem x7d {s:Sys} {x:Tf} {m:List Def} {f:Func} (hs:SysV s) (hM:MOk s x) (hsh:m.map (·.pred)=(z5e x s.preds).map (·.name)) (hf:f∈s.preds):∃ k:Nat,∃ h:k < m.length,z3t (z5e x s.preds) (x2d x f)=(k:Int)∧m[k].pred=x2d x f∧q6x x m f=⟨f.name,m[k].params,m[k].body⟩:=by
 obtain⟨k,hk,h1,h2⟩:=z7u (ps:=z5e x s.preds) (j9a hM hf)
 have hl:=congrArg List.length hsh
 simp only[List.length_map] at hl
 have hkm:k < m.length:=by omega
 have hp:m[k].pred=x2d x f:=by
  have:=List.getElem_of_eq hsh (i:=k) (by simpa using hkm)
  simp only[List.getElem_map] at this
  rw[this,h1]
 have hnd:(m.map (·.pred)).Nodup:=by rw[hsh];exact hs.pr.nodup.sublist ((List.filter_sublist).map _)
 have hd:=q1m hkm hnd
 refine⟨k,hkm,h2,hp, ?_⟩
 unfold q6x x2d at *
 split
 ·rename_i h
  rw[if_pos h] at hp
  rw[←hp,hd]
 ·rename_i h
  rw[if_neg h] at hp
  rw[←hp,hd]
theorem j0b {s:Sys} {x:Tf} {m:List Def} (hs:SysV s) (hM:MOk s x) (hsh:m.map (·.pred)=(z5e x s.preds).map (·.name)):z3b s (s.preds.map (q6x x m))=true:=by
 unfold z3b
 rw[decide_eq_true_iff,List.map_map]
 refine List.map_congr_left fun f hf=> ?_
 obtain⟨k,hk,_,_,e⟩:=x7d hs hM hsh hf
 simp[e]
theorem j6j {s:Sys} {x:Tf} {m:List Def} (hs:SysV s) (hM:MOk s x) (hx:x.pred=[78]∧x.into=[80]) (hsh:m.map (·.pred)=(z5e x s.preds).map (·.name)) (hm:∀ d∈m,DOk d):∀ d∈s.preds.map (q6x x m),DOk d:=by
 intro d hd
 obtain⟨f,hf,rfl⟩:=List.mem_map.1 hd
 obtain⟨k,hk,_,hp,e⟩:=x7d hs hM hsh hf
 rw[e]
 obtain⟨g,hg,hgn,hgp,hgt⟩:=hm _ (List.getElem_mem hk)
 by_cases h:f.name=x.pred
 ·rw[hp,x2d,if_pos h,hx.2] at hgn
  have hfa:=hs.preds.mem hf
  have e1:f=⟨[78],[2],1⟩:=q8n f hfa ⟨[78],[2],1⟩ (by decide) (by rw[h,hx.1])
  have e2:g=⟨[80],[2],1⟩:=q8n g hg ⟨[80],[2],1⟩ (by decide) hgn.symm
  refine⟨f,hfa,rfl, ?_,hgt⟩
  show m[k].params=_
  rw[hgp,e1,e2]
  rfl
 ·refine⟨g,hg, ?_,hgp,hgt⟩
  rw[←hgn,hp,x2d,if_neg h]
theorem v1m {s:Sys} {x:Tf} {m:List Def} (hs:SysV s) (hcs:∀ c∈s.clauses,CmpC c) (hx:TfS x) (hxp:MOk s x→x.pred=[78]∧x.into=[80]) (hmv:SysV (z2c s x).1) (hm:∀ d∈m,DOk d) (hml:m.length≤1000):Pure Gam 9 [z1b s,eTf x,z4s m] (.tup [z4s (q3m s x m).1, .int .i64 (q3m s x m).2]):=by
 have p16:=k4o hs hcs hx
 have p1019:=x6q (s:=(z2c s x).1) (m:=m) hmv hm hml
 rw[z1b,eTf,z1b] at p16
 rw[z1b,z4s] at p1019
 have h0:=z7n (s:=s) (x:=x)
 have hpl:=hs.pl
 refine Pure.of rfl y7l rfl rfl rfl (az:=[z1b s,eTf x,z4s m]) rfl (by simp[idsL,z2k,q2o hx.ok,z4x]) fun D B clk T hB hT=> ?_
 unfold q3m at hT
 by_cases he:(z2c s x).2=0
 ·rw[if_neg (not_not_intro he)] at hT
  rw[he] at p16
  cases hsh:z3b (z2c s x).1 m with
  | false=>
    rw[if_pos hsh] at hT
    rw[hsh] at p1019
    simp only[go_sem,j6f,hB,z1b,eTf,z4s,z0a p16,decide_true,Bool.not_true,z0a p1019,Bool.not_false,z0m,z0l,z0g]
    rw[z0j rfl (by simp[z1l,AV.cv,cvL,AV.ids,idsL])]
    exact hT _
  | true=>
    rw[if_neg (by rw[hsh];simp)] at hT
    rw[hsh] at p1019
    obtain⟨hr,hM⟩:=h0 he
    have hx2:=hxp hM
    have hsh':m.map (·.pred)=(z5e x s.preds).map (·.name):=by
     unfold z3b at hsh
     rw[decide_eq_true_iff,hr] at hsh
     exact hsh
    have hR:(z2c s x).1.preds=z5e x s.preds:=by rw[hr];rfl
    have hRl:(z2c s x).1.preds.length≤1000:=by rw[hR];exact Nat.le_trans q2s (by omega)
    have p1033:=fun u=>j6i (s:=s) (m:=s.preds.map (q6x x m)) (u:=u) hs (j6j hs hM hx2 hsh' hm) (by simp only[List.length_map];omega) (j0b hs hM hsh')
    rw[z1b] at p1033
    simp only[go_sem,j6f,hB,z1b,eTf,z4s,z0a p16,decide_true,Bool.not_true,z0a p1019]
    generalize (z2c s x).1=R at *
    refine z2y s.preds.length (by omega) (fun i q=>∃ (g0 gx gm g3 gr g5:Nat) (t:Tip) (o6 o7 o8:AObj),q.ts 3= .ptr (B + 0) g0 0 0∧q.ts 4= .ptr (B + 1) gx 0 0∧q.ts 5= .ptr (B + 2) gm 0 0∧q.ts 6= .ptr (B + 3) g3 0 0∧q.ts 8= .ptr (B + 4) gr 0 0∧q.ts 10= .ptr (B + 5) g5 0 0∧q.ts 11= .int .i64 (i:Int)∧q.h=D++[.blk g0 [.agg [.sl (s.preds.map z1e) .no, .sl (s.clauses.map z0e) .no]] false false 0, .blk gx [eTf x] false false 0, .blk gm [.agg [.sl (m.map z2b) .no]] false false 0, .blk g3 [.agg [.sl [] .nil]] false false 0, .blk gr [z1b R] false false 0, .blk g5 [.agg [.sl (((s.preds.take i).map (q6x x m)).map z2b) t]] false false 0,o6,o7,o8]∧z7x B 8 o8 t 3) ⟨_,_,_,_,_,_, .nil,_,_,_,rfl,rfl,rfl,rfl,rfl,rfl,rfl,rfl, .inl rfl⟩ ?_ ?_
    ·rintro i hlt f1 f2 ts h clk P ⟨g0,gx,gm,g3,gr,g5,t,o6,o7,o8,q3,q4,q5,q6,q8,q10,q11,rfl,ht⟩ hnx he' hr'
     dsimp only at q3 q4 q5 q6 q8 q10 q11
     have hix:=fun h=>z4u (l:=s.preds) (i:=i) (h:=h) (t:= .no) (k:= .i64) hlt
     have hf:=List.getElem_mem hlt
     obtain⟨k,hk,hp,hpn,hbd⟩:=x7d hs hM hsh' hf
     have hixd:=fun h=>z7m (l:=m) (i:=k) (h:=h) (t:= .no) (k:= .i64) hk
     have p82:=q5w (nm:=x2d x s.preds[i]) hRl
     rw[hR,hp,z1b] at p82
     have e8:((s.preds.take i).map (q6x x m)).map z2b++[(⟨s.preds[i].name,m[k].params,m[k].body⟩:Def)].map z2b=((s.preds.take (i + 1)).map (q6x x m)).map z2b:=by
      rw[List.take_succ_eq_append_getElem hlt,List.map_append,List.map_append,←hbd]
      rfl
     unfold x2d at p82
     generalize m[k]=d at *
     generalize s.preds[i]=f at *
     by_cases hfp:f.name=x.pred
     ·rw[if_pos hfp] at p82
      have hd1:decide (f.name=x.pred)=true:=decide_eq_true hfp
      simp only[go_sem,x1o,z1b,eTf,q3,q4,q5,q6,q8,q10,q11,hB,f1,z0y,List.length_map,hix,hixd,hd1,z0a p82]
      refine⟨by simp[z0v,apart,z0h,z0s,z0w,AOp.isCall,hB,AV.ids,idsL,z2u,z0b z2a,z0b z1x,z0b z1k,z0b z0x], ?_⟩
      rw[show [AV.agg [.str f.name, .sl (d.params.map z1h) .no, .sl (d.body.map eNode) .no]]=[(⟨f.name,d.params,d.body⟩:Def)].map z2b from rfl,z0k hB rfl ht z1y z1y (by simp only[List.length_map,List.length_singleton,List.length_take];omega),e8]
      simp only[go_sem,q3,q4,q5,q6,q8,q10,q11,hB,f2]
      exact hnx _ ⟨_,_,_,_,_,_,_,_,_,_,q3,q4,q5,q6,q8,q10,rfl,rfl, .inr (.inr ⟨_,rfl,rfl⟩)⟩
     ·rw[if_neg hfp] at p82
      have hd1:decide (f.name=x.pred)=false:=decide_eq_false hfp
      simp only[go_sem,x1o,z1b,eTf,q3,q4,q5,q6,q8,q10,q11,hB,f1,z0y,List.length_map,hix,hixd,hd1,z0a p82]
      refine⟨by simp[z0v,apart,z0h,z0s,z0w,AOp.isCall,hB,AV.ids,idsL,z2u,z0b z2a,z0b z1x,z0b z1k,z0b z0x], ?_⟩
      rw[show [AV.agg [.str f.name, .sl (d.params.map z1h) .no, .sl (d.body.map eNode) .no]]=[(⟨f.name,d.params,d.body⟩:Def)].map z2b from rfl,z0k hB rfl ht z1y z1y (by simp only[List.length_map,List.length_singleton,List.length_take];omega),e8]
      simp only[go_sem,q3,q4,q5,q6,q8,q10,q11,hB,f2]
      exact hnx _ ⟨_,_,_,_,_,_,_,_,_,_,q3,q4,q5,q6,q8,q10,rfl,rfl, .inr (.inr ⟨_,rfl,rfl⟩)⟩
    ·rintro f1 ts h clk P ⟨g0,gx,gm,g3,gr,g5,t,o6,o7,o8,q3,q4,q5,q6,q8,q10,q11,rfl,ht⟩ he' hr'
     dsimp only at q3 q4 q5 q6 q8 q10 q11
     rw[List.take_length]
     simp only[go_sem,x1o,q3,q4,q5,q6,q8,q10,q11,hB,f1,List.length_map]
     refine he' _ _ ?_
     simp only[go_sem,q3,q6,q10,hB,z0a (p1033 t),z4s,z0m,z0l,z0g]
     rw[z0j rfl (by simp[-List.map_map,z1l,AV.cv,cvL,AV.ids,idsL,z0b z1x])]
     exact hT _
 ·rw[if_pos he] at hT
  simp only[go_sem,j6f,hB,z1b,eTf,z4s,z0a p16,decide_eq_false he,Bool.not_false,z0m,z0l,z0g]
  rw[z0j rfl (by simp[z1l,AV.cv,cvL,AV.ids,idsL])]
  exact hT _
theorem w4a {h:List AObj} {s g:Nat} {d:Def} {a b:Tip}:bsR h s g (.agg [.str [], .sl [] .nil, .sl [] .nil]) 1 [0] [.agg [.str d.pred, .sl (d.params.map z1h) a, .sl (d.body.map eNode) b]]=some (.ob s g 0 1,h.set s (.blk g [z2b d] true false 0)):=u5t rfl rfl rfl rfl
theorem v1n {m:List Def} {u:Tip} {h:List AObj} {clk:Nat} {Q:AV→List AObj→Nat→Prop} (h0:0 < m.length) (hl:m.length≤1000) (hm:∀ d∈m,DefS d) (hQ:∀ g o0 o1 o2 o3 o4 o5 o6 c,Q (.agg [.ob (h.length + 7) g 0 m.length]) (h++[o0,o1,o2,o3,o4,o5,o6, .blk g (m.map z2b) true true 0]) c):WC Gam 1048649 [.agg [.sl (m.map z2b) u]] h clk Q:=by
 refine z9u rfl v0r rfl rfl rfl (az:=[z4s m]) rfl (by simp[idsL,z4x]) fun D B hB hBh=> ?_
 simp only[go_sem,j6a,hB,z4s]
 refine z2y m.length (by omega) (fun i q=>∃ (g0 g1 g2:Nat) (cv:AV) (o3 o4 o5 o6 o7:AObj),q.ts 1= .ptr (B + 0) g0 0 0∧q.ts 2= .ptr (B + 1) g1 0 0∧q.ts 3= .ptr (B + 2) g2 0 0∧q.ts 4= .int .i64 (i:Int)∧q.h=D++[.blk g0 [.agg [.sl (m.map z2b) .no]] false false 0, .blk g1 [.agg [.sl [] .nil]] false false 0, .blk g2 [.agg [cv]] false false 0,o3,o4,o5,o6,o7]∧y8o z2b B 7 cv o7 (m.take i)) ⟨_,_,_, .sl [] .nil,_,_,_,_,_,rfl,rfl,rfl,rfl,rfl, .inl ⟨rfl,rfl⟩⟩ ?_ ?_
 ·rintro i hlt f1 f2 ts h clk P ⟨g0,g1,g2,cv,o3,o4,o5,o6,o7,q1,q2,q3,q4,rfl,ht⟩ hnx he hr
  dsimp only at q1 q2 q3 q4
  have hix:=fun h=>z7m (l:=m) (i:=i) (h:=h) (t:= .no) (k:= .i64) hlt
  have e8:m.take i++[m[i]]=m.take (i + 1):=by rw[List.take_succ_eq_append_getElem hlt]
  have hd:=hm _ (List.getElem_mem hlt)
  have h1:=hd.params
  have h2:=hd.body
  generalize m[i]=d at *
  simp only[go_sem,x1k,q1,q2,q3,q4,hB,z0y,f1,hix,List.length_map]
  rw[append_nil hB rfl z3d (by rw[List.length_map];omega)]
  simp only[go_sem,q1,q2,q3,q4,hB]
  rw[append_nil hB rfl z2x (by rw[List.length_map];omega)]
  simp only[go_sem,q1,q2,q3,q4,hB,w4a]
  rw[q6t (j:=6) (k:=7) (fun _=>z1y) hB rfl rfl ht (by rw[List.length_take];omega) (by omega),e8]
  simp only[go_sem,q1,q2,q3,q4,hB,f2]
  refine⟨by simp[z0v,apart,z0h,z0s,z0w,AOp.isCall,hB,AV.ids,idsL,z0b z1x,z0b z1k,z0b z0x], ?_⟩
  exact hnx _ ⟨g0,g1,g2,_,_,_,_,_,_,q1,q2,q3,rfl,rfl, .inr ⟨_,rfl,rfl,by rw[←e8];simp⟩⟩
 ·rintro f1 ts h clk P ⟨g0,g1,g2,cv,o3,o4,o5,o6,o7,q1,q2,q3,q4,rfl,ht⟩ he hr
  dsimp only at q1 q2 q3 q4
  rw[List.take_length] at ht
  rcases ht with ⟨_,e⟩ | ⟨g,rfl,rfl,_⟩
  ·rw[e] at h0
   exact absurd h0 (by simp)
  have hst:∀ (g1 g:Nat) (L:List AObj),L[1]? =some (.blk g1 [.agg [.sl [] .nil]] false false 0)→z4y (D++L) 1 (.agg [.ob (B + 7) g 0 m.length]) (.ptr (B + 1) g1 0 0)=some (.undef,D++L.set 1 (.blk g1 [.agg [.ob (B + 7) g 0 m.length]] false false 0)):=fun g1 g L hL=>by
   have hb:z1s (D++L) (B + 1) g1=some ([.agg [.sl [] .nil]],false,false,0):=by rw[z2i hB];exact z2g hL
   rw[q0g (sz:=1) (v:= .agg [.ob (B + 7) g 0 m.length]) hb rfl rfl (by simp[AV.cells,j3u]) (by simp[AV.cells]),z1t hB]
   rfl
  simp only[go_sem,x1k,q1,q2,q3,q4,hB,f1,List.length_map]
  refine he _ _ ?_
  simp only[go_sem,q1,q2,q3,hB,hst]
  refine⟨fun _=>by simp,[.agg [.ob (B + 7) g 0 m.length]],_, ?_,rfl, .inr ⟨⟨B + 7,by simp[z1l,AV.ids,idsL],by omega⟩, ?_⟩⟩
  ·simp only[go_sem,q2,hB,z0m,z0l,z0g]
  ·have:=hQ g
   simp only[←hBh] at this
   exact this _ _ _ _ _ _ _ _
theorem y7s {R:Sys} {m:List Def} {h:List AObj} {clk:Nat} {Q:AV→List AObj→Nat→Prop} (hR:R.preds.length≤1000) (hm:∀ d∈m,DefS d) (hml:m.length≤1000) (h0:0 < (m.filter fun d=>decide (0≤z3t R.preds d.pred)).length)
  (hQ:∀ g a0 a1 a2 a3 a4 a5 o0 o1 o2 o3 o4 o5 o6 c,Q (.agg [.ob (h.length + 13) g 0 (m.filter fun d=>decide (0≤z3t R.preds d.pred)).length]) (h++[a0,a1,a2,a3,a4,a5,o0,o1,o2,o3,o4,o5,o6, .blk g ((m.filter fun d=>decide (0≤z3t R.preds d.pred)).map z2b) true true 0]) c):WC Gam 36 [z1b R,z4s m] h clk Q:=by
 refine z9u rfl y6w rfl rfl rfl (az:=[z1b R,z4s m]) rfl (by simp[idsL,z2k,z4x]) fun D B hB hBh=> ?_
 simp only[go_sem,v6b,hB,z1b,z4s]
 refine z2y m.length (by omega) (fun i q=>∃ (g0 g1 g2 g3:Nat) (t:Tip) (o4 o5:AObj),q.ts 2= .ptr (B + 0) g0 0 0∧q.ts 3= .ptr (B + 1) g1 0 0∧q.ts 4= .ptr (B + 2) g2 0 0∧q.ts 5= .ptr (B + 3) g3 0 0∧q.ts 6= .int .i64 (i:Int)∧q.h=D++[.blk g0 [.agg [.sl (R.preds.map z1e) .no, .sl (R.clauses.map z0e) .no]] false false 0, .blk g1 [.agg [.sl (m.map z2b) .no]] false false 0, .blk g2 [.agg [.sl [] .nil]] false false 0, .blk g3 [.agg [.sl (((m.take i).filter fun d=>decide (0≤z3t R.preds d.pred)).map z2b) t]] false false 0,o4,o5]∧z7x B 5 o5 t 3) ⟨_,_,_,_, .nil,_,_,rfl,rfl,rfl,rfl,rfl,rfl, .inl rfl⟩ ?_ ?_
 ·rintro i hlt f1 f2 ts h clk P ⟨g0,g1,g2,g3,t,o4,o5,q2,q3,q4,q5,q6,rfl,ht⟩ hnx he hr
  dsimp only at q2 q3 q4 q5 q6
  have hix:=fun h=>z7m (l:=m) (i:=i) (h:=h) (t:= .no) (k:= .i64) hlt
  have p82:=q5w (nm:=m[i].pred) hR
  rw[z1b] at p82
  have hfl:((m.take i).filter fun d=>decide (0≤z3t R.preds d.pred)).length≤1000:=Nat.le_trans (List.length_filter_le _ _) (by rw[List.length_take];omega)
  have htk:(m.take (i + 1)).filter (fun d=>decide (0≤z3t R.preds d.pred))=(m.take i).filter (fun d=>decide (0≤z3t R.preds d.pred))++(if 0≤z3t R.preds m[i].pred then [m[i]] else []):=by
   rw[List.take_succ_eq_append_getElem hlt,List.filter_append,List.filter_cons]
   by_cases hg:0≤z3t R.preds m[i].pred <;> simp[hg]
  generalize m[i]=d at *
  by_cases hg:0≤z3t R.preds d.pred
  ·rw[if_pos hg] at htk
   have hge:decide (0≤z3t R.preds d.pred)=true:=decide_eq_true hg
   have e8:((m.take i).filter fun d=>decide (0≤z3t R.preds d.pred)).map z2b++[d].map z2b=((m.take (i + 1)).filter fun d=>decide (0≤z3t R.preds d.pred)).map z2b:=by rw[htk,List.map_append]
   simp only[go_sem,x1i,q2,q3,q4,q5,q6,hB,f1,List.length_map,hix,z0y,z0a p82,hge]
   rw[show [AV.agg [.str d.pred, .sl (d.params.map z1h) .no, .sl (d.body.map eNode) .no]]=[d].map z2b from rfl,z0k hB rfl ht z1y z1y (by simp only[List.length_map,List.length_singleton];omega),e8]
   simp only[go_sem,q2,q3,q4,q5,q6,hB,f2]
   refine⟨by simp[z0v,apart,z0h,z0s,z0w,AOp.isCall,hB,AV.ids,idsL,z0b z1x,z0b z1k,z0b z0x], ?_⟩
   exact hnx _ ⟨g0,g1,g2,g3,_,_,_,q2,q3,q4,q5,rfl,rfl, .inr (.inr ⟨_,rfl,rfl⟩)⟩
  ·rw[if_neg hg,List.append_nil] at htk
   have hge:decide (0≤z3t R.preds d.pred)=false:=decide_eq_false hg
   simp only[go_sem,x1i,q2,q3,q4,q5,q6,hB,f1,f2,List.length_map,hix,z0a p82,hge]
   exact hnx _ ⟨g0,g1,g2,g3,t,_,_,q2,q3,q4,q5,rfl,by rw[htk],ht⟩
 ·rintro f1 ts h1 clk P ⟨g0,g1,g2,g3,t,o4,o5,q2,q3,q4,q5,q6,rfl,ht⟩ he hr
  dsimp only at q2 q3 q4 q5 q6
  rw[List.take_length]
  have hfl:(m.filter fun d=>decide (0≤z3t R.preds d.pred)).length≤1000:=Nat.le_trans (List.length_filter_le _ _) hml
  have hfs:∀ d∈m.filter (fun d=>decide (0≤z3t R.preds d.pred)),DefS d:=fun d hd=>hm d (List.mem_filter.1 hd).1
  generalize m.filter (fun d=>decide (0≤z3t R.preds d.pred))=r at *
  simp only[go_sem,x1i,q2,q3,q4,q5,q6,hB,f1,List.length_map]
  refine he _ _ ?_
  simp only[go_sem,q4,q5,hB]
  refine z3g (v1n h0 hfl hfs fun g p0 p1 p2 p3 p4 p5 p6 c=> ?_)
  have e0:∀ a b c d e f:AObj,(D++[a,b,c,d,e,f]).length=B + 6:=fun _ _ _ _ _ _=>by simp[hB]
  have e1:∀ a b c d e f g h i j k l m n:AObj,(D++[a,b,c,d,e,f])++[g,h,i,j,k,l,m,n]=D++[a,b,c,d,e,f,g,h,i,j,k,l,m,n]:=fun _ _ _ _ _ _ _ _ _ _ _ _ _ _=>by simp
  rw[e0,e1,show B + 6 + 7=B + 13 from rfl]
  have hst:∀ (g2 g:Nat) (L:List AObj),L[2]? =some (.blk g2 [.agg [.sl [] .nil]] false false 0)→z4y (D++L) 1 (.agg [.ob (B + 13) g 0 r.length]) (.ptr (B + 2) g2 0 0)=some (.undef,D++L.set 2 (.blk g2 [.agg [.ob (B + 13) g 0 r.length]] false false 0)):=fun g2 g L hL=>by
   have hb:z1s (D++L) (B + 2) g2=some ([.agg [.sl [] .nil]],false,false,0):=by rw[z2i hB];exact z2g hL
   rw[q0g (sz:=1) (v:= .agg [.ob (B + 13) g 0 r.length]) hb rfl rfl (by simp[AV.cells,j3u]) (by simp[AV.cells]),z1t hB]
   rfl
  simp only[go_sem,q4,hB,hst]
  refine⟨fun _=>by simp,[.agg [.ob (B + 13) g 0 r.length]],_, ?_,rfl, .inr ⟨⟨B + 13,by simp[z1l,AV.ids,idsL],by omega⟩, ?_⟩⟩
  ·simp only[go_sem,q4,hB,z0m,z0l,z0g]
  ·have:=hQ g
   simp only[←hBh] at this
   exact this _ _ _ _ _ _ _ _ _ _ _ _ _ _
section
def k5d (x:Tf) (b:Term) (d:Def):Def:=if d.pred=x.into then ⟨d.pred,d.params,x1t d.body b⟩ else d
def z9i (x:Tf) (m:List Def):List Def:=m.filter fun d=> !decide (d.pred=x.pred)
def q7v (x:Tf) (b:Term) (m:List Def):List Def:=(z9i x m).map (k5d x b)
noncomputable def x2e (s:Sys) (x:Tf) (m:List Def):List Def×Int:=
 if (z2c s x).2≠0 then ([],(z2c s x).2) else if z3b s m=false then ([],1) else (q7v x (z9h m x.pred).body m,0)
theorem x4i {s:Sys} {x:Tf} {m:List Def} (hsh:m.map (·.pred)=s.preds.map (·.name)):(z9i x m).map (·.pred)=(z5e x s.preds).map (·.name):=by
 have:=congrArg (List.filter fun n=> !decide (n=x.pred)) hsh
 rw[List.filter_map,List.filter_map] at this
 exact this
theorem k5e {x:Tf} {b:Term} {d:Def}:(k5d x b d).pred=d.pred:=by unfold k5d;split <;> rfl
theorem x4j {s:Sys} {x:Tf} {b:Term} {m:List Def} (hsh:m.map (·.pred)=s.preds.map (·.name)):(q7v x b m).map (·.pred)=(z5e x s.preds).map (·.name):=by
 rw[←x4i hsh,q7v,List.map_map]
 exact List.map_congr_left fun d _=>k5e
theorem v1o {s:Sys} {x:Tf} {m:List Def} (hsh:m.map (·.pred)=s.preds.map (·.name)):m.filter (fun d=>decide (0≤z3t (z5e x s.preds) d.pred))=z9i x m:=by
 refine List.filter_congr fun d hd=> ?_
 have h1:d.pred∈s.preds.map (·.name):=by rw[←hsh];exact List.mem_map_of_mem hd
 obtain⟨f,hf,hn⟩:=List.mem_map.1 h1
 by_cases h:d.pred=x.pred
 ·rw[z9e]
  ·simp[h]
  ·intro p hp e
   have:=(List.mem_filter.1 hp).2
   simp[e,h] at this
 ·obtain⟨i,_,_,e⟩:=z7u (ps:=z5e x s.preds) (nm:=d.pred) (hn ▸ List.mem_map_of_mem (List.mem_filter.2 ⟨hf,by simp[hn,h]⟩))
  rw[e]
  simp[h]
theorem w4b {l:List Def} {k:Nat} {x:Tf} {b:Term} (hk:k < l.length) (hp:l[k].pred=x.into) (hnd:(l.map (·.pred)).Nodup):l.set k ⟨l[k].pred,l[k].params,x1t l[k].body b⟩=l.map (k5d x b):=by
 refine List.ext_getElem (by simp) fun i h1 h2=> ?_
 have hi:i < l.length:=by simpa using h1
 rw[List.getElem_set,List.getElem_map]
 split
 ·rename_i e
  subst e
  rw[k5d,if_pos hp]
 ·rename_i e
  rw[k5d,if_neg]
  intro e2
  exact e ((List.getElem_inj (xs:=l.map (·.pred)) (i:=k) (j:=i) (h₀:=by simpa using hk) (h₁:=by simpa using hi) hnd).1 (by simp[hp,e2]))
theorem k5f {ps:List Func} {m:List Def} {n:List Nat} (hsh:m.map (·.pred)=ps.map (·.name)) (hn:n∈ps.map (·.name)):∃ k:Nat,∃ h:k < m.length,z3t ps n=(k:Int)∧m[k].pred=n:=by
 obtain⟨k,hk,h1,h2⟩:=z7u hn
 have hl:=congrArg List.length hsh
 simp only[List.length_map] at hl
 have hkm:k < m.length:=by omega
 refine⟨k,hkm,h2, ?_⟩
 have:=List.getElem_of_eq hsh (i:=k) (by simpa using hkm)
 simp only[List.getElem_map] at this
 rw[this,h1]
theorem q4n {d o:Def} (hd:DOk d) (ho:DOk o) (h1:d.pred=[80]) (h2:o.pred=[78]):o.params=d.params:=by
 rw[(hd.at (f:=⟨[80],[2],1⟩) (by decide) h1).1,(ho.at (f:=⟨[78],[2],1⟩) (by decide) h2).1]
 rfl
theorem k5g {x:Tf} {m:List Def} {o:Def} (hx:x.into=[80]) (hm:∀ d∈m,DOk d) (hn:∀ d∈m,GT d.params 1 6 396 d.body) (ho:o∈m) (hop:o.pred=[78]):∀ d∈q7v x o.body m,DOk d:=by
 intro d hd
 obtain⟨e,he,rfl⟩:=List.mem_map.1 hd
 have hem:=(List.mem_filter.1 he).1
 unfold k5d
 split
 ·rename_i h
  obtain⟨f,hf,h1,h2,_⟩:=hm e hem
  have hp:=q4n (hm e hem) (hm o ho) (by rw[h,hx]) hop
  have hg:=hn o ho
  rw[hp] at hg
  exact⟨f,hf,h1,h2,((hn e hem).and hg).up (by omega) (by omega)⟩
 ·exact hm e hem
section
variable {D L:List AObj} {B k gc n j:Nat} {es:List AV} {d:Def}
theorem y7t (hB:D.length=B) (hL:L[k]? =some (.blk gc es true true 0)) (he:es[j]? =some (z2b d)) (hj:j < n):z1n (D++L) 3 (.ob (B + k) gc 0 n) (.int .i64 (j:Int))=some (.ptr (B + k) gc j 0,D++L):=by
 have hb:z1s (D++L) (B + k) gc=some (es,true,true,0):=by rw[z2i hB];exact z2g hL
 simp[z1n,hb,he,hj,z2b,AV.cells]
theorem v1p {b:Term} {t:Tip} (hB:D.length=B) (hL:L[k]? =some (.blk gc es true true 0)) (he:es[j]? =some (z2b d)):z4y (D++L) 1 (.sl (b.map eNode) t) (.ptr (B + k) gc j 2)=some (.undef,D++L.set k (.blk gc (es.set j (z2b ⟨d.pred,d.params,b⟩)) true true 0)):=by
 have hb:z1s (D++L) (B + k) gc=some (es,true,true,0):=by rw[z2i hB];exact z2g hL
 have hp:pub (D++L) (.sl (b.map eNode) t)=some (.sl (b.map eNode) .no,D++L):=rfl
 rw[z6y,hb]
 simp only[he,if_true,hp]
 simp[AV.def?,AV.cells,x8q,z8a,z7q,z2b,AV.obs,z3y,z1t hB]
end
theorem y7u {B gg clk g k n:Nat} {D L:List AObj} {R:Sys} {fw:List Def} {dst:Option Nat} {os:List AOper} {ts:Tmps} {ks:List Kf} {Q:Post} (hp:Pure Gam 33 [z1b R, .agg [.sl (fw.map z2b) .no]] (.tup [z4s fw, .int .i64 0])) (hB:D.length=B) (hL:L[k]? =some (.blk g (fw.map z2b) true true 0)) (hn:fw.length=n):
  CK Gam B 33 [.agg [.sl (R.preds.map z1e) .no, .sl (R.clauses.map z0e) .no], .agg [.ob (B + k) g 0 n]] (D++L) clk .plain dst gg os ts ks Q=O Gam B .plain (gg + 1) os ⟨z8c ts dst (.tup [.agg [.sl (fw.map z2b) .no], .int .i64 0]),D++L.set k (.blk g (fw.map z2b) true true n),clk⟩ ks Q:=by
 have hs:=q1g (w:=true) (len:=n) hB hL (by simp[hn])
 simp only[z4e] at hs
 rw[j2c (az:=[z1b R, .agg [.sl (fw.map z2b) .no]]) hp rfl v5m rfl rfl (by simp[z1d,conv,z7h,hs,z1b]) rfl (by simp[z3y,AV.obs,z1b]) (by simp[idsL,z2k,AV.ids,z0b z1x]) (by simp[AV.ids,idsL,z4x])]
 have hf:(AV.tup [z4s fw, .int .i64 0]).flat=false:=rfl
 rw[hf,if_neg (by simp)]
 simp only[z4s,z0p,AV.obs,z3y,List.contains_nil,Bool.false_eq_true,if_false,List.append_nil,List.nil_append,freezeAll,z2v hB,hL,z1t hB,Nat.zero_max,Nat.zero_add]
theorem v1q {s:Sys} {x:Tf} {m:List Def} (hs:SysV s) (hcs:∀ c∈s.clauses,CmpC c) (hx:TfS x) (hxp:MOk s x→x.pred=[78]∧x.into=[80]) (hmv:SysV (z2c s x).1) (hm:∀ d∈m,DOk d) (hn:∀ d∈m,GT d.params 1 6 396 d.body) (hml:m.length≤1000):Pure Gam 11 [z1b s,eTf x,z4s m] (.tup [z4s (x2e s x m).1, .int .i64 (x2e s x m).2]):=by
 have p16:=k4o hs hcs hx
 have p1019:=x6q (s:=s) (m:=m) hs hm hml
 rw[z1b,eTf,z1b] at p16
 rw[z1b,z4s] at p1019
 have h0:=z7n (s:=s) (x:=x)
 have hpl:=hs.pl
 refine Pure.of rfl y7m rfl rfl rfl (az:=[z1b s,eTf x,z4s m]) rfl (by simp[idsL,z2k,q2o hx.ok,z4x]) fun D B clk T hB hT=> ?_
 unfold x2e at hT
 by_cases he:(z2c s x).2=0
 ·rw[if_neg (not_not_intro he)] at hT
  rw[he] at p16
  cases hsh:z3b s m with
  | false=>
    rw[if_pos hsh] at hT
    rw[hsh] at p1019
    simp only[go_sem,j6g,hB,z1b,eTf,z4s,z0a p16,decide_true,Bool.not_true,z0a p1019,Bool.not_false,z0m,z0l,z0g]
    rw[z0j rfl (by simp[z1l,AV.cv,cvL,AV.ids,idsL])]
    exact hT _
  | true=>
    rw[if_neg (by rw[hsh];simp)] at hT
    rw[hsh] at p1019
    obtain⟨hr,hM⟩:=h0 he
    obtain⟨hx1,hx2⟩:=hxp hM
    have hsh':m.map (·.pred)=s.preds.map (·.name):=by
     unfold z3b at hsh
     exact of_decide_eq_true hsh
    have hR:(z2c s x).1.preds=z5e x s.preds:=by rw[hr];rfl
    have hRl:(z2c s x).1.preds.length≤1000:=by rw[hR];exact Nat.le_trans q2s (by omega)
    have hin:=j0a hM
    have hpr:x.pred∈s.preds.map (·.name):=by
     obtain⟨f,g,hf,_,e1,_⟩:=hM
     exact e1 ▸ List.mem_map_of_mem hf
    obtain⟨j,hj,hj1,hj2⟩:=k5f hsh' hpr
    obtain⟨k,hk,hk1,hk2⟩:=k5f (x4i (x:=x) hsh') hin
    have hnd:(m.map (·.pred)).Nodup:=by rw[hsh'];exact hs.pr.nodup
    have hndl:((z9i x m).map (·.pred)).Nodup:=hnd.sublist ((List.filter_sublist).map _)
    have hmj:=List.getElem_mem hj
    have hkm:(z9i x m)[k]∈m:=(List.mem_filter.1 (List.getElem_mem hk)).1
    have hpar:=q4n (hm _ hkm) (hm _ hmj) (by rw[hk2,hx2]) (by rw[hj2,hx1])
    have hset:=w4b (b:=m[j].body) hk hk2 hndl
    have hob:(z9h m x.pred).body=m[j].body:=by rw[←hj2,q1m hj hnd]
    have hfw:=k5g hx2 hm hn hmj (by rw[hj2,hx1])
    have hfl:(q7v x m[j].body m).length≤1000:=by
     rw[q7v,List.length_map]
     exact Nat.le_trans (List.length_filter_le _ _) hml
    have hfs:z3b (z2c s x).1 (q7v x m[j].body m)=true:=by
     unfold z3b
     rw[hR,x4j hsh',decide_eq_true rfl]
    rw[hob] at hT
    have p82a:=q5w (s:=s) (nm:=x.pred) (by omega)
    rw[hj1,z1b] at p82a
    have p82b:=q5w (nm:=x.into) hRl
    rw[hR,hk1,z1b] at p82b
    have hdm:=(hm _ hmj).ok
    have hcm:=(hm _ hkm).ok
    have p1033:=j6i (u:= .no) hmv hfw hfl hfs
    have hl0:0 < (z9i x m).length:=by omega
    have hws:=fun h clk Q=>y7s (R:=(z2c s x).1) (m:=m) (h:=h) (clk:=clk) (Q:=Q) hRl (fun d hd=>(hm d hd).ok.s) hml
    have hfe:m.filter (fun d=>decide (0≤z3t (z2c s x).1.preds d.pred))=z9i x m:=by rw[hR];exact v1o hsh'
    simp only[hfe] at hws
    have hixd:=fun h=>z7m (l:=m) (i:=j) (h:=h) (t:= .no) (k:= .i64) hj
    have hes:((z9i x m).map z2b)[k]? =some (z2b (z9i x m)[k]):=by rw[List.getElem?_map,List.getElem?_eq_getElem hk];rfl
    have hbl:m[j].body.length≤20000:=hdm.s.body
    have hbl2:(z9i x m)[k].body.length≤20000:=hcm.s.body
    have p1036:=v0s (u:= .full) hbl2 hbl
    have p1035a:=j6b (V:=m[j].params) (u:= .no) (by have:=hdm.len;omega)
    have p1035b:=j6b (V:=(z9i x m)[k].params) (u:= .no) (by have:=hcm.len;omega)
    have p1034:Pure Gam 37 [.sl (m[j].body.map eNode) .no, .sl (z3r (m[j].params.map (·.name))) .no, .sl (z3r ((z9i x m)[k].params.map (·.name))) .no] (.tup [.sl (m[j].body.map eNode) .no, .int .i64 0]):=by
     haveI:=hdm.u
     rw[←hpar]
     exact v0t (U:=m[j].params) (V:=m[j].params) (fun n hn=>by
      obtain⟨v,hv,rfl⟩:=List.mem_map.1 hn
      exact hdm.u.name2 v hv) hdm.nd (by have:=hdm.len;simp;omega) (fun v h=>h) hbl (by omega) hdm.wf.1 (by omega)
    simp only[go_sem,j6g,hB,z1b,eTf,z4s,z0a p16,decide_true,Bool.not_true,z0a p1019]
    refine z3g (hws _ _ _ hl0 fun g a0 a1 a2 a3 a4 a5 o0 o1 o2 o3 o4 o5 o6 c=> ?_)
    have e0:∀ a b c d e f g h:AObj,(D++[a,b,c,d,e,f,g,h]).length=B + 8:=fun _ _ _ _ _ _ _ _=>by simp[hB]
    have e1:∀ (a b c d e f g h:AObj) (l:List AObj),(D++[a,b,c,d,e,f,g,h])++l=D++([a,b,c,d,e,f,g,h]++l):=fun _ _ _ _ _ _ _ _ _=>by simp
    rw[e0,e1,show B + 8 + 13=B + 21 from rfl]
    have hfin:((z9i x m).map z2b).set k (z2b ⟨(z9i x m)[k].pred,(z9i x m)[k].params,x1t (z9i x m)[k].body m[j].body⟩)=(q7v x m[j].body m).map z2b:=by
     rw[←List.map_set,hset]
     rfl
    have hidx:∀ L:List AObj,L[21]? =some (.blk g ((z9i x m).map z2b) true true 0)→z1n (D++L) 3 (.ob (B + 21) g 0 (z9i x m).length) (.int .i64 (k:Int))=some (.ptr (B + 21) g k 0,D++L):=fun L h=>y7t hB h hes hk
    have hst:∀ (L:List AObj) (t:Tip),L[21]? =some (.blk g ((z9i x m).map z2b) true true 0)→z4y (D++L) 1 (.sl ((x1t (z9i x m)[k].body m[j].body).map eNode) t) (.ptr (B + 21) g k 2)=some (.undef,D++L.set 21 (.blk g ((q7v x m[j].body m).map z2b) true true 0)):=fun L t h=>by rw[←hfin];exact v1p hB h hes
    have hes':=hes
    rw[z2b] at hes'
    have hln:(q7v x m[j].body m).length=(z9i x m).length:=by rw[q7v,List.length_map]
    generalize q7v x m[j].body m=fw at *
    generalize z9i x m=lf at *
    generalize lf[k]=c at *
    generalize m[j]=o at *
    simp only[z0i] at p1036
    simp only[go_sem,hB,List.cons_append,List.nil_append,hixd,z0a p82a,z0a p82b,z0y]
    refine⟨by simp[z0v,apart,z0h,z0s,z0w,AOp.isCall,hB,AV.ids,idsL,z0b z1x,z0b z1k,z0b z0x], ?_⟩
    simp only[go_sem,hB,z0a p82b,z0y,z0a p1035a,hidx,hes',Option.bind_some,z0a p1035b,z0a p1034]
    refine⟨by simp[z0v,apart,z0h,z0s,z0w,AOp.isCall,hB,AV.ids,idsL,z2u,z0b z1x,z0b z1k,z0b z0x], ?_⟩
    simp only[go_sem,hB,decide_true,Bool.not_true,hidx,hes',Option.bind_some,z0y,z0a p1036,hst]
    refine⟨by simp[z0v,apart,z0h,z0s,z0w,AOp.isCall,hB,AV.ids,idsL,z2u,z0b z1x,z0b z1k,z0b z0x], ?_⟩
    rw[y7u (k:=21) p1033 hB rfl hln]
    simp only[go_sem,hB,z0m,z0l,z0g]
    rw[z0j rfl (by simp[-List.map_map,z1l,AV.cv,cvL,AV.ids,idsL,z0b z1x])]
    exact hT _
 ·rw[if_pos he] at hT
  simp only[go_sem,j6g,hB,z1b,eTf,z4s,z0a p16,decide_eq_false he,Bool.not_false,z0m,z0l,z0g]
  rw[z0j rfl (by simp[z1l,AV.cv,cvL,AV.ids,idsL])]
  exact hT _
end
theorem k5h {x:Tf} {b:Term} {m:List Def} {i:Nat} (hi:i < m.length):q7v x b (m.take (i + 1))=q7v x b (m.take i)++if m[i].pred=x.pred then [] else [k5d x b m[i]]:=by
 unfold q7v z9i
 rw[List.take_succ_eq_append_getElem hi,List.filter_append,List.map_append,List.filter_cons]
 by_cases h:m[i].pred=x.pred <;> simp[h]
theorem y7v {D L:List AObj} {B p q e b gen d g clk:Nat} {xs ys:List AV} {t u:Tip} {o o':AObj} {os:List AOper} {ts:Tmps} {ks:List Kf} {Q:Post} (hB:D.length=B) (hp:L[p]? =some o) (hq:L[q]? =some o') (ht:z7x B p o t e∨z7x B q o' t e) (hx:z0o e xs=true) (hy:z0o e ys=true) (hl:(xs.length + ys.length) * (b + 1)≤2 ^ 46)
  (hQ:∀ L',(L'=L∨L'=L.set q .dead)→O Gam B .plain (g + 1) os ⟨upd ts d (.sl (xs++ys) (.at (B + p) gen)),D++L'.set p (.tip gen e),clk⟩ ks Q):PP Gam B (z0n (D++L) (B + p) gen e b false (.sl xs t) (.sl ys u)) (some d) g os ts clk ks Q:=by
 obtain⟨L',h1,h2⟩:=x4e (b:=b) (gen:=gen) (u:=u) hB hp hq ht hx hy hl
 rw[h2]
 exact hQ L' h1
theorem v1r {s:Sys} {x:Tf} {m:List Def} (hs:SysV s) (hcs:∀ c∈s.clauses,CmpC c) (hx:TfS x) (hxp:MOk s x→x.pred=[78]∧x.into=[80]) (hmv:SysV (z2c s x).1) (hm:∀ d∈m,DOk d) (hn:∀ d∈m,GT d.params 1 6 396 d.body) (hml:m.length≤1000):Pure Gam 10 [z1b s,eTf x,z4s m] (.tup [z4s (x2e s x m).1, .int .i64 (x2e s x m).2]):=by
 have p15:=v4s hs hcs hx
 have p1016:=x6o (s:=s) (m:=m) hs hm hml
 rw[z1b,eTf,z1b] at p15
 rw[z1b,z4s] at p1016
 have h0:=z7n (s:=s) (x:=x)
 have hpl:=hs.pl
 refine Pure.of rfl y7j rfl rfl rfl (az:=[z1b s,eTf x,z4s m]) rfl (by simp[idsL,z2k,q2o hx.ok,z4x]) fun D B clk T hB hT=> ?_
 unfold x2e at hT
 by_cases he:(z2c s x).2=0
 ·rw[if_neg (not_not_intro he)] at hT
  rw[he] at p15
  cases hsh:z3b s m with
  | false=>
    rw[if_pos hsh] at hT
    rw[hsh] at p1016
    simp only[go_sem,j6e,hB,z1b,eTf,z4s,z0a p15,decide_true,Bool.not_true,z0a p1016,Bool.not_false,z0m,z0l,z0g]
    rw[z0j rfl (by simp[z1l,AV.cv,cvL,AV.ids,idsL])]
    exact hT _
  | true=>
    rw[if_neg (by rw[hsh];simp)] at hT
    rw[hsh] at p1016
    obtain⟨hr,hM⟩:=h0 he
    obtain⟨hx1,hx2⟩:=hxp hM
    have hsh':m.map (·.pred)=s.preds.map (·.name):=by
     unfold z3b at hsh
     exact of_decide_eq_true hsh
    have hR:(z2c s x).1.preds=z5e x s.preds:=by rw[hr];rfl
    have hne:x.into≠x.pred:=by rw[hx1,hx2];decide
    have hpr:x.pred∈m.map (·.pred):=by
     obtain⟨f,g,hf,_,e1,_⟩:=hM
     rw[hsh']
     exact e1 ▸ List.mem_map_of_mem hf
    have hin:x.into∈m.map (·.pred):=by
     obtain⟨f,g,_,hg,_,e2,_⟩:=hM
     rw[hsh']
     exact e2 ▸ List.mem_map_of_mem hg
    have hnd:(m.map (·.pred)).Nodup:=by rw[hsh'];exact hs.pr.nodup
    have hdf:∀ n∈m.map (·.pred),z9h m n∈m∧(z9h m n).pred=n:=fun n hn=>by
     obtain⟨d,hd,e⟩:=List.mem_map.1 hn
     obtain⟨i,hi,rfl⟩:=List.mem_iff_getElem.1 hd
     rw[←e,q1m hi hnd]
     exact⟨hd,rfl⟩
    obtain⟨hi1,hi2⟩:=hdf _ hin
    obtain⟨ho1,ho2⟩:=hdf _ hpr
    have hpar:=q4n (hm _ hi1) (hm _ ho1) (by rw[hi2,hx2]) (by rw[ho2,hx1])
    have hfw:=k5g hx2 hm hn ho1 (by rw[ho2,hx1])
    have hfl:(q7v x (z9h m x.pred).body m).length≤1000:=by
     rw[q7v,List.length_map]
     exact Nat.le_trans (List.length_filter_le _ _) hml
    have hfs:z3b (z2c s x).1 (q7v x (z9h m x.pred).body m)=true:=by
     unfold z3b
     rw[hR,x4j hsh',decide_eq_true rfl]
    have p1030a:=x6w hml hnd hin
    have p1030b:=x6w hml hnd hpr
    have hdi:=(hm _ hi1).ok
    have hgo:=hn _ ho1
    rw[hpar] at hgo
    have p1029:=v1c hpar hdi.u (fun n hn=>by
     obtain⟨v,hv,rfl⟩:=List.mem_map.1 hn
     exact hdi.u.name v hv) hdi.nd hdi.len (hn _ hi1) hgo
    have p1031:=fun u=>v1i (u:=u) hmv hfw hfl hfs
    have hat:∀ i (h:i < m.length),m[i].pred=x.into→z9h m x.into=m[i]:=fun i h e=>by rw[←e,q1m h hnd]
    rw[z4s] at p1030a p1030b
    rw[z2b] at p1030a p1030b
    rw[z2b,z2b,z2b] at p1029
    rw[z1b] at p1031
    generalize hI:z9h m x.into=dI at *
    generalize z9h m x.pred=dO at *
    rw[hi2] at p1030a
    rw[ho2] at p1030b
    rw[hi2,ho2] at p1029
    simp only[go_sem,j6e,hB,z1b,eTf,z4s,z0a p15,decide_true,Bool.not_true,z0a p1016,z0y,z0a p1030a,z0a p1030b,z0a p1029]
    refine⟨by simp[z0v,apart,z0h,z0s,z0w,AOp.isCall,hB,AV.ids,idsL,z0b z1x,z0b z1k,z0b z0x], ?_⟩
    simp only[go_sem,hB,List.length_map]
    refine z2y m.length (by omega) (fun i q=>∃ (g0 gx g2 g3 gr gb ga:Nat) (v0 v2:AV) (t:Tip) (o7 o8 o9 o10 o11:AObj),q.ts 4= .ptr (B + 1) gx 0 0∧q.ts 6= .ptr (B + 3) g3 0 0∧q.ts 8= .ptr (B + 4) gr 0 0∧q.ts 9= .int .i64 0∧q.ts 10= .ptr (B + 5) gb 0 0∧q.ts 11= .ptr (B + 6) ga 0 0∧q.ts 44= .sl (m.map z2b) .no∧q.ts 45= .int .i64 (m.length:Int)∧q.ts 46= .int .i64 (i:Int)∧q.h=D++[.blk g0 [v0] false false 0, .blk gx [eTf x] false false 0, .blk g2 [v2] false false 0, .blk g3 [.agg [.sl [] .nil]] false false 0, .blk gr [z1b (z2c s x).1] false false 0, .blk gb [.agg [.str x.into, .sl (dI.params.map z1h) .no, .sl ((x1t dI.body dO.body).map eNode) .no]] false false 0, .blk ga [.agg [.sl ((q7v x dO.body (m.take i)).map z2b) t]] false false 0,o7,o8,o9,o10,o11]∧(z7x B 9 o9 t 3∨z7x B 11 o11 t 3)) ⟨_,_,_,_,_,_,_,_,_, .nil,_,_,_,_,_,rfl,rfl,rfl,rfl,rfl,rfl,rfl,rfl,rfl,rfl, .inl (.inl rfl)⟩ ?_ ?_
    ·rintro i hlt f1 f2 ts h clk P ⟨g0,gx,g2,g3,gr,gb,ga,v0,v2,t,o7,o8,o9,o10,o11,q4,q6,q8,q9,q10,q11,q44,q45,q46,rfl,ht⟩ hnx he' hr'
     dsimp only at q4 q6 q8 q9 q10 q11 q44 q45 q46
     have hix:=fun h=>z7m (l:=m) (i:=i) (h:=h) (t:= .no) (k:= .i64) hlt
     have p1027:=q5z (u:= .no) (v:= .no) (hm _ (List.getElem_mem hlt)).ok.s
     have hstep:=k5h (x:=x) (b:=dO.body) hlt
     have hati:=hat i hlt
     have hal:(q7v x dO.body (m.take i)).length≤1000:=by
      rw[q7v,List.length_map]
      refine Nat.le_trans (List.length_filter_le _ _) ?_
      rw[List.length_take]
      omega
     rw[z2b] at p1027
     generalize m[i]=d at *
     by_cases h1:d.pred=x.pred
     ·have d1:decide (d.pred=x.pred)=true:=decide_eq_true h1
      rw[if_pos h1,List.append_nil] at hstep
      simp only[go_sem,q6w,eTf,q4,q6,q8,q9,q10,q11,q44,q45,q46,hB,f1,f2,hix,d1]
      exact hnx _ ⟨g0,gx,g2,g3,gr,gb,ga,v0,v2,t,_,_,_,_,_,q4,q6,q8,q9,q10,q11,q44,q45,rfl,by rw[hstep];rfl,ht⟩
     ·have d1:decide (d.pred=x.pred)=false:=decide_eq_false h1
      rw[if_neg h1] at hstep
      by_cases h2:d.pred=x.into
      ·have d2:decide (d.pred=x.into)=true:=decide_eq_true h2
       rw[k5d,if_pos h2,h2,←hati h2] at hstep
       have e8:(q7v x dO.body (m.take i)).map z2b++[AV.agg [.str x.into, .sl (dI.params.map z1h) .no, .sl ((x1t dI.body dO.body).map eNode) .no]]=(q7v x dO.body (m.take (i + 1))).map z2b:=by rw[hstep,List.map_append];rfl
       simp only[go_sem,q6w,eTf,q4,q6,q8,q9,q10,q11,q44,q45,q46,hB,f1,hix,d1,d2]
       refine y7v (q:=11) hB rfl rfl ht z1y (z1y (l:=[⟨x.into,dI.params,x1t dI.body dO.body⟩])) (by simp only[List.length_map,List.length_singleton];omega) fun L' hL=> ?_
       rw[e8]
       rcases hL with rfl | rfl
       all_goals
        simp only[go_sem,q4,q6,q8,q9,q10,q11,q44,q45,q46,hB,f2]
        exact hnx _ ⟨g0,gx,g2,g3,gr,gb,ga,v0,v2,_,_,_,_,_,_,q4,q6,q8,q9,q10,q11,q44,q45,rfl,rfl, .inl (.inr (.inr ⟨_,rfl,rfl⟩))⟩
      ·have d2:decide (d.pred=x.into)=false:=decide_eq_false h2
       rw[k5d,if_neg h2] at hstep
       have e8:(q7v x dO.body (m.take i)).map z2b++[d].map z2b=(q7v x dO.body (m.take (i + 1))).map z2b:=by rw[hstep,List.map_append]
       simp only[go_sem,q6w,eTf,q4,q6,q8,q9,q10,q11,q44,q45,q46,hB,f1,z0y,hix,d1,d2,z0a p1027]
       rw[show [AV.agg [.str d.pred, .sl (d.params.map z1h) .no, .sl (d.body.map eNode) .no]]=[d].map z2b from rfl]
       refine y5z (q:=9) hB rfl rfl ht.symm z1y z1y (by simp only[List.length_map,List.length_singleton];omega) fun L' hL=> ?_
       rw[e8]
       rcases hL with rfl | rfl
       all_goals
        simp only[go_sem,q4,q6,q8,q9,q10,q11,q44,q45,q46,hB,f2]
        refine⟨by simp[z0v,apart,z0h,z0s,z0w,AOp.isCall,hB,AV.ids,idsL,z0b z1x,z0b z1k,z0b z0x], ?_⟩
        exact hnx _ ⟨g0,gx,g2,g3,gr,gb,ga,v0,v2,_,_,_,_,_,_,q4,q6,q8,q9,q10,q11,q44,q45,rfl,rfl, .inr (.inr (.inr ⟨_,rfl,rfl⟩))⟩
    ·rintro f1 ts h clk P ⟨g0,gx,g2,g3,gr,gb,ga,v0,v2,t,o7,o8,o9,o10,o11,q4,q6,q8,q9,q10,q11,q44,q45,q46,rfl,ht⟩ he' hr'
     dsimp only at q4 q6 q8 q9 q10 q11 q44 q45 q46
     rw[List.take_length]
     simp only[go_sem,q6w,q4,q6,q8,q9,q10,q11,q44,q45,q46,hB,f1]
     refine he' _ _ ?_
     simp only[go_sem,q6,q8,q9,q11,hB,z1b,z0a (p1031 t),z4s,z0m,z0l,z0g]
     rw[z0j rfl (by simp[-List.map_map,z1l,AV.cv,cvL,AV.ids,idsL,z0b z1x])]
     exact hT _
 ·rw[if_pos he] at hT
  simp only[go_sem,j6e,hB,z1b,eTf,z4s,z0a p15,decide_eq_false he,Bool.not_false,z0m,z0l,z0g]
  rw[z0j rfl (by simp[z1l,AV.cv,cvL,AV.ids,idsL])]
  exact hT _
theorem y7w:Pure Gam 13 [] (.bool true):=Pure.tab (tab:=[([], .bool true)]) rfl rfl rfl
theorem AppOk.len2 {ps:List Func} {V:List Var} {a:App} (h:AppOk ps V a) (hp:PrOk ps):a.args.length≤20000∧∀ t∈a.args,t.length≤20000:=by
 obtain⟨f,hf,_,hl,hz⟩:=h
 have h40:=(hp.args f hf).1
 refine⟨by omega,fun t ht=> ?_⟩
 obtain⟨i,hi,rfl⟩:=List.getElem_of_mem ht
 have hif:i < f.args.length:=by omega
 have hm:(f.args[i],a.args[i])∈f.args.zip a.args:=by
  have:(f.args.zip a.args)[i]? =some (f.args[i],a.args[i]):=by simp[List.getElem?_zip_eq_some,hif,hi]
  exact List.mem_of_getElem? this
 have:=(hz _ hm).2.1
 dsimp only at this
 omega
theorem SysV.cmp {s:Sys} (hs:SysV s):∀ c∈s.clauses,CmpC c:=fun c hc=>by
 obtain⟨hv,hb,hba,hg,hh⟩:=hs.clauses c hc
 refine⟨by have:c.vars.length≤8:=hv.length_le;omega,by omega,by have:=hg.2.1;omega, ?_,fun a ha=>(hba a ha).len2 hs.pr⟩
 rcases hh with ⟨_,h⟩ | h
 ·rw[h];simp
 ·exact h.len2 hs.pr
theorem AppOk.ren {s:Sys} {x:Tf} {V:List Var} {a:App} (hs:SysV s) (hM:MOk s x) (h:AppOk s.preds V a):AppOk (z5e x s.preds) V (z7p x.pred x.into a):=by
 obtain⟨f,hf,hn,hl,ha⟩:=h
 obtain⟨p,q,hp,hq,e1,e2,hm⟩:=hM
 unfold z9f at hm
 rw[Bool.and_eq_true,Bool.and_eq_true] at hm
 have hne:q.name≠x.pred:=by
  have:=hm.1.1
  rw[Bool.not_eq_true',decide_eq_false_iff_not,e1] at this
  exact fun e=>this e.symm
 have hargs:=of_decide_eq_true hm.1.2
 by_cases h:a.pred=x.pred
 ·have hfp:f=p:=q8n f (hs.preds.mem hf) p (hs.preds.mem hp) (by rw[←hn,h,e1])
  subst hfp
  refine⟨q,List.mem_filter.2 ⟨hq,by simp[hne]⟩,by simp[z7p,h,e2], ?_, ?_⟩
  ·rw[←hargs];exact hl
  ·rw[←hargs];exact ha
 ·exact⟨f,List.mem_filter.2 ⟨hf,by simp[←hn,h]⟩,by rw[z7p,if_neg h];exact hn,hl,ha⟩
theorem v1s {s:Sys} {x:Tf} (hs:SysV s) (hM:MOk s x) (hx:x.pred≠[]):SysV (merged s x):=by
 refine⟨List.filter_sublist.trans hs.preds,Nat.le_trans x1a hs.len,fun c hc=> ?_⟩
 obtain⟨d,hd,rfl⟩:=List.mem_map.1 hc
 obtain⟨g1,g2,g3,g4,g5⟩:=hs.clauses d (List.mem_filter.1 hd).1
 refine⟨g1,by simp[q0q,g2],fun a ha=> ?_,g4, ?_⟩
 ·obtain⟨b,hb,rfl⟩:=List.mem_map.1 ha
  exact (g3 b hb).ren hs hM
 ·rcases g5 with ⟨h1,h2⟩ | g5
  ·exact .inl ⟨by simp[q0q,z7p,h1,Ne.symm hx],h2⟩
  ·exact .inr (g5.ren hs hM)
theorem v1t {s:Sys} {x:Tf} (hs:SysV s) (hx:MOk s x→x.pred=[78]∧x.into=[80]):SysV (z2c s x).1:=by
 have h0:SysV x2b:=⟨List.nil_sublist _,by simp[x2b],by simp[x2b]⟩
 cases hu:q5y x with
 | false=>rw[z9g hu];exact h0
 | true=>
   by_cases hn:MOk s x
   ·rw[q2r hu hn]
    exact v1s hs hn (by rw[(hx hn).1];decide)
   ·rw[z7f hu hn];exact h0
theorem j6k {s:Sys} {x:Tf} {m:List Def} (hs:SysV s) (hx:MOk s x→x.pred=[78]∧x.into=[80]) (hm:∀ d∈m,DOk d):(q3m s x m).1.length≤1000∧∀ d∈(q3m s x m).1,DefS d:=by
 have hpl:=hs.pl
 unfold q3m
 split
 ·simp
 ·rename_i he
  split
  ·simp
  ·rename_i hsh
   obtain⟨hr,hM⟩:=z7n (Classical.not_not.1 he)
   have hsh':m.map (·.pred)=(z5e x s.preds).map (·.name):=by
    unfold z3b at hsh
    rw[Bool.not_eq_false,decide_eq_true_iff,hr] at hsh
    exact hsh
   exact⟨by simp only[List.length_map];omega,fun d hd=>(j6j hs hM (hx hM) hsh' hm d hd).ok.s⟩
theorem k5i {s:Sys} {x:Tf} {m:List Def} (hx:MOk s x→x.pred=[78]∧x.into=[80]) (hm:∀ d∈m,DOk d) (hn:∀ d∈m,GT d.params 1 6 396 d.body) (hml:m.length≤1000):(x2e s x m).1.length≤1000∧∀ d∈(x2e s x m).1,DefS d:=by
 unfold x2e
 split
 ·simp
 ·rename_i he
  split
  ·simp
  ·rename_i hsh
   obtain⟨hr,hM⟩:=z7n (Classical.not_not.1 he)
   obtain⟨hx1,hx2⟩:=hx hM
   have hsh':m.map (·.pred)=s.preds.map (·.name):=by
    unfold z3b at hsh
    rw[Bool.not_eq_false,decide_eq_true_iff] at hsh
    exact hsh
   refine⟨by rw[q7v,List.length_map];exact Nat.le_trans (List.length_filter_le _ _) hml,fun d hd=> ?_⟩
   obtain⟨e,he,rfl⟩:=List.mem_map.1 hd
   have hem:=(List.mem_filter.1 he).1
   have h1:=(hm e hem).ok.s
   have h2:(z9h m x.pred).body.length≤396:=by
    unfold z9h
    cases h:m.find? (fun d=>decide (d.pred=x.pred)) with
    | none=>simp[y5y]
    | some d=>exact (hn d (List.mem_of_find?_eq_some h)).2.1
   have h3:=(hn e hem).2.1
   unfold k5d
   split
   ·exact⟨h1.params,by simp[x1t];omega⟩
   ·exact h1
theorem ModOk.len {s:Sys} {m:List Def} (hs:SysV s) (h:ModOk s m):m.length≤1000:=by
 have h1:=congrArg List.length h.names
 have h2:=hs.pl
 simp only[List.length_map] at h1
 omega
theorem j9b {zs ms ns:List Int} {odd:Bool} (hz:∀ z∈zs, -9223372036854775808≤z∧z≤9223372036854775807) (hm:∀ z∈ms, -9223372036854775808≤z∧z≤9223372036854775807) (hn:∀ z∈ns, -9223372036854775808≤z∧z≤9223372036854775807):WC Gam 3 [.sl (z6z zs) .no, .sl (z6z ms) .no, .sl (z6z ns) .no, .bool odd] [] 0 fun v _ _=>v= .bool true:=by
 refine q3z rfl y7o rfl rfl rfl (az:=[.sl (z6z zs) .no, .sl (z6z ms) .no, .sl (z6z ns) .no, .bool odd]) rfl (by simp[idsL,AV.ids,z8k]) fun D B R hB hR=> ?_
 simp only[go_sem,v6i,hB]
 refine z3g (g3t hz fun s hv=> ?_)
 have hc:=hv.cmp
 simp only[go_sem,hB,z1b]
 have h14:=fun odd u h clk Q=>g3q (s:=s) (zs:=ms) (u:=u) (odd:=odd) (h:=h) (clk:=clk) (Q:=Q) hv hc hm
 rw[z1b] at h14
 refine z3g (h14 _ _ _ _ _ fun x hx hxp _=> ?_)
 have p2:=k4o hv hc hx
 have hr:=v1t (x:=x) hv hxp
 rw[z1b,eTf,z1b] at p2
 simp only[go_sem,hB,eTf,z0a p2,z0y]
 have hf:∀ (s:Sys) (h:List AObj) (u:Tip),z0z Gam 7 [z1b s, .sl (z6z ns) u] h=[]:=fun s h u=>q1c v4u rfl rfl rfl (by simp[cvL,AV.cv,idsL,z2k,AV.ids,z8k,v3z])
 have hg:=fun {s} (hs:SysV s) u h clk Q=>y7p (s:=s) (zs:=ns) (u:=u) (h:=h) (clk:=clk) (Q:=Q) hs hn
 simp only[z1b] at hf hg
 refine x0y (hf s _ _) (hg hv _ _ _ _ fun m1 hm1=> ?_)
 simp only[go_sem,hB]
 refine x0y (hf (z2c s x).1 _ _) (hg hr _ _ _ _ fun m2 hm2=> ?_)
 have hbs:∀ h,bsV h (.agg [.sl [] .nil]) 3 [0,1,2] [z4s m1,z4s m2, .agg [.sl [] .nil]]=some (.sl ([m1,m2,[]].map z4s) .full,h):=fun h=>u8b rfl rfl rfl rfl rfl rfl rfl rfl rfl rfl
 have hall:∀ m∈[m1,m2,[]],(∀ d∈m,DOk d)∧(∀ d∈m,GT d.params 1 6 396 d.body)∧m.length≤1000:=by
  intro m hm
  simp only[List.mem_cons,List.not_mem_nil,or_false] at hm
  rcases hm with rfl | rfl | rfl
  ·exact⟨hm1.defs,hm1.nar,hm1.len hv⟩
  ·exact⟨hm2.defs,hm2.nar,hm2.len hr⟩
  ·simp
 have hlen:[m1,m2,[]].length=3:=rfl
 generalize [m1,m2,[]]=all at *
 simp only[go_sem,hB,hbs]
 refine⟨by simp[z0v,apart,z0h,z0s,z0w,AOp.isCall,hB], ?_⟩
 refine z2y 3 (by omega) (fun i q=>∃ (g0 g1:Nat) (o2 o3 o4 o5 o6 o7:AObj),q.ts 9= .ptr (B + 0) g0 0 0∧q.ts 10= .ptr (B + 1) g1 0 0∧q.ts 13= .sl (all.map z4s) .full∧q.ts 14= .int .i64 (i:Int)∧q.h=D++[.blk g0 [z1b s] false false 0, .blk g1 [eTf x] false false 0,o2,o3,o4,o5,o6,o7]) ⟨_,_,_,_,_,_,_,_,rfl,rfl,rfl,rfl,rfl⟩ ?_ ?_
 ·rintro i hlt f1 f2 ts h clk P ⟨g0,g1,o2,o3,o4,o5,o6,o7,q9,q10,q13,q14,rfl⟩ hnx he hr'
  dsimp only at q9 q10 q13 q14
  have hi:i < all.length:=by omega
  have hix:∀ h,z1n h 1 (.sl (all.map z4s) .full) (.int .i64 (i:Int))=some (.iptr [.sl (all[i].map z2b) .no] 0,h):=fun h=>z3j hi rfl rfl
  obtain⟨hd,hdn,hml⟩:=hall _ (List.getElem_mem hi)
  have p1:=v1l hv hc hx hxp hr hd hml
  have p2:=v1m hv hc hx hxp hr hd hml
  have p3:=v1r hv hc hx hxp hr hd hdn hml
  have p4:=v1q hv hc hx hxp hr hd hdn hml
  have p5:=j5x (j6k (x:=x) hv hxp hd).1 (j6k (x:=x) hv hxp hd).2
  have p6:=j5x (k5i (s:=s) (x:=x) hxp hd hdn hml).1 (k5i (s:=s) (x:=x) hxp hd hdn hml).2
  generalize q3m s x all[i]=r1 at *
  generalize x2e s x all[i]=r2 at *
  generalize all[i]=m at *
  simp only[z1b,eTf,z4s] at p1 p2 p3 p4 p5 p6
  have f3:decide ((i:Int) < 3)=true:=decide_eq_true (by omega)
  simp only[go_sem,x6z,z1b,eTf,q9,q10,q13,q14,hB,f1,f3,z0y,List.length_map,hlen,hix,z0a p1]
  refine⟨by simp[z0v,apart,z0h,z0s,z0w,AOp.isCall,hB,AV.ids,idsL,z0b z4x,z0b z1x], ?_⟩
  simp only[go_sem,q9,q10,q13,q14,hB,z0y,hix,z0a p2]
  refine⟨by simp[z0v,apart,z0h,z0s,z0w,AOp.isCall,hB,AV.ids,idsL,z0b z4x,z0b z1x], ?_⟩
  simp only[go_sem,q9,q10,q13,q14,hB,z0y,hix,z0a p3]
  refine⟨by simp[z0v,apart,z0h,z0s,z0w,AOp.isCall,hB,AV.ids,idsL,z0b z4x,z0b z1x], ?_⟩
  simp only[go_sem,q9,q10,q13,q14,hB,z0y,hix,z0a p4]
  refine⟨by simp[z0v,apart,z0h,z0s,z0w,AOp.isCall,hB,AV.ids,idsL,z0b z4x,z0b z1x], ?_⟩
  simp only[go_sem,q9,q10,q13,q14,hB,f2,z0a p5,z0a p6,decide_true,Bool.not_true]
  exact hnx _ ⟨_,_,_,_,_,_,_,_,q9,q10,q13,rfl,rfl⟩
 ·rintro f1 ts h clk P ⟨g0,g1,o2,o3,o4,o5,o6,o7,q9,q10,q13,q14,rfl⟩ he hr'
  dsimp only at q9 q10 q13 q14
  simp only[go_sem,x6z,q9,q10,q13,q14,hB,f1,List.length_map,hlen,Int.reduceLT,decide_false]
  refine he _ _ ?_
  simp only[go_sem,hB,z0a y7w]
  rw[z0d]
  exact hR _ _ rfl
end Go.Proofs.YtdfepmffiampgaaGreatDoor.Am
