/- Walking: models are mapped Walking: models are generated Walking: SliceModels -/
import Derived.Test.YtahdahokpjigiaaGreatDoorM35
set_option linter.all false
namespace Go.Proofs.YtahdahokpjigiaaGreatDoor.Am
open Go
set_option maxRecDepth 100000
theorem x0u {x:Tf} {ps:List Func} {n:List Nat} (h:z7b x n=true):z4s (z2k x ps) n= -1:=by
 refine z7i fun p hp e=> ?_
 have h2:=(q6j.1 hp).2
 rw[e] at h2
 simp[z7b,h2.1,h2.2] at h
theorem x8l {x:Tf} {ps:List Func} {f:Func} (hf:f∈ps) (h:z7b x f.name=false):f∈z2k x ps:=by
 simp only[z7b,Bool.or_eq_false_iff,decide_eq_false_iff_not] at h
 exact q6j.2 ⟨hf,h⟩
theorem j1p {s:Sys} {x:Tf} {m:List Def} {f:Func} (hs:SysV s) (hsh:m.map (·.pred)=(z2k x s.preds).map (·.name)) (hf:f∈s.preds) (hg:z7b x f.name=false):∃ k:Nat,∃ h:k < m.length,z4s (z2k x s.preds) f.name=(k:Int)∧z9x x m f=m[k]:=by
 obtain⟨k,hk,hkf,hp⟩:=z7j (x0s (x:=x) hs).pr (x8l hf hg)
 have hlen:m.length=(z2k x s.preds).length:=by simpa using congrArg List.length hsh
 have hk':k < (z2k x s.preds).length:=hk
 have hkm:k < m.length:=by omega
 refine⟨k,hkm,hp, ?_⟩
 have hnd:(m.map (·.pred)).Nodup:=by
  rw[hsh]
  exact hs.pr.nodup.sublist (List.filter_sublist.map _)
 have hname:m[k].pred=f.name:=by
  have h1:=congrArg (fun l=>l[k]?) hsh
  simp only[List.getElem?_map,List.getElem?_eq_getElem hkm,List.getElem?_eq_getElem hk',Option.map_some] at h1
  have h2:(z2k x s.preds)[k]=f:=hkf
  rw[h2] at h1
  simpa using h1
 rw[z9x,if_neg (by rw[hg];simp),←hname]
 exact j4o hkm hnd
theorem k3h {x:Tf} {m:List Def} {f:Func} (hm:∀ d∈m,DOk d) (hf:f.args.length≤3):DefS (z9x x m f):=by
 unfold z9x
 split
 ·exact⟨by rw[q5o,q1j];omega,by simp[q5o,x0r]⟩
 ·unfold k8p
  cases h:m.find? (fun d=>decide (d.pred=f.name)) with
  | none=>exact⟨by simp[v9r],by simp[v9r]⟩
  | some d=>exact (hm d (List.mem_of_find?_eq_some h)).ok.s
theorem v9s {s:Sys} {x:Tf} {m:List Def} (hs:SysV s) (hsh:z4x s m=true):m.filter (fun d=>decide (0≤z4s (z2k x s.preds) d.pred))=m.filter fun d=> !z7b x d.pred:=by
 refine List.filter_congr fun d hd=> ?_
 have h1:d.pred∈s.preds.map (·.name):=by
  unfold z4x at hsh
  rw[decide_eq_true_iff] at hsh
  rw[←hsh]
  exact List.mem_map_of_mem hd
 obtain⟨f,hf,hn⟩:=List.mem_map.1 h1
 cases hg:z7b x d.pred with
 | true=>rw[x0u hg];rfl
 | false=>
   rw[←hn] at hg⊢
   obtain⟨k,hk, -,hp⟩:=z7j (x0s (x:=x) hs).pr (x8l hf hg)
   have hp':z4s (z2k x s.preds) f.name=(k:Int):=hp
   rw[hp']
   simp
theorem v9t {s:Sys} {x:Tf} {m:List Def} {R:Sys} {B clk g0 gx gm g3 gr g5:Nat} {D:List AObj} {o6 o7 o8 o9:AObj} {ts:Tmps} {ks:List Kf} {Q:Post} (hB:D.length=B) (hs:SysV s) (hx:TfS x) (hR:R.preds=z2k x s.preds) (hsh:m.map (·.pred)=(z2k x s.preds).map (·.name)) (h3:ts 3= .ptr (B + 0) g0 0 0) (h4:ts 4= .ptr (B + 1) gx 0 0) (h5:ts 5= .ptr (B + 2) gm 0 0) (h6:ts 6= .ptr (B + 3) g3 0 0) (h8:ts 8= .ptr (B + 4) gr 0 0) (h11:ts 11= .ptr (B + 5) g5 0 0) (h12:ts 12= .int .i64 0) (ht7:z8k B 7 o7 .nil 3)
  (hQ:∀ (ts':Tmps) (t:Tip) (o6 o7 o8 o9:AObj) (clk':Nat),ts' 6= .ptr (B + 3) g3 0 0→ts' 11= .ptr (B + 5) g5 0 0→K Gam B (.exit 0) ks ⟨ts',D++[.blk g0 [z0x s] false false 0, .blk gx [eTf x] false false 0, .blk gm [z5l m] false false 0, .blk g3 [.agg [.sl [] .nil]] false false 0, .blk gr [z0x R] false false 0, .blk g5 [.agg [.sl ((s.preds.map (z9x x m)).map z4j) t]] false false 0,o6,o7,o8,o9],clk'⟩ Q):
  K Gam B (.loop x0q) ks ⟨ts,D++[.blk g0 [z0x s] false false 0, .blk gx [eTf x] false false 0, .blk gm [z5l m] false false 0, .blk g3 [.agg [.sl [] .nil]] false false 0, .blk gr [z0x R] false false 0, .blk g5 [.agg [.sl [] .nil]] false false 0,o6,o7,o8,o9],clk⟩ Q:=by
 have hpl:=hs.pl
 have hRl:R.preds.length≤1000:=by
  rw[hR]
  exact Nat.le_trans (List.length_filter_le _ _) (by omega)
 refine z6z s.preds.length (by omega) (fun i q=>∃ (t:Tip) (o6 o7 o8 o9:AObj),q.ts 3= .ptr (B + 0) g0 0 0∧q.ts 4= .ptr (B + 1) gx 0 0∧q.ts 5= .ptr (B + 2) gm 0 0∧q.ts 6= .ptr (B + 3) g3 0 0∧q.ts 8= .ptr (B + 4) gr 0 0∧q.ts 11= .ptr (B + 5) g5 0 0∧q.ts 12= .int .i64 (i:Int)∧q.h=D++[.blk g0 [z0x s] false false 0, .blk gx [eTf x] false false 0, .blk gm [z5l m] false false 0, .blk g3 [.agg [.sl [] .nil]] false false 0, .blk gr [z0x R] false false 0, .blk g5 [.agg [.sl (((s.preds.take i).map (z9x x m)).map z4j) t]] false false 0,o6,o7,o8,o9]∧(z8k B 7 o7 t 3∨z8k B 9 o9 t 3)) ⟨.nil,_,_,_,_,h3,h4,h5,h6,h8,h11,h12,rfl, .inl ht7⟩ ?_ ?_
 ·clear h3 h4 h5 h6 h8 h11 h12
  rintro i hlt f1 f2 ts h clk P ⟨t,o6,o7,o8,o9,q3,q4,q5,q6,q8,q11,q12,rfl,ht⟩ hnx he hr
  dsimp only at q3 q4 q5 q6 q8 q11 q12
  have hix:=fun h=>z6g (l:=s.preds) (i:=i) (h:=h) (t:= .no) (k:= .i64) hlt
  have e8:=x8k (x:=x) (m:=m) hlt
  have hf:=List.getElem_mem hlt
  have hal:s.preds[i].args.length≤3:=by
   have hf:=hs.preds.mem hf
   have h1:=congrArg List.length (q3f _ hf).2.2.2
   have h2:=(q3f _ hf).2.2.1
   simp at h1
   omega
  have p82:=q3e (nm:=s.preds[i].name) hRl
  have p94:=x3h (l:=x.un) (nm:=s.preds[i].name) (u:= .no) (by have:=hx.un;omega)
  have p1025:=k8o (f:=s.preds[i]) (b:=decide (s.preds[i].name∈x.un)) hal
  have hkeep:=j1p (m:=m) hs hsh hf
  rw[z0x] at p82
  rw[z0q,z4j,nat] at p1025
  rw[hR] at p82
  cases hg:z7b x s.preds[i].name with
  | true=>
    have hbd:z9x x m s.preds[i]=q5o s.preds[i] (decide (s.preds[i].name∈x.un)):=by rw[z9x,if_pos hg]
    rw[hbd] at e8
    rw[x0u hg,←hR] at p82
    have hge:decide ((0:Int)≤ -1)=false:=by decide
    clear hkeep
    generalize q5o s.preds[i] (decide (s.preds[i].name∈x.un))=d at *
    generalize s.preds[i]=f at *
    simp only[go_sem,x0q,z0x,eTf,q3,q4,q5,q6,q8,q11,q12,hB,f1,z1i,List.length_map,hix,hge,z0a p82,z0a p94,z0a p1025]
    rw[q2x]
    refine j4p (q:=7) hB rfl rfl ht.symm z1v z1v (by simp only[List.length_map,List.length_singleton,List.length_take];omega) fun L' hL=> ?_
    rw[e8]
    rcases hL with rfl | rfl
    all_goals
     simp only[go_sem,q3,q4,q5,q6,q8,q11,q12,hB,f2]
     refine⟨by simp[z1f,apart,z0i,z1d,z1h,AOp.isCall,hB,AV.ids,idsL,z2d,z0c z2j,z0c (fun _=>z3c)], ?_⟩
     exact hnx _ ⟨_,_,_,_,_,q3,q4,q5,q6,q8,q11,rfl,rfl, .inr (.inr (.inr ⟨_,rfl,rfl⟩))⟩
  | false=>
    obtain⟨k,hk,hp,hbd⟩:=hkeep hg
    rw[hbd] at e8
    rw[hp,←hR] at p82
    have hixd:=fun h=>q1i (l:=m) (i:=k) (h:=h) (t:= .no) (k:= .i64) hk
    have hge:decide ((0:Int)≤(k:Int))=true:=by simp
    generalize m[k]=d at *
    generalize s.preds[i]=f at *
    simp only[go_sem,x0q,z0x,z5l,q3,q4,q5,q6,q8,q11,q12,hB,f1,z1i,List.length_map,hix,hixd,hge,z0a p82]
    rw[q2x]
    refine j4p (q:=9) hB rfl rfl ht z1v z1v (by simp only[List.length_map,List.length_singleton,List.length_take];omega) fun L' hL=> ?_
    rw[e8]
    rcases hL with rfl | rfl
    all_goals
     simp only[go_sem,q3,q4,q5,q6,q8,q11,q12,hB,f2]
     refine⟨by simp[z1f,apart,z0i,z1d,z1h,AOp.isCall,hB,AV.ids,idsL,z2d,z0c z2j,z0c z3m,z0c z2b,z0c z1y], ?_⟩
     exact hnx _ ⟨_,_,_,_,_,q3,q4,q5,q6,q8,q11,rfl,rfl, .inl (.inr (.inr ⟨_,rfl,rfl⟩))⟩
 ·clear h3 h4 h5 h6 h8 h11 h12
  rintro f1 ts h clk P ⟨t,o6,o7,o8,o9,q3,q4,q5,q6,q8,q11,q12,rfl,ht⟩ he hr
  dsimp only at q3 q4 q5 q6 q8 q11 q12
  rw[List.take_length]
  simp only[go_sem,x0q,z0x,q3,q4,q5,q6,q8,q11,q12,hB,f1,List.length_map]
  exact he _ _ (hQ _ t _ _ _ _ _ (by simp[z0b,q6]) (by simp[z0b,q11]))
theorem k8s {s:Sys} {x:Tf} {m:List Def} (hs:SysV s) (hx:TfS x) (hm:∀ d∈m,DOk d) (hml:m.length≤1000):Pure Gam 26 [z0x s,eTf x,z5l m] (.tup [z5l (q3g s x m).1, .int .i64 (q3g s x m).2]):=by
 have p50:=k2z hs hx
 have p1019:=j4n (s:=(z2i s x).1) (m:=m) (q7t hs) hm hml
 rw[z0x,eTf,z0x] at p50
 rw[z0x,z5l] at p1019
 have h0:=x0t (s:=s) (x:=x)
 have hpl:=hs.pl
 have p1026:=fun u=>j4j (m:=s.preds.map (z9x x m)) (u:=u) (by simp only[List.length_map];omega) fun d hd=>by
  obtain⟨f,hf,rfl⟩:=List.mem_map.1 hd
  refine k3h hm ?_
  have hf:=hs.preds.mem hf
  have h1:=congrArg List.length (q3f _ hf).2.2.2
  have h2:=(q3f _ hf).2.2.1
  simp at h1
  omega
 have hi:=z0c (l:=s.preds.map (z9x x m)) z3m
 refine Pure.of rfl y0o rfl rfl rfl (az:=[z0x s,eTf x,z5l m]) rfl (by simp[idsL,z2c,z6y hx.ok,z7a]) fun D B clk T hB hT=> ?_
 unfold q3g at hT
 by_cases he:(z2i s x).2=0
 ·rw[if_neg (not_not_intro he)] at hT
  rw[he] at p50
  cases hsh:z4x (z2i s x).1 m with
  | false=>
    rw[if_pos hsh] at hT
    rw[hsh] at p1019
    simp only[go_sem,j4f,hB,z0x,eTf,z5l,z0a p50,decide_true,Bool.not_true,z0a p1019,Bool.not_false,z0n,z0m,z0g]
    rw[z0h rfl (by simp[z1k,AV.cv,cvL,AV.ids,idsL])]
    exact hT _
  | true=>
    rw[if_neg (by rw[hsh];simp)] at hT
    rw[hsh] at p1019
    have hsh':m.map (·.pred)=(z2k x s.preds).map (·.name):=by
     unfold z4x at hsh
     rw[decide_eq_true_iff,h0 he] at hsh
     exact hsh
    have hR:(z2i s x).1.preds=z2k x s.preds:=by rw[h0 he];rfl
    simp only[go_sem,j4f,hB,z0x,eTf,z5l,z0a p50,decide_true,Bool.not_true,z0a p1019]
    refine v9t (s:=s) (x:=x) (m:=m) (R:=(z2i s x).1) hB hs hx hR hsh' rfl rfl rfl rfl rfl rfl rfl (.inl rfl) fun ts' t o6 o7 o8 o9 clk' r6 r11=> ?_
    simp only[go_sem,r6,r11,hB,z0a (p1026 t),z5l,z0n,z0m,z0g]
    rw[z0h rfl (by simp[-List.map_map,z5l,z1k,AV.cv,cvL,AV.ids,idsL,hi])]
    exact hT _
 ·rw[if_pos he] at hT
  simp only[go_sem,j4f,hB,z0x,eTf,z5l]
  rw[z0a p50]
  simp only[go_sem,hB,decide_eq_false he,Bool.not_false,z0n,z0m,z0g]
  rw[z0h rfl (by simp[z1k,AV.cv,cvL,AV.ids,idsL])]
  exact hT _
theorem k8t {R:Sys} {m:List Def} (hR:R.preds.length≤1000) (hm:∀ d∈m,DefS d) (hml:m.length≤1000):Pure Gam 76 [z0x R,z5l m] (z5l (m.filter fun d=>decide (0≤z4s R.preds d.pred))):=by
 refine Pure.of rfl y1a rfl rfl rfl (az:=[z0x R,z5l m]) rfl (by simp[idsL,z2c,z7a]) fun D B clk T hB hT=> ?_
 simp only[go_sem,v1v,hB,z0x,z5l]
 refine z6z m.length (by omega) (fun i q=>∃ (g0 g1 g2 g3:Nat) (t:Tip) (o4 o5:AObj),q.ts 2= .ptr (B + 0) g0 0 0∧q.ts 3= .ptr (B + 1) g1 0 0∧q.ts 4= .ptr (B + 2) g2 0 0∧q.ts 5= .ptr (B + 3) g3 0 0∧q.ts 6= .int .i64 (i:Int)∧q.h=D++[.blk g0 [.agg [.sl (R.preds.map z0q) .no, .sl (R.clauses.map z0f) .no]] false false 0, .blk g1 [.agg [.sl (m.map z4j) .no]] false false 0, .blk g2 [.agg [.sl [] .nil]] false false 0, .blk g3 [.agg [.sl (((m.take i).filter fun d=>decide (0≤z4s R.preds d.pred)).map z4j) t]] false false 0,o4,o5]∧z8k B 5 o5 t 3) ⟨_,_,_,_, .nil,_,_,rfl,rfl,rfl,rfl,rfl,rfl, .inl rfl⟩ ?_ ?_
 ·rintro i hlt f1 f2 ts h clk P ⟨g0,g1,g2,g3,t,o4,o5,q2,q3,q4,q5,q6,rfl,ht⟩ hnx he hr
  dsimp only at q2 q3 q4 q5 q6
  have hix:=fun h=>q1i (l:=m) (i:=i) (h:=h) (t:= .no) (k:= .i64) hlt
  have p82:=q3e (nm:=m[i].pred) hR
  rw[z0x] at p82
  have hfl:((m.take i).filter fun d=>decide (0≤z4s R.preds d.pred)).length≤1000:=Nat.le_trans (List.length_filter_le _ _) (by rw[List.length_take];omega)
  have htk:(m.take (i + 1)).filter (fun d=>decide (0≤z4s R.preds d.pred))=(m.take i).filter (fun d=>decide (0≤z4s R.preds d.pred))++(if 0≤z4s R.preds m[i].pred then [m[i]] else []):=by
   rw[List.take_succ_eq_append_getElem hlt,List.filter_append,List.filter_cons]
   by_cases hg:0≤z4s R.preds m[i].pred <;> simp[hg]
  generalize m[i]=d at *
  by_cases hg:0≤z4s R.preds d.pred
  ·rw[if_pos hg] at htk
   have hge:decide (0≤z4s R.preds d.pred)=true:=decide_eq_true hg
   have e8:((m.take i).filter fun d=>decide (0≤z4s R.preds d.pred)).map z4j++[d].map z4j=((m.take (i + 1)).filter fun d=>decide (0≤z4s R.preds d.pred)).map z4j:=by rw[htk,List.map_append]
   simp only[go_sem,x5k,q2,q3,q4,q5,q6,hB,f1,List.length_map,hix,z1i,z0a p82,hge]
   rw[q2x,z0j hB rfl ht z1v z1v (by simp only[List.length_map,List.length_singleton];omega),e8]
   simp only[go_sem,q2,q3,q4,q5,q6,hB,f2]
   refine⟨by simp[z1f,apart,z0i,z1d,z1h,AOp.isCall,hB,AV.ids,idsL,z0c z3m,z0c z2b,z0c z1y], ?_⟩
   exact hnx _ ⟨g0,g1,g2,g3,_,_,_,q2,q3,q4,q5,rfl,rfl, .inr (.inr ⟨_,rfl,rfl⟩)⟩
  ·rw[if_neg hg,List.append_nil] at htk
   have hge:decide (0≤z4s R.preds d.pred)=false:=decide_eq_false hg
   simp only[go_sem,x5k,q2,q3,q4,q5,q6,hB,f1,f2,List.length_map,hix,z0a p82,hge]
   exact hnx _ ⟨g0,g1,g2,g3,t,_,_,q2,q3,q4,q5,rfl,by rw[htk],ht⟩
 ·rintro f1 ts h clk P ⟨g0,g1,g2,g3,t,o4,o5,q2,q3,q4,q5,q6,rfl,ht⟩ he hr
  dsimp only at q2 q3 q4 q5 q6
  rw[List.take_length]
  have p1026:=j4j (m:=m.filter fun d=>decide (0≤z4s R.preds d.pred)) (u:=t) (Nat.le_trans (List.length_filter_le _ _) hml) fun d hd=>hm d (List.mem_filter.1 hd).1
  simp only[go_sem,x5k,q2,q3,q4,q5,q6,hB,f1,List.length_map]
  refine he _ _ ?_
  simp only[go_sem,q4,q5,hB,z0a p1026,z5l,z0n,z0m,z0g]
  rw[z2x rfl (by simp[z5l,AV.cv,cvL,AV.ids,idsL,z0c z3m])]
  exact hT _
theorem k8u {s:Sys} {x:Tf} {m:List Def} (hs:SysV s) (hx:TfS x) (hm:∀ d∈m,DOk d) (hml:m.length≤1000):Pure Gam 28 [z0x s,eTf x,z5l m] (.tup [z5l (x1j s x m).1, .int .i64 (x1j s x m).2]):=by
 have p50:=k2z hs hx
 have p1019:=j4n (s:=s) (m:=m) hs hm hml
 have p1028:=k8t (R:=(z2i s x).1) (m:=m) (by have:=(q7t (x:=x) hs).pl;omega) (fun d hd=>(hm d hd).ok.s) hml
 rw[z0x,eTf,z0x] at p50
 rw[z0x,z5l] at p1019
 rw[z0x,z5l] at p1028
 have h0:=x0t (s:=s) (x:=x)
 refine Pure.of rfl y0q rfl rfl rfl (az:=[z0x s,eTf x,z5l m]) rfl (by simp[idsL,z2c,z6y hx.ok,z7a]) fun D B clk T hB hT=> ?_
 unfold x1j at hT
 by_cases he:(z2i s x).2=0
 ·rw[if_neg (not_not_intro he)] at hT
  rw[he] at p50
  cases hsh:z4x s m with
  | false=>
    rw[if_pos hsh] at hT
    rw[hsh] at p1019
    simp only[go_sem,j4h,hB,z0x,eTf,z5l,z0a p50,decide_true,Bool.not_true,z0a p1019,Bool.not_false,z0n,z0m,z0g]
    rw[z0h rfl (by simp[z1k,AV.cv,cvL,AV.ids,idsL])]
    exact hT _
  | true=>
    rw[if_neg (by rw[hsh];simp),←v9s hs hsh] at hT
    rw[hsh] at p1019
    have hR:(z2i s x).1.preds=z2k x s.preds:=by rw[h0 he];rfl
    rw[←hR] at hT
    simp only[go_sem,j4h,hB,z0x,eTf,z5l,z0a p50,decide_true,Bool.not_true,z0a p1019,z0a p1028,z0n,z0m,z0g]
    rw[z0h rfl (by simp[z1k,AV.cv,cvL,AV.ids,idsL,z0c z3m])]
    exact hT _
 ·rw[if_pos he] at hT
  simp only[go_sem,j4h,hB,z0x,eTf,z5l,z0a p50,decide_eq_false he,Bool.not_false,z0n,z0m,z0g]
  rw[z0h rfl (by simp[z1k,AV.cv,cvL,AV.ids,idsL])]
  exact hT _
theorem k8v {k f:Nat} {args args':List AV} {h:List AObj} {clk:Nat} {af:AFun} (hext:Gam.ext f=none) (hfn:Gam.fn f=some af) (hb:af.byref=[]) (ho:z4k args=[]) (ho':z4k args'=[]) (hc:cvL args=cvL args'):z5b Gam k f args h clk=z5b Gam k f args' h clk:=by
 unfold z5b z0k
 simp only[hext,hfn,hb,z1j ho,z1j ho',z4n ho,z4n ho',hc]
theorem GenOk.cv {l:List Int} {f:Nat} {args args':List AV} {R:AV→Prop} {af:AFun} (hext:Gam.ext f=none) (hfn:Gam.fn f=some af) (hb:af.byref=[]) (ho:z4k args=[]) (ho':z4k args'=[]) (hc:cvL args=cvL args') (hg:GenOk l f args R):GenOk l f args' R:=by
 intro h s g i clk Q hs hi hQ
 have o1:z4k (.ptr s g 0 0::args)=[]:=by simp[z4k,AV.obs,ho]
 have o2:z4k (.ptr s g 0 0::args')=[]:=by simp[z4k,AV.obs,ho']
 have o3:cvL (.ptr s g 0 0::args)=cvL (.ptr s g 0 0::args'):=by simp[cvL,hc]
 obtain⟨h1,h2⟩:=hg h s g i clk Q hs hi hQ
 refine⟨?_, ?_⟩
 ·obtain⟨k,v,h',c,h3,h4⟩:=h1
  exact⟨k,v,h',c,(k8v hext hfn hb o1 o2 o3) ▸ h3,h4⟩
 ·rw[←h2]
  unfold z0v
  simp only[hext,hfn,hb,z1j o1,z1j o2,o1,o2,o3]
theorem k8w {l:List Int} {V:List Var} {u:Tip} (hl:q7q l) (hV:V.length≤400):GenOk l 53 [.int .i64 2, .sl (V.map z1b) u] (q9i V 1 6 396):=by
 have h:=(q1y hl hV (v1d hl) 2 (by omega)).2
 refine GenOk.cv (args:=[nat 2, .sl (V.map z1b) .no]) rfl v5n rfl (by simp[z4k,AV.obs,nat]) (by simp[z4k,AV.obs]) (by simp[cvL,AV.cv,nat]) h
theorem k8x:Pure Gam 52 [.int .i64 0] (.str []):=by
 refine Pure.of rfl y0s rfl rfl rfl (az:=[.int .i64 0]) rfl (by simp[idsL,AV.ids]) fun D B clk T hB hT=> ?_
 simp only[go_sem,v1q,hB,decide_true]
 rw[z2x rfl (by simp[AV.cv,AV.ids])]
 exact hT _
def x5l:List (List Nat):=[[117],[118],[121,48],[121,49],[107],[109],[110],[111],[114],[115],[116],[104]]
theorem u6d {h:List AObj}:bsV h (.str []) 12 [0,1,2,3,4,5,6,7,8,9,10,11] [.str [117], .str [118], .str [121,48], .str [121,49], .str [107], .str [109], .str [110], .str [111], .str [114], .str [115], .str [116], .str [104]]=some (.sl (z1t x5l) .full,h):=(rfl)
theorem k8y {n:Nat} (hn:n < 3) {h:List AObj} {k:IntKind}:z1m h 1 (.sl (z1t x5l) .full) (.int k (n:Int))=some (.iptr [.str (q1m[n]'hn)] 0,h):=by
 rw[q5k (l:=x5l) (by simp[x5l];omega)]
 have:n=0∨n=1∨n=2:=by omega
 rcases this with rfl | rfl | rfl <;> rfl
theorem z9s {f:Func} (hf:f∈allPreds):(z4d f).length=f.args.length∧f.args.length≤3:=by
 have h1:=congrArg List.length (q3f _ hf).2.2.2
 have h2:=(q3f _ hf).2.2.1
 rw[List.length_map] at h1
 omega
theorem x5m {f:Func} (hf:f∈allPreds) {k:Nat} (hk:k < f.args.length) (h3:k < 3):((z4d f).take k).map z1b++[(⟨q1m[k]'h3,f.args[k]⟩:Var)].map z1b=((z4d f).take (k + 1)).map z1b:=by
 have hl:=z9s hf
 rw[List.take_succ_eq_append_getElem (by omega),List.map_append]
 congr 2
 simp[z4d]
 rfl
theorem v9u {s:Sys} {f:Func} {B clk g0 g1 g2 g3 ip g jp i:Nat} {D:List AObj} {a1 a2:AV} {o4 o5 o6 o7 o8 oc:AObj} {ts:Tmps} {ks:List Kf} {Q:Post} (hB:D.length=B) (hf:f∈allPreds) (hi:i < s.preds.length) (hfi:s.preds[i]=f) (h2:ts 2= .ptr (B + 0) g0 0 0) (h4:ts 4= .ptr (B + 1) g1 0 0) (h5:ts 5= .ptr ip g jp 0) (h6:ts 6= .ptr (B + 2) g2 0 0) (h7:ts 7= .int .i64 (i:Int)) (h8:ts 8= .ptr (B + 3) g3 0 0) (h9:ts 9= .int .i64 0) (ht6:z8k B 6 o6 .nil 2)
  (hQ:∀ (ts':Tmps) (t:Tip) (o4 o5 o6:AObj) (clk':Nat),ts' 2= .ptr (B + 0) g0 0 0→ts' 4= .ptr (B + 1) g1 0 0→ts' 5= .ptr ip g jp 0→ts' 6= .ptr (B + 2) g2 0 0→ts' 7= .int .i64 (i:Int)→ts' 8= .ptr (B + 3) g3 0 0→K Gam B (.exit 2) ks ⟨ts',D++[.blk g0 [z0x s] false false 0, .blk g1 [a1] false false 0, .blk g2 [a2] false false 0, .blk g3 [.agg [.str f.name, .sl ((z4d f).map z1b) t, .sl [] .nil]] false false 0,o4,o5,o6,o7,o8,oc],clk'⟩ Q):
  K Gam B (.loop x5g) ks ⟨ts,D++[.blk g0 [z0x s] false false 0, .blk g1 [a1] false false 0, .blk g2 [a2] false false 0, .blk g3 [.agg [.str f.name, .sl [] .nil, .sl [] .nil]] false false 0,o4,o5,o6,o7,o8,oc],clk⟩ Q:=by
 have hl:=z9s hf
 have hix:=fun h=>z6g (l:=s.preds) (i:=i) (h:=h) (t:= .no) (k:= .i64) hi
 rw[hfi] at hix
 refine z6z f.args.length (by omega) (fun k q=>∃ (t:Tip) (o4 o5 o6:AObj),q.ts 2= .ptr (B + 0) g0 0 0∧q.ts 4= .ptr (B + 1) g1 0 0∧q.ts 5= .ptr ip g jp 0∧q.ts 6= .ptr (B + 2) g2 0 0∧q.ts 7= .int .i64 (i:Int)∧q.ts 8= .ptr (B + 3) g3 0 0∧q.ts 9= .int .i64 (k:Int)∧q.h=D++[.blk g0 [z0x s] false false 0, .blk g1 [a1] false false 0, .blk g2 [a2] false false 0, .blk g3 [.agg [.str f.name, .sl (((z4d f).take k).map z1b) t, .sl [] .nil]] false false 0,o4,o5,o6,o7,o8,oc]∧z8k B 6 o6 t 2) ⟨.nil,_,_,_,h2,h4,h5,h6,h7,h8,h9,rfl,ht6⟩ ?_ ?_
 ·clear h2 h4 h5 h6 h7 h8 h9
  rintro k hlt f1 f2 ts h clk P ⟨t,o4,o5,o6,q2,q4,q5,q6,q7,q8,q9,rfl,ht⟩ hnx he hr
  dsimp only at q2 q4 q5 q6 q7 q8 q9
  have h3:k < 3:=by omega
  have e8:=x5m hf hlt h3
  have hn:=fun h=>k8y (k:= .i64) (h:=h) h3
  have hrem:∀ h,z7d h .rem (.one .int) (.int .i64 (k:Int)) (.int .i64 12)=some (.int .i64 (k:Int),h):=fun h=>by
   rw[q6y (by decide),Int.tmod_eq_of_lt (by omega) (by omega)]
  have hquo:∀ h,z7d h .quo (.one .int) (.int .i64 (k:Int)) (.int .i64 12)=some (.int .i64 0,h):=fun h=>by
   rw[x2i (by decide),Int.tdiv_eq_zero_of_lt (by omega) (by omega)]
   rfl
  have hai:∀ h,z1m h 1 (.sl (f.args.map nat) .no) (.int .i64 (k:Int))=some (.iptr [.int .i64 (f.args[k]:Int)] 0,h):=fun h=>z2f hlt rfl rfl
  have ha:∀ h,z7d h .add (.one .str) (.str (q1m[k]'h3)) (.str [])=some (.str (q1m[k]'h3),h):=fun h=>by
   rw[q3d (by
    have:k=0∨k=1∨k=2:=by omega
    rcases this with rfl | rfl | rfl <;> simp[q1m]),List.append_nil]
  generalize f.args[k]=so at *
  generalize q1m[k]=nm at *
  simp only[go_sem,x5g,z0x,q2,q4,q5,q6,q7,q8,q9,hB,f1,z1i,List.length_map,hix,u6d,hrem,hquo,hn,hai,z0a k8x,ha]
  rw[show [AV.agg [.str nm, .int .i64 (so:Int)]]=[(⟨nm,so⟩:Var)].map z1b from rfl,z0j hB rfl ht z2e z2e (by simp only[List.length_map,List.length_singleton,List.length_take];omega),e8]
  simp only[go_sem,q2,q4,q5,q6,q7,q8,q9,hB,f2]
  refine⟨by simp[z1f,apart,z0i,z1d,z1h,AOp.isCall,hB,AV.ids,idsL,z2d,z0c z2j,z0c (fun _=>z3c)], ?_⟩
  exact hnx _ ⟨_,_,_,_,q2,q4,q5,q6,q7,q8,rfl,rfl, .inr (.inr ⟨_,rfl,rfl⟩)⟩
 ·clear h2 h4 h5 h6 h7 h8 h9
  rintro f1 ts h clk P ⟨t,o4,o5,o6,q2,q4,q5,q6,q7,q8,q9,rfl,ht⟩ he hr
  dsimp only at q2 q4 q5 q6 q7 q8 q9
  rw[List.take_of_length_le (Nat.le_of_eq hl.1)]
  simp only[go_sem,x5g,z0x,q2,q4,q5,q6,q7,q8,q9,hB,f1,z1i,List.length_map,hix]
  exact he _ _ (hQ _ t _ _ _ _ (by simp[z0b,q2]) (by simp[z0b,q4]) (by simp[z0b,q5]) (by simp[z0b,q6]) (by simp[z0b,q7]) (by simp[z0b,q8]))
structure ModOk (s:Sys) (m:List Def):Prop where
 defs:∀ d∈m,DOk d
 names:m.map (·.pred)=s.preds.map (·.name)
theorem k8z {V:List Var} {b:Bool}:GT V 1 6 396 (x0r b):=by
 have h1:GT V 1 1 1 (x0r b):=by
  cases b
  ·exact GT.leaf (.bool (.inr rfl)) rfl (by omega) (by omega)
  ·exact GT.leaf (.bool (.inl rfl)) rfl (by omega) (by omega)
 exact h1.up (by omega) (by omega)
theorem j4q {n:List Nat} {p:List Var} {b:Term}:[AV.agg [.str n, .sl (p.map z1b) .no, .sl (b.map eNode) .no]]=[(⟨n,p,b⟩:Def)].map z4j:=rfl
theorem x0v {α:Type} {P:α→Prop} {l:List α} {a:α} (h:∀ x∈l,P x) (ha:P a):∀ x∈l++[a],P x:=fun x hx=>by
 rw[List.mem_append,List.mem_singleton] at hx
 rcases hx with hx | rfl
 ·exact h x hx
 ·exact ha
theorem y1k {s:Sys} {zs:List Int} {u:Tip} {h:List AObj} {clk:Nat} {Q:AV→List AObj→Nat→Prop} (hs:SysV s) (hz:∀ z∈zs, -9223372036854775808≤z∧z≤9223372036854775807) (hQ:∀ m,ModOk s m→Q (z5l m) h clk):WC Gam 18 [z0x s, .sl (z9y zs) u] h clk Q:=by
 have hl:q7q (zs.take 400):=⟨by simp;omega,fun z h=>hz z (List.mem_of_mem_take h)⟩
 have hpl:=hs.pl
 refine q5x rfl v1o rfl rfl rfl (az:=[z0x s, .sl (z9y zs) .no]) rfl (by simp[idsL,z2c,AV.ids,z8d]) fun D B T hB hT=> ?_
 simp only[go_sem,v1n,hB,z0x]
 refine k1b fun g c=> ?_
 have e0:∀ x0 x1 x2 x3 x4 x5 x6 x7 x8:AObj,(D++[x0,x1,x2,x3,x4,x5,x6,x7,x8]).length=B + 9:=fun _ _ _ _ _ _ _ _ _=>by simp[hB]
 have e1:∀ x0 x1 x2 x3 x4 x5 x6 x7 x8 o:AObj,(D++[x0,x1,x2,x3,x4,x5,x6,x7,x8])++[o]=D++[x0,x1,x2,x3,x4,x5,x6,x7,x8,o]:=fun _ _ _ _ _ _ _ _ _ _=>by simp
 rw[e0,e1]
 clear e0 e1
 generalize zs.take 400=l at hl
 simp only[go_sem,hB]
 refine z6z s.preds.length (by omega) (fun i q=>∃ (g0 g1 g2:Nat) (acc:List Def) (t:Tip) (o3 o4 o5 o6 o7 o8:AObj) (j:Nat),(∀ d∈acc,DOk d)∧acc.map (·.pred)=(s.preds.take i).map (·.name)∧j≤l.length∧q.ts 2= .ptr (B + 0) g0 0 0∧q.ts 4= .ptr (B + 1) g1 0 0∧q.ts 5= .ptr (B + 9) g 0 0∧q.ts 6= .ptr (B + 2) g2 0 0∧q.ts 7= .int .i64 (i:Int)∧q.h=D++[.blk g0 [z0x s] false false 0, .blk g1 [.agg [.sl [] .nil]] false false 0, .blk g2 [.agg [.sl (acc.map z4j) t]] false false 0,o3,o4,o5,o6,o7,o8,z5c g l j]∧z8k B 8 o8 t 3) ⟨_,_,_,[], .nil,_,_,_,_,_,_,0,by simp,by simp,Nat.zero_le _,rfl,rfl,rfl,rfl,rfl,rfl, .inl rfl⟩ ?_ ?_
 ·rintro i hlt f1 f2 ts h clk P ⟨g0,g1,g2,acc,t,o3,o4,o5,o6,o7,o8,j,hacc,hnm,hj,q2,q4,q5,q6,q7,rfl,ht⟩ hnx he hr
  dsimp only at q2 q4 q5 q6 q7
  have hix:=fun h=>z6g (l:=s.preds) (i:=i) (h:=h) (t:= .no) (k:= .i64) hlt
  have hf:=hs.preds.mem (List.getElem_mem hlt)
  have hal:acc.length≤5:=by
   have:=congrArg List.length hnm
   simp only[List.length_map,List.length_take] at this
   omega
  have hnm1:∀ d:Def,d.pred=s.preds[i].name→(acc++[d]).map (·.pred)=(s.preds.take (i + 1)).map (·.name):=fun d hd=>by
   rw[List.take_succ_eq_append_getElem hlt,List.map_append,List.map_append,hnm,List.map_singleton,List.map_singleton,hd]
  have hpl:=z9s hf
  generalize hfi:s.preds[i]=f at *
  simp only[go_sem,j1d,z0x,q2,q4,q5,q6,q7,hB,f1,List.length_map,hix]
  refine v9u (s:=s) (f:=f) (ip:=B + 9) (g:=g) (jp:=0) hB hf hlt hfi (by simp[z0b,q2]) (by simp[z0b,q4]) (by simp[z0b,q5]) (by simp[z0b,q6]) (by simp[z0b,q7]) (by simp[z0b]) (by simp[z0b]) (.inl rfl) fun ts' u o4 o5 o6 clk' r2 r4 r5 r6 r7 r8=> ?_
  have hG:=k8w (l:=l) (V:=z4d f) (u:=u) hl (by omega)
  simp only[go_sem,z0x,r2,r4,r5,r6,r7,r8,hB]
  refine z1r (k:=9) hG hB rfl hj ?_
  rintro v j2 ⟨b,rfl,hb⟩ hj2
  simp only[go_sem,z0l,r2,r4,r5,r6,r7,r8,hB]
  refine z1r (k:=9) (z3h hl (by decide) (by decide)) hB rfl hj2 ?_
  rintro v j3 ⟨r,rfl,hr1,hr2⟩ hj3
  simp only[go_sem,r2,r4,r5,r6,r7,r8,hB]
  have fin:∀ (b:Term),GT (z4d f) 1 6 396 b→DOk ⟨f.name,z4d f,b⟩:=fun b hb=>⟨f,hf,rfl,rfl,hb⟩
  refine z8c (fun hc=> ?_) (fun hc=> ?_)
  ·simp only[go_sem,r2,r4,r5,r6,r7,r8,hB]
   refine z1r (k:=9) (z3h hl (by decide) (by decide)) hB rfl hj3 ?_
   rintro v j4 ⟨q,rfl,hq1,hq2⟩ hj4
   have p141:Pure Gam 54 [.bool (decide (0 < q))] (.sl ((x0r (decide (0 < q))).map eNode) .no):=q9h
   have hd:=fin _ (k8z (b:=decide (0 < q)))
   generalize x0r (decide (0 < q))=bt at *
   simp only[go_sem,r2,r4,r5,r6,r7,r8,hB,z0a p141]
   rw[j4q (n:=f.name) (p:=z4d f) (b:=bt),z0j hB rfl ht z1v z1v (by simp only[List.length_map,List.length_singleton];omega),←List.map_append]
   simp only[go_sem,r2,r4,r5,r6,r7,r8,hB,f2]
   exact hnx _ ⟨_,_,_,_,_,_,_,_,_,_,_,j4,x0v hacc hd,hnm1 _ rfl,hj4,r2,r4,r5,r6,rfl,rfl, .inr (.inr ⟨_,rfl,rfl⟩)⟩
  ·simp only[go_sem,r2,r4,r5,r6,r7,r8,hB]
   have hd:=fin _ hb
   rw[j4q (n:=f.name) (p:=z4d f) (b:=b),z0j hB rfl ht z1v z1v (by simp only[List.length_map,List.length_singleton];omega),←List.map_append]
   simp only[go_sem,r2,r4,r5,r6,r7,r8,hB,f2]
   exact hnx _ ⟨_,_,_,_,_,_,_,_,_,_,_,j3,x0v hacc hd,hnm1 _ rfl,hj3,r2,r4,r5,r6,rfl,rfl, .inr (.inr ⟨_,rfl,rfl⟩)⟩
 ·rintro f1 ts h clk P ⟨g0,g1,g2,acc,t,o3,o4,o5,o6,o7,o8,j,hacc,hnm,hj,q2,q4,q5,q6,q7,rfl,ht⟩ he hr
  dsimp only at q2 q4 q5 q6 q7
  rw[List.take_length] at hnm
  simp only[go_sem,j1d,z0x,q2,q4,q5,q6,q7,hB,f1,List.length_map]
  refine he _ _ ?_
  simp only[go_sem,q2,q4,q6,hB,z0n,z0m,z0g]
  rw[z2x rfl (by simp[AV.cv,cvL,AV.ids,idsL,z0c z3m])]
  exact hT _ _ (hQ acc ⟨hacc,hnm⟩)
theorem j4r {s:Sys} {x:Tf} {m:List Def} (hs:SysV s) (hm:∀ d∈m,DOk d):(q3g s x m).1.length≤1000∧∀ d∈(q3g s x m).1,DefS d:=by
 have hpl:=hs.pl
 unfold q3g
 split
 ·simp
 ·split
  ·simp
  ·refine⟨by simp only[List.length_map];omega,fun d hd=> ?_⟩
   obtain⟨f,hf,rfl⟩:=List.mem_map.1 hd
   exact k3h hm (z9s (hs.preds.mem hf)).2
theorem k3i {s:Sys} {x:Tf} {m:List Def} (hm:∀ d∈m,DOk d) (hml:m.length≤1000):(x1j s x m).1.length≤1000∧∀ d∈(x1j s x m).1,DefS d:=by
 unfold x1j
 split
 ·simp
 ·split
  ·simp
  ·exact⟨Nat.le_trans (List.length_filter_le _ _) hml,fun d hd=>(hm d (List.mem_filter.1 hd).1).ok.s⟩
theorem ModOk.len {s:Sys} {m:List Def} (hs:SysV s) (h:ModOk s m):m.length≤1000:=by
 have h1:=congrArg List.length h.names
 have h2:=hs.pl
 simp only[List.length_map] at h1
 omega
theorem j7g {zs ms ns:List Int} {odd:Bool} (hz:∀ z∈zs, -9223372036854775808≤z∧z≤9223372036854775807) (hm:∀ z∈ms, -9223372036854775808≤z∧z≤9223372036854775807) (hn:∀ z∈ns, -9223372036854775808≤z∧z≤9223372036854775807):WC Gam 5 [.sl (z9y zs) .no, .sl (z9y ms) .no, .sl (z9y ns) .no, .bool odd] [] 0 fun v _ _=>v= .bool true:=by
 refine q5x rfl y0m rfl rfl rfl (az:=[.sl (z9y zs) .no, .sl (z9y ms) .no, .sl (z9y ns) .no, .bool odd]) rfl (by simp[idsL,AV.ids,z8d]) fun D B R hB hR=> ?_
 simp only[go_sem,v1m,hB]
 refine z6f (u6b hz fun s hs=> ?_)
 have hv:=hs.v
 simp only[go_sem,hB,z0x]
 have h23:=fun odd u h clk Q=>u6a (s:=s) (zs:=ms) (u:=u) (odd:=odd) (h:=h) (clk:=clk) (Q:=Q) hv hm
 rw[z0x] at h23
 refine z6f (h23 _ _ _ _ _ fun x hx _=> ?_)
 have p2:=y0l hv hx
 have hr:=q7t (x:=x) hv
 rw[z0x,eTf,z0x] at p2
 simp only[go_sem,hB,eTf,z0a p2,z1i]
 have hf:∀ (s:Sys) (h:List AObj) (u:Tip),z0v Gam 18 [z0x s, .sl (z9y ns) u] h=[]:=fun s h u=>q1e v1o rfl rfl rfl (by simp[cvL,AV.cv,idsL,z2c,AV.ids,z8d,v0y])
 have hg:=fun {s} (hs:SysV s) u h clk Q=>y1k (s:=s) (zs:=ns) (u:=u) (h:=h) (clk:=clk) (Q:=Q) hs hn
 simp only[z0x] at hf hg
 refine x0g (hf s _ _) (hg hv _ _ _ _ fun m1 hm1=> ?_)
 simp only[go_sem,hB]
 refine x0g (hf (z2i s x).1 _ _) (hg hr _ _ _ _ fun m2 hm2=> ?_)
 have hbs:∀ h,bsV h (.agg [.sl [] .nil]) 3 [0,1,2] [z5l m1,z5l m2, .agg [.sl [] .nil]]=some (.sl ([m1,m2,[]].map z5l) .full,h):=fun h=>u1c rfl rfl rfl rfl rfl rfl rfl rfl rfl rfl
 have hall:∀ m∈[m1,m2,[]],(∀ d∈m,DOk d)∧m.length≤1000:=by
  intro m hm
  simp only[List.mem_cons,List.not_mem_nil,or_false] at hm
  rcases hm with rfl | rfl | rfl
  ·exact⟨hm1.defs,hm1.len hv⟩
  ·exact⟨hm2.defs,hm2.len hr⟩
  ·simp
 have hlen:[m1,m2,[]].length=3:=rfl
 generalize [m1,m2,[]]=all at *
 simp only[go_sem,hB,hbs]
 refine⟨by simp[z1f,apart,z0i,z1d,z1h,AOp.isCall,hB], ?_⟩
 refine z6z 3 (by omega) (fun i q=>∃ (g0 g1:Nat) (o2 o3 o4 o5 o6 o7:AObj),q.ts 9= .ptr (B + 0) g0 0 0∧q.ts 10= .ptr (B + 1) g1 0 0∧q.ts 13= .sl (all.map z5l) .full∧q.ts 14= .int .i64 (i:Int)∧q.h=D++[.blk g0 [z0x s] false false 0, .blk g1 [eTf x] false false 0,o2,o3,o4,o5,o6,o7]) ⟨_,_,_,_,_,_,_,_,rfl,rfl,rfl,rfl,rfl⟩ ?_ ?_
 ·rintro i hlt f1 f2 ts h clk P ⟨g0,g1,o2,o3,o4,o5,o6,o7,q9,q10,q13,q14,rfl⟩ hnx he hr
  dsimp only at q9 q10 q13 q14
  have hi:i < all.length:=by omega
  have hix:∀ h,z1m h 1 (.sl (all.map z5l) .full) (.int .i64 (i:Int))=some (.iptr [.sl (all[i].map z4j) .no] 0,h):=fun h=>z2f hi rfl rfl
  obtain⟨hd,hml⟩:=hall _ (List.getElem_mem hi)
  have p1:=k8q hv hx hd hml
  have p2:=k8s hv hx hd hml
  have p3:=k8r hv hx hd hml
  have p4:=k8u hv hx hd hml
  have p5:=j4k (j4r (x:=x) hv hd).1 (j4r (x:=x) hv hd).2
  have p6:=j4k (k3i (s:=s) (x:=x) hd hml).1 (k3i (s:=s) (x:=x) hd hml).2
  generalize q3g s x all[i]=r1 at *
  generalize x1j s x all[i]=r2 at *
  generalize all[i]=m at *
  simp only[z0x,eTf,z5l] at p1 p2 p3 p4 p5 p6
  have f3:decide ((i:Int) < 3)=true:=decide_eq_true (by omega)
  simp only[go_sem,j1c,z0x,eTf,q9,q10,q13,q14,hB,f1,f3,z1i,List.length_map,hlen,hix,z0a p1]
  refine⟨by simp[z1f,apart,z0i,z1d,z1h,AOp.isCall,hB,AV.ids,idsL,z0c z7a,z0c z3m], ?_⟩
  simp only[go_sem,q9,q10,q13,q14,hB,z1i,hix,z0a p2]
  refine⟨by simp[z1f,apart,z0i,z1d,z1h,AOp.isCall,hB,AV.ids,idsL,z0c z7a,z0c z3m], ?_⟩
  simp only[go_sem,q9,q10,q13,q14,hB,z1i,hix,z0a p3]
  refine⟨by simp[z1f,apart,z0i,z1d,z1h,AOp.isCall,hB,AV.ids,idsL,z0c z7a,z0c z3m], ?_⟩
  simp only[go_sem,q9,q10,q13,q14,hB,z1i,hix,z0a p4]
  refine⟨by simp[z1f,apart,z0i,z1d,z1h,AOp.isCall,hB,AV.ids,idsL,z0c z7a,z0c z3m], ?_⟩
  simp only[go_sem,q9,q10,q13,q14,hB,f2,z0a p5,z0a p6,decide_true,Bool.not_true]
  exact hnx _ ⟨_,_,_,_,_,_,_,_,q9,q10,q13,rfl,rfl⟩
 ·rintro f1 ts h clk P ⟨g0,g1,o2,o3,o4,o5,o6,o7,q9,q10,q13,q14,rfl⟩ he hr
  dsimp only at q9 q10 q13 q14
  simp only[go_sem,j1c,q9,q10,q13,q14,hB,f1,List.length_map,hlen,Int.reduceLT,decide_false]
  refine he _ _ ?_
  simp only[go_sem,hB,z0a v9m]
  rw[z0e]
  exact hR _ _ rfl
end Go.Proofs.YtahdahokpjigiaaGreatDoor.Am
