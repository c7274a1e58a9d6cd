/- Walking: the clauses that remain Walking: copies with memory of their own Walking: the transformation is z3x A sliced system needs no slicing Walking: the reference's small tests of terms Walking: -/
import Derived.Test.YtkollgjffkdliaaGreatDoorM31
set_option linter.all false
namespace Go.Proofs.YtkollgjffkdliaaGreatDoor.Am
open Go
set_option maxRecDepth 100000
def z7y (un und:List (List Nat)) (c:Clause):Option Bool:=
 if c.head.pred∈und∧(c.body.any fun a=>decide (a.pred∈und))=false then none
 else if c.head.pred∈un++und∨(c.body.any fun a=>decide (a.pred∈und))=true then some false
 else if (c.body.any fun a=>decide (a.pred∈un))=true then none else some true
def z7k (un und:List (List Nat)):List Clause→Nat→List Nat→Option (List Nat)
 | [],_,out=>some out
 | c::cs,i,out=>match z7y un und c with
   | none=>none
   | some true=>z7k un und cs (i + 1) (out++[i])
   | some false=>z7k un und cs (i + 1) out
theorem j7b {cs:List Clause} {x:Tf} {B clk gx gR:Nat} {D:List AObj} {a0 a2 o3 o4 o5 o6 s0:AObj} {ts:Tmps} {ks:List Kf} {Q:Post} (hB:D.length=B) (hcl:cs.length≤2 ^ 18) (hbl:∀ c∈cs,c.body.length≤2 ^ 18) (hx:TfOk x) (h7:ts 7= .mp (B + 8) gR) (h9:ts 9= .fn 87 [.ptr (B + 1) gx 0 0]) (h10:ts 10= .fn 88 [.ptr (B + 1) gx 0 0]) (h11:ts 11= .sl [] .nil) (h38:ts 38= .sl (cs.map z0h) .no) (h39:ts 39= .int .i64 (cs.length:Int)) (h40:ts 40= .int .i64 0)
  (hok:∀ out,z7k x.un x.und cs 0 []=some out→∀ (ts':Tmps) (t:Tip) (L:List AObj) (clk':Nat),ts' 11= .sl (out.map nat) t→K Gam B (.exit 0) ks ⟨ts',D++L,clk'⟩ Q)
  (hbad:z7k x.un x.und cs 0 []=none→∀ (ts':Tmps) (L:List AObj) (clk':Nat),ts' 4= .sl [] .nil→ts' 5= .int .i64 8→K Gam B .ret ks ⟨ts',D++L,clk'⟩ Q):
  K Gam B (.loop x1m) ks ⟨ts,D++[a0, .blk gx [eTf x] false false 0,a2,o3,o4,o5,o6,s0, .map gR (z3i (x.un++x.und))],clk⟩ Q:=by
 refine z1f (fun m q=>∃ (i:Nat) (out:List Nat) (t:Tip) (o3 o4 o5 o6:AObj),i≤cs.length∧m=cs.length - i∧out.length≤i∧z7k x.un x.und (cs.drop i) i out=z7k x.un x.und cs 0 []∧q.ts 7= .mp (B + 8) gR∧q.ts 9= .fn 87 [.ptr (B + 1) gx 0 0]∧q.ts 10= .fn 88 [.ptr (B + 1) gx 0 0]∧q.ts 11= .sl (out.map nat) t∧q.ts 38= .sl (cs.map z0h) .no∧q.ts 39= .int .i64 (cs.length:Int)∧q.ts 40= .int .i64 (i:Int)∧q.h=D++[a0, .blk gx [eTf x] false false 0,a2,o3,o4,o5,o6,s0, .map gR (z3i (x.un++x.und))]∧z9p B 6 o6 t 1) cs.length ⟨0,[], .nil,o3,o4,o5,o6,by omega,rfl,by simp,by simp,h7,h9,h10,h11,h38,h39,h40,rfl, .inl rfl⟩ ?_
 clear h7 h9 h10 h11 h38 h39 h40
 rintro m ⟨ts,h,clk⟩ P ⟨i,out,t,o3,o4,o5,o6,hi,rfl,hout,hk,q7,q9,q10,q11,q38,q39,q40,rfl,ht⟩ hnx he hr
 dsimp only at q7 q9 q10 q11 q38 q39 q40
 by_cases hlt:i < cs.length
 ·have f1:decide ((i:Int) < (cs.length:Int))=true:=by rw[decide_eq_true_iff];omega
  have f2:IntKind.i64.wrap ((i:Int) + 1)=((i + 1:Nat):Int):=z0c (by omega) (by omega)
  have hmem:=List.getElem_mem hlt
  have hdr:cs.drop i=cs[i]::cs.drop (i + 1):=List.drop_eq_getElem_cons hlt
  have hix:=fun h=>q3w (l:=cs) (i:=i) (h:=h) (t:= .no) (k:= .i64) hlt
  have hbody:=hbl _ hmem
  generalize cs[i]=c at hmem hdr hix hbody
  rw[hdr,z7k] at hk
  have oids:(AObj.blk gx [eTf x] false false 0).ids=[]:=by simp[AObj.ids,idsL,q1e hx]
  have hh:∀ a0 a2 o3 o4 o5 o6,Has [(B + 1, .blk gx [eTf x] false false 0)] (D++[a0, .blk gx [eTf x] false false 0,a2,o3,o4,o5,o6,s0, .map gR (z3i (x.un++x.und))]):=fun _ _ _ _ _ _=>x6t hB rfl
  have r1:=j3p (enc:=z3u) (xs:=c.body) (t:= .no) (P:=fun a=>decide (a.pred∈x.und)) (c:=87) (cap:=[.ptr (B + 1) gx 0 0]) (fun _=>rfl) (fun _ _=>rfl) z6d (by omega) (by simpa [idsL,AV.ids] using Cov.one (s:=B + 1) oids) fun a _=>k5n hx
  have r2:=j3p (enc:=z3u) (xs:=c.body) (t:= .no) (P:=fun a=>decide (a.pred∈x.un)) (c:=88) (cap:=[.ptr (B + 1) gx 0 0]) (fun _=>rfl) (fun _ _=>rfl) z6d (by omega) (by simpa [idsL,AV.ids] using Cov.one (s:=B + 1) oids) fun a _=>w4o hx
  have r3:=k5n (s:=B + 1) (g:=gx) (x:=x) (a:=c.head) hx
  rw[z3u] at r3
  cases hw:(c.body.any fun a=>decide (a.pred∈x.und)) with
  | true=>
    have hkc:z7y x.un x.und c=some false:=by
     unfold z7y
     rw[hw]
     simp
    rw[hkc] at hk
    rw[hw] at r1
    cases hu:decide (c.head.pred∈x.und) with
    | true=>
      rw[hu] at r3
      have hin:c.head.pred∈x.un++x.und:=by
       rw[decide_eq_true_iff] at hu
       exact List.mem_append_right _ hu
      simp only[go_sem,x1m,q7,q9,q10,q11,q38,q39,q40,hB,f1,hix,z0x r1 (hh _ _ _ _ _ _),z0x r3 (hh _ _ _ _ _ _),Bool.not_true,z3v,q3e,hin,z9j,f2]
      exact hnx (cs.length - (i + 1)) _ (by omega) ⟨i + 1,out,t,_,_,_,_,hlt,rfl,by omega,hk,q7,q9,q10,q11,q38,q39,rfl,rfl,ht⟩
    | false=>
      rw[hu] at r3
      by_cases hin:c.head.pred∈x.un++x.und
      ·simp only[go_sem,x1m,q7,q9,q10,q11,q38,q39,q40,hB,f1,hix,z0x r1 (hh _ _ _ _ _ _),z0x r3 (hh _ _ _ _ _ _),Bool.not_true,z3v,q3e,hin,z9j,f2]
       exact hnx (cs.length - (i + 1)) _ (by omega) ⟨i + 1,out,t,_,_,_,_,hlt,rfl,by omega,hk,q7,q9,q10,q11,q38,q39,rfl,rfl,ht⟩
      ·simp only[go_sem,x1m,q7,q9,q10,q11,q38,q39,q40,hB,f1,hix,z0x r1 (hh _ _ _ _ _ _),z0x r3 (hh _ _ _ _ _ _),Bool.not_true,z3v,q3e,hin,z5p,f2]
       exact hnx (cs.length - (i + 1)) _ (by omega) ⟨i + 1,out,t,_,_,_,_,hlt,rfl,by omega,hk,q7,q9,q10,q11,q38,q39,rfl,rfl,ht⟩
  | false=>
    rw[hw] at r1
    cases hu:decide (c.head.pred∈x.und) with
    | true=>
      have hkc:z7y x.un x.und c=none:=by
       unfold z7y
       rw[decide_eq_true_iff] at hu
       rw[if_pos ⟨hu,hw⟩]
      rw[hkc] at hk
      rw[hu] at r3
      simp only[go_sem,x1m,q7,q9,q10,q11,q38,q39,q40,hB,f1,hix,z0x r1 (hh _ _ _ _ _ _),z0x r3 (hh _ _ _ _ _ _),Bool.not_false]
      exact hr _ (hbad hk.symm _ _ _ (by simp[z0b]) (by simp[z0b]))
    | false=>
      rw[hu] at r3
      have hnu:¬ c.head.pred∈x.und:=by rwa [decide_eq_false_iff_not] at hu
      by_cases hin:c.head.pred∈x.un++x.und
      ·have hkc:z7y x.un x.und c=some false:=by
        unfold z7y
        rw[if_neg (fun h=>hnu h.1),if_pos (.inl hin)]
       rw[hkc] at hk
       simp only[go_sem,x1m,q7,q9,q10,q11,q38,q39,q40,hB,f1,hix,z0x r1 (hh _ _ _ _ _ _),z0x r3 (hh _ _ _ _ _ _),Bool.not_false,z3v,q3e,hin,z9j,f2]
       exact hnx (cs.length - (i + 1)) _ (by omega) ⟨i + 1,out,t,_,_,_,_,hlt,rfl,by omega,hk,q7,q9,q10,q11,q38,q39,rfl,rfl,ht⟩
      ·cases hn:(c.body.any fun a=>decide (a.pred∈x.un)) with
       | true=>
         have hkc:z7y x.un x.und c=none:=by
          unfold z7y
          rw[if_neg (fun h=>hnu h.1),if_neg (fun h=>h.elim hin (by rw[hw];simp)),if_pos hn]
         rw[hkc] at hk
         rw[hn] at r2
         simp only[go_sem,x1m,q7,q9,q10,q11,q38,q39,q40,hB,f1,hix,z0x r1 (hh _ _ _ _ _ _),z0x r3 (hh _ _ _ _ _ _),Bool.not_false,z3v,q3e,hin,z5p,z0x r2 (hh _ _ _ _ _ _)]
         exact hr _ (hbad hk.symm _ _ _ (by simp[z0b]) (by simp[z0b]))
       | false=>
         have hkc:z7y x.un x.und c=some true:=by
          unfold z7y
          rw[if_neg (fun h=>hnu h.1),if_neg (fun h=>h.elim hin (by rw[hw];simp)),if_neg (by rw[hn];simp)]
         rw[hkc] at hk
         rw[hn] at r2
         simp only[go_sem,x1m,q7,q9,q10,q11,q38,q39,q40,hB,f1,hix,z0x r1 (hh _ _ _ _ _ _),z0x r3 (hh _ _ _ _ _ _),Bool.not_false,z3v,q3e,hin,z5p,z0x r2 (hh _ _ _ _ _ _)]
         have e8:out.map nat++[i].map nat=(out++[i]).map nat:=by rw[List.map_append]
         rw[show [AV.int .i64 (i:Int)]=[i].map nat from rfl,z0s hB rfl ht z4l z4l (by simp only[List.length_map,List.length_singleton];omega),e8]
         simp only[go_sem,q7,q9,q10,q11,q38,q39,q40,f2]
         exact hnx (cs.length - (i + 1)) _ (by omega) ⟨i + 1,out++[i],_,_,_,_,_,hlt,rfl,by simp;omega,hk,q7,q9,q10,rfl,q38,q39,rfl,rfl, .inr (.inr ⟨_,rfl,rfl⟩)⟩
 ·have f1:decide ((i:Int) < (cs.length:Int))=false:=by rw[decide_eq_false_iff_not];omega
  have hdr:cs.drop i=[]:=List.drop_of_length_le (by omega)
  rw[hdr,z7k] at hk
  simp only[go_sem,x1m,q7,q9,q10,q11,q38,q39,q40,f1]
  refine he _ _ ?_
  exact hok out hk.symm _ t _ _ (by simp[z0b,q11])
theorem Pure.cv {f:Nat} {args asx':List AV} {v:AV} {af:AFun} (hp:Pure Gam f asx' v) (hext:Gam.ext f=none) (hfn:Gam.fn f=some af) (hb:af.byref=[]) (hobs:z4r args=[]) (hobs':z4r asx'=[]) (hcv:cvL args=cvL asx'):Pure Gam f args v:=by
 intro h clk
 obtain⟨⟨k,hk⟩,hf⟩:=hp h clk
 refine⟨⟨k, ?_⟩, ?_⟩
 ·unfold z5g z0o at hk⊢
  simp only[hext,hfn,hb,z1o hobs,z1o hobs',z4u hobs,z4u hobs',hcv] at hk⊢
  exact hk
 ·unfold z1a at hf⊢
  simp only[hext,hfn,hb,z1o hobs,z1o hobs',hobs,hobs',hcv] at hf⊢
  exact hf
theorem y7b {s:Sys} {x:Tf} {out:List Nat} (hs:SysV s) (hx:TfOk x) (hk:x.kind=2) (h1:x.pred=[]) (h2:x.into=[]) (h3:x.clause=0) (h4:x.atom=0) (h7:x.drops=[]) (hnd:(x.un++x.und).Nodup) (hin:∀ a∈x.un++x.und,a∈s.preds.map (·.name)) (hl:(x.un++x.und).length≤2 ^ 18) (hkept:z7k x.un x.und s.clauses 0 []=some out):Pure Gam 37 [z2a s,eTf x] (.tup [.sl (out.map nat) .no, .int .i64 0]):=by
 have hp:=y7a (r:={x with un:=[],und:=[]}) hs hx ⟨by simp,by simp,hx.drops⟩ hk h1 h2 h3 h4 rfl rfl h7
 have hpl:s.preds.length≤6:=hs.preds.length_le
 have hbl:∀ c∈s.clauses,c.body.length≤2 ^ 18:=fun c hc=>by have:=(hs.clauses c hc).2.1;omega
 have hcl:s.clauses.length≤2 ^ 18:=by have:=hs.len;omega
 rw[z2a,eTf,eTf] at hp
 have h89:=fun u h clk Q=>u9p (s:=s) (un:=x.un) (und:=x.und) (u:=u) (h:=h) (clk:=clk) (Q:=Q) (by omega) (by omega) hnd hin
 rw[z2a] at h89
 refine Pure.of rfl u8v rfl rfl rfl (az:=[z2a s,eTf x]) rfl (by simp[idsL,z2v,q1e hx]) fun D B clk T hB hT=> ?_
 have hs0:z1n []=[]:=rfl
 simp only[hs0] at hp
 have hp:=Pure.cv (args:=[.agg [.sl (s.preds.map z0y) .no, .sl (s.clauses.map z0h) .no], .agg [.int .i64 x.kind, .str x.pred, .str x.into, .int .i64 x.clause, .int .i64 x.atom, .sl (z1n x.un) .no, .sl (z1n x.und) .no, .sl x.drops .no], .int .i64 2, .agg [.int .i64 x.kind, .str x.pred, .str x.into, .int .i64 x.clause, .int .i64 x.atom, .sl [] .nil, .sl [] .nil, .sl x.drops .no]]) hp rfl y9f rfl rfl rfl rfl
 simp only[go_sem,y5y,hB,z2a,eTf,z9c,z0a hp,Bool.not_true]
 refine z5x (h89 _ _ _ _ fun gR s0 c2=> ?_)
 have hlen7:∀ a0 a1 a2 a3 a4 a5 a6:AObj,(D++[a0,a1,a2,a3,a4,a5,a6]).length=B + 7:=fun _ _ _ _ _ _ _=>by simp[hB]
 simp only[go_sem,hB,hlen7,List.append_assoc,Bool.not_true,List.length_map]
 refine j7b (x:=x) (cs:=s.clauses) (gx:=clk + 1) hB hcl hbl hx (by simp[z0b]) (by simp[z0b]) (by simp[z0b]) (by simp[z0b]) (by simp[z0b]) (by simp[z0b]) (by simp[z0b]) (fun out' ho ts' t L clk' r11=> ?_) (fun hbad=>by rw[hkept] at hbad;cases hbad)
 rw[hkept] at ho
 injection ho with ho
 subst ho
 simp only[go_sem,r11]
 rw[z0g rfl (by simp[z1l,AV.cv,cvL,AV.ids,idsL,q6d])]
 exact hT _
theorem x7c {esz b:Nat} {xs:List AV} {t:Tip} (h1:z0v esz xs=true) (h3:idsL xs=[]) (h2:xs.length * (b + 1)≤2 ^ 46):z5d esz b (cvL [.sl xs t])=some (.sl xs .no):=by
 simp only[cvL,AV.cv,z5d]
 rw[if_pos ⟨h1,by rw[h3];rfl,h2⟩]
theorem y7c {xs:List Nat} {t:Tip} (hl:xs.length≤2 ^ 20):Pure Gam 90 [.sl (xs.map nat) t] (.sl (xs.map nat) .no):=Pure.ext (sem:=z5d 1 8) rfl rfl (x7c z4l q6d (by rw[List.length_map];omega))
theorem v7i {xs:List Var} {t:Tip} (hl:xs.length≤2 ^ 20):Pure Gam 91 [.sl (xs.map z1h) t] (.sl (xs.map z1h) .no):=Pure.ext (sem:=z5d 2 24) rfl rfl (x7c z3e (z0d z2z) (by rw[List.length_map];omega))
theorem k5w {xs:Term} {t:Tip} (hl:xs.length≤2 ^ 20):Pure Gam 92 [.sl (xs.map eNode) t] (.sl (xs.map eNode) .no):=Pure.ext (sem:=z5d 5 56) rfl rfl (x7c q1r (z0d z2i) (by rw[List.length_map];omega))
theorem w4p {l:List Term} {u:Tip} (hl:l.length≤2 ^ 20) (hts:∀ t∈l,t.length≤2 ^ 20):Pure Gam 153 [.sl (l.map z0n) u] (.sl (l.map z0n) .no):=by
 refine Pure.of rfl u5e rfl rfl rfl (az:=[.sl (l.map z0n) .no]) rfl (by simp[idsL,AV.ids,z0d z3n]) fun D B clk T hB hT=> ?_
 simp only[go_sem,y6c,List.length_map]
 refine z1f (fun m q=>∃ (i:Nat) (t:Tip) (a o:AObj),i≤l.length∧m=l.length - i∧q.ts 3= .sl ((l.take i).map z0n) t∧q.ts 6= .sl (l.map z0n) .no∧q.ts 7= .int .i64 (l.length:Int)∧q.ts 8= .int .i64 (i:Int)∧q.h=D++[a,o]∧z9p B 1 o t 1) l.length ⟨0, .nil,_,_,by omega,rfl,rfl,rfl,rfl,rfl,rfl, .inl rfl⟩ ?_
 rintro m ⟨ts,h,clk⟩ P ⟨i,t,a,o,hi,rfl,q3,q6,q7,q8,rfl,ht⟩ hnx he hr
 dsimp only at q3 q6 q7 q8
 by_cases hlt:i < l.length
 ·have f1:decide ((i:Int) < (l.length:Int))=true:=by rw[decide_eq_true_iff];omega
  have f2:IntKind.i64.wrap ((i:Int) + 1)=((i + 1:Nat):Int):=z0c (by omega) (by omega)
  have hix:∀ h,z1p h 1 (.sl (l.map z0n) .no) (.int .i64 (i:Int))=some (.iptr [.sl (l[i].map eNode) .no] 0,h):=fun h=>q1s hlt
  have e8:(l.take i).map z0n++[l[i]].map z0n=(l.take (i + 1)).map z0n:=by rw[List.take_succ_eq_append_getElem hlt,List.map_append]
  have hpx:=hts _ (List.getElem_mem hlt)
  generalize l[i]=x at *
  simp only[go_sem,j6q,q3,q6,q7,q8,hB,f1,hix,z0a (k5w hpx)]
  rw[show [AV.sl (x.map eNode) .no]=[x].map z0n from rfl,z0s hB rfl ht z4v z4v (by simp only[List.length_map,List.length_singleton,List.length_take];omega),e8]
  simp only[go_sem,q3,q6,q7,q8,f2]
  exact hnx (l.length - (i + 1)) _ (by omega) ⟨i + 1,_,_,_,hlt,rfl,rfl,q6,q7,rfl,rfl, .inr (.inr ⟨_,rfl,rfl⟩)⟩
 ·have f1:decide ((i:Int) < (l.length:Int))=false:=by rw[decide_eq_false_iff_not];omega
  have hti:l.take i=l:=List.take_of_length_le (by omega)
  rw[hti] at q3
  simp only[go_sem,j6q,q3,q6,q7,q8,f1]
  refine he _ _ ?_
  simp only[go_sem,q3]
  rw[z2k rfl (by simp[AV.cv,AV.ids,z0d z3n])]
  exact hT _
theorem v7j {a:App} (hl:a.args.length≤2 ^ 20) (hts:∀ t∈a.args,t.length≤2 ^ 20):Pure Gam 93 [z3u a] (z3u a):=by
 have hp:=w4p (u:= .no) hl hts
 refine Pure.of rfl g2t rfl rfl rfl (az:=[z3u a]) rfl (by simp[idsL,z6d]) fun D B clk T hB hT=> ?_
 simp only[go_sem,u9g,hB,z3u,z1b,z0a hp,z0k,z0j,z0f]
 refine⟨by simp[z1e,apart,z0l,z0z,z1i,AOp.isCall,hB], ?_⟩
 rw[z2k rfl (by simp[AV.cv,cvL,AV.ids,idsL,z0d z3n])]
 exact hT _
theorem y7d {c:Clause} (hb:c.body.length≤2 ^ 20) (hba:∀ a∈c.body,a.args.length≤2 ^ 20∧∀ t∈a.args,t.length≤2 ^ 20) (hh:c.head.args.length≤2 ^ 20∧∀ t∈c.head.args,t.length≤2 ^ 20) (hv:c.vars.length≤2 ^ 20) (hg:c.guard.length≤2 ^ 20):Pure Gam 40 [z0h c] (z0h c):=by
 have hp:=v7j hh.1 hh.2
 rw[z3u] at hp
 refine Pure.of rfl g2s rfl rfl rfl (az:=[z0h c]) rfl (by simp[idsL,z4k]) fun D B clk T hB hT=> ?_
 simp only[go_sem,u9f,hB,z0h,z0n,z1b,z0a (v7i hv),z0a (k5w hg),z0a hp,List.length_map]
 refine⟨by simp[z1e,apart,z0l,z0z,z1i,AOp.isCall,hB,AV.ids,idsL,z0d z2z,z0d z2i,z0d z3n], ?_⟩
 refine z1f (fun m q=>∃ (i g1 g2:Nat) (t:Tip) (a o3 o4 o5:AObj),i≤c.body.length∧m=c.body.length - i∧q.ts 2= .ptr (B + 1) g1 0 0∧q.ts 3= .ptr (B + 2) g2 0 0∧q.ts 17= .sl (c.body.map z3u) .no∧q.ts 18= .int .i64 (c.body.length:Int)∧q.ts 19= .int .i64 (i:Int)∧q.h=D++[a, .blk g1 [.agg [.sl [] .nil, .sl [] .nil, .sl [] .nil, .str [], .sl [] .nil]] false false 0, .blk g2 [.agg [.sl (c.vars.map z1h) .no, .sl ((c.body.take i).map z3u) t, .sl (c.guard.map eNode) .no, .str c.head.pred, .sl (c.head.args.map z0n) .no]] false false 0,o3,o4,o5]∧z9p B 5 o5 t 2) c.body.length ⟨0,_,_, .nil,_,_,_,_,by omega,rfl,rfl,rfl,rfl,rfl,rfl,rfl, .inl rfl⟩ ?_
 rintro m ⟨ts,h,clk⟩ P ⟨i,g1,g2,t,a,o3,o4,o5,hi,rfl,q2,q3,q17,q18,q19,rfl,ht⟩ hnx he hr
 dsimp only at q2 q3 q17 q18 q19
 by_cases hlt:i < c.body.length
 ·have f1:decide ((i:Int) < (c.body.length:Int))=true:=by rw[decide_eq_true_iff];omega
  have f2:IntKind.i64.wrap ((i:Int) + 1)=((i + 1:Nat):Int):=z0c (by omega) (by omega)
  have hix:∀ h,z1p h 2 (.sl (c.body.map z3u) .no) (.int .i64 (i:Int))=some (.iptr [.str c.body[i].pred, .sl (c.body[i].args.map z0n) .no] 0,h):=fun h=>z2d hlt rfl rfl
  have e8:(c.body.take i).map z3u++[c.body[i]].map z3u=(c.body.take (i + 1)).map z3u:=by rw[List.take_succ_eq_append_getElem hlt,List.map_append]
  have hpa:=v7j (a:=c.body[i]) (hba _ (List.getElem_mem hlt)).1 (hba _ (List.getElem_mem hlt)).2
  rw[z3u] at hpa
  generalize c.body[i]=x at *
  simp only[go_sem,v1d,q2,q3,q17,q18,q19,hB,z1b,f1,hix,z0a hpa]
  rw[show [AV.agg [.str x.pred, .sl (x.args.map z0n) .no]]=[x].map z3u from rfl,z0s hB rfl ht q0t q0t (by simp only[List.length_map,List.length_singleton,List.length_take];omega),e8]
  simp only[go_sem,q2,q3,q17,q18,q19,hB,f2]
  refine⟨by simp[z1e,apart,z0l,z0z,z1i,AOp.isCall,hB,AV.ids,idsL,z0d z3n], ?_⟩
  exact hnx (c.body.length - (i + 1)) _ (by omega) ⟨i + 1,g1,g2,_,_,_,_,_,hlt,rfl,q2,q3,q17,q18,rfl,rfl, .inr (.inr ⟨_,rfl,rfl⟩)⟩
 ·have f1:decide ((i:Int) < (c.body.length:Int))=false:=by rw[decide_eq_false_iff_not];omega
  have hti:c.body.take i=c.body:=List.take_of_length_le (by omega)
  rw[hti]
  simp only[go_sem,v1d,q2,q3,q17,q18,q19,f1]
  refine he _ _ ?_
  simp only[go_sem,q2,q3,hB,z0k,z0j,z0f]
  rw[z2k rfl (by simp[AV.cv,cvL,AV.ids,idsL,z0d z2z,z0d z2i,z0d z3n,z0d z6d])]
  exact hT _
theorem y7e {ps:List Func} {u:Tip} (hl:ps.length≤1000) (hpa:∀ f∈ps,f.args.length≤2 ^ 20):Pure Gam 38 [.sl (ps.map z0y) u] (.sl (ps.map z0y) .no):=by
 refine Pure.of rfl g2r rfl rfl rfl (az:=[.sl (ps.map z0y) .no]) rfl (by simp[idsL,AV.ids,z0d z4i]) fun D B clk T hB hT=> ?_
 simp only[go_sem,u9e,List.length_map]
 refine z1f (fun m q=>∃ (i:Nat) (t:Tip) (a b o:AObj),i≤ps.length∧m=ps.length - i∧q.ts 3= .sl ((ps.take i).map z0y) t∧q.ts 6= .sl (ps.map z0y) .no∧q.ts 7= .int .i64 (ps.length:Int)∧q.ts 8= .int .i64 (i:Int)∧q.h=D++[a,b,o]∧z9p B 2 o t 3) ps.length ⟨0, .nil,_,_,_,by omega,rfl,rfl,rfl,rfl,rfl,rfl, .inl rfl⟩ ?_
 rintro m ⟨ts,h,clk⟩ P ⟨i,t,a,b,o,hi,rfl,q3,q6,q7,q8,rfl,ht⟩ hnx he hr
 dsimp only at q3 q6 q7 q8
 by_cases hlt:i < ps.length
 ·have f1:decide ((i:Int) < (ps.length:Int))=true:=by rw[decide_eq_true_iff];omega
  have f2:IntKind.i64.wrap ((i:Int) + 1)=((i + 1:Nat):Int):=z0c (by omega) (by omega)
  have hix:=fun h=>z8q (l:=ps) (i:=i) (h:=h) (t:= .no) (k:= .i64) hlt
  have e8:(ps.take i).map z0y++[ps[i]].map z0y=(ps.take (i + 1)).map z0y:=by rw[List.take_succ_eq_append_getElem hlt,List.map_append]
  have hpf:=hpa _ (List.getElem_mem hlt)
  generalize ps[i]=f at *
  simp only[go_sem,v1c,q3,q6,q7,q8,hB,f1,hix,z0a (y7c hpf)]
  rw[show [AV.agg [.str f.name, .sl (f.args.map nat) .no, .int .i64 (f.result:Int)]]=[f].map z0y from rfl,z0s hB rfl ht z9f z9f (by simp only[List.length_map,List.length_singleton,List.length_take];omega),e8]
  simp only[go_sem,q3,q6,q7,q8,f2]
  exact hnx (ps.length - (i + 1)) _ (by omega) ⟨i + 1,_,_,_,_,hlt,rfl,rfl,q6,q7,rfl,rfl, .inr (.inr ⟨_,rfl,rfl⟩)⟩
 ·have f1:decide ((i:Int) < (ps.length:Int))=false:=by rw[decide_eq_false_iff_not];omega
  have hti:ps.take i=ps:=List.take_of_length_le (by omega)
  rw[hti] at q3
  simp only[go_sem,v1c,q3,q6,q7,q8,f1]
  refine he _ _ ?_
  simp only[go_sem,q3]
  rw[z2k rfl (by simp[AV.cv,AV.ids,z0d z4i])]
  exact hT _
def z3p (x:Tf) (ps:List Func):List Func:=ps.filter fun f=> !(decide (f.name∈x.un) || decide (f.name∈x.und))
def z6a (x:Tf) (cs:List Clause):List Clause:=cs.filter fun c=>decide (z7y x.un x.und c=some true)
def z3x (x:Tf) (s:Sys):Sys:=⟨z3p x s.preds,z6a x s.clauses⟩
theorem q7i {un und:List (List Nat)}:∀ {cs pre kc:List Clause} {out res:List Nat},(out.map fun i=>(pre++cs)[i]?)=kc.map some→z7k un und cs pre.length out=some res→(res.map fun i=>(pre++cs)[i]?)=(kc++cs.filter fun c=>decide (z7y un und c=some true)).map some
 | [],pre,kc,out,res,h,hk=>by
   simp only[z7k] at hk
   injection hk with hk
   subst hk
   simpa using h
 | c::cs,pre,kc,out,res,h,hk=>by
   have e:pre++c::cs=(pre++[c])++cs:=by simp
   have hl:(pre++[c]).length=pre.length + 1:=by simp
   rw[z7k] at hk
   cases hc:z7y un und c with
   | none=>rw[hc] at hk;cases hk
   | some b=>
     rw[hc] at hk
     rw[e] at h⊢
     cases b with
     | true=>
       dsimp only at hk
       rw[←hl] at hk
       have:=q7i (kc:=kc++[c]) (by rw[List.map_append,List.map_append,h];congr 1;simp) hk
       rw[this]
       simp[List.filter_cons,hc]
     | false=>
       dsimp only at hk
       rw[←hl] at hk
       have:=q7i (kc:=kc) h hk
       rw[this]
       simp[List.filter_cons,hc]
theorem v2b {x:Tf} {cs:List Clause} {out:List Nat} (h:z7k x.un x.und cs 0 []=some out):(out.map fun i=>cs[i]?)=(z6a x cs).map some:=by
 have:=q7i (un:=x.un) (und:=x.und) (cs:=cs) (pre:=[]) (kc:=[]) (out:=[]) (res:=out) rfl h
 simpa [z6a] using this
structure SmallC (c:Clause):Prop where
 body:c.body.length≤2 ^ 20
 bargs:∀ a∈c.body,a.args.length≤2 ^ 20∧∀ t∈a.args,t.length≤2 ^ 20
 hargs:c.head.args.length≤2 ^ 20∧∀ t∈c.head.args,t.length≤2 ^ 20
 vars:c.vars.length≤2 ^ 20
 guard:c.guard.length≤2 ^ 20
theorem v2c {ps:List Func} {x:Tf} {B clk g0 gx gr g8:Nat} {D:List AObj} {v6 s0 rr:AV} {o4 o5 o6 o7 o8:AObj} {ts:Tmps} {ks:List Kf} {Q:Post} (hB:D.length=B) (hpl:ps.length≤1000) (hx:TfOk x) (h2:ts 2= .ptr (B + 0) g0 0 0) (h3:ts 3= .ptr (B + 1) gx 0 0) (h4:ts 4= .ptr (B + 2) gr 0 0) (h6:ts 6=v6) (h8:ts 8= .ptr (B + 3) g8 0 0) (h25:ts 25= .sl (ps.map z0y) .no) (h26:ts 26= .int .i64 (ps.length:Int)) (h27:ts 27= .int .i64 0)
  (hQ:∀ (ts':Tmps) (t:Tip) (o4 o5 o6 o7 o8:AObj) (clk':Nat),ts' 2= .ptr (B + 0) g0 0 0→ts' 3= .ptr (B + 1) gx 0 0→ts' 4= .ptr (B + 2) gr 0 0→ts' 6=v6→ts' 8= .ptr (B + 3) g8 0 0→K Gam B (.exit 0) ks ⟨ts',D++[.blk g0 [s0] false false 0, .blk gx [eTf x] false false 0, .blk gr [rr] false false 0, .blk g8 [.agg [.sl ((z3p x ps).map z0y) t, .sl [] .nil]] false false 0,o4,o5,o6,o7,o8],clk'⟩ Q):
  K Gam B (.loop k0d) ks ⟨ts,D++[.blk g0 [s0] false false 0, .blk gx [eTf x] false false 0, .blk gr [rr] false false 0, .blk g8 [.agg [.sl [] .nil, .sl [] .nil]] false false 0,o4,o5,o6,o7,o8],clk⟩ Q:=by
 refine z1f (fun m q=>∃ (i:Nat) (t:Tip) (o4 o5 o6 o7 o8:AObj),i≤ps.length∧m=ps.length - i∧q.ts 2= .ptr (B + 0) g0 0 0∧q.ts 3= .ptr (B + 1) gx 0 0∧q.ts 4= .ptr (B + 2) gr 0 0∧q.ts 6=v6∧q.ts 8= .ptr (B + 3) g8 0 0∧q.ts 25= .sl (ps.map z0y) .no∧q.ts 26= .int .i64 (ps.length:Int)∧q.ts 27= .int .i64 (i:Int)∧q.h=D++[.blk g0 [s0] false false 0, .blk gx [eTf x] false false 0, .blk gr [rr] false false 0, .blk g8 [.agg [.sl ((z3p x (ps.take i)).map z0y) t, .sl [] .nil]] false false 0,o4,o5,o6,o7,o8]∧z9p B 6 o6 t 3) ps.length ⟨0, .nil,o4,o5,o6,o7,o8,by omega,rfl,h2,h3,h4,h6,h8,h25,h26,h27,rfl, .inl rfl⟩ ?_
 clear h2 h3 h4 h6 h8 h25 h26 h27
 rintro m ⟨ts,h,clk⟩ P ⟨i,t,o4,o5,o6,o7,o8,hi,rfl,q2,q3,q4,q6,q8,q25,q26,q27,rfl,ht⟩ hnx he hr
 dsimp only at q2 q3 q4 q6 q8 q25 q26 q27
 by_cases hlt:i < ps.length
 ·have f1:decide ((i:Int) < (ps.length:Int))=true:=by rw[decide_eq_true_iff];omega
  have f2:IntKind.i64.wrap ((i:Int) + 1)=((i + 1:Nat):Int):=z0c (by omega) (by omega)
  have hix:=fun h=>z8q (l:=ps) (i:=i) (h:=h) (t:= .no) (k:= .i64) hlt
  have hkp:z3p x (ps.take (i + 1))=z3p x (ps.take i)++(if (decide (ps[i].name∈x.un) || decide (ps[i].name∈x.und))=true then [] else [ps[i]]):=by
   unfold z3p
   rw[List.take_succ_eq_append_getElem hlt,List.filter_append]
   congr 1
   cases hb:(decide (ps[i].name∈x.un) || decide (ps[i].name∈x.und)) <;> simp only[List.filter_cons,List.filter_nil,hb,Bool.not_false,Bool.not_true,if_true,Bool.false_eq_true,if_false]
  have hkl:(z3p x (ps.take i)).length≤1000:=by
   have:=List.length_filter_le (fun f:Func=> !(decide (f.name∈x.un) || decide (f.name∈x.und))) (ps.take i)
   rw[List.length_take] at this
   unfold z3p
   omega
  generalize ps[i]=f at *
  have p1:=v7h (x:=x) (a:=f.name) hx
  rw[eTf] at p1
  cases hb:(decide (f.name∈x.un) || decide (f.name∈x.und)) with
  | true=>
    rw[hb] at p1
    rw[hb,if_pos rfl,List.append_nil] at hkp
    simp only[go_sem,k0d,q2,q3,q4,q6,q8,q25,q26,q27,hB,f1,hix,eTf,z0a p1,Bool.not_true,f2]
    rw[←hkp]
    exact hnx (ps.length - (i + 1)) _ (by omega) ⟨i + 1,t,_,_,_,_,_,hlt,rfl,q2,q3,q4,q6,q8,q25,q26,rfl,rfl,ht⟩
  | false=>
    rw[hb] at p1
    rw[hb,if_neg (by simp)] at hkp
    have e8:(z3p x (ps.take i)).map z0y++[f].map z0y=(z3p x (ps.take (i + 1))).map z0y:=by rw[hkp,List.map_append]
    simp only[go_sem,k0d,q2,q3,q4,q6,q8,q25,q26,q27,hB,f1,hix,eTf,z0a p1,Bool.not_false]
    rw[show [AV.agg [.str f.name, .sl (f.args.map nat) .no, .int .i64 (f.result:Int)]]=[f].map z0y from rfl,z0s hB rfl ht z9f z9f (by simp only[List.length_map,List.length_singleton];omega),e8]
    simp only[go_sem,q2,q3,q4,q6,q8,q25,q26,q27,hB,f2]
    exact hnx (ps.length - (i + 1)) _ (by omega) ⟨i + 1,_,_,_,_,_,_,hlt,rfl,q2,q3,q4,q6,q8,q25,q26,rfl,rfl, .inr (.inr ⟨_,rfl,rfl⟩)⟩
 ·have f1:decide ((i:Int) < (ps.length:Int))=false:=by rw[decide_eq_false_iff_not];omega
  have hti:ps.take i=ps:=List.take_of_length_le (by omega)
  simp only[go_sem,k0d,q2,q3,q4,q6,q8,q25,q26,q27,f1]
  refine he _ _ ?_
  rw[hti]
  exact hQ _ t _ _ _ _ _ _ (by simp[z0b,q2]) (by simp[z0b,q3]) (by simp[z0b,q4]) (by simp[z0b,q6]) (by simp[z0b,q8])
theorem k0j {cs kc:List Clause} {out:List Nat} {pv:List AV} {tp:Tip} {B clk g0 g8 gr:Nat} {D:List AObj} {pp rr:AV} {o1 o4 o5 o6 o7 o8:AObj} {ts:Tmps} {ks:List Kf} {Q:Post} (hB:D.length=B) (hcl:out.length≤2 ^ 18) (hat:(out.map fun i=>cs[i]?)=kc.map some) (hbl:∀ c∈cs,SmallC c) (h2:ts 2= .ptr (B + 0) g0 0 0) (h4:ts 4= .ptr (B + 2) gr 0 0) (h8:ts 8= .ptr (B + 3) g8 0 0) (h43:ts 43= .sl (out.map nat) .no) (h44:ts 44= .int .i64 (out.length:Int)) (h45:ts 45= .int .i64 0)
  (hQ:∀ (ts':Tmps) (t:Tip) (o4 o5 o6 o7 o8:AObj) (clk':Nat),ts' 4= .ptr (B + 2) gr 0 0→ts' 8= .ptr (B + 3) g8 0 0→K Gam B (.exit 2) ks ⟨ts',D++[.blk g0 [.agg [pp, .sl (cs.map z0h) .no]] false false 0,o1, .blk gr [rr] false false 0, .blk g8 [.agg [.sl pv tp, .sl (kc.map z0h) t]] false false 0,o4,o5,o6,o7,o8],clk'⟩ Q):
  K Gam B (.loop k0c) ks ⟨ts,D++[.blk g0 [.agg [pp, .sl (cs.map z0h) .no]] false false 0,o1, .blk gr [rr] false false 0, .blk g8 [.agg [.sl pv tp, .sl [] .nil]] false false 0,o4,o5,o6,o7,o8],clk⟩ Q:=by
 have hlen:out.length=kc.length:=by simpa using congrArg List.length hat
 refine z1f (fun m q=>∃ (i:Nat) (t:Tip) (o4 o5 o6 o7 o8:AObj),i≤out.length∧m=out.length - i∧q.ts 2= .ptr (B + 0) g0 0 0∧q.ts 4= .ptr (B + 2) gr 0 0∧q.ts 8= .ptr (B + 3) g8 0 0∧q.ts 43= .sl (out.map nat) .no∧q.ts 44= .int .i64 (out.length:Int)∧q.ts 45= .int .i64 (i:Int)∧q.h=D++[.blk g0 [.agg [pp, .sl (cs.map z0h) .no]] false false 0,o1, .blk gr [rr] false false 0, .blk g8 [.agg [.sl pv tp, .sl ((kc.take i).map z0h) t]] false false 0,o4,o5,o6,o7,o8]∧z9p B 8 o8 t 5) out.length ⟨0, .nil,o4,o5,o6,o7,o8,by omega,rfl,h2,h4,h8,h43,h44,h45,rfl, .inl rfl⟩ ?_
 clear h2 h4 h8 h43 h44 h45
 rintro m ⟨ts,h,clk⟩ P ⟨i,t,o4,o5,o6,o7,o8,hi,rfl,q2,q4,q8,q43,q44,q45,rfl,ht⟩ hnx he hr
 dsimp only at q2 q4 q8 q43 q44 q45
 by_cases hlt:i < out.length
 ·have f1:decide ((i:Int) < (out.length:Int))=true:=by rw[decide_eq_true_iff];omega
  have f2:IntKind.i64.wrap ((i:Int) + 1)=((i + 1:Nat):Int):=z0c (by omega) (by omega)
  have hki:i < kc.length:=by omega
  have hci:cs[out[i]]? =some kc[i]:=by
   have:=congrArg (fun l=>l[i]?) hat
   simpa [hlt,hki] using this
  have hol:out[i] < cs.length:=by
   rw[List.getElem?_eq_some_iff] at hci
   exact hci.1
  have hce:cs[out[i]]=kc[i]:=by
   rw[List.getElem?_eq_some_iff] at hci
   exact hci.2
  have hix1:∀ h,z1p h 1 (.sl (out.map nat) .no) (.int .i64 (i:Int))=some (.iptr [.int .i64 (out[i]:Int)] 0,h):=fun h=>z2d hlt rfl rfl
  have hix2:=fun h=>q3w (l:=cs) (i:=out[i]) (h:=h) (t:= .no) (k:= .i64) hol
  rw[hce] at hix2
  have e8:(kc.take i).map z0h++[kc[i]].map z0h=(kc.take (i + 1)).map z0h:=by rw[List.take_succ_eq_append_getElem hki,List.map_append]
  have hb:=hbl _ (List.mem_of_getElem? hci)
  have hp:=y7d (c:=kc[i]) hb.body hb.bargs hb.hargs hb.vars hb.guard
  rw[z0h,z0n] at hp
  generalize out[i]=j at *
  generalize kc[i]=c at *
  simp only[go_sem,k0c,q2,q4,q8,q43,q44,q45,hB,z1b,f1,hix1,hix2,z0a hp]
  rw[show [AV.agg [.sl (c.vars.map z1h) .no, .sl (c.body.map z3u) .no, .sl (c.guard.map eNode) .no, .str c.head.pred, .sl (c.head.args.map z0n) .no]]=[c].map z0h from rfl,z0s hB rfl ht z7c z7c (by simp only[List.length_map,List.length_singleton,List.length_take];omega),e8]
  simp only[go_sem,q2,q4,q8,q43,q44,q45,hB,f2]
  refine⟨by simp[z1e,apart,z0l,z0z,z1i,AOp.isCall,hB,AV.ids,idsL,z0d z3n,z0d z2z,z0d z6d,z0d z2i,z0d z4k], ?_⟩
  exact hnx (out.length - (i + 1)) _ (by omega) ⟨i + 1,_,_,_,_,_,_,hlt,rfl,q2,q4,q8,q43,q44,rfl,rfl, .inr (.inr ⟨_,rfl,rfl⟩)⟩
 ·have f1:decide ((i:Int) < (out.length:Int))=false:=by rw[decide_eq_false_iff_not];omega
  have hti:kc.take i=kc:=List.take_of_length_le (by omega)
  simp only[go_sem,k0c,q2,q4,q8,q43,q44,q45,f1]
  refine he _ _ ?_
  rw[hti]
  exact hQ _ t _ _ _ _ _ _ (by simp[z0b,q4]) (by simp[z0b,q8])
theorem x1y {un und:List (List Nat)}:∀ {cs:List Clause} {i:Nat} {out res:List Nat},z7k un und cs i out=some res→res.length≤out.length + cs.length
 | [],i,out,res,h=>by
   simp only[z7k] at h
   injection h with h
   subst h
   simp
 | c::cs,i,out,res,h=>by
   rw[z7k] at h
   cases hc:z7y un und c with
   | none=>rw[hc] at h;cases h
   | some b=>
     rw[hc] at h
     cases b with
     | true=>
       have:=x1y h
       simp at this⊢
       omega
     | false=>
       have:=x1y h
       simp at this⊢
       omega
theorem AppOk.len {ps:List Func} {V:List Var} {a:App} (h:AppOk ps V a) (hp:PrOk ps):a.args.length≤2 ^ 20∧∀ t∈a.args,t.length≤2 ^ 20:=by
 obtain⟨f,hf,_,hl,hz⟩:=h
 have h40:=(hp.args f hf).1
 refine⟨by omega,fun t ht=> ?_⟩
 obtain⟨i,hi,rfl⟩:=List.getElem_of_mem ht
 have hif:i < f.args.length:=by omega
 have hm:(f.args[i],a.args[i])∈f.args.zip a.args:=by
  have:(f.args.zip a.args)[i]? =some (f.args[i],a.args[i]):=by simp[List.getElem?_zip_eq_some,hif,hi]
  exact List.mem_of_getElem? this
 have:=(hz _ hm).2.1
 dsimp only at this
 omega
theorem SysV.sizes {s:Sys} (hs:SysV s):∀ c∈s.clauses,SmallC c:=fun c hc=>by
 obtain⟨hv,hb,hba,hg,hh⟩:=hs.clauses c hc
 refine⟨by omega,fun a ha=>(hba a ha).len hs.pr, ?_,by have:c.vars.length≤8:=hv.length_le;omega,by have:=hg.2.1;omega⟩
 rcases hh with ⟨_,h⟩ | h
 ·rw[h];simp
 ·exact h.len hs.pr
theorem y7f {s:Sys} {x:Tf} {out:List Nat} (hs:SysV s) (hx:TfOk x) (hk:x.kind=2) (h1:x.pred=[]) (h2:x.into=[]) (h3:x.clause=0) (h4:x.atom=0) (h7:x.drops=[]) (hnd:(x.un++x.und).Nodup) (hin:∀ a∈x.un++x.und,a∈s.preds.map (·.name)) (hl:(x.un++x.und).length≤2 ^ 18) (hkept:z7k x.un x.und s.clauses 0 []=some out):Pure Gam 12 [z2a s,eTf x] (.tup [z2a (z3x x s), .int .i64 0]):=by
 have hp:=y7b hs hx hk h1 h2 h3 h4 h7 hnd hin hl hkept
 have hpl:s.preds.length≤6:=hs.preds.length_le
 have hcl:=hs.len
 have hol:=x1y hkept
 simp only[List.length_nil] at hol
 have hp38:=y7e (ps:=s.preds) (u:= .no) (by omega) fun f hf=>by have:=(hs.pr.args f hf).1;omega
 rw[z2a,eTf] at hp
 refine Pure.of rfl u8u rfl rfl rfl (az:=[z2a s,eTf x]) rfl (by simp[idsL,z2v,q1e hx]) fun D B clk T hB hT=> ?_
 simp only[go_sem,u4y,hB,z2a,eTf,z0a hp,Int.reduceEq,decide_true,Bool.not_true,z0a hp38,List.length_map]
 refine v2c (ps:=s.preds) (x:=x) (g0:=clk) (gx:=clk + 1) (gr:=clk + 2) (v6:= .sl (out.map nat) .no) hB (by omega) hx (by simp[z0b]) (by simp[z0b]) (by simp[z0b]) (by simp[z0b]) (by simp[z0b]) (by simp[z0b]) (by simp[z0b]) (by simp[z0b]) fun ts1 t1 o4 o5 o6 o7 o8 clk1 r2 r3 r4 r6 r8=> ?_
 simp only[go_sem,r6,List.length_map]
 refine k0j (cs:=s.clauses) (kc:=z6a x s.clauses) (out:=out) (g0:=clk) (gr:=clk + 2) hB (by omega) (v2b hkept) hs.sizes (by simp[z0b,r2]) (by simp[z0b,r4]) (by simp[z0b,r8]) (by simp[z0b]) (by simp[z0b]) (by simp[z0b]) fun ts2 t2 o4 o5 o6 o7 o8 clk2 q4 q8=> ?_
 simp only[go_sem,q4,q8,hB,z0k,z0j,z0f]
 rw[z0g rfl (by simp[z1l,AV.cv,cvL,AV.ids,idsL,z0d z4i,z0d z4k])]
 exact hT _
section
variable {s:Sys}
abbrev DS (s:Sys):List Nat→Prop:=Der s.clauses
abbrev NS (s:Sys):List Nat→Prop:=Need s.clauses (Der s.clauses)
def names (s:Sys):List (List Nat):=s.preds.map (·.name)
theorem AppOk.name {ps:List Func} {V:List Var} {a:App} (h:AppOk ps V a):a.pred∈ps.map (·.name):=by
 obtain⟨f,hf,hn,_⟩:=h
 rw[hn]
 exact List.mem_map.2 ⟨f,hf,rfl⟩
theorem SysV.body (hs:SysV s) {c:Clause} (hc:c∈s.clauses) {a:App} (ha:a∈c.body):a.pred∈names s:=((hs.clauses c hc).2.2.1 a ha).name
theorem SysV.head (hs:SysV s) {c:Clause} (hc:c∈s.clauses):c.head.pred=[]∨c.head.pred∈names s:=by
 obtain⟨_,_,_,_,hh⟩:=hs.clauses c hc
 rcases hh with ⟨h,_⟩ | h
 ·exact .inl h
 ·exact .inr h.name
theorem Need.name (hs:SysV s) {a:List Nat} (h:NS s a):a∈names s:=by
 cases h with
 | query hc _ _ ha=>exact hs.body hc ha
 | of hc _ _ ha=>exact hs.body hc ha
theorem k5x (hs:SysV s):((z2r s).un++(z2r s).und).length≤12:=by
 have h1:(z2r s).un.length≤s.preds.length:=by
  unfold z2r
  exact Nat.le_trans (List.length_filter_le _ _) (by rw[List.length_map];exact Nat.le_refl _)
 have h2:(z2r s).und.length≤s.preds.length:=by
  unfold z2r
  exact Nat.le_trans (List.length_filter_le _ _) (by rw[List.length_map];exact Nat.le_refl _)
 have h3:s.preds.length≤6:=hs.preds.length_le
 rw[List.length_append]
 omega
end
theorem j3x {n:Nat} (h1:1≤n) (h4:n≤4):Pure Gam 169 [nat n] (.bool true):=by
 refine Pure.of rfl u4d rfl rfl rfl rfl rfl fun D B clk T hB hT=> ?_
 have e1:decide ((1:Int)≤(n:Int))=true:=by rw[decide_eq_true_iff];omega
 have e2:decide ((n:Int)≤(4:Int))=true:=by rw[decide_eq_true_iff];omega
 simp only[go_sem,y4z,nat,e1,e2]
 rw[z0e]
 exact hT _
theorem k5y {n:Nat}:Pure Gam 303 [nat n] (.bool (decide (n=2∨n=3))):=by
 refine Pure.of rfl u4c rfl rfl rfl rfl rfl fun D B clk T hB hT=> ?_
 by_cases h2:n=2
 ·subst h2
  simp only[go_sem,w2y,nat,Int.cast_ofNat_Int,decide_true]
  rw[z0e]
  exact hT _
 ·have e1:decide ((n:Int)=(2:Int))=false:=by rw[decide_eq_false_iff_not];omega
  have e2:decide ((n:Int)=(3:Int))=decide (n=2∨n=3):=by rw[decide_eq_decide];omega
  simp only[go_sem,w2y,nat,e1,e2]
  rw[z0e]
  exact hT _
theorem w4q {ss:List Nat} {s o:Nat} {u:Tip} (hl:ss.length≤2 ^ 20) (h:∀ x∈ss,x=s):Pure Gam 302 [.sl (ss.map nat) u,nat s,nat o] (nat o):=by
 refine Pure.of rfl u4b rfl rfl rfl (az:=[.sl (ss.map nat) .no,nat s,nat o]) rfl (by simp[idsL,AV.ids,z0d (fun _=>z3h),z3h]) fun D B clk T hB hT=> ?_
 simp only[go_sem,y4y,nat,hB]
 refine z1f (fun m q=>∃ i:Nat,i≤ss.length∧m=ss.length - i∧q.ts 0= .sl (ss.map nat) .no∧q.ts 1=nat s∧q.ts 2=nat o∧q.ts 7= .int .i64 (i:Int)∧q.h=D) ss.length ⟨0,Nat.zero_le _,by omega,rfl,rfl,rfl,rfl,by simp⟩ ?_
 rintro m ⟨ts,h',clk'⟩ Pq ⟨i,hi,rfl,q0,q1,q2,q7,rfl⟩ hnx he hr
 dsimp only at q0 q1 q2 q7
 by_cases hlt:i < ss.length
 ·have f1:decide ((i:Int) < (ss.length:Int))=true:=by rw[decide_eq_true_iff];omega
  have f2:IntKind.i64.wrap ((i:Int) + 1)=((i + 1:Nat):Int):=z0c (by omega) (by omega)
  have f3:ss[i]=s:=h _ (List.getElem_mem hlt)
  simp only[go_sem,j6k,q0,q1,q2,q7,nat,List.length_map,f1,x0w hlt,f3,decide_true,Bool.not_true,f2]
  exact hnx (ss.length - (i + 1)) _ (by omega) ⟨i + 1,hlt,rfl,q0,q1,q2,rfl,rfl⟩
 ·have f1:decide ((i:Int) < (ss.length:Int))=false:=by rw[decide_eq_false_iff_not];omega
  simp only[go_sem,j6k,q0,q1,q2,q7,List.length_map,f1]
  refine he _ _ ?_
  simp only[go_sem,q2]
  rw[z0g rfl rfl]
  exact hT _
theorem w4r {V:List Var} {n:Node} {ss:List Nat} {s:Nat} {ks:Term} (hn:NodeOk V n ss s ks) (hk:n.kids=ss.length):Pure Gam 267 [nat n.op,nat n.kids] (.bool true):=by
 refine Pure.of rfl u3z rfl rfl rfl rfl rfl fun D B clk T hB hT=> ?_
 have e0:∀ k:Nat,decide ((0:Int)≤(k:Int))=true:=fun k=>by rw[decide_eq_true_iff];omega
 have e1:∀ k:Nat,1≤k→decide ((1:Int)≤(k:Int))=true:=fun k h=>by rw[decide_eq_true_iff];omega
 cases hn with
 | bool h=>rcases h with rfl | rfl <;> (simp only[go_sem,q2u,nat,bare,Int.cast_ofNat_Int,Int.reduceEq,decide_true,decide_false];rw[z0e];exact hT _)
 | int h=>simp only[go_sem,q2u,nat,Int.cast_ofNat_Int,Int.reduceEq,decide_true,decide_false];rw[z0e];exact hT _
 | real h=>simp only[go_sem,q2u,nat,Int.cast_ofNat_Int,Int.reduceEq,decide_true,decide_false];rw[z0e];exact hT _
 | var h=>simp only[go_sem,q2u,nat,Int.cast_ofNat_Int,Int.reduceEq,decide_true,decide_false];rw[z0e];exact hT _
 | not=>simp only[go_sem,q2u,nat,bare,Int.cast_ofNat_Int,Int.reduceEq,decide_true,decide_false];rw[z0e];exact hT _
 | andor h=>rcases h with rfl | rfl <;> (simp only[go_sem,q2u,nat,bare,Int.cast_ofNat_Int,Int.reduceEq,decide_true,decide_false,e0];rw[z0e];exact hT _)
 | imp=>simp only[go_sem,q2u,nat,bare,Int.cast_ofNat_Int,Int.reduceEq,decide_true,decide_false];rw[z0e];exact hT _
 | ite h1 h2=>simp only[go_sem,q2u,nat,bare,Int.cast_ofNat_Int,Int.reduceEq,decide_true,decide_false];rw[z0e];exact hT _
 | eq h1 h2=>simp only[go_sem,q2u,nat,bare,Int.cast_ofNat_Int,Int.reduceEq,decide_true,decide_false];rw[z0e];exact hT _
 | cmp h hs=>rcases h with rfl | rfl <;> (simp only[go_sem,q2u,nat,bare,Int.cast_ofNat_Int,Int.reduceEq,decide_true,decide_false];rw[z0e];exact hT _)
 | add h hs=>simp only[go_sem,q2u,nat,bare,Int.cast_ofNat_Int,Int.reduceEq,decide_true,decide_false,e1 _ h];rw[z0e];exact hT _
 | mul hs hn=>simp only[go_sem,q2u,nat,bare,Int.cast_ofNat_Int,Int.reduceEq,decide_true,decide_false];rw[z0e];exact hT _
 | div h h1 h2=>rcases h with rfl | rfl <;> (simp only[go_sem,q2u,nat,Int.cast_ofNat_Int,Int.reduceEq,decide_true,decide_false];rw[z0e];exact hT _)
 | select=>simp only[go_sem,q2u,nat,bare,Int.cast_ofNat_Int,Int.reduceEq,decide_true,decide_false];rw[z0e];exact hT _
 | store=>simp only[go_sem,q2u,nat,bare,Int.cast_ofNat_Int,Int.reduceEq,decide_true,decide_false];rw[z0e];exact hT _
 | const=>simp only[go_sem,q2u,nat,bare,Int.cast_ofNat_Int,Int.reduceEq,decide_true,decide_false];rw[z0e];exact hT _
theorem w4s {V:List Var} {n:Node} {ss:List Nat} {s fi:Nat} {ks:Term} {u:Tip} (hn:NodeOk V n ss s ks) (hl:ss.length≤2 ^ 20) (hf:n.op=15→fi=3):Pure Gam 268 [eNode n,nat fi, .sl (ss.map nat) u] (nat s):=by
 refine Pure.of rfl u4a rfl rfl rfl (az:=[eNode n,nat fi, .sl (ss.map nat) .no]) rfl (by simp[idsL,AV.ids,z0d (fun _=>z3h),z3h,eNode]) fun D B clk T hB hT=> ?_
 have sm:∀ (x o:Nat),(∀ y∈ss,y=x)→Pure Gam 302 [.sl (ss.map nat) .no, .int .i64 (x:Int), .int .i64 (o:Int)] (.int .i64 (o:Int)):=fun x o h=>w4q hl h
 cases hn with
 | bool h=>rcases h with rfl | rfl <;> (simp only[go_sem,q2v,hB,eNode,nat,bare,Int.cast_ofNat_Int,Int.reduceEq,decide_true,decide_false];rw[z0g rfl rfl];exact hT _)
 | int h=>simp only[go_sem,q2v,hB,eNode,nat,Int.cast_ofNat_Int,Int.reduceEq,decide_true,decide_false];rw[z0g rfl rfl];exact hT _
 | real h=>simp only[go_sem,q2v,hB,eNode,nat,Int.cast_ofNat_Int,Int.reduceEq,decide_true,decide_false];rw[z0g rfl rfl];exact hT _
 | var h=>simp only[go_sem,q2v,hB,eNode,nat,Int.cast_ofNat_Int,Int.reduceEq,decide_true,decide_false];rw[z0g rfl rfl];exact hT _
 | not=>
   have p:=sm 1 1 (by simp)
   simp only[List.map_cons,List.map_nil,nat,Int.cast_ofNat_Int] at p
   simp only[go_sem,q2v,hB,eNode,nat,bare,Int.cast_ofNat_Int,Int.reduceEq,decide_true,decide_false,z0a p];rw[z0g rfl rfl];exact hT _
 | andor h=>
   have p:=sm 1 1 (by simp)
   simp only[List.map_replicate,nat,Int.cast_ofNat_Int] at p
   rcases h with rfl | rfl <;> (simp only[go_sem,q2v,hB,eNode,nat,bare,Int.cast_ofNat_Int,Int.reduceEq,decide_true,decide_false,List.map_replicate,z0a p];rw[z0g rfl rfl];exact hT _)
 | imp=>
   have p:=sm 1 1 (by simp)
   simp only[List.map_cons,List.map_nil,nat,Int.cast_ofNat_Int] at p
   simp only[go_sem,q2v,hB,eNode,nat,bare,Int.cast_ofNat_Int,Int.reduceEq,decide_true,decide_false,z0a p];rw[z0g rfl rfl];exact hT _
 | @ite s ks h1 h2=>simp only[go_sem,q2v,hB,eNode,nat,bare,Int.cast_ofNat_Int,Int.reduceEq,decide_true,decide_false,z2m,q0z,x1n];rw[z0g rfl rfl];exact hT _
 | @eq s ks h1 h2=>
   have p:=sm s 1 (by simp)
   simp only[List.map_cons,List.map_nil,nat,Int.cast_ofNat_Int] at p
   simp only[go_sem,q2v,hB,eNode,nat,bare,Int.cast_ofNat_Int,Int.reduceEq,decide_true,decide_false,z2m,z0a p];rw[z0g rfl rfl];exact hT _
 | @cmp o s ks h hs=>
   have p:=sm s 1 (by simp)
   have q:=k5y (n:=s)
   rw[show decide (s=2∨s=3)=true from decide_eq_true hs] at q
   simp only[List.map_cons,List.map_nil,nat,Int.cast_ofNat_Int] at p q
   rcases h with rfl | rfl <;> (simp only[go_sem,q2v,hB,eNode,nat,bare,Int.cast_ofNat_Int,Int.reduceEq,decide_true,decide_false,z2m,z0a q,z0a p];rw[z0g rfl rfl];exact hT _)
 | @add k s ks h hs=>
   obtain⟨k,rfl⟩:∃ j,k=j + 1:=⟨k - 1,by omega⟩
   have p:=sm s s (by simp)
   have q:=k5y (n:=s)
   rw[show decide (s=2∨s=3)=true from decide_eq_true hs] at q
   simp only[List.replicate_succ,List.map_cons,List.map_replicate,nat,Int.cast_ofNat_Int] at p q
   simp only[go_sem,q2v,hB,eNode,nat,bare,Int.cast_ofNat_Int,Int.reduceEq,decide_true,decide_false,List.replicate_succ,List.map_cons,List.map_replicate,z2m,z0a q,z0a p];rw[z0g rfl rfl];exact hT _
 | @mul s m ks hs hm=>
   have p:=sm s s (by simp)
   obtain rfl:=hf rfl
   simp only[List.map_cons,List.map_nil,nat,Int.cast_ofNat_Int] at p
   simp only[go_sem,q2v,hB,eNode,nat,bare,Int.cast_ofNat_Int,Int.reduceEq,decide_true,decide_false,z2m,z0a p];rw[z0g rfl rfl];exact hT _
 | @div o k ks h h1 h2=>
   have p:=sm 2 2 (by simp)
   simp only[List.map_cons,List.map_nil,nat,Int.cast_ofNat_Int] at p
   rcases h with rfl | rfl <;> (simp only[go_sem,q2v,hB,eNode,nat,bare,Int.cast_ofNat_Int,Int.reduceEq,decide_true,decide_false,z0a p];rw[z0g rfl rfl];exact hT _)
 | select=>simp only[go_sem,q2v,hB,eNode,nat,bare,Int.cast_ofNat_Int,Int.reduceEq,decide_true,decide_false,z2m,q0z];rw[z0g rfl rfl];exact hT _
 | store=>simp only[go_sem,q2v,hB,eNode,nat,bare,Int.cast_ofNat_Int,Int.reduceEq,decide_true,decide_false,z2m,q0z,x1n];rw[z0g rfl rfl];exact hT _
 | const=>
   have p:=sm 2 4 (by simp)
   simp only[List.map_cons,List.map_nil,nat,Int.cast_ofNat_Int] at p
   simp only[go_sem,q2v,hB,eNode,nat,bare,Int.cast_ofNat_Int,Int.reduceEq,decide_true,decide_false,z0a p];rw[z0g rfl rfl];exact hT _
theorem x4x {B clk g4:Nat} {D:List AObj} {o0:AObj} {neg:Bool} {A R:List Nat} {v0:AV} {ts:Tmps} {ks:List Kf} {Q:Post} (hd:∀ c∈A,48≤c∧c≤57) (hl:A.length≤20000000) (hB:D.length=B) (h0:ts 0=v0) (h4:ts 4= .ptr (B + 1) g4 0 0) (h5:ts 5= .str (A++47::R)) (h6:ts 6= .int .i64 0) {g2:Nat} (h2:ts 2= .ptr (B + 0) g2 0 0)
  (hQ:∀ (ts':Tmps) (clk':Nat),ts' 0=v0→ts' 2= .ptr (B + 0) g2 0 0→ts' 4= .ptr (B + 1) g4 0 0→ts' 5= .str A→K Gam B (.exit 0) ks ⟨ts',D++[o0, .blk g4 [.agg [.bool neg, .str [], .str R]] false false 0],clk'⟩ Q):K Gam B (.loop q8g) ks ⟨ts,D++[o0, .blk g4 [.agg [.bool neg, .str [], .str [49]]] false false 0],clk⟩ Q:=by
 refine z1f (fun m q=>∃ j:Nat,j≤A.length∧m=A.length - j∧q.ts 0=v0∧q.ts 2= .ptr (B + 0) g2 0 0∧q.ts 4= .ptr (B + 1) g4 0 0∧q.ts 5= .str (A++47::R)∧q.ts 6= .int .i64 (j:Int)∧q.h=D++[o0, .blk g4 [.agg [.bool neg, .str [], .str [49]]] false false 0]) A.length ⟨0,by omega,rfl,h0,h2,h4,h5,h6,rfl⟩ ?_
 clear h0 h2 h4 h5 h6
 rintro m ⟨ts,h,clk⟩ P ⟨j,hj,rfl,h0,h2,h4,h5,h6,rfl⟩ hn he hr
 dsimp only at h0 h2 h4 h5 h6
 have e1:decide ((j:Int) < ((A++47::R).length:Int))=true:=by rw[decide_eq_true_iff];simp;omega
 have e4:IntKind.i64.wrap ((j:Int) + 1)=((j + 1:Nat):Int):=z0c (by omega) (by omega)
 have hlt':j < (A++47::R).length:=by simp;omega
 by_cases hlt:j < A.length
 ·have hc:=hd A[j] (List.getElem_mem hlt)
  have e0:(A++47::R)[j]=A[j]:=List.getElem_append_left hlt
  have e2:decide ((A[j]:Int)=47)=false:=by rw[decide_eq_false_iff_not];omega
  simp only[go_sem,h0,h2,h4,h5,h6,q8g,e1,q1t hlt',e0,e2,e4]
  exact hn (A.length - (j + 1)) _ (by omega) ⟨j + 1,hlt,rfl,h0,h2,h4,h5,rfl,rfl⟩
 ·obtain rfl:j=A.length:=by omega
  have e0:(A++47::R)[A.length]=47:=by simp
  have e5:∀ h,slV h none (.str (A++47::R)) (some (.int .i64 ((A.length + 1:Nat):Int))) none none=some (.str R,h):=fun h=>by
   have h1:(0:Int)≤(A.length:Int) + 1:=by omega
   have h2:(A++47::R).take (A.length + (R.length + 1))=A++47::R:=List.take_of_length_le (by simp)
   have h3:(A++47::R).drop (A.length + 1)=R:=by rw[←List.drop_drop,List.drop_left];rfl
   simp[slV,z2w,z5b,h1,h2,h3]
  have e6:∀ h,slV h none (.str (A++47::R)) none (some (.int .i64 (A.length:Int))) none=some (.str A,h):=fun h=>by simp[slV,z2w,z5b]
  simp only[go_sem,h0,h2,h4,h5,h6,q8g,e1,q1t hlt',e0,e4,e5,e6,hB,z1b,Int.cast_ofNat_Int,decide_true]
  refine⟨by simp[z1e,apart,z0l,z0z,z1i,AOp.isCall,hB], ?_⟩
  refine he _ _ ?_
  exact hQ _ _ (by simp[z0b,h0]) (by simp[z0b,h2]) (by simp[z0b,h4]) (by simp[z0b,h5])
theorem j7c {z:Int} {d:Nat} (hl:(dec z.natAbs).length≤10000000) (h2:2≤d) (hld:(dec d).length≤10000000) (hg:Nat.gcd z.natAbs d=1):Pure Gam 165 [.str (z0i z++47::dec d)] (.tup [q0i (decide (z < 0)) z.natAbs d, .bool true]):=by
 have hdn:=z1m z.natAbs
 have hdne:=z7w z.natAbs
 have hdig:q8h (dec z.natAbs):=⟨hdne,hdn⟩
 have hdig2:q8h (dec d):=⟨z7w d,z1m d⟩
 have hz0:z.natAbs≠0:=fun h=>by rw[h,Nat.gcd_zero_left] at hg;omega
 have hp1:Pure Gam 207 [.str (dec d)] (.bool true):=q7b hdig2 (by omega)
 have hp2:Pure Gam 208 [.str (dec d)] (.str (dec d)):=by have:=q1u hdig2;rwa [z1u] at this
 have hp3:Pure Gam 208 [.str (dec z.natAbs)] (.str (dec z.natAbs)):=by have:=q1u hdig;rwa [z1u] at this
 have hp4:∀ neg:Bool,Pure Gam 230 [.bool neg, .str (dec z.natAbs), .str (dec d)] (q0i neg z.natAbs d):=fun neg=>by
  have:=x1d (neg:=neg) (a:=z.natAbs) (b:=d) (by omega) hl (by omega)
  rw[hg,Nat.div_one,Nat.div_one] at this
  simpa [hz0] using this
 have hp5:∀ neg:Bool,Pure Gam 231 [q0i neg z.natAbs d] (.str (z3o neg z.natAbs d)):=fun neg=>q7d hl (by omega)
 have e1:decide (dec d=[48])=false:=by rw[decide_eq_false_iff_not,q4v];omega
 have e2:decide (dec z.natAbs=dec z.natAbs)=true:=by simp
 have e2':decide (dec d=dec d)=true:=by simp
 have hd1:dec d≠[49]:=fun h=>by rw[x4d] at h;omega
 refine Pure.of rfl y3m rfl rfl rfl rfl rfl fun D B clk T hB hT=> ?_
 by_cases hz:z < 0
 ·have he:z0i z=45::dec z.natAbs:=by rw[z0i,if_pos hz]
  have hdz:decide (z < 0)=true:=by simp[hz]
  rw[he,List.cons_append]
  simp only[go_sem,k4i,hB,z1b,Bool.not_false,z6j,Int.cast_ofNat_Int,x0z,decide_true,decide_false,Int.reduceEq]
  refine⟨by simp[z1e,apart,z0l,z0z,z1i,AOp.isCall,hB], ?_⟩
  refine x4x (v0:= .str (45::(dec z.natAbs++47::dec d))) hdn (by omega) hB rfl rfl rfl rfl rfl ?_
  intro ts2 clk2 q0 q2 q4 q5
  have e3:decide (z3o true z.natAbs d=45::(dec z.natAbs++47::dec d))=true:=by rw[decide_eq_true_iff];simp[z3o];omega
  simp only[go_sem,q0,q2,q4,q5,hB,z1b,z0a (q7b hdig (by omega)),z0a hp1,z0a hp2,z0a hp3,z0a (hp4 true),z0a (hp5 true),e1,e2,e2',e3,Bool.not_true,Bool.not_false,decide_true,decide_false]
  refine⟨by simp[z1e,apart,z0l,z0z,z1i,AOp.isCall,hB], ?_⟩
  rw[z0g rfl rfl]
  rw[hdz] at hT
  exact hT _
 ·have he:z0i z=dec z.natAbs:=by rw[z0i,if_neg hz]
  have hdz:decide (z < 0)=false:=by simp[hz]
  rw[he]
  obtain⟨c,t,hct⟩:=List.exists_cons_of_ne_nil hdne
  have hc:=hdn c (by rw[hct];exact List.mem_cons_self)
  have e0:decide (dec z.natAbs++47::dec d=[])=false:=by simp
  have e00:∀ h k,q4u h (.str (dec z.natAbs++47::dec d)) (.int k 0)=some (.int .u8 (c:Int),h):=fun h k=>by rw[hct];exact z6j
  have ec:decide ((c:Int)=45)=false:=by rw[decide_eq_false_iff_not];omega
  simp only[go_sem,k4i,hB,z1b,Bool.not_false,e0,e00,ec,Int.cast_ofNat_Int,decide_true,decide_false,Int.reduceEq]
  refine x4x (v0:= .str (dec z.natAbs++47::dec d)) hdn (by omega) hB rfl rfl rfl rfl rfl ?_
  intro ts2 clk2 q0 q2 q4 q5
  have e3:decide (z3o false z.natAbs d=dec z.natAbs++47::dec d)=true:=by rw[decide_eq_true_iff];simp[z3o];omega
  simp only[go_sem,q0,q2,q4,q5,hB,z1b,z0a (q7b hdig (by omega)),z0a hp1,z0a hp2,z0a hp3,z0a (hp4 false),z0a (hp5 false),e1,e2,e2',e3,Bool.not_true,Bool.not_false,decide_true,decide_false]
  refine⟨by simp[z1e,apart,z0l,z0z,z1i,AOp.isCall,hB], ?_⟩
  rw[z0g rfl rfl]
  rw[hdz] at hT
  exact hT _
structure Qn where
 neg:Bool
 n:Nat
 d:Nat
def Qn.text (q:Qn):List Nat:=z3o q.neg q.n q.d
structure Qn.C (q:Qn):Prop where
 neg:q.neg=true→q.n≠0
 pos:0 < q.d
 red:Nat.gcd q.n q.d=1
def q3y (neg:Bool) (a b:Nat):Qn:=⟨neg && !decide (a / Nat.gcd a b=0),a / Nat.gcd a b,b / Nat.gcd a b⟩
theorem j7d {neg:Bool} {a b:Nat} (hb:0 < b):(q3y neg a b).C:=by
 have hg:0 < Nat.gcd a b:=Nat.gcd_pos_of_pos_right _ hb
 refine⟨fun h=> ?_,Nat.div_pos (Nat.gcd_le_right a hb) hg,by simp only[q3y];rw[Nat.gcd_div (Nat.gcd_dvd_left a b) (Nat.gcd_dvd_right a b),Nat.div_self hg]⟩
 simp only[q3y,Bool.and_eq_true,Bool.not_eq_true',decide_eq_false_iff_not] at h
 exact h.2
theorem j7e {neg:Bool} {a:Nat}:q3y neg a 1=⟨neg && !decide (a=0),a,1⟩:=by simp[q3y]
def z4f (z:Int):Qn:=⟨decide (z < 0),z.natAbs,1⟩
theorem x4y {z:Int}:(z4f z).C:=⟨by simp[z4f];omega,by simp[z4f],by simp[z4f]⟩
theorem z2b {z:Int}:(z4f z).text=z0i z:=(j6n z).symm
def k0p (x:Qn):Qn:=⟨!x.neg && !decide (x.n=0),x.n,x.d⟩
theorem v7k {x:Qn} (h:x.C):(k0p x).C:=⟨by simp[k0p],h.pos,h.red⟩
def v2d (x y:Qn):Qn:=q3y (!(x.neg==y.neg)) (x.n * y.n) (x.d * y.d)
def j7f (x y:Qn):Qn:=if x.neg=y.neg then q3y x.neg (x.n * y.d + y.n * x.d) (x.d * y.d) else if y.n * x.d≤x.n * y.d then q3y x.neg (x.n * y.d - y.n * x.d) (x.d * y.d) else q3y y.neg (y.n * x.d - x.n * y.d) (x.d * y.d)
def k7p (x y:Qn):Qn:=j7f x (k0p y)
theorem y7g {x y:Qn} (hx:x.C) (hy:y.C):(v2d x y).C:=j7d (Nat.mul_pos hx.pos hy.pos)
theorem v7l {x y:Qn} (hx:x.C) (hy:y.C):(j7f x y).C:=by
 have h:=Nat.mul_pos hx.pos hy.pos
 unfold j7f
 split
 ·exact j7d h
 ·split <;> exact j7d h
theorem j7g {a b:Int}:v2d (z4f a) (z4f b)=z4f (a * b):=by
 simp only[v2d,z4f,Nat.mul_one,j7e,Int.natAbs_mul,Qn.mk.injEq,and_true]
 rcases Int.lt_trichotomy a 0 with ha | ha | ha <;> rcases Int.lt_trichotomy b 0 with hb | hb | hb
 ·have:=Int.mul_pos_of_neg_of_neg ha hb
  have h1:¬ a * b < 0:=by omega
  simp[ha,hb,h1]
 ·subst hb;simp
 ·have:=Int.mul_neg_of_neg_of_pos ha hb
  have h1:¬ b < 0:=by omega
  have h2:a≠0:=by omega
  have h3:b≠0:=by omega
  have h4:¬ a.natAbs * b.natAbs=0:=Nat.mul_ne_zero (by omega) (by omega)
  simp[ha,this,h1,h4]
 ·subst ha;simp
 ·subst ha;simp
 ·subst ha;simp
 ·have:=Int.mul_neg_of_pos_of_neg ha hb
  have h1:¬ a < 0:=by omega
  have h2:a≠0:=by omega
  have h3:b≠0:=by omega
  have h4:¬ a.natAbs * b.natAbs=0:=Nat.mul_ne_zero (by omega) (by omega)
  simp[hb,this,h1,h4]
 ·subst hb;simp
 ·have:=Int.mul_pos ha hb
  have h1:¬ a * b < 0:=by omega
  have h2:¬ a < 0:=by omega
  have h3:¬ b < 0:=by omega
  simp[h1,h2,h3]
theorem v2e {a:Int}:k0p (z4f a)=z4f (-a):=by
 simp only[k0p,z4f,Int.natAbs_neg,Qn.mk.injEq,and_true]
 by_cases h:a < 0
 ·have:¬ -a < 0:=by omega
  simp[h]
  omega
 ·by_cases h0:a=0
  ·subst h0;simp
  ·have: -a < 0:=by omega
   simp[h,h0]
   omega
theorem j7h {a b:Int}:j7f (z4f a) (z4f b)=z4f (a + b):=by
 simp only[j7f,z4f,Nat.mul_one,j7e]
 by_cases ha:a < 0 <;> by_cases hb:b < 0 <;> simp only[ha,hb,decide_true,decide_false,reduceCtorEq,if_true,if_false]
 ·have h1:a + b < 0:=by omega
  have h2:a.natAbs + b.natAbs=(a + b).natAbs:=by omega
  have h3:(a + b).natAbs≠0:=by omega
  simp[h1,h2,h3]
 ·split
  ·have h2:a.natAbs - b.natAbs=(a + b).natAbs:=by omega
   rw[h2]
   by_cases h1:a + b < 0 <;> simp[h1] <;> omega
  ·have h2:b.natAbs - a.natAbs=(a + b).natAbs:=by omega
   rw[h2]
   have h1:¬ a + b < 0:=by omega
   simp[h1]
 ·split
  ·have h2:a.natAbs - b.natAbs=(a + b).natAbs:=by omega
   rw[h2]
   have h1:¬ a + b < 0:=by omega
   simp[h1]
  ·have h2:b.natAbs - a.natAbs=(a + b).natAbs:=by omega
   rw[h2]
   have h1:a + b < 0:=by omega
   simp[h1];omega
 ·have h1:¬ a + b < 0:=by omega
  have h2:a.natAbs + b.natAbs=(a + b).natAbs:=by omega
  simp[h1,h2]
structure Qn.L (q:Qn) (N D:Nat):Prop where
 n:(dec q.n).length≤N
 d:(dec q.d).length≤D
theorem q7j {n k:Nat} (hk:0 < k):(dec n).length≤k↔n < 10 ^ k:=by
 refine⟨fun h=> ?_,z7e hk⟩
 have h1:=z4w (s:=dec n) (z1m n)
 rw[z1u] at h1
 exact Nat.lt_of_lt_of_le h1 (Nat.pow_le_pow_right (by omega) h)
theorem x7d (n:Nat):0 < (dec n).length:=List.length_pos_iff.2 (z7w n)
theorem z6p {a b A B:Nat} (ha:(dec a).length≤A) (hb:(dec b).length≤B):(dec (a * b)).length≤A + B:=by
 have h1:=x7d a
 have h2:=x7d b
 have ha':=(q7j (by omega)).1 ha
 have hb':=(q7j (by omega)).1 hb
 refine (q7j (by omega)).2 ?_
 rw[Nat.pow_add]
 exact Nat.mul_lt_mul'' ha' hb'
theorem x7e {a b A:Nat} (ha:(dec a).length≤A) (hb:(dec b).length≤A):(dec (a + b)).length≤A + 1:=by
 have h1:=x7d a
 have ha':=(q7j (by omega)).1 ha
 have hb':=(q7j (by omega)).1 hb
 refine (q7j (by omega)).2 ?_
 rw[Nat.pow_succ]
 omega
theorem j3y {a b A:Nat} (ha:(dec a).length≤A):(dec (a / b)).length≤A:=Nat.le_trans (z4z (Nat.div_le_self a b)) ha
theorem x7f {a b A:Nat} (ha:(dec a).length≤A):(dec (a - b)).length≤A:=Nat.le_trans (z4z (Nat.sub_le a b)) ha
theorem q8k {neg:Bool} {a b N D:Nat} (ha:(dec a).length≤N) (hb:(dec b).length≤D):(q3y neg a b).L N D:=⟨j3y ha,j3y hb⟩
theorem y7h {x y:Qn} {N D N' D':Nat} (hx:x.L N D) (hy:y.L N' D'):(v2d x y).L (N + N') (D + D'):=q8k (z6p hx.n hy.n) (z6p hx.d hy.d)
theorem v7m {x y:Qn} {N D N' D' M:Nat} (hx:x.L N D) (hy:y.L N' D') (h1:N + D'≤M) (h2:N' + D≤M):(j7f x y).L (M + 1) (D + D'):=by
 have a1:=Nat.le_trans (z6p hx.n hy.d) h1
 have a2:=Nat.le_trans (z6p hy.n hx.d) h2
 have a3:=z6p hx.d hy.d
 unfold j7f
 split
 ·exact q8k (x7e a1 a2) a3
 ·split
  ·exact q8k (x7f (Nat.le_succ_of_le a1)) a3
  ·exact q8k (x7f (Nat.le_succ_of_le a2)) a3
theorem y7i {x:Qn} {N D:Nat} (h:x.L N D):(k0p x).L N D:=⟨h.n,h.d⟩
section
inductive Val where
 | bool (b:Bool)
 | num (s:Nat) (q:Qn)
 | arr (z:Int) (l:List (Int×Int))
def Val.b:Val→Bool
 | .bool b=>b
 | _=>false
def Val.s:Val→Nat
 | .bool _=>1
 | .num s _=>s
 | .arr _ _=>4
def Val.q:Val→Qn
 | .num _ q=>q
 | .arr z _=>z4f z
 | .bool _=>z4f 0
def Val.t:Val→List Nat
 | .num _ q=>q.text
 | .arr z _=>z0i z
 | .bool _=>[]
def Val.l:Val→List (Int×Int)
 | .arr _ l=>l
 | _=>[]
def eV (v:Val):AV:=value v.s v.b v.t (z1n (v.l.map fun p=>z0i p.1)) (z1n (v.l.map fun p=>z0i p.2))
def Qn.z (q:Qn):Int:=if q.neg then -(q.n:Int) else q.n
theorem Qn.int {q:Qn} (h:q.C) (hd:q.d=1):q=z4f q.z:=by
 obtain⟨neg,n,d⟩:=q
 dsimp only at hd
 subst hd
 have:=h.neg
 cases neg
 ·simp[z4f,Qn.z]
 ·simp[z4f,Qn.z] at *;omega
theorem Qn.z_len {q:Qn}:q.z.natAbs=q.n:=by
 unfold Qn.z
 split <;> omega
def VOk (m s:Nat):Val→Prop
 | .bool _=>s=1
 | .num t q=>s=t∧(t=2∨t=3)∧q.C∧q.L (45 * m) m∧(t=2→q.d=1)
 | .arr z l=>s=4∧(dec z.natAbs).length≤45 * m∧l.Pairwise (fun p q=>p.1 < q.1)∧(∀ p∈l,p.2≠z∧(dec p.1.natAbs).length≤45 * m∧(dec p.2.natAbs).length≤45 * m)∧l.length≤m
theorem Qn.L.up {q:Qn} {N D N' D':Nat} (h:q.L N D) (h1:N≤N') (h2:D≤D'):q.L N' D':=⟨Nat.le_trans h.n h1,Nat.le_trans h.d h2⟩
theorem VOk.up {m m' s:Nat} {v:Val} (h:VOk m s v) (hm:m≤m'):VOk m' s v:=by
 cases v with
 | bool b=>exact h
 | num t q=>exact⟨h.1,h.2.1,h.2.2.1,h.2.2.2.1.up (by omega) hm,h.2.2.2.2⟩
 | arr z l=>exact⟨h.1,by have:=h.2.1;omega,h.2.2.1,fun p hp=>⟨(h.2.2.2.1 p hp).1,by have:=(h.2.2.2.1 p hp).2.1;omega,by have:=(h.2.2.2.1 p hp).2.2;omega⟩,by have:=h.2.2.2.2;omega⟩
theorem VOk.s {m s:Nat} {v:Val} (h:VOk m s v):v.s=s:=by
 cases v with
 | bool b=>exact h.symm
 | num t q=>exact h.1.symm
 | arr z l=>exact h.1.symm
theorem VOk.bool {m:Nat} {v:Val} (h:VOk m 1 v):∃ b,v= .bool b:=by
 cases v with
 | bool b=>exact⟨b,rfl⟩
 | num t q=>have h1:=h.1;have h2:=h.2.1;omega
 | arr z l=>have h1:=h.1;omega
theorem VOk.numb {m s:Nat} {v:Val} (h:VOk m s v) (hs:s=2∨s=3):∃ q,v= .num s q∧q.C∧q.L (45 * m) m∧(s=2→q.d=1):=by
 cases v with
 | bool b=>have h1:s=1:=h;omega
 | num t q=>
   obtain⟨rfl,_,h1,h2,h3⟩:=h
   exact⟨q,rfl,h1,h2,h3⟩
 | arr z l=>have h1:=h.1;omega
theorem VOk.int {m:Nat} {v:Val} (h:VOk m 2 v):∃ z:Int,v= .num 2 (z4f z)∧(dec z.natAbs).length≤45 * m:=by
 obtain⟨q,rfl,h1,h2,h3⟩:=h.numb (.inl rfl)
 refine⟨q.z,by rw[←Qn.int h1 (h3 rfl)],by rw[Qn.z_len];exact h2.n⟩
theorem VOk.of_int {m:Nat} {z:Int} (hm:1≤m) (h:(dec z.natAbs).length≤45 * m):VOk m 2 (.num 2 (z4f z)):=⟨rfl, .inl rfl,x4y,⟨h,by show (dec 1).length≤m;rw[z2f];simpa using hm⟩,fun _=>rfl⟩
theorem VOk.array {m:Nat} {v:Val} (h:VOk m 4 v):∃ z l,v= .arr z l:=by
 cases v with
 | bool b=>have h1:4=1:=h;omega
 | num t q=>have h1:=h.1;have h2:=h.2.1;omega
 | arr z l=>exact⟨z,l,rfl⟩
inductive VsOk:List Nat→Nat→List Val→Prop
 | nil {M:Nat}:VsOk [] M []
 | cons {m M s:Nat} {ss:List Nat} {v:Val} {vs:List Val} (h:VOk m s v) (hr:VsOk ss M vs):VsOk (s::ss) (m + M) (v::vs)
theorem VsOk.len {ss:List Nat} {M:Nat} {vs:List Val} (h:VsOk ss M vs):vs.length=ss.length:=by
 induction h with
 | nil=>rfl
 | cons h hr ih=>simp[ih]
noncomputable section
open Classical
def v2f (s:Nat) (a:List Nat):Qn:=if h:∃ q:Qn,q.C∧q.text=a∧q.L 45 1∧(s=2→q.d=1) then h.choose else z4f 0
theorem j3z {s:Nat} {a:List Nat} (h:∃ q:Qn,q.C∧q.text=a∧q.L 45 1∧(s=2→q.d=1)):(v2f s a).C∧(v2f s a).text=a∧(v2f s a).L 45 1∧(s=2→(v2f s a).d=1):=by
 unfold v2f
 rw[dif_pos h]
 exact h.choose_spec
def atA (z:Int) (l:List (Int×Int)) (i:Int):Int:=((l.find? fun p=>decide (p.1=i)).map (·.2)).getD z
def v2g (z:Int) (l:List (Int×Int)) (i w:Int):List (Int×Int):=(l.filter fun p=>decide (p.1 < i))++((if w=z then [] else [(i,w)])++l.filter fun p=>decide (i < p.1))
def ltQ (x y:Qn):Bool:=(k7p x y).neg
def leQ (x y:Qn):Bool:=(k7p x y).neg || decide ((k7p x y).n=0)
def at0 (vs:List Val) (i:Nat):Val:=vs.getD i (.bool false)
def w4t (env:List (List Nat×Val)) (n:List Nat):Val:=((env.find? fun p=>decide (p.1=n)).map (·.2)).getD (.bool false)
def v2h (a b:Val):Bool:=decide (a.s=b.s) && (decide (a.b=b.b) && (decide (a.t=b.t) && (decide ((a.l.map fun p=>z0i p.1)=b.l.map fun p=>z0i p.1) && decide ((a.l.map fun p=>z0i p.2)=b.l.map fun p=>z0i p.2))))
def nodeF (env:List (List Nat×Val)) (n:Node) (vs:List Val):Val:=
 if n.op=1∨n.op=2 then .bool (decide (n.op=1))
 else if n.op=3 then .num n.sort (v2f n.sort n.num)
 else if n.op=4 then w4t env n.name
 else if n.op=6 then .bool (!(at0 vs 0).b)
 else if n.op=7 then .bool (vs.all Val.b)
 else if n.op=8 then .bool (vs.any Val.b)
 else if n.op=9 then .bool (!(at0 vs 0).b || (at0 vs 1).b)
 else if n.op=10 then (if (at0 vs 0).b=true then at0 vs 1 else at0 vs 2)
 else if n.op=11 then .bool (v2h (at0 vs 0) (at0 vs 1))
 else if n.op=12 then .bool (leQ (at0 vs 0).q (at0 vs 1).q)
 else if n.op=13 then .bool (ltQ (at0 vs 0).q (at0 vs 1).q)
 else if n.op=14 then .num (at0 vs 0).s (vs.foldl (fun q v=>j7f q v.q) (z4f 0))
 else if n.op=15 then .num (at0 vs 0).s (v2d (at0 vs 0).q (at0 vs 1).q)
 else if n.op=16 then .num 2 (z4f ((at0 vs 0).q.z / (z1q n.num:Int)))
 else if n.op=17 then .num 2 (z4f ((at0 vs 0).q.z % (z1q n.num:Int)))
 else if n.op=18 then .num 2 (z4f (atA (at0 vs 0).q.z (at0 vs 0).l (at0 vs 1).q.z))
 else if n.op=19 then .arr (at0 vs 0).q.z (v2g (at0 vs 0).q.z (at0 vs 0).l (at0 vs 1).q.z (at0 vs 2).q.z)
 else .arr (at0 vs 0).q.z []
end
end
end Go.Proofs.YtkollgjffkdliaaGreatDoor.Am
