/- Walking: copies with memory of their own Walking: the transformation is z7v A sliced system needs no slicing Walking: the reference's small tests of terms Walking: the reference's arities and sort -/
import Derived.Test.YtahdahokpjigiaaGreatDoorM30
set_option linter.all false
namespace Go.Proofs.YtahdahokpjigiaaGreatDoor.Am
open Go
set_option maxRecDepth 100000
theorem x5c {esz b:Nat} {xs:List AV} {t:Tip} (h1:z0t esz xs=true) (h3:idsL xs=[]) (h2:xs.length * (b + 1)≤2 ^ 46):z4y esz b (cvL [.sl xs t])=some (.sl xs .no):=by
 simp only[cvL,AV.cv,z4y]
 rw[if_pos ⟨h1,by rw[h3];rfl,h2⟩]
theorem w9y {xs:List Nat} {t:Tip} (hl:xs.length≤2 ^ 20):Pure Gam 92 [.sl (xs.map nat) t] (.sl (xs.map nat) .no):=Pure.ext (sem:=z4y 1 8) rfl rfl (x5c z3y q5e (by rw[List.length_map];omega))
theorem v1i {xs:List Var} {t:Tip} (hl:xs.length≤2 ^ 20):Pure Gam 93 [.sl (xs.map z1b) t] (.sl (xs.map z1b) .no):=Pure.ext (sem:=z4y 2 24) rfl rfl (x5c z2e (z0c z2b) (by rw[List.length_map];omega))
theorem k2l {xs:Term} {t:Tip} (hl:xs.length≤2 ^ 20):Pure Gam 94 [.sl (xs.map eNode) t] (.sl (xs.map eNode) .no):=Pure.ext (sem:=z4y 5 56) rfl rfl (x5c z6l (z0c z1y) (by rw[List.length_map];omega))
theorem v8l {l:List Term} {u:Tip} (hl:l.length≤2 ^ 20) (hts:∀ t∈l,t.length≤2 ^ 20):Pure Gam 150 [.sl (l.map z0l) u] (.sl (l.map z0l) .no):=by
 refine Pure.of rfl y7z rfl rfl rfl (az:=[.sl (l.map z0l) .no]) rfl (by simp[idsL,AV.ids,z0c z2q]) fun D B clk T hB hT=> ?_
 simp only[go_sem,w8y,List.length_map]
 refine z0y (fun m q=>∃ (i:Nat) (t:Tip) (a o:AObj),i≤l.length∧m=l.length - i∧q.ts 3= .sl ((l.take i).map z0l) t∧q.ts 6= .sl (l.map z0l) .no∧q.ts 7= .int .i64 (l.length:Int)∧q.ts 8= .int .i64 (i:Int)∧q.h=D++[a,o]∧z8k B 1 o t 1) l.length ⟨0, .nil,_,_,by omega,rfl,rfl,rfl,rfl,rfl,rfl, .inl rfl⟩ ?_
 rintro m ⟨ts,h,clk⟩ P ⟨i,t,a,o,hi,rfl,q3,q6,q7,q8,rfl,ht⟩ hnx he hr
 dsimp only at q3 q6 q7 q8
 by_cases hlt:i < l.length
 ·have f1:decide ((i:Int) < (l.length:Int))=true:=by rw[decide_eq_true_iff];omega
  have f2:IntKind.i64.wrap ((i:Int) + 1)=((i + 1:Nat):Int):=z0d (by omega) (by omega)
  have hix:∀ h,z1m h 1 (.sl (l.map z0l) .no) (.int .i64 (i:Int))=some (.iptr [.sl (l[i].map eNode) .no] 0,h):=fun h=>q4u hlt
  have e8:(l.take i).map z0l++[l[i]].map z0l=(l.take (i + 1)).map z0l:=by rw[List.take_succ_eq_append_getElem hlt,List.map_append]
  have hpx:=hts _ (List.getElem_mem hlt)
  generalize l[i]=x at *
  simp only[go_sem,j3s,q3,q6,q7,q8,hB,f1,hix,z0a (k2l hpx)]
  rw[show [AV.sl (x.map eNode) .no]=[x].map z0l from rfl,z0j hB rfl ht z3s z3s (by simp only[List.length_map,List.length_singleton,List.length_take];omega),e8]
  simp only[go_sem,q3,q6,q7,q8,f2]
  exact hnx (l.length - (i + 1)) _ (by omega) ⟨i + 1,_,_,_,hlt,rfl,rfl,q6,q7,rfl,rfl, .inr (.inr ⟨_,rfl,rfl⟩)⟩
 ·have f1:decide ((i:Int) < (l.length:Int))=false:=by rw[decide_eq_false_iff_not];omega
  have hti:l.take i=l:=List.take_of_length_le (by omega)
  rw[hti] at q3
  simp only[go_sem,j3s,q3,q6,q7,q8,f1]
  refine he _ _ ?_
  simp only[go_sem,q3]
  rw[z2x rfl (by simp[AV.cv,AV.ids,z0c z2q])]
  exact hT _
theorem v1j {a:App} (hl:a.args.length≤2 ^ 20) (hts:∀ t∈a.args,t.length≤2 ^ 20):Pure Gam 95 [z3x a] (z3x a):=by
 have hp:=v8l (u:= .no) hl hts
 refine Pure.of rfl u5v rfl rfl rfl (az:=[z3x a]) rfl (by simp[idsL,z4w]) fun D B clk T hB hT=> ?_
 simp only[go_sem,u2g,hB,z3x,z1i,z0a hp,z0n,z0m,z0g]
 refine⟨by simp[z1f,apart,z0i,z1d,z1h,AOp.isCall,hB], ?_⟩
 rw[z2x rfl (by simp[AV.cv,cvL,AV.ids,idsL,z0c z2q])]
 exact hT _
theorem w9z {c:Clause} (hb:c.body.length≤2 ^ 20) (hba:∀ a∈c.body,a.args.length≤2 ^ 20∧∀ t∈a.args,t.length≤2 ^ 20) (hh:c.head.args.length≤2 ^ 20∧∀ t∈c.head.args,t.length≤2 ^ 20) (hv:c.vars.length≤2 ^ 20) (hg:c.guard.length≤2 ^ 20):Pure Gam 39 [z0f c] (z0f c):=by
 have hp:=v1j hh.1 hh.2
 rw[z3x] at hp
 refine Pure.of rfl u5u rfl rfl rfl (az:=[z0f c]) rfl (by simp[idsL,z1z]) fun D B clk T hB hT=> ?_
 simp only[go_sem,u2f,hB,z0f,z0l,z1i,z0a (v1i hv),z0a (k2l hg),z0a hp,List.length_map]
 refine⟨by simp[z1f,apart,z0i,z1d,z1h,AOp.isCall,hB,AV.ids,idsL,z0c z2b,z0c z1y,z0c z2q], ?_⟩
 refine z0y (fun m q=>∃ (i g1 g2:Nat) (t:Tip) (a o3 o4 o5:AObj),i≤c.body.length∧m=c.body.length - i∧q.ts 2= .ptr (B + 1) g1 0 0∧q.ts 3= .ptr (B + 2) g2 0 0∧q.ts 17= .sl (c.body.map z3x) .no∧q.ts 18= .int .i64 (c.body.length:Int)∧q.ts 19= .int .i64 (i:Int)∧q.h=D++[a, .blk g1 [.agg [.sl [] .nil, .sl [] .nil, .sl [] .nil, .str [], .sl [] .nil]] false false 0, .blk g2 [.agg [.sl (c.vars.map z1b) .no, .sl ((c.body.take i).map z3x) t, .sl (c.guard.map eNode) .no, .str c.head.pred, .sl (c.head.args.map z0l) .no]] false false 0,o3,o4,o5]∧z8k B 5 o5 t 2) c.body.length ⟨0,_,_, .nil,_,_,_,_,by omega,rfl,rfl,rfl,rfl,rfl,rfl,rfl, .inl rfl⟩ ?_
 rintro m ⟨ts,h,clk⟩ P ⟨i,g1,g2,t,a,o3,o4,o5,hi,rfl,q2,q3,q17,q18,q19,rfl,ht⟩ hnx he hr
 dsimp only at q2 q3 q17 q18 q19
 by_cases hlt:i < c.body.length
 ·have f1:decide ((i:Int) < (c.body.length:Int))=true:=by rw[decide_eq_true_iff];omega
  have f2:IntKind.i64.wrap ((i:Int) + 1)=((i + 1:Nat):Int):=z0d (by omega) (by omega)
  have hix:∀ h,z1m h 2 (.sl (c.body.map z3x) .no) (.int .i64 (i:Int))=some (.iptr [.str c.body[i].pred, .sl (c.body[i].args.map z0l) .no] 0,h):=fun h=>z2f hlt rfl rfl
  have e8:(c.body.take i).map z3x++[c.body[i]].map z3x=(c.body.take (i + 1)).map z3x:=by rw[List.take_succ_eq_append_getElem hlt,List.map_append]
  have hpa:=v1j (a:=c.body[i]) (hba _ (List.getElem_mem hlt)).1 (hba _ (List.getElem_mem hlt)).2
  rw[z3x] at hpa
  generalize c.body[i]=x at *
  simp only[go_sem,k6w,q2,q3,q17,q18,q19,hB,z1i,f1,hix,z0a hpa]
  rw[show [AV.agg [.str x.pred, .sl (x.args.map z0l) .no]]=[x].map z3x from rfl,z0j hB rfl ht z7h z7h (by simp only[List.length_map,List.length_singleton,List.length_take];omega),e8]
  simp only[go_sem,q2,q3,q17,q18,q19,hB,f2]
  refine⟨by simp[z1f,apart,z0i,z1d,z1h,AOp.isCall,hB,AV.ids,idsL,z0c z2q], ?_⟩
  exact hnx (c.body.length - (i + 1)) _ (by omega) ⟨i + 1,g1,g2,_,_,_,_,_,hlt,rfl,q2,q3,q17,q18,rfl,rfl, .inr (.inr ⟨_,rfl,rfl⟩)⟩
 ·have f1:decide ((i:Int) < (c.body.length:Int))=false:=by rw[decide_eq_false_iff_not];omega
  have hti:c.body.take i=c.body:=List.take_of_length_le (by omega)
  rw[hti]
  simp only[go_sem,k6w,q2,q3,q17,q18,q19,f1]
  refine he _ _ ?_
  simp only[go_sem,q2,q3,hB,z0n,z0m,z0g]
  rw[z2x rfl (by simp[AV.cv,cvL,AV.ids,idsL,z0c z2b,z0c z1y,z0c z2q,z0c z4w])]
  exact hT _
theorem y0a {ps:List Func} {u:Tip} (hl:ps.length≤1000) (hpa:∀ f∈ps,f.args.length≤2 ^ 20):Pure Gam 38 [.sl (ps.map z0q) u] (.sl (ps.map z0q) .no):=by
 refine Pure.of rfl u5t rfl rfl rfl (az:=[.sl (ps.map z0q) .no]) rfl (by simp[idsL,AV.ids,z0c z2j]) fun D B clk T hB hT=> ?_
 simp only[go_sem,u2e,List.length_map]
 refine z0y (fun m q=>∃ (i:Nat) (t:Tip) (a b o:AObj),i≤ps.length∧m=ps.length - i∧q.ts 3= .sl ((ps.take i).map z0q) t∧q.ts 6= .sl (ps.map z0q) .no∧q.ts 7= .int .i64 (ps.length:Int)∧q.ts 8= .int .i64 (i:Int)∧q.h=D++[a,b,o]∧z8k B 2 o t 3) ps.length ⟨0, .nil,_,_,_,by omega,rfl,rfl,rfl,rfl,rfl,rfl, .inl rfl⟩ ?_
 rintro m ⟨ts,h,clk⟩ P ⟨i,t,a,b,o,hi,rfl,q3,q6,q7,q8,rfl,ht⟩ hnx he hr
 dsimp only at q3 q6 q7 q8
 by_cases hlt:i < ps.length
 ·have f1:decide ((i:Int) < (ps.length:Int))=true:=by rw[decide_eq_true_iff];omega
  have f2:IntKind.i64.wrap ((i:Int) + 1)=((i + 1:Nat):Int):=z0d (by omega) (by omega)
  have hix:=fun h=>z6g (l:=ps) (i:=i) (h:=h) (t:= .no) (k:= .i64) hlt
  have e8:(ps.take i).map z0q++[ps[i]].map z0q=(ps.take (i + 1)).map z0q:=by rw[List.take_succ_eq_append_getElem hlt,List.map_append]
  have hpf:=hpa _ (List.getElem_mem hlt)
  generalize ps[i]=f at *
  simp only[go_sem,k6v,q3,q6,q7,q8,hB,f1,hix,z0a (w9y hpf)]
  rw[show [AV.agg [.str f.name, .sl (f.args.map nat) .no, .int .i64 (f.result:Int)]]=[f].map z0q from rfl,z0j hB rfl ht z4o z4o (by simp only[List.length_map,List.length_singleton,List.length_take];omega),e8]
  simp only[go_sem,q3,q6,q7,q8,f2]
  exact hnx (ps.length - (i + 1)) _ (by omega) ⟨i + 1,_,_,_,_,hlt,rfl,rfl,q6,q7,rfl,rfl, .inr (.inr ⟨_,rfl,rfl⟩)⟩
 ·have f1:decide ((i:Int) < (ps.length:Int))=false:=by rw[decide_eq_false_iff_not];omega
  have hti:ps.take i=ps:=List.take_of_length_le (by omega)
  rw[hti] at q3
  simp only[go_sem,k6v,q3,q6,q7,q8,f1]
  refine he _ _ ?_
  simp only[go_sem,q3]
  rw[z2x rfl (by simp[AV.cv,AV.ids,z0c z2j])]
  exact hT _
def z2k (x:Tf) (ps:List Func):List Func:=ps.filter fun f=> !(decide (f.name∈x.un) || decide (f.name∈x.und))
def z6r (x:Tf) (cs:List Clause):List Clause:=cs.filter fun c=>decide (z5d x.un x.und c=some true)
def z7v (x:Tf) (s:Sys):Sys:=⟨z2k x s.preds,z6r x s.clauses⟩
theorem q6h {un und:List (List Nat)}:∀ {cs pre kc:List Clause} {out res:List Nat},(out.map fun i=>(pre++cs)[i]?)=kc.map some→z6m un und cs pre.length out=some res→(res.map fun i=>(pre++cs)[i]?)=(kc++cs.filter fun c=>decide (z5d un und c=some true)).map some
 | [],pre,kc,out,res,h,hk=>by
   simp only[z6m] at hk
   injection hk with hk
   subst hk
   simpa using h
 | c::cs,pre,kc,out,res,h,hk=>by
   have e:pre++c::cs=(pre++[c])++cs:=by simp
   have hl:(pre++[c]).length=pre.length + 1:=by simp
   rw[z6m] at hk
   cases hc:z5d un und c with
   | none=>rw[hc] at hk;cases hk
   | some b=>
     rw[hc] at hk
     rw[e] at h⊢
     cases b with
     | true=>
       dsimp only at hk
       rw[←hl] at hk
       have:=q6h (kc:=kc++[c]) (by rw[List.map_append,List.map_append,h];congr 1;simp) hk
       rw[this]
       simp[List.filter_cons,hc]
     | false=>
       dsimp only at hk
       rw[←hl] at hk
       have:=q6h (kc:=kc) h hk
       rw[this]
       simp[List.filter_cons,hc]
theorem k7u {x:Tf} {cs:List Clause} {out:List Nat} (h:z6m x.un x.und cs 0 []=some out):(out.map fun i=>cs[i]?)=(z6r x cs).map some:=by
 have:=q6h (un:=x.un) (und:=x.und) (cs:=cs) (pre:=[]) (kc:=[]) (out:=[]) (res:=out) rfl h
 simpa [z6r] using this
structure SmallC (c:Clause):Prop where
 body:c.body.length≤2 ^ 20
 bargs:∀ a∈c.body,a.args.length≤2 ^ 20∧∀ t∈a.args,t.length≤2 ^ 20
 hargs:c.head.args.length≤2 ^ 20∧∀ t∈c.head.args,t.length≤2 ^ 20
 vars:c.vars.length≤2 ^ 20
 guard:c.guard.length≤2 ^ 20
theorem k7v {ps:List Func} {x:Tf} {B clk g0 gx gr g8:Nat} {D:List AObj} {v6 s0 rr:AV} {o4 o5 o6 o7 o8:AObj} {ts:Tmps} {ks:List Kf} {Q:Post} (hB:D.length=B) (hpl:ps.length≤1000) (hx:TfOk x) (h2:ts 2= .ptr (B + 0) g0 0 0) (h3:ts 3= .ptr (B + 1) gx 0 0) (h4:ts 4= .ptr (B + 2) gr 0 0) (h6:ts 6=v6) (h8:ts 8= .ptr (B + 3) g8 0 0) (h25:ts 25= .sl (ps.map z0q) .no) (h26:ts 26= .int .i64 (ps.length:Int)) (h27:ts 27= .int .i64 0)
  (hQ:∀ (ts':Tmps) (t:Tip) (o4 o5 o6 o7 o8:AObj) (clk':Nat),ts' 2= .ptr (B + 0) g0 0 0→ts' 3= .ptr (B + 1) gx 0 0→ts' 4= .ptr (B + 2) gr 0 0→ts' 6=v6→ts' 8= .ptr (B + 3) g8 0 0→K Gam B (.exit 0) ks ⟨ts',D++[.blk g0 [s0] false false 0, .blk gx [eTf x] false false 0, .blk gr [rr] false false 0, .blk g8 [.agg [.sl ((z2k x ps).map z0q) t, .sl [] .nil]] false false 0,o4,o5,o6,o7,o8],clk'⟩ Q):
  K Gam B (.loop j6t) ks ⟨ts,D++[.blk g0 [s0] false false 0, .blk gx [eTf x] false false 0, .blk gr [rr] false false 0, .blk g8 [.agg [.sl [] .nil, .sl [] .nil]] false false 0,o4,o5,o6,o7,o8],clk⟩ Q:=by
 refine z0y (fun m q=>∃ (i:Nat) (t:Tip) (o4 o5 o6 o7 o8:AObj),i≤ps.length∧m=ps.length - i∧q.ts 2= .ptr (B + 0) g0 0 0∧q.ts 3= .ptr (B + 1) gx 0 0∧q.ts 4= .ptr (B + 2) gr 0 0∧q.ts 6=v6∧q.ts 8= .ptr (B + 3) g8 0 0∧q.ts 25= .sl (ps.map z0q) .no∧q.ts 26= .int .i64 (ps.length:Int)∧q.ts 27= .int .i64 (i:Int)∧q.h=D++[.blk g0 [s0] false false 0, .blk gx [eTf x] false false 0, .blk gr [rr] false false 0, .blk g8 [.agg [.sl ((z2k x (ps.take i)).map z0q) t, .sl [] .nil]] false false 0,o4,o5,o6,o7,o8]∧z8k B 6 o6 t 3) ps.length ⟨0, .nil,o4,o5,o6,o7,o8,by omega,rfl,h2,h3,h4,h6,h8,h25,h26,h27,rfl, .inl rfl⟩ ?_
 clear h2 h3 h4 h6 h8 h25 h26 h27
 rintro m ⟨ts,h,clk⟩ P ⟨i,t,o4,o5,o6,o7,o8,hi,rfl,q2,q3,q4,q6,q8,q25,q26,q27,rfl,ht⟩ hnx he hr
 dsimp only at q2 q3 q4 q6 q8 q25 q26 q27
 by_cases hlt:i < ps.length
 ·have f1:decide ((i:Int) < (ps.length:Int))=true:=by rw[decide_eq_true_iff];omega
  have f2:IntKind.i64.wrap ((i:Int) + 1)=((i + 1:Nat):Int):=z0d (by omega) (by omega)
  have hix:=fun h=>z6g (l:=ps) (i:=i) (h:=h) (t:= .no) (k:= .i64) hlt
  have hkp:z2k x (ps.take (i + 1))=z2k x (ps.take i)++(if (decide (ps[i].name∈x.un) || decide (ps[i].name∈x.und))=true then [] else [ps[i]]):=by
   unfold z2k
   rw[List.take_succ_eq_append_getElem hlt,List.filter_append]
   congr 1
   cases hb:(decide (ps[i].name∈x.un) || decide (ps[i].name∈x.und)) <;> simp only[List.filter_cons,List.filter_nil,hb,Bool.not_false,Bool.not_true,if_true,Bool.false_eq_true,if_false]
  have hkl:(z2k x (ps.take i)).length≤1000:=by
   have:=List.length_filter_le (fun f:Func=> !(decide (f.name∈x.un) || decide (f.name∈x.und))) (ps.take i)
   rw[List.length_take] at this
   unfold z2k
   omega
  generalize ps[i]=f at *
  have p1:=k2b (x:=x) (a:=f.name) hx
  rw[eTf] at p1
  cases hb:(decide (f.name∈x.un) || decide (f.name∈x.und)) with
  | true=>
    rw[hb] at p1
    rw[hb,if_pos rfl,List.append_nil] at hkp
    simp only[go_sem,j6t,q2,q3,q4,q6,q8,q25,q26,q27,hB,f1,hix,eTf,z0a p1,Bool.not_true,f2]
    rw[←hkp]
    exact hnx (ps.length - (i + 1)) _ (by omega) ⟨i + 1,t,_,_,_,_,_,hlt,rfl,q2,q3,q4,q6,q8,q25,q26,rfl,rfl,ht⟩
  | false=>
    rw[hb] at p1
    rw[hb,if_neg (by simp)] at hkp
    have e8:(z2k x (ps.take i)).map z0q++[f].map z0q=(z2k x (ps.take (i + 1))).map z0q:=by rw[hkp,List.map_append]
    simp only[go_sem,j6t,q2,q3,q4,q6,q8,q25,q26,q27,hB,f1,hix,eTf,z0a p1,Bool.not_false]
    rw[show [AV.agg [.str f.name, .sl (f.args.map nat) .no, .int .i64 (f.result:Int)]]=[f].map z0q from rfl,z0j hB rfl ht z4o z4o (by simp only[List.length_map,List.length_singleton];omega),e8]
    simp only[go_sem,q2,q3,q4,q6,q8,q25,q26,q27,hB,f2]
    exact hnx (ps.length - (i + 1)) _ (by omega) ⟨i + 1,_,_,_,_,_,_,hlt,rfl,q2,q3,q4,q6,q8,q25,q26,rfl,rfl, .inr (.inr ⟨_,rfl,rfl⟩)⟩
 ·have f1:decide ((i:Int) < (ps.length:Int))=false:=by rw[decide_eq_false_iff_not];omega
  have hti:ps.take i=ps:=List.take_of_length_le (by omega)
  simp only[go_sem,j6t,q2,q3,q4,q6,q8,q25,q26,q27,f1]
  refine he _ _ ?_
  rw[hti]
  exact hQ _ t _ _ _ _ _ _ (by simp[z0b,q2]) (by simp[z0b,q3]) (by simp[z0b,q4]) (by simp[z0b,q6]) (by simp[z0b,q8])
theorem j6z {cs kc:List Clause} {out:List Nat} {pv:List AV} {tp:Tip} {B clk g0 g8 gr:Nat} {D:List AObj} {pp rr:AV} {o1 o4 o5 o6 o7 o8:AObj} {ts:Tmps} {ks:List Kf} {Q:Post} (hB:D.length=B) (hcl:out.length≤2 ^ 18) (hat:(out.map fun i=>cs[i]?)=kc.map some) (hbl:∀ c∈cs,SmallC c) (h2:ts 2= .ptr (B + 0) g0 0 0) (h4:ts 4= .ptr (B + 2) gr 0 0) (h8:ts 8= .ptr (B + 3) g8 0 0) (h43:ts 43= .sl (out.map nat) .no) (h44:ts 44= .int .i64 (out.length:Int)) (h45:ts 45= .int .i64 0)
  (hQ:∀ (ts':Tmps) (t:Tip) (o4 o5 o6 o7 o8:AObj) (clk':Nat),ts' 4= .ptr (B + 2) gr 0 0→ts' 8= .ptr (B + 3) g8 0 0→K Gam B (.exit 2) ks ⟨ts',D++[.blk g0 [.agg [pp, .sl (cs.map z0f) .no]] false false 0,o1, .blk gr [rr] false false 0, .blk g8 [.agg [.sl pv tp, .sl (kc.map z0f) t]] false false 0,o4,o5,o6,o7,o8],clk'⟩ Q):
  K Gam B (.loop j6s) ks ⟨ts,D++[.blk g0 [.agg [pp, .sl (cs.map z0f) .no]] false false 0,o1, .blk gr [rr] false false 0, .blk g8 [.agg [.sl pv tp, .sl [] .nil]] false false 0,o4,o5,o6,o7,o8],clk⟩ Q:=by
 have hlen:out.length=kc.length:=by simpa using congrArg List.length hat
 refine z0y (fun m q=>∃ (i:Nat) (t:Tip) (o4 o5 o6 o7 o8:AObj),i≤out.length∧m=out.length - i∧q.ts 2= .ptr (B + 0) g0 0 0∧q.ts 4= .ptr (B + 2) gr 0 0∧q.ts 8= .ptr (B + 3) g8 0 0∧q.ts 43= .sl (out.map nat) .no∧q.ts 44= .int .i64 (out.length:Int)∧q.ts 45= .int .i64 (i:Int)∧q.h=D++[.blk g0 [.agg [pp, .sl (cs.map z0f) .no]] false false 0,o1, .blk gr [rr] false false 0, .blk g8 [.agg [.sl pv tp, .sl ((kc.take i).map z0f) t]] false false 0,o4,o5,o6,o7,o8]∧z8k B 8 o8 t 5) out.length ⟨0, .nil,o4,o5,o6,o7,o8,by omega,rfl,h2,h4,h8,h43,h44,h45,rfl, .inl rfl⟩ ?_
 clear h2 h4 h8 h43 h44 h45
 rintro m ⟨ts,h,clk⟩ P ⟨i,t,o4,o5,o6,o7,o8,hi,rfl,q2,q4,q8,q43,q44,q45,rfl,ht⟩ hnx he hr
 dsimp only at q2 q4 q8 q43 q44 q45
 by_cases hlt:i < out.length
 ·have f1:decide ((i:Int) < (out.length:Int))=true:=by rw[decide_eq_true_iff];omega
  have f2:IntKind.i64.wrap ((i:Int) + 1)=((i + 1:Nat):Int):=z0d (by omega) (by omega)
  have hki:i < kc.length:=by omega
  have hci:cs[out[i]]? =some kc[i]:=by
   have:=congrArg (fun l=>l[i]?) hat
   simpa [hlt,hki] using this
  have hol:out[i] < cs.length:=by
   rw[List.getElem?_eq_some_iff] at hci
   exact hci.1
  have hce:cs[out[i]]=kc[i]:=by
   rw[List.getElem?_eq_some_iff] at hci
   exact hci.2
  have hix1:∀ h,z1m h 1 (.sl (out.map nat) .no) (.int .i64 (i:Int))=some (.iptr [.int .i64 (out[i]:Int)] 0,h):=fun h=>z2f hlt rfl rfl
  have hix2:=fun h=>z8l (l:=cs) (i:=out[i]) (h:=h) (t:= .no) (k:= .i64) hol
  rw[hce] at hix2
  have e8:(kc.take i).map z0f++[kc[i]].map z0f=(kc.take (i + 1)).map z0f:=by rw[List.take_succ_eq_append_getElem hki,List.map_append]
  have hb:=hbl _ (List.mem_of_getElem? hci)
  have hp:=w9z (c:=kc[i]) hb.body hb.bargs hb.hargs hb.vars hb.guard
  rw[z0f,z0l] at hp
  generalize out[i]=j at *
  generalize kc[i]=c at *
  simp only[go_sem,j6s,q2,q4,q8,q43,q44,q45,hB,z1i,f1,hix1,hix2,z0a hp]
  rw[show [AV.agg [.sl (c.vars.map z1b) .no, .sl (c.body.map z3x) .no, .sl (c.guard.map eNode) .no, .str c.head.pred, .sl (c.head.args.map z0l) .no]]=[c].map z0f from rfl,z0j hB rfl ht z3l z3l (by simp only[List.length_map,List.length_singleton,List.length_take];omega),e8]
  simp only[go_sem,q2,q4,q8,q43,q44,q45,hB,f2]
  refine⟨by simp[z1f,apart,z0i,z1d,z1h,AOp.isCall,hB,AV.ids,idsL,z0c z2q,z0c z2b,z0c z4w,z0c z1y,z0c z1z], ?_⟩
  exact hnx (out.length - (i + 1)) _ (by omega) ⟨i + 1,_,_,_,_,_,_,hlt,rfl,q2,q4,q8,q43,q44,rfl,rfl, .inr (.inr ⟨_,rfl,rfl⟩)⟩
 ·have f1:decide ((i:Int) < (out.length:Int))=false:=by rw[decide_eq_false_iff_not];omega
  have hti:kc.take i=kc:=List.take_of_length_le (by omega)
  simp only[go_sem,j6s,q2,q4,q8,q43,q44,q45,f1]
  refine he _ _ ?_
  rw[hti]
  exact hQ _ t _ _ _ _ _ _ (by simp[z0b,q4]) (by simp[z0b,q8])
theorem x0j {un und:List (List Nat)}:∀ {cs:List Clause} {i:Nat} {out res:List Nat},z6m un und cs i out=some res→res.length≤out.length + cs.length
 | [],i,out,res,h=>by
   simp only[z6m] at h
   injection h with h
   subst h
   simp
 | c::cs,i,out,res,h=>by
   rw[z6m] at h
   cases hc:z5d un und c with
   | none=>rw[hc] at h;cases h
   | some b=>
     rw[hc] at h
     cases b with
     | true=>
       have:=x0j h
       simp at this⊢
       omega
     | false=>
       have:=x0j h
       simp at this⊢
       omega
theorem AppOk.len {ps:List Func} {V:List Var} {a:App} (h:AppOk ps V a) (hp:PrOk ps):a.args.length≤2 ^ 20∧∀ t∈a.args,t.length≤2 ^ 20:=by
 obtain⟨f,hf,_,hl,hz⟩:=h
 have h40:=(hp.args f hf).1
 refine⟨by omega,fun t ht=> ?_⟩
 obtain⟨i,hi,rfl⟩:=List.getElem_of_mem ht
 have hif:i < f.args.length:=by omega
 have hm:(f.args[i],a.args[i])∈f.args.zip a.args:=by
  have:(f.args.zip a.args)[i]? =some (f.args[i],a.args[i]):=by simp[List.getElem?_zip_eq_some,hif,hi]
  exact List.mem_of_getElem? this
 have:=(hz _ hm).2.1
 dsimp only at this
 omega
theorem SysV.sizes {s:Sys} (hs:SysV s):∀ c∈s.clauses,SmallC c:=fun c hc=>by
 obtain⟨hv,hb,hba,hg,hh⟩:=hs.clauses c hc
 refine⟨by omega,fun a ha=>(hba a ha).len hs.pr, ?_,by have:c.vars.length≤8:=hv.length_le;omega,by have:=hg.2.1;omega⟩
 rcases hh with ⟨_,h⟩ | h
 ·rw[h];simp
 ·exact h.len hs.pr
theorem y0b {s:Sys} {x:Tf} {out:List Nat} (hs:SysV s) (hx:TfOk x) (hk:x.kind=2) (h1:x.pred=[]) (h2:x.into=[]) (h3:x.clause=0) (h4:x.atom=0) (h7:x.drops=[]) (hnd:(x.un++x.und).Nodup) (hin:∀ a∈x.un++x.und,a∈s.preds.map (·.name)) (hl:(x.un++x.und).length≤2 ^ 18) (hkept:z6m x.un x.und s.clauses 0 []=some out):Pure Gam 16 [z0x s,eTf x] (.tup [z0x (z7v x s), .int .i64 0]):=by
 have hp:=w9x hs hx hk h1 h2 h3 h4 h7 hnd hin hl hkept
 have hpl:s.preds.length≤5:=hs.preds.length_le
 have hcl:=hs.len
 have hol:=x0j hkept
 simp only[List.length_nil] at hol
 have hp38:=y0a (ps:=s.preds) (u:= .no) (by omega) fun f hf=>by have:=(hs.pr.args f hf).1;omega
 rw[z0x,eTf] at hp
 refine Pure.of rfl u1u rfl rfl rfl (az:=[z0x s,eTf x]) rfl (by simp[idsL,z2c,z6y hx]) fun D B clk T hB hT=> ?_
 simp only[go_sem,y7t,hB,z0x,eTf,z0a hp,Int.reduceEq,decide_true,Bool.not_true,z0a hp38,List.length_map]
 refine k7v (ps:=s.preds) (x:=x) (g0:=clk) (gx:=clk + 1) (gr:=clk + 2) (v6:= .sl (out.map nat) .no) hB (by omega) hx (by simp[z0b]) (by simp[z0b]) (by simp[z0b]) (by simp[z0b]) (by simp[z0b]) (by simp[z0b]) (by simp[z0b]) (by simp[z0b]) fun ts1 t1 o4 o5 o6 o7 o8 clk1 r2 r3 r4 r6 r8=> ?_
 simp only[go_sem,r6,List.length_map]
 refine j6z (cs:=s.clauses) (kc:=z6r x s.clauses) (out:=out) (g0:=clk) (gr:=clk + 2) hB (by omega) (k7u hkept) hs.sizes (by simp[z0b,r2]) (by simp[z0b,r4]) (by simp[z0b,r8]) (by simp[z0b]) (by simp[z0b]) (by simp[z0b]) fun ts2 t2 o4 o5 o6 o7 o8 clk2 q4 q8=> ?_
 simp only[go_sem,q4,q8,hB,z0n,z0m,z0g]
 rw[z0h rfl (by simp[z1k,AV.cv,cvL,AV.ids,idsL,z0c z2j,z0c z1z])]
 exact hT _
section
variable {s:Sys}
abbrev DS (s:Sys):List Nat→Prop:=Der s.clauses
abbrev NS (s:Sys):List Nat→Prop:=Need s.clauses (Der s.clauses)
def names (s:Sys):List (List Nat):=s.preds.map (·.name)
theorem AppOk.name {ps:List Func} {V:List Var} {a:App} (h:AppOk ps V a):a.pred∈ps.map (·.name):=by
 obtain⟨f,hf,hn,_⟩:=h
 rw[hn]
 exact List.mem_map.2 ⟨f,hf,rfl⟩
theorem SysV.body (hs:SysV s) {c:Clause} (hc:c∈s.clauses) {a:App} (ha:a∈c.body):a.pred∈names s:=((hs.clauses c hc).2.2.1 a ha).name
theorem SysV.head (hs:SysV s) {c:Clause} (hc:c∈s.clauses):c.head.pred=[]∨c.head.pred∈names s:=by
 obtain⟨_,_,_,_,hh⟩:=hs.clauses c hc
 rcases hh with ⟨h,_⟩ | h
 ·exact .inl h
 ·exact .inr h.name
theorem Need.name (hs:SysV s) {a:List Nat} (h:NS s a):a∈names s:=by
 cases h with
 | query hc _ _ ha=>exact hs.body hc ha
 | of hc _ _ ha=>exact hs.body hc ha
theorem k2m (hs:SysV s):((z2s s).un++(z2s s).und).length≤10:=by
 have h1:(z2s s).un.length≤s.preds.length:=by
  unfold z2s
  exact Nat.le_trans (List.length_filter_le _ _) (by rw[List.length_map];exact Nat.le_refl _)
 have h2:(z2s s).und.length≤s.preds.length:=by
  unfold z2s
  exact Nat.le_trans (List.length_filter_le _ _) (by rw[List.length_map];exact Nat.le_refl _)
 have h3:s.preds.length≤5:=hs.preds.length_le
 rw[List.length_append]
 omega
end
theorem j0x {n:Nat} (h1:1≤n) (h4:n≤4):Pure Gam 191 [nat n] (.bool true):=by
 refine Pure.of rfl y5e rfl rfl rfl rfl rfl fun D B clk T hB hT=> ?_
 have e1:decide ((1:Int)≤(n:Int))=true:=by rw[decide_eq_true_iff];omega
 have e2:decide ((n:Int)≤(4:Int))=true:=by rw[decide_eq_true_iff];omega
 simp only[go_sem,w5k,nat,e1,e2]
 rw[z0e]
 exact hT _
theorem k2n {n:Nat}:Pure Gam 334 [nat n] (.bool (decide (n=2∨n=3))):=by
 refine Pure.of rfl y5d rfl rfl rfl rfl rfl fun D B clk T hB hT=> ?_
 by_cases h2:n=2
 ·subst h2
  simp only[go_sem,v5j,nat,Int.cast_ofNat_Int,decide_true]
  rw[z0e]
  exact hT _
 ·have e1:decide ((n:Int)=(2:Int))=false:=by rw[decide_eq_false_iff_not];omega
  have e2:decide ((n:Int)=(3:Int))=decide (n=2∨n=3):=by rw[decide_eq_decide];omega
  simp only[go_sem,v5j,nat,e1,e2]
  rw[z0e]
  exact hT _
theorem v8m {ss:List Nat} {s o:Nat} {u:Tip} (hl:ss.length≤2 ^ 20) (h:∀ x∈ss,x=s):Pure Gam 333 [.sl (ss.map nat) u,nat s,nat o] (nat o):=by
 refine Pure.of rfl y5c rfl rfl rfl (az:=[.sl (ss.map nat) .no,nat s,nat o]) rfl (by simp[idsL,AV.ids,z0c (fun _=>z3c),z3c]) fun D B clk T hB hT=> ?_
 simp only[go_sem,w5j,nat,hB]
 refine z0y (fun m q=>∃ i:Nat,i≤ss.length∧m=ss.length - i∧q.ts 0= .sl (ss.map nat) .no∧q.ts 1=nat s∧q.ts 2=nat o∧q.ts 7= .int .i64 (i:Int)∧q.h=D) ss.length ⟨0,Nat.zero_le _,by omega,rfl,rfl,rfl,rfl,by simp⟩ ?_
 rintro m ⟨ts,h',clk'⟩ Pq ⟨i,hi,rfl,q0,q1,q2,q7,rfl⟩ hnx he hr
 dsimp only at q0 q1 q2 q7
 by_cases hlt:i < ss.length
 ·have f1:decide ((i:Int) < (ss.length:Int))=true:=by rw[decide_eq_true_iff];omega
  have f2:IntKind.i64.wrap ((i:Int) + 1)=((i + 1:Nat):Int):=z0d (by omega) (by omega)
  have f3:ss[i]=s:=h _ (List.getElem_mem hlt)
  simp only[go_sem,j2u,q0,q1,q2,q7,nat,List.length_map,f1,q9k hlt,f3,decide_true,Bool.not_true,f2]
  exact hnx (ss.length - (i + 1)) _ (by omega) ⟨i + 1,hlt,rfl,q0,q1,q2,rfl,rfl⟩
 ·have f1:decide ((i:Int) < (ss.length:Int))=false:=by rw[decide_eq_false_iff_not];omega
  simp only[go_sem,j2u,q0,q1,q2,q7,List.length_map,f1]
  refine he _ _ ?_
  simp only[go_sem,q2]
  rw[z0h rfl rfl]
  exact hT _
theorem v8n {V:List Var} {n:Node} {ss:List Nat} {s:Nat} {ks:Term} (hn:NodeOk V n ss s ks) (hk:n.kids=ss.length):Pure Gam 297 [nat n.op,nat n.kids] (.bool true):=by
 refine Pure.of rfl y5a rfl rfl rfl rfl rfl fun D B clk T hB hT=> ?_
 have e0:∀ k:Nat,decide ((0:Int)≤(k:Int))=true:=fun k=>by rw[decide_eq_true_iff];omega
 have e1:∀ k:Nat,1≤k→decide ((1:Int)≤(k:Int))=true:=fun k h=>by rw[decide_eq_true_iff];omega
 cases hn with
 | bool h=>rcases h with rfl | rfl <;> (simp only[go_sem,q1v,nat,bare,Int.cast_ofNat_Int,Int.reduceEq,decide_true,decide_false];rw[z0e];exact hT _)
 | int h=>simp only[go_sem,q1v,nat,Int.cast_ofNat_Int,Int.reduceEq,decide_true,decide_false];rw[z0e];exact hT _
 | real h=>simp only[go_sem,q1v,nat,Int.cast_ofNat_Int,Int.reduceEq,decide_true,decide_false];rw[z0e];exact hT _
 | var h=>simp only[go_sem,q1v,nat,Int.cast_ofNat_Int,Int.reduceEq,decide_true,decide_false];rw[z0e];exact hT _
 | not=>simp only[go_sem,q1v,nat,bare,Int.cast_ofNat_Int,Int.reduceEq,decide_true,decide_false];rw[z0e];exact hT _
 | andor h=>rcases h with rfl | rfl <;> (simp only[go_sem,q1v,nat,bare,Int.cast_ofNat_Int,Int.reduceEq,decide_true,decide_false,e0];rw[z0e];exact hT _)
 | imp=>simp only[go_sem,q1v,nat,bare,Int.cast_ofNat_Int,Int.reduceEq,decide_true,decide_false];rw[z0e];exact hT _
 | ite h1 h2=>simp only[go_sem,q1v,nat,bare,Int.cast_ofNat_Int,Int.reduceEq,decide_true,decide_false];rw[z0e];exact hT _
 | eq h1 h2=>simp only[go_sem,q1v,nat,bare,Int.cast_ofNat_Int,Int.reduceEq,decide_true,decide_false];rw[z0e];exact hT _
 | cmp h hs=>rcases h with rfl | rfl <;> (simp only[go_sem,q1v,nat,bare,Int.cast_ofNat_Int,Int.reduceEq,decide_true,decide_false];rw[z0e];exact hT _)
 | add h hs=>simp only[go_sem,q1v,nat,bare,Int.cast_ofNat_Int,Int.reduceEq,decide_true,decide_false,e1 _ h];rw[z0e];exact hT _
 | mul hs hn=>simp only[go_sem,q1v,nat,bare,Int.cast_ofNat_Int,Int.reduceEq,decide_true,decide_false];rw[z0e];exact hT _
 | div h h1 h2=>rcases h with rfl | rfl <;> (simp only[go_sem,q1v,nat,Int.cast_ofNat_Int,Int.reduceEq,decide_true,decide_false];rw[z0e];exact hT _)
 | select=>simp only[go_sem,q1v,nat,bare,Int.cast_ofNat_Int,Int.reduceEq,decide_true,decide_false];rw[z0e];exact hT _
 | store=>simp only[go_sem,q1v,nat,bare,Int.cast_ofNat_Int,Int.reduceEq,decide_true,decide_false];rw[z0e];exact hT _
 | const=>simp only[go_sem,q1v,nat,bare,Int.cast_ofNat_Int,Int.reduceEq,decide_true,decide_false];rw[z0e];exact hT _
theorem v8o {V:List Var} {n:Node} {ss:List Nat} {s fi:Nat} {ks:Term} {u:Tip} (hn:NodeOk V n ss s ks) (hl:ss.length≤2 ^ 20) (hf:n.op=15→fi=3):Pure Gam 298 [eNode n,nat fi, .sl (ss.map nat) u] (nat s):=by
 refine Pure.of rfl y5b rfl rfl rfl (az:=[eNode n,nat fi, .sl (ss.map nat) .no]) rfl (by simp[idsL,AV.ids,z0c (fun _=>z3c),z3c,eNode]) fun D B clk T hB hT=> ?_
 have sm:∀ (x o:Nat),(∀ y∈ss,y=x)→Pure Gam 333 [.sl (ss.map nat) .no, .int .i64 (x:Int), .int .i64 (o:Int)] (.int .i64 (o:Int)):=fun x o h=>v8m hl h
 cases hn with
 | bool h=>rcases h with rfl | rfl <;> (simp only[go_sem,q1w,hB,eNode,nat,bare,Int.cast_ofNat_Int,Int.reduceEq,decide_true,decide_false];rw[z0h rfl rfl];exact hT _)
 | int h=>simp only[go_sem,q1w,hB,eNode,nat,Int.cast_ofNat_Int,Int.reduceEq,decide_true,decide_false];rw[z0h rfl rfl];exact hT _
 | real h=>simp only[go_sem,q1w,hB,eNode,nat,Int.cast_ofNat_Int,Int.reduceEq,decide_true,decide_false];rw[z0h rfl rfl];exact hT _
 | var h=>simp only[go_sem,q1w,hB,eNode,nat,Int.cast_ofNat_Int,Int.reduceEq,decide_true,decide_false];rw[z0h rfl rfl];exact hT _
 | not=>
   have p:=sm 1 1 (by simp)
   simp only[List.map_cons,List.map_nil,nat,Int.cast_ofNat_Int] at p
   simp only[go_sem,q1w,hB,eNode,nat,bare,Int.cast_ofNat_Int,Int.reduceEq,decide_true,decide_false,z0a p];rw[z0h rfl rfl];exact hT _
 | andor h=>
   have p:=sm 1 1 (by simp)
   simp only[List.map_replicate,nat,Int.cast_ofNat_Int] at p
   rcases h with rfl | rfl <;> (simp only[go_sem,q1w,hB,eNode,nat,bare,Int.cast_ofNat_Int,Int.reduceEq,decide_true,decide_false,List.map_replicate,z0a p];rw[z0h rfl rfl];exact hT _)
 | imp=>
   have p:=sm 1 1 (by simp)
   simp only[List.map_cons,List.map_nil,nat,Int.cast_ofNat_Int] at p
   simp only[go_sem,q1w,hB,eNode,nat,bare,Int.cast_ofNat_Int,Int.reduceEq,decide_true,decide_false,z0a p];rw[z0h rfl rfl];exact hT _
 | @ite s ks h1 h2=>simp only[go_sem,q1w,hB,eNode,nat,bare,Int.cast_ofNat_Int,Int.reduceEq,decide_true,decide_false,z2n,q0n,q9x];rw[z0h rfl rfl];exact hT _
 | @eq s ks h1 h2=>
   have p:=sm s 1 (by simp)
   simp only[List.map_cons,List.map_nil,nat,Int.cast_ofNat_Int] at p
   simp only[go_sem,q1w,hB,eNode,nat,bare,Int.cast_ofNat_Int,Int.reduceEq,decide_true,decide_false,z2n,z0a p];rw[z0h rfl rfl];exact hT _
 | @cmp o s ks h hs=>
   have p:=sm s 1 (by simp)
   have q:=k2n (n:=s)
   rw[show decide (s=2∨s=3)=true from decide_eq_true hs] at q
   simp only[List.map_cons,List.map_nil,nat,Int.cast_ofNat_Int] at p q
   rcases h with rfl | rfl <;> (simp only[go_sem,q1w,hB,eNode,nat,bare,Int.cast_ofNat_Int,Int.reduceEq,decide_true,decide_false,z2n,z0a q,z0a p];rw[z0h rfl rfl];exact hT _)
 | @add k s ks h hs=>
   obtain⟨k,rfl⟩:∃ j,k=j + 1:=⟨k - 1,by omega⟩
   have p:=sm s s (by simp)
   have q:=k2n (n:=s)
   rw[show decide (s=2∨s=3)=true from decide_eq_true hs] at q
   simp only[List.replicate_succ,List.map_cons,List.map_replicate,nat,Int.cast_ofNat_Int] at p q
   simp only[go_sem,q1w,hB,eNode,nat,bare,Int.cast_ofNat_Int,Int.reduceEq,decide_true,decide_false,List.replicate_succ,List.map_cons,List.map_replicate,z2n,z0a q,z0a p];rw[z0h rfl rfl];exact hT _
 | @mul s m ks hs hm=>
   have p:=sm s s (by simp)
   obtain rfl:=hf rfl
   simp only[List.map_cons,List.map_nil,nat,Int.cast_ofNat_Int] at p
   simp only[go_sem,q1w,hB,eNode,nat,bare,Int.cast_ofNat_Int,Int.reduceEq,decide_true,decide_false,z2n,z0a p];rw[z0h rfl rfl];exact hT _
 | @div o k ks h h1 h2=>
   have p:=sm 2 2 (by simp)
   simp only[List.map_cons,List.map_nil,nat,Int.cast_ofNat_Int] at p
   rcases h with rfl | rfl <;> (simp only[go_sem,q1w,hB,eNode,nat,bare,Int.cast_ofNat_Int,Int.reduceEq,decide_true,decide_false,z0a p];rw[z0h rfl rfl];exact hT _)
 | select=>simp only[go_sem,q1w,hB,eNode,nat,bare,Int.cast_ofNat_Int,Int.reduceEq,decide_true,decide_false,z2n,q0n];rw[z0h rfl rfl];exact hT _
 | store=>simp only[go_sem,q1w,hB,eNode,nat,bare,Int.cast_ofNat_Int,Int.reduceEq,decide_true,decide_false,z2n,q0n,q9x];rw[z0h rfl rfl];exact hT _
 | const=>
   have p:=sm 2 4 (by simp)
   simp only[List.map_cons,List.map_nil,nat,Int.cast_ofNat_Int] at p
   simp only[go_sem,q1w,hB,eNode,nat,bare,Int.cast_ofNat_Int,Int.reduceEq,decide_true,decide_false,z0a p];rw[z0h rfl rfl];exact hT _
theorem x3g {B clk g4:Nat} {D:List AObj} {o0:AObj} {neg:Bool} {A R:List Nat} {v0:AV} {ts:Tmps} {ks:List Kf} {Q:Post} (hd:∀ c∈A,48≤c∧c≤57) (hl:A.length≤1000) (hB:D.length=B) (h0:ts 0=v0) (h4:ts 4= .ptr (B + 1) g4 0 0) (h5:ts 5= .str (A++47::R)) (h6:ts 6= .int .i64 0) {g2:Nat} (h2:ts 2= .ptr (B + 0) g2 0 0)
  (hQ:∀ (ts':Tmps) (clk':Nat),ts' 0=v0→ts' 2= .ptr (B + 0) g2 0 0→ts' 4= .ptr (B + 1) g4 0 0→ts' 5= .str A→K Gam B (.exit 0) ks ⟨ts',D++[o0, .blk g4 [.agg [.bool neg, .str [], .str R]] false false 0],clk'⟩ Q):K Gam B (.loop q7a) ks ⟨ts,D++[o0, .blk g4 [.agg [.bool neg, .str [], .str [49]]] false false 0],clk⟩ Q:=by
 refine z0y (fun m q=>∃ j:Nat,j≤A.length∧m=A.length - j∧q.ts 0=v0∧q.ts 2= .ptr (B + 0) g2 0 0∧q.ts 4= .ptr (B + 1) g4 0 0∧q.ts 5= .str (A++47::R)∧q.ts 6= .int .i64 (j:Int)∧q.h=D++[o0, .blk g4 [.agg [.bool neg, .str [], .str [49]]] false false 0]) A.length ⟨0,by omega,rfl,h0,h2,h4,h5,h6,rfl⟩ ?_
 clear h0 h2 h4 h5 h6
 rintro m ⟨ts,h,clk⟩ P ⟨j,hj,rfl,h0,h2,h4,h5,h6,rfl⟩ hn he hr
 dsimp only at h0 h2 h4 h5 h6
 have e1:decide ((j:Int) < ((A++47::R).length:Int))=true:=by rw[decide_eq_true_iff];simp;omega
 have e4:IntKind.i64.wrap ((j:Int) + 1)=((j + 1:Nat):Int):=z0d (by omega) (by omega)
 have hlt':j < (A++47::R).length:=by simp;omega
 by_cases hlt:j < A.length
 ·have hc:=hd A[j] (List.getElem_mem hlt)
  have e0:(A++47::R)[j]=A[j]:=List.getElem_append_left hlt
  have e2:decide ((A[j]:Int)=47)=false:=by rw[decide_eq_false_iff_not];omega
  simp only[go_sem,h0,h2,h4,h5,h6,q7a,e1,q1z hlt',e0,e2,e4]
  exact hn (A.length - (j + 1)) _ (by omega) ⟨j + 1,hlt,rfl,h0,h2,h4,h5,rfl,rfl⟩
 ·obtain rfl:j=A.length:=by omega
  have e0:(A++47::R)[A.length]=47:=by simp
  have e5:∀ h,slV h none (.str (A++47::R)) (some (.int .i64 ((A.length + 1:Nat):Int))) none none=some (.str R,h):=fun h=>by
   have h1:(0:Int)≤(A.length:Int) + 1:=by omega
   have h2:(A++47::R).take (A.length + (R.length + 1))=A++47::R:=List.take_of_length_le (by simp)
   have h3:(A++47::R).drop (A.length + 1)=R:=by rw[←List.drop_drop,List.drop_left];rfl
   simp[slV,z2v,z4v,h1,h2,h3]
  have e6:∀ h,slV h none (.str (A++47::R)) none (some (.int .i64 (A.length:Int))) none=some (.str A,h):=fun h=>by simp[slV,z2v,z4v]
  simp only[go_sem,h0,h2,h4,h5,h6,q7a,e1,q1z hlt',e0,e4,e5,e6,hB,z1i,Int.cast_ofNat_Int,decide_true]
  refine⟨by simp[z1f,apart,z0i,z1d,z1h,AOp.isCall,hB], ?_⟩
  refine he _ _ ?_
  exact hQ _ _ (by simp[z0b,h0]) (by simp[z0b,h2]) (by simp[z0b,h4]) (by simp[z0b,h5])
theorem k7w {z:Int} {d:Nat} (hl:(dec z.natAbs).length≤150) (h2:2≤d) (h4:d≤4) (hg:Nat.gcd z.natAbs d=1):Pure Gam 188 [.str (z3d z++47::dec d)] (.tup [x0y (decide (z < 0)) z.natAbs d, .bool true]):=by
 have hdn:=z1o z.natAbs
 have hdne:=z8v z.natAbs
 have hdig:q7b (dec z.natAbs):=⟨hdne,hdn⟩
 have hdig2:q7b (dec d):=⟨z8v d,z1o d⟩
 have hld:(dec d).length≤1:=by rw[z9q (by omega)];simp
 have hz0:z.natAbs≠0:=fun h=>by rw[h,Nat.gcd_zero_left] at hg;omega
 have hp1:Pure Gam 229 [.str (dec d)] (.bool true):=q6a hdig2 (by omega)
 have hp2:Pure Gam 230 [.str (dec d)] (.str (dec d)):=by have:=q2a hdig2;rwa [z2g] at this
 have hp3:Pure Gam 230 [.str (dec z.natAbs)] (.str (dec z.natAbs)):=by have:=q2a hdig;rwa [z2g] at this
 have hp4:∀ neg:Bool,Pure Gam 253 [.bool neg, .str (dec z.natAbs), .str (dec d)] (x0y neg z.natAbs d):=fun neg=>by
  have:=x4j (neg:=neg) (a:=z.natAbs) (b:=d) (by omega) hl (by omega)
  rw[hg,Nat.div_one,Nat.div_one] at this
  simpa [hz0] using this
 have hp5:∀ neg:Bool,Pure Gam 254 [x0y neg z.natAbs d] (.str (z4p neg z.natAbs d)):=fun neg=>x4k hl (by omega)
 have e1:decide (dec d=[48])=false:=by rw[decide_eq_false_iff_not,q3s];omega
 have e2:decide (dec z.natAbs=dec z.natAbs)=true:=by simp
 have e2':decide (dec d=dec d)=true:=by simp
 have hd1:dec d≠[49]:=fun h=>by rw[x2l] at h;omega
 refine Pure.of rfl w6v rfl rfl rfl rfl rfl fun D B clk T hB hT=> ?_
 by_cases hz:z < 0
 ·have he:z3d z=45::dec z.natAbs:=by rw[z3d,if_pos hz]
  have hdz:decide (z < 0)=true:=by simp[hz]
  rw[he,List.cons_append]
  simp only[go_sem,k1c,hB,z1i,Bool.not_false,z6b,Int.cast_ofNat_Int,q9n,decide_true,decide_false,Int.reduceEq]
  refine⟨by simp[z1f,apart,z0i,z1d,z1h,AOp.isCall,hB], ?_⟩
  refine x3g (v0:= .str (45::(dec z.natAbs++47::dec d))) hdn (by omega) hB rfl rfl rfl rfl rfl ?_
  intro ts2 clk2 q0 q2 q4 q5
  have e3:decide (z4p true z.natAbs d=45::(dec z.natAbs++47::dec d))=true:=by rw[decide_eq_true_iff];simp[z4p];omega
  simp only[go_sem,q0,q2,q4,q5,hB,z1i,z0a (q6a hdig (by omega)),z0a hp1,z0a hp2,z0a hp3,z0a (hp4 true),z0a (hp5 true),e1,e2,e2',e3,Bool.not_true,Bool.not_false,decide_true,decide_false]
  refine⟨by simp[z1f,apart,z0i,z1d,z1h,AOp.isCall,hB], ?_⟩
  rw[z0h rfl rfl]
  rw[hdz] at hT
  exact hT _
 ·have he:z3d z=dec z.natAbs:=by rw[z3d,if_neg hz]
  have hdz:decide (z < 0)=false:=by simp[hz]
  rw[he]
  obtain⟨c,t,hct⟩:=List.exists_cons_of_ne_nil hdne
  have hc:=hdn c (by rw[hct];exact List.mem_cons_self)
  have e0:decide (dec z.natAbs++47::dec d=[])=false:=by simp
  have e00:∀ h k,q4s h (.str (dec z.natAbs++47::dec d)) (.int k 0)=some (.int .u8 (c:Int),h):=fun h k=>by rw[hct];exact z6b
  have ec:decide ((c:Int)=45)=false:=by rw[decide_eq_false_iff_not];omega
  simp only[go_sem,k1c,hB,z1i,Bool.not_false,e0,e00,ec,Int.cast_ofNat_Int,decide_true,decide_false,Int.reduceEq]
  refine x3g (v0:= .str (dec z.natAbs++47::dec d)) hdn (by omega) hB rfl rfl rfl rfl rfl ?_
  intro ts2 clk2 q0 q2 q4 q5
  have e3:decide (z4p false z.natAbs d=dec z.natAbs++47::dec d)=true:=by rw[decide_eq_true_iff];simp[z4p];omega
  simp only[go_sem,q0,q2,q4,q5,hB,z1i,z0a (q6a hdig (by omega)),z0a hp1,z0a hp2,z0a hp3,z0a (hp4 false),z0a (hp5 false),e1,e2,e2',e3,Bool.not_true,Bool.not_false,decide_true,decide_false]
  refine⟨by simp[z1f,apart,z0i,z1d,z1h,AOp.isCall,hB], ?_⟩
  rw[z0h rfl rfl]
  rw[hdz] at hT
  exact hT _
section
variable {U:List Var} [UOk U]
theorem q1h {z:Int} (h:z.natAbs < 10 ^ 40):(dec z.natAbs).length≤150:=by
 have:=q0l (a:=z.natAbs) (b:=10 ^ 40) (by omega)
 have h2:(dec (10 ^ 40)).length=41:=by kernel_rfl
 omega
theorem k2o {a:List Nat} (h:IntS a):Pure Gam 124 [.str a] (.bool true):=by
 obtain⟨z,rfl,hz⟩:=h
 have hp:=q3v (q1h hz)
 rw[x0y,z3v] at hp
 refine Pure.of rfl y5g rfl rfl rfl rfl rfl fun D B clk T hB hT=> ?_
 simp only[go_sem,w5n,hB,z0a hp,decide_true]
 rw[z0e]
 exact hT _
theorem v8p {a:List Nat} (h:RatS a):Pure Gam 187 [.str a] (.bool true):=by
 rcases h with ⟨z,rfl,hz⟩ | ⟨z,d,rfl,hz,h2,h4,hg⟩
 ·have hp:=q3v (q1h hz)
  rw[x0y] at hp
  refine Pure.of rfl w5m rfl rfl rfl rfl rfl fun D B clk T hB hT=> ?_
  simp only[go_sem,v5k,hB,z0a hp]
  rw[z0e]
  exact hT _
 ·have hp:=k7w (q1h hz) h2 h4 hg
  rw[x0y] at hp
  refine Pure.of rfl w5m rfl rfl rfl rfl rfl fun D B clk T hB hT=> ?_
  simp only[go_sem,v5k,hB,z0a hp]
  rw[z0e]
  exact hT _
theorem v8q {k:Nat} (h1:1≤k) (h5:k≤5):Pure Gam 189 [.str (dec k)] (.int .i64 1):=by
 have e:z3d (k:Int)=dec k:=by rw[z3d,if_neg (by omega),Int.natAbs_natCast]
 have hp:=q3v (z:=(k:Int)) (q1h (by simp;omega))
 rw[x0y,z3v,e,Int.natAbs_natCast,show decide ((k:Int) < 0)=false by simp] at hp
 have e1:decide (dec k=[48])=false:=by rw[decide_eq_false_iff_not,q3s];omega
 refine Pure.of rfl y4y rfl rfl rfl rfl rfl fun D B clk T hB hT=> ?_
 simp only[go_sem,w5i,hB,z0a hp,e1,Bool.not_true]
 rw[z0h rfl rfl]
 exact hT _
theorem k2p {v:Var} (hv:v∈U):Pure Gam 144 [.str v.name] (.bool true):=Pure.tab (tab:=q2y) rfl rfl (UOk.name2 v hv)
theorem v8r {V:List Var} {n:Node} {ss:List Nat} {s:Nat} {ks:Term} (hV:∀ v∈V,v∈U) (hn:NodeOk V n ss s ks):Pure Gam 296 [eNode n] (.bool true):=by
 refine Pure.of rfl y4z rfl rfl rfl rfl rfl fun D B clk T hB hT=> ?_
 cases hn with
 | bool h=>rcases h with rfl | rfl <;> (simp only[go_sem,x4c,hB,eNode,nat,bare,Int.cast_ofNat_Int,Int.reduceEq,Int.reduceLE,decide_true,decide_false];rw[z0e];exact hT _)
 | int h=>simp only[go_sem,x4c,hB,eNode,nat,Int.cast_ofNat_Int,Int.reduceEq,decide_true,decide_false,z0a (k2o h)];rw[z0e];exact hT _
 | real h=>simp only[go_sem,x4c,hB,eNode,nat,Int.cast_ofNat_Int,Int.reduceEq,decide_true,decide_false,z0a (v8p h)];rw[z0e];exact hT _
 | @var v ks h=>
   have hs:=q5d (hV _ h)
   have p:=j0x hs.1 hs.2
   rw[nat] at p
   simp only[go_sem,x4c,hB,eNode,nat,Int.cast_ofNat_Int,Int.reduceEq,decide_true,decide_false,z0a (k2p (hV _ h)),z0a p];rw[z0e];exact hT _
 | andor h=>rcases h with rfl | rfl <;> (simp only[go_sem,x4c,hB,eNode,nat,bare,Int.cast_ofNat_Int,Int.reduceEq,Int.reduceLE,decide_true,decide_false];rw[z0e];exact hT _)
 | cmp h hs=>rcases h with rfl | rfl <;> (simp only[go_sem,x4c,hB,eNode,nat,bare,Int.cast_ofNat_Int,Int.reduceEq,Int.reduceLE,decide_true,decide_false];rw[z0e];exact hT _)
 | @div o k ks h h1 h5=>
   have e:IntS (dec k):=⟨k,by rw[z3d,if_neg (by omega),Int.natAbs_natCast],by simp;omega⟩
   rcases h with rfl | rfl <;> (simp only[go_sem,x4c,hB,eNode,nat,Int.cast_ofNat_Int,Int.reduceEq,Int.reduceLT,decide_true,decide_false,z0a (k2o e),z0a (v8q h1 h5)];rw[z0e];exact hT _)
 | _=>simp only[go_sem,x4c,hB,eNode,nat,bare,Int.cast_ofNat_Int,Int.reduceEq,Int.reduceLE,decide_true,decide_false];rw[z0e];exact hT _
end
section
variable {U:List Var} [UOk U]
theorem WF.len {V:List Var} {ss:List Nat} {d:Nat} {f:Term} (h:WF V ss d f):ss.length≤f.length:=by
 induction h with
 | nil=>simp
 | cons h1 h2 h3 h4 ih1 ih2=>simp at *;omega
theorem NodeOk.mul_ne {V:List Var} {n:Node} {ss:List Nat} {s:Nat} {ks:Term} (hn:NodeOk V n ss s ks) (h:n.op=15):ss≠[]:=by
 cases hn with
 | mul=>simp
 | bool ho=>simp only[bare] at h;omega
 | andor ho=>simp only[bare] at h;omega
 | cmp ho=>simp only[bare] at h;omega
 | div ho=>dsimp only at h;omega
 | _=>simp[bare] at h
inductive Trees (t:Term) (dep:Nat):Nat→List Nat→Nat→Prop
 | nil {i:Nat}:Trees t dep i [] i
 | cons {i m j s:Nat} {ss:List Nat} (h:Pure Gam 235 [.sl (t.map eNode) .no,nat i,nat dep] (.tup [nat m,nat s])) (hs:1≤s) (hm:m≤t.length) (hr:Trees t dep m ss j):Trees t dep i (s::ss) j
theorem z7s {t:Term}:(AV.sl (t.map eNode) .no).ids=[]:=by simp[AV.ids,z0c z1y]
theorem k2q {V:List Var} {t:Term} {i dep m s:Nat} {n:Node} {ss:List Nat} {ks:Term} (hV:∀ v∈V,v∈U) (htl:t.length≤20000) (hd:dep≤256) (hi:t[i]? =some n) (hn:NodeOk V n ss s ks) (hk:n.kids=ss.length) (hsl:ss.length < t.length) (hm:m≤t.length) (hT:Trees t (dep + 1) (i + 1) ss m)
  (hf:ss≠[]→∃ c,t[i + 1]? =some c∧(n.op=15→c.op=3)):Pure Gam 235 [.sl (t.map eNode) .no,nat i,nat dep] (.tup [nat m,nat s]):=by
 have hit:i < t.length:=(List.getElem?_eq_some_iff.1 hi).1
 refine Pure.of rfl y4w rfl rfl rfl (az:=[.sl (t.map eNode) .no,nat i,nat dep]) rfl (by simp[idsL,z7s,z3c]) fun D B clk T hB hR=> ?_
 have p1:=v8r hV hn
 have p2:=v8n hn hk
 simp only[eNode,nat] at p1 p2
 have e1:decide ((t.length:Int)≤(i:Int))=false:=by rw[decide_eq_false_iff_not];omega
 have e2:decide ((256:Int) < (dep:Int))=false:=by rw[decide_eq_false_iff_not];omega
 have e3:decide ((t.length:Int) < (n.kids:Int))=false:=by rw[decide_eq_false_iff_not];omega
 have e4:IntKind.i64.wrap ((i:Int) + 1)=((i + 1:Nat):Int):=z0d (by omega) (by omega)
 simp only[go_sem,w5g,nat,hB,List.length_map,e1,e2,e3,e4,z3a hi,z0a p1,z0a p2,Bool.not_true]
 refine z0y (fun r q=>∃ (done left:List Nat) (t8:Tip) (e g0:Nat) (o0 o1:AObj),ss=done++left∧r=left.length∧Trees t (dep + 1) e left m∧e≤t.length∧(∀ x∈done,1≤x)∧q.ts 0= .sl (t.map eNode) .no∧q.ts 1= .int .i64 (i:Int)∧q.ts 2= .int .i64 (dep:Int)∧q.ts 8= .sl (done.map nat) t8∧q.ts 9= .int .i64 (e:Int)∧q.ts 10= .bool true∧q.ts 11= .int .i64 (done.length:Int)∧q.h=D++[o0,o1]∧z8k B 1 o1 t8 1) ss.length ⟨[],ss, .nil,i + 1,0,_,_,rfl,rfl,hT,hit,by simp,rfl,rfl,rfl,rfl,rfl,rfl,rfl,rfl, .inl rfl⟩ ?_
 rintro r ⟨ts,h,clk⟩ P ⟨done,left,t8,e,g0,o0,o1,hss,rfl,hT,he',hdone,q0,q1,q2,q8,q9,q10,q11,rfl,htip⟩ hnx he hr
 dsimp only at q0 q1 q2 q8 q9 q10 q11
 cases hT with
 | nil=>
   obtain rfl:done=ss:=by simpa using hss.symm
   have f1:decide ((done.length:Int) < (n.kids:Int))=false:=by rw[decide_eq_false_iff_not];omega
   simp only[go_sem,j2s,q0,q1,q2,q8,q9,q10,q11,f1,z3a hi]
   refine he _ _ ?_
   have p3:∀ fi:Nat,(n.op=15→fi=3)→Pure Gam 298 [eNode n,nat fi, .sl (done.map nat) t8] (nat s):=fun fi h=>v8o hn (by omega) h
   cases hd0:done with
   | nil=>
     have p4:Pure Gam 298 [eNode n, .int .i64 0, .sl (done.map nat) t8] (nat s):=p3 0 fun h15=>absurd hd0 (hn.mul_ne h15)
     rw[hd0] at p4 q8
     simp only[eNode,nat,List.map_nil] at p4 q8
     simp only[go_sem,q0,q1,q2,q8,q9,q10,Bool.not_true,z3a hi,z0a p4,decide_false,Int.reduceLT]
     rw[z0h rfl rfl]
     exact hR _
   | cons x0 d0=>
     obtain⟨c,hc,hc3⟩:=hf (by rw[hd0];simp)
     have p4:=p3 c.op hc3
     have g1:decide ((0:Int) < (done.length:Int))=true:=by rw[decide_eq_true_iff,hd0];simp
     simp only[eNode,nat] at p4
     simp only[go_sem,q0,q1,q2,q8,q9,q10,Bool.not_true,List.length_map,g1,e4,z3a hi,z3a hc,z0a p4]
     rw[z0h rfl rfl]
     exact hR _
 | cons hp hs hm' hr'=>
   rename_i m' x left
   have f1:decide ((done.length:Int) < (n.kids:Int))=true:=by rw[decide_eq_true_iff,hk,hss];simp;omega
   have f2:IntKind.i64.wrap ((dep:Int) + 1)=((dep + 1:Nat):Int):=z0d (by omega) (by omega)
   have f3:decide ((m':Int) < 0)=false:=by rw[decide_eq_false_iff_not];omega
   have f4:decide ((0:Int) < (x:Int))=true:=by rw[decide_eq_true_iff];omega
   have f5:IntKind.i64.wrap ((done.length:Int) + 1)=((done.length + 1:Nat):Int):=z0d (by omega) (by rw[hss] at hsl;simp at hsl;omega)
   simp only[nat] at hp
   simp only[go_sem,j2s,q0,q1,q2,q8,q9,q10,q11,f1,f2,f3,f4,f5,z3a hi,z0a hp]
   have happ:done.map nat++[nat x]=(done++[x]).map nat:=by simp
   rw[show [AV.int .i64 (x:Int)]=[x].map nat from rfl,z0j hB rfl htip z3y z3y (by rw[hss] at hsl;simp at hsl⊢;omega)]
   simp only[go_sem,q0,q1,q2,q8,q9,q10,q11,f5,happ]
   refine hnx left.length _ (by simp) ⟨done++[x],left,_,m',0,_,_,by simp[hss],rfl,hr',hm',fun y hy=> ?_,q0,q1,q2,rfl,rfl,rfl,by rw[List.length_append];rfl,rfl, .inr (.inr ⟨_,rfl,rfl⟩)⟩
   rcases List.mem_append.1 hy with hy | hy
   ·exact hdone y hy
   ·rw[List.mem_singleton.1 hy];exact hs
theorem v8s {V:List Var} {t:Term} (hV:∀ v∈V,v∈U) (htl:t.length≤20000) {ss:List Nat} {d:Nat} {f:Term} (h:WF V ss d f):∀ {pre post:Term} {dep:Nat},t=pre++f++post→dep + d≤256→Trees t dep pre.length ss (pre.length + f.length):=by
 induction h with
 | nil=>intro pre post dep ht hd;exact .nil
 | @cons n ss ks s d ss' rest h1 h2 h3 h4 ih1 ih2=>
   intro pre post dep ht hd
   have hl:pre.length + (1 + ks.length + rest.length)≤t.length:=by rw[ht];simp;omega
   have i1:=ih1 (pre:=pre++[n]) (post:=rest++post) (dep:=dep + 1) (by rw[ht];simp) (by omega)
   have i2:=ih2 (pre:=pre++(n::ks)) (post:=post) (dep:=dep) (by rw[ht];simp) (by omega)
   simp only[List.length_append,List.length_cons,List.length_nil,Nat.zero_add] at i1 i2
   have hw:=h1.len
   have hit:t[pre.length]? =some n:=by rw[ht];simp
   refine .cons (m:=pre.length + (ks.length + 1)) (k2q (ks:=ks) hV htl (by omega) hit h2 h3 (by omega) (by omega) (by rw[show pre.length + (ks.length + 1)=pre.length + 1 + ks.length by omega];exact i1) fun hne=> ?_) (h2.pos hV).1 (by omega) ?_
   ·cases ks with
    | nil=>simp at hw;exact absurd hw hne
    | cons c r=>
      refine⟨c,by rw[ht];simp,fun h15=> ?_⟩
      obtain⟨m,r',he,hm⟩:=h2.mul_num h15
      injection he with he1 he2
      rw[he1]
      exact hm
   ·simp only[List.length_cons,List.length_append]
    rw[show pre.length + (ks.length + rest.length + 1)=pre.length + (ks.length + 1) + rest.length by omega]
    exact i2
theorem v8t {V:List Var} {t:Term} {s d:Nat} (hV:∀ v∈V,v∈U) (htl:t.length≤20000) (hd:d≤256) (h:WF V [s] d t):Pure Gam 235 [.sl (t.map eNode) .no, .int .i64 0, .int .i64 0] (.tup [nat t.length,nat s]):=by
 have:=v8s hV htl h (pre:=[]) (post:=[]) (dep:=0) (by simp) (by omega)
 cases this with
 | cons hp hs hm hr=>
   cases hr with
   | nil=>
     rw[List.length_nil,Nat.zero_add] at hp
     exact hp
end
section
variable {U:List Var} [UOk U]
theorem y8u:∀ v∈U,∀ w∈U,v.name=w.name→v=w:=UOk.inj
theorem y8v {B clk i:Nat} {H:List AObj} {t:Term} {n:Node} {acc:List Var} {t3:Tip} {ts:Tmps} {ks:List Kf} {Q:Post} (hi:t[i]? =some n) (hl:acc.length≤20000) (hs:∀ v∈acc,v.name=n.name→v.sort=n.sort)
  (h0:ts 0= .sl (t.map eNode) .no) (h3:ts 3= .sl (acc.map z1b) t3) (h4:ts 4= .sl [] .nil) (h5:ts 5= .int .i64 (i:Int)) (h6:ts 6= .bool false) (h7:ts 7= .int .i64 0)
  (hQ:∀ (ts':Tmps) (clk':Nat),ts' 0= .sl (t.map eNode) .no→ts' 3= .sl (acc.map z1b) t3→ts' 4= .sl [] .nil→ts' 5= .int .i64 (i:Int)→ts' 6= .bool (acc.any fun v=>decide (v.name=n.name))→K Gam B (.exit 3) ks ⟨ts',H,clk'⟩ Q):K Gam B (.loop q9f) ks ⟨ts,H,clk⟩ Q:=by
 refine z0y (fun m q=>∃ j:Nat,j≤acc.length∧m=acc.length - j∧q.ts 0= .sl (t.map eNode) .no∧q.ts 3= .sl (acc.map z1b) t3∧q.ts 4= .sl [] .nil∧q.ts 5= .int .i64 (i:Int)∧q.ts 6= .bool ((acc.take j).any fun v=>decide (v.name=n.name))∧q.ts 7= .int .i64 (j:Int)∧q.h=H) acc.length ⟨0,by omega,rfl,h0,h3,h4,h5,h6,h7,rfl⟩ ?_
 clear h0 h3 h4 h5 h6 h7
 rintro m ⟨ts,h,clk⟩ P ⟨j,hj,rfl,h0,h3,h4,h5,h6,h7,rfl⟩ hnx he hr
 dsimp only at h0 h3 h4 h5 h6 h7
 by_cases hlt:j < acc.length
 ·have e1:decide ((j:Int) < (acc.length:Int))=true:=by rw[decide_eq_true_iff];omega
  have e4:IntKind.i64.wrap ((j:Int) + 1)=((j + 1:Nat):Int):=z0d (by omega) (by omega)
  have ht:acc.take (j + 1)=acc.take j++[acc[j]]:=List.take_succ_eq_append_getElem hlt
  have hsj:=hs acc[j] (List.getElem_mem hlt)
  by_cases hnm:acc[j].name=n.name
  ·have e2:decide (acc[j].name=n.name)=true:=by simp[hnm]
   have e3:decide (((acc[j].sort:Nat):Int)=((n.sort:Nat):Int))=true:=by rw[decide_eq_true_iff,hsj hnm]
   simp only[go_sem,h0,h3,h4,h5,h6,h7,q9f,nat,List.length_map,e1,e2,e3,z8x hlt,z3a hi,e4,Bool.not_true]
   exact hnx (acc.length - (j + 1)) _ (by omega) ⟨j + 1,hlt,rfl,h0,h3,h4,h5,by rw[ht,List.any_append];simp[z0b,hnm],rfl,rfl⟩
  ·have e2:decide (acc[j].name=n.name)=false:=by simp[hnm]
   simp only[go_sem,h0,h3,h4,h5,h6,h7,q9f,nat,List.length_map,e1,e2,z8x hlt,z3a hi,e4]
   exact hnx (acc.length - (j + 1)) _ (by omega) ⟨j + 1,hlt,rfl,h0,h3,h4,h5,by rw[ht,List.any_append];simp[z0b,hnm,h6],rfl,rfl⟩
 ·have e1:decide ((j:Int) < (acc.length:Int))=false:=by rw[decide_eq_false_iff_not];omega
  rw[List.take_of_length_le (by omega)] at h6
  simp only[go_sem,h0,h3,h4,h5,h6,h7,q9f,List.length_map,e1]
  refine he _ _ ?_
  exact hQ _ _ (by simp[z0b,h0]) (by simp[z0b,h3]) (by simp[z0b,h4]) (by simp[z0b,h5]) (by simp[z0b,h6])
theorem v8u {V:List Var} {t:Term} (hV:∀ v∈V,v∈U) (htl:t.length≤20000) (hN:x0a V t):Pure Gam 146 [.sl (t.map eNode) .no] (.bool true):=by
 refine Pure.of rfl y4x rfl rfl rfl (az:=[.sl (t.map eNode) .no]) rfl (by simp[idsL,z7s]) fun D B clk T hB hT=> ?_
 simp only[go_sem,w5h,hB]
 refine z0y (fun m q=>∃ (i:Nat) (acc:List Var) (t3:Tip) (o0 o1 o2 o3 o4:AObj),i≤t.length∧m=t.length - i∧acc.length≤i∧(∀ v∈acc,v∈U)∧q.ts 0= .sl (t.map eNode) .no∧q.ts 3= .sl (acc.map z1b) t3∧q.ts 4= .sl [] .nil∧q.ts 5= .int .i64 (i:Int)∧q.h=D++[o0,o1,o2,o3,o4]∧z8k B 1 o1 t3 2) t.length ⟨0,[], .nil,_,_,_,_,_,by omega,rfl,by simp,by simp,rfl,rfl,rfl,rfl,rfl, .inl rfl⟩ ?_
 rintro m ⟨ts,h,clk⟩ P ⟨i,acc,t3,o0,o1,o2,o3,o4,hi,rfl,hal,hacc,h0,h3,h4,h5,rfl,htip⟩ hnx he hr
 dsimp only at h0 h3 h4 h5
 by_cases hlt:i < t.length
 ·have f1:decide ((i:Int) < (t.length:Int))=true:=by rw[decide_eq_true_iff];omega
  have f2:IntKind.i64.wrap ((i:Int) + 1)=((i + 1:Nat):Int):=z0d (by omega) (by omega)
  have hti:t[i]? =some t[i]:=List.getElem?_eq_getElem hlt
  have hno:=hN t[i] (List.getElem_mem hlt)
  generalize t[i]=n at hti hno
  have f5:decide ((n.op:Int)=5)=false:=by rw[decide_eq_false_iff_not];have:=hno.1;omega
  by_cases h44:n.op=4
  ·obtain⟨v,hv,hvn,hvs⟩:=hno.2 h44
   have f4:decide ((n.op:Int)=4)=true:=by rw[decide_eq_true_iff];omega
   simp only[go_sem,x7i,h0,h3,h4,h5,List.length_map,f1,f4,z3a hti]
   refine y8v hti (by omega) (fun w hw hwn=> ?_) h0 h3 h4 h5 rfl rfl ?_
   ·rw[y8u w (hacc w hw) v (hV v hv) (by rw[hwn,hvn]),hvs]
   clear h0 h3 h4 h5
   intro ts clk h0 h3 h4 h5 h6
   cases hk:acc.any fun v=>decide (v.name=n.name) with
   | true=>
     rw[hk] at h6
     simp only[go_sem,h0,h3,h4,h5,h6,Bool.not_true,f2]
     exact hnx (t.length - (i + 1)) _ (by omega) ⟨i + 1,acc,_,_,_,_,_,_,hlt,rfl,by omega,hacc,h0,h3,h4,rfl,rfl,htip⟩
   | false=>
     rw[hk] at h6
     have e1:(AV.agg [.str n.name, .int .i64 (n.sort:Int)])=z1b v:=by rw[hvn,hvs];rfl
     simp only[go_sem,h0,h3,h4,h5,h6,Bool.not_false,f2,z3a hti]
     rw[e1,show [z1b v]=[v].map z1b from rfl,z0j hB rfl htip z2e z2e (by simp only[List.length_map,List.length_singleton];omega)]
     have happ:acc.map z1b++[z1b v]=(acc++[v]).map z1b:=by simp
     simp only[go_sem,h0,h3,h4,h5,h6,f2,happ]
     exact hnx (t.length - (i + 1)) _ (by omega) ⟨i + 1,acc++[v],_,_,_,_,_,_,hlt,rfl,by simp;omega,fun w hw=>by
      rcases List.mem_append.1 hw with hw | hw
      ·exact hacc w hw
      ·rw[List.mem_singleton.1 hw];exact hV v hv,h0,rfl,h4,rfl,rfl, .inr (.inr ⟨_,rfl,rfl⟩)⟩
  ·have f4:decide ((n.op:Int)=4)=false:=by rw[decide_eq_false_iff_not];omega
   simp only[go_sem,x7i,h0,h3,h4,h5,List.length_map,f1,f2,f4,f5,z3a hti]
   exact hnx (t.length - (i + 1)) _ (by omega) ⟨i + 1,acc,_,_,_,_,_,_,hlt,rfl,by omega,hacc,h0,h3,h4,rfl,rfl,htip⟩
 ·have f1:decide ((i:Int) < (t.length:Int))=false:=by rw[decide_eq_false_iff_not];omega
  simp only[go_sem,x7i,h0,h3,h4,h5,List.length_map,f1]
  refine he _ _ ?_
  simp only[go_sem,h0,h3,h4,h5]
  clear h5 hnx he hr
  refine z0y (fun m q=>∃ j:Nat,j≤acc.length∧m=acc.length - j∧q.ts 3= .sl (acc.map z1b) t3∧q.ts 4= .sl [] .nil∧q.ts 11= .int .i64 (j:Int)∧q.h=D++[o0,o1,o2,o3,o4]) acc.length ⟨0,by omega,rfl,h3,h4,rfl,rfl⟩ ?_
  clear h0 h3 h4
  rintro m ⟨ts,h,clk⟩ P ⟨j,hj,rfl,h3,h4,h11,rfl⟩ hnx he hr
  dsimp only at h3 h4 h11
  by_cases hlt:j < acc.length
  ·have f1:decide ((j:Int) < (acc.length:Int))=true:=by rw[decide_eq_true_iff];omega
   have f2:IntKind.i64.wrap ((j:Int) + 1)=((j + 1:Nat):Int):=z0d (by omega) (by omega)
   simp only[go_sem,q9e,h3,h4,h11,List.length_map,f1]
   refine z3f ?_
   simp only[go_sem,q9d,h3,h4,h11,decide_false,Int.lt_irrefl,f2]
   exact hnx (acc.length - (j + 1)) _ (by omega) ⟨j + 1,hlt,rfl,h3,h4,rfl,rfl⟩
  ·have f1:decide ((j:Int) < (acc.length:Int))=false:=by rw[decide_eq_false_iff_not];omega
   simp only[go_sem,q9e,h3,h4,h11,List.length_map,f1]
   refine he _ _ ?_
   simp only[go_sem,]
   rw[z0e]
   exact hT _
end
section
variable {U:List Var} [UOk U]
theorem v8v {V:List Var} {t:Term} {s d:Nat} (hV:∀ v∈V,v∈U) (htl:t.length≤20000) (hd:d≤256) (h:WF V [s] d t) (hs:1≤s):Pure Gam 165 [z0l t] (nat s):=by
 have p1:=v8t hV htl hd h
 have p2:=v8u hV htl h.names
 refine Pure.of rfl y4v rfl rfl rfl (az:=[.sl (t.map eNode) .no]) rfl (by simp[idsL,z7s]) fun D B clk T hB hT=> ?_
 have e1:decide ((20000:Int) < (t.length:Int))=false:=by rw[decide_eq_false_iff_not];omega
 have e2:decide ((s:Int)=0)=false:=by rw[decide_eq_false_iff_not];omega
 simp only[nat] at p1
 simp only[go_sem,w5f,hB,List.length_map,e1,e2,z0a p1,z0a p2,decide_true,Bool.not_true]
 rw[z0h rfl rfl]
 exact hT _
theorem v8w {B clk i s0:Nat} {H:List AObj} {t:Term} {n:Node} {V:List Var} {ts:Tmps} {ks:List Kf} {Q:Post} (hi:t[i]? =some n) (hl:V.length≤20000)
  (h0:ts 0= .sl (t.map eNode) .no) (h1:ts 1= .int .i64 (s0:Int)) (h2:ts 2= .sl (V.map z1b) .no) (h7:ts 7= .int .i64 (i:Int)) (h8:ts 8= .bool false) (h9:ts 9= .int .i64 0)
  (hQ:∀ (ts':Tmps) (clk':Nat),ts' 0= .sl (t.map eNode) .no→ts' 1= .int .i64 (s0:Int)→ts' 2= .sl (V.map z1b) .no→ts' 7= .int .i64 (i:Int)→ts' 8= .bool (V.any fun v=>decide (v.name=n.name) && decide (v.sort=n.sort))→K Gam B (.exit 2) ks ⟨ts',H,clk'⟩ Q):K Gam B (.loop q6z) ks ⟨ts,H,clk⟩ Q:=by
 refine z0y (fun m q=>∃ j:Nat,j≤V.length∧m=V.length - j∧q.ts 0= .sl (t.map eNode) .no∧q.ts 1= .int .i64 (s0:Int)∧q.ts 2= .sl (V.map z1b) .no∧q.ts 7= .int .i64 (i:Int)∧q.ts 8= .bool ((V.take j).any fun v=>decide (v.name=n.name) && decide (v.sort=n.sort))∧q.ts 9= .int .i64 (j:Int)∧q.h=H) V.length ⟨0,by omega,rfl,h0,h1,h2,h7,h8,h9,rfl⟩ ?_
 clear h0 h1 h2 h7 h8 h9
 rintro m ⟨ts,h,clk⟩ P ⟨j,hj,rfl,h0,h1,h2,h7,h8,h9,rfl⟩ hnx he hr
 dsimp only at h0 h1 h2 h7 h8 h9
 by_cases hlt:j < V.length
 ·have e1:decide ((j:Int) < (V.length:Int))=true:=by rw[decide_eq_true_iff];omega
  have e4:IntKind.i64.wrap ((j:Int) + 1)=((j + 1:Nat):Int):=z0d (by omega) (by omega)
  have ht:V.take (j + 1)=V.take j++[V[j]]:=List.take_succ_eq_append_getElem hlt
  have ha:∀ b,((V.take j).any fun v=>decide (v.name=n.name) && decide (v.sort=n.sort))=b→(b || (decide (V[j].name=n.name) && decide (V[j].sort=n.sort)))=((V.take (j + 1)).any fun v=>decide (v.name=n.name) && decide (v.sort=n.sort)):=fun b hb=>by
   rw[ht,List.any_append,hb]
   simp
  cases hb:(V.take j).any fun v=>decide (v.name=n.name) && decide (v.sort=n.sort) with
  | true=>
    have ha:=ha _ hb
    rw[hb] at h8
    simp only[go_sem,h0,h1,h2,h7,h8,h9,q6z,nat,List.length_map,e1,e4]
    exact hnx (V.length - (j + 1)) _ (by omega) ⟨j + 1,hlt,rfl,h0,h1,h2,h7,by rw[←ha];rfl,rfl,rfl⟩
  | false=>
    have ha:=ha _ hb
    rw[hb] at h8
    by_cases hnm:V[j].name=n.name
    ·have e2:decide (V[j].name=n.name)=true:=by simp[hnm]
     have e3:decide ((V[j].sort:Int)=(n.sort:Int))=decide (V[j].sort=n.sort):=by rw[decide_eq_decide];omega
     simp only[go_sem,h0,h1,h2,h7,h8,h9,q6z,nat,List.length_map,e1,e2,e3,z8x hlt,z3a hi,e4]
     exact hnx (V.length - (j + 1)) _ (by omega) ⟨j + 1,hlt,rfl,h0,h1,h2,h7,by rw[←ha,e2];simp[z0b],rfl,rfl⟩
    ·have e2:decide (V[j].name=n.name)=false:=by simp[hnm]
     simp only[go_sem,h0,h1,h2,h7,h8,h9,q6z,nat,List.length_map,e1,e2,z8x hlt,z3a hi,e4]
     exact hnx (V.length - (j + 1)) _ (by omega) ⟨j + 1,hlt,rfl,h0,h1,h2,h7,by rw[←ha,e2];simp[z0b],rfl,rfl⟩
 ·have e1:decide ((j:Int) < (V.length:Int))=false:=by rw[decide_eq_false_iff_not];omega
  rw[List.take_of_length_le (by omega)] at h8
  simp only[go_sem,h0,h1,h2,h7,h8,h9,q6z,List.length_map,e1]
  refine he _ _ ?_
  exact hQ _ _ (by simp[z0b,h0]) (by simp[z0b,h1]) (by simp[z0b,h2]) (by simp[z0b,h7]) (by simp[z0b,h8])
theorem j0y {V:List Var} {t:Term} {s d:Nat} (hV:∀ v∈V,v∈U) (hVl:V.length≤1000) (htl:t.length≤20000) (hd:d≤256) (h:WF V [s] d t) (hs:1≤s):Pure Gam 170 [z0l t,nat s, .sl (V.map z1b) .no] (.bool true):=by
 have p1:=v8v hV htl hd h hs
 have hN:=h.names
 refine Pure.of rfl y4u rfl rfl rfl (az:=[.sl (t.map eNode) .no,nat s, .sl (V.map z1b) .no]) rfl (by simp[idsL,z7s,z3c,z5s]) fun D B clk T hB hT=> ?_
 have e1:decide ((s:Int)=0)=false:=by rw[decide_eq_false_iff_not];omega
 simp only[nat,z0l] at p1
 simp only[go_sem,w5e,hB,nat,e1,z0a p1,decide_true,Bool.not_true]
 refine z0y (fun m q=>∃ i:Nat,i≤t.length∧m=t.length - i∧q.ts 0= .sl (t.map eNode) .no∧q.ts 1= .int .i64 (s:Int)∧q.ts 2= .sl (V.map z1b) .no∧q.ts 7= .int .i64 (i:Int)∧q.h=D) t.length ⟨0,by omega,rfl,rfl,rfl,rfl,rfl,by simp⟩ ?_
 rintro m ⟨ts,h',clk⟩ P ⟨i,hi,rfl,h0,h1,h2,h7,rfl⟩ hnx he hr
 dsimp only at h0 h1 h2 h7
 by_cases hlt:i < t.length
 ·have f1:decide ((i:Int) < (t.length:Int))=true:=by rw[decide_eq_true_iff];omega
  have f2:IntKind.i64.wrap ((i:Int) + 1)=((i + 1:Nat):Int):=z0d (by omega) (by omega)
  have hti:t[i]? =some t[i]:=List.getElem?_eq_getElem hlt
  have hno:=hN t[i] (List.getElem_mem hlt)
  generalize t[i]=n at hti hno
  have f5:decide ((n.op:Int)=5)=false:=by rw[decide_eq_false_iff_not];have:=hno.1;omega
  by_cases h44:n.op=4
  ·obtain⟨v,hv,hvn,hvs⟩:=hno.2 h44
   have f4:decide ((n.op:Int)=4)=true:=by rw[decide_eq_true_iff];omega
   simp only[go_sem,x7h,h0,h1,h2,h7,List.length_map,f1,f4,f5,z3a hti,Bool.not_true]
   refine v8w hti (by omega) h0 h1 h2 h7 rfl rfl ?_
   clear h0 h1 h2 h7
   intro ts clk h0 h1 h2 h7 h8
   have hk:(V.any fun v=>decide (v.name=n.name) && decide (v.sort=n.sort))=true:=List.any_eq_true.2 ⟨v,hv,by simp[hvn,hvs]⟩
   rw[hk] at h8
   simp only[go_sem,h0,h1,h2,h7,h8,Bool.not_true,f2]
   exact hnx (t.length - (i + 1)) _ (by omega) ⟨i + 1,hlt,rfl,h0,h1,h2,rfl,rfl⟩
  ·have f4:decide ((n.op:Int)=4)=false:=by rw[decide_eq_false_iff_not];omega
   simp only[go_sem,x7h,h0,h1,h2,h7,List.length_map,f1,f2,f4,f5,z3a hti,Bool.not_false]
   exact hnx (t.length - (i + 1)) _ (by omega) ⟨i + 1,hlt,rfl,h0,h1,h2,rfl,rfl⟩
 ·have f1:decide ((i:Int) < (t.length:Int))=false:=by rw[decide_eq_false_iff_not];omega
  simp only[go_sem,x7h,h0,h1,h2,h7,List.length_map,f1]
  refine he _ _ ?_
  simp only[go_sem,]
  rw[z0e]
  exact hT _
end
end Go.Proofs.YtahdahokpjigiaaGreatDoor.Am
