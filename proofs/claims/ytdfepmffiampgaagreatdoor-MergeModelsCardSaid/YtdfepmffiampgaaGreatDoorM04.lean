/- One operation of the abstract machine stands for one operation of the model: composite literals, bytes One operation of the abstract machine stands for one operation of the model: append One operation -/
import Derived.Deep.AppendSrc
import Derived.IntWalk
import Derived.Test.YtdfepmffiampgaaGreatDoorM03
set_option linter.all false
namespace Go.Proofs.YtdfepmffiampgaaGreatDoor.Am
open Go
set_option maxRecDepth 100000
section
variable {P:Program} {G:Ghost} {I:Imm} {h:List AObj} {w:World} {gen slot:Nat}
theorem z5g {α β:Type} (x:Sem α) (f:α→Sem β):(x.bind f).run P w=(x.run P w).andThen fun v w'=>(f v).run P w':=Sem.run_bind (P:=P) w x f
theorem j9u {v:Value} {x:AV} (hc:j6m v=some x):x.def? =true:=by
 unfold j6m at hc
 split at hc <;> simp at hc <;> subst hc <;> rfl
theorem k5s {v:Value} {x:AV} (hc:v6k v=some x):x.def? =true:=by
 unfold v6k at hc
 split at hc
 ·simp at hc
  obtain⟨cs,_,rfl⟩:=hc
  rfl
 ·exact j9u hc
theorem q4s {t:TypeId} {z:AV} (hz:zeroP P t=some z):z.def? =true:=by
 unfold zeroP at hz
 cases hi:(P.info? t).bind (·.zero) with
 | none=>rw[hi] at hz;simp at hz
 | some v=>rw[hi] at hz;exact k5s hz
theorem x7o {ts:Tmps} {ρ:Operand→Value} (ht:TR G I ts ρ) {place:Nat→Option (Nat×Nat)}:∀ {os:List (Nat×Operand)} {ps:List (Nat×Nat×AOpd)},q7b os place=some ps→
  (ps.map fun p=>(p.1,p.2.1,p.2.2.ev ts)).length=(os.map fun (i,x)=>(i,ρ x)).length∧
  ∀ (k:Nat) p q,(ps.map fun p=>(p.1,p.2.1,p.2.2.ev ts))[k]? =some p→(os.map fun (i,x)=>(i,ρ x))[k]? =some q→place q.1=some (p.1,p.2.1)∧VR G I p.2.2 q.2
 | [],ps,hc=>by
   simp[q7b] at hc
   subst hc
   exact⟨rfl,fun k p q h1 h2=>by simp at h1⟩
 | (i,x)::os,ps,hc=>by
   simp only[q7b] at hc
   split at hc
   ·rename_i o s a b h1 h2 h3
    simp at hc
    subst hc
    obtain⟨ih1,ih2⟩:=x7o ht h3
    refine⟨by simpa using ih1,fun k p q hp hq=> ?_⟩
    cases k with
    | zero=>
      simp at hp hq
      subst hp hq
      exact⟨h1,z1i ht h2⟩
    | succ k=>
      simp only[List.map_cons,List.getElem?_cons_succ] at hp hq
      exact ih2 k p q hp hq
   ·simp at hc
theorem x7p {ts:Tmps} {ρ:Operand→Value} (ht:TR G I ts ρ):∀ {os:List (Nat×Operand)} {ps:List (Nat×AOpd)},x2f os=some ps→
  ps.map (·.1)=os.map (·.1)∧VRL G I (ps.map fun p=>p.2.ev ts) (os.map fun p=>ρ p.2)
 | [],ps,hc=>by
   simp[x2f] at hc
   subst hc
   exact⟨rfl,by simp[VRL]⟩
 | (i,x)::os,ps,hc=>by
   simp only[x2f] at hc
   split at hc
   ·rename_i a b h1 h2
    simp at hc
    subst hc
    obtain⟨ih1,ih2⟩:=x7p ht h2
    exact⟨by simp[ih1],by simp only[List.map_cons,VRL];exact⟨_,_,rfl,z1i ht h1,ih2⟩⟩
   ·simp at hc
theorem k5t {t:TypeId} {ts:Tmps} {ρ:Operand→Value} {z:AV} {parts:Array (Nat×Operand)} {ps:List (Nat×Nat×AOpd)} {cs:List AV} {place:Nat→Option (Nat×Nat)} (ht:TR G I ts ρ) (hz:zeroP P t=some z)
  (hp:(∃ fs places,P.underlying t=some (.struct fs)∧fs.toList.mapM (fun f=>(P.info? f.type).map fun i=>(f.offset,i.size))=some places∧place=fun i=>places[i]?)∨
   (∃ n e s,P.underlying t=some (.array n e)∧sizeP P e=some s∧place=fun i=>some (i * s,s)))
  (hc:q7b parts.toList place=some ps) (hf:z6e z.cells (ps.map fun p=>(p.1,p.2.1,p.2.2.ev ts))=some cs):
  ∃ cv,(Instr.build t (parts.map fun (i,x)=>(i,ρ x))).run P w= .ok cv w∧VR G I (.agg cs) cv:=by
 obtain⟨it,zv,hi,hzv,hvz⟩:=z9m (G:=G) (I:=I) hz
 obtain⟨h1,h2⟩:=x7o ht hc
 obtain⟨ccs,h3,h4⟩:=j9m _ _ _ _ _ (ArrR.of_val (q4s hz) hvz) h1 h2 hf
 refine⟨.agg ccs,run_build w t _ ccs ?_,h4.agg⟩
 rcases hp with ⟨fs,places,hu,hpl,rfl⟩ | ⟨n,e,s,hu,hs,rfl⟩
 ·unfold Program.built
  simp only[hi,hu,hzv,hpl,Array.toList_map]
  have he:(fun (i:Nat)=>places.toArray[i]?)=fun (i:Nat)=>places[i]? :=by funext i;simp
  rw[he]
  exact h3
 ·unfold sizeP at hs
  cases hie:P.info? e with
  | none=>simp[hie] at hs
  | some ie=>
    simp[hie] at hs
    unfold Program.built
    simp only[hi,hu,hzv,hie,hs,Array.toList_map]
    exact h3
theorem k5u {B sz:Nat} {es:List AV} {ccs:Array Value} (hI:ILe I (z7d I B (es.length * sz) ccs)) (hr:w4d G I es ccs sz):RowI G (z7d I B (es.length * sz) ccs) es B 0 sz:=by
 refine z6j.2 fun k x hx=> ?_
 obtain⟨h1,h2⟩:=hr.2 k x hx
 refine⟨h1,z7j.2 fun j c hj=> ?_⟩
 obtain⟨v,h3,h4⟩:=h2 j c hj
 have hk:=(List.getElem?_eq_some_iff.1 hx).1
 have hjl:=(List.getElem?_eq_some_iff.1 hj).1
 have:=z8u hk (show j < sz by omega)
 refine⟨v, ?_,VR.mono (GLe.refl _) hI h4⟩
 rw[q8y _ (by omega),Nat.zero_add]
 exact h3
theorem q8z {t e:TypeId} {n sz:Nat} {mu:Bool} {z:AV} {ts:Tmps} {ρ:Operand→Value} {parts:Array (Nat×Operand)} {ps:List (Nat×AOpd)} {vs es:List AV} {r:Result Next} (hg:G gen=none) (rel:Rel G I h w) (ht:TR G I ts ρ)
  (hu:P.underlying t=some (.slice e)) (hs:sizeP P e=some sz) (hz:zeroP P e=some z) (hps:x2f parts.toList=some ps) (h0:sz≠0) (hbig:n * sz≤2 ^ 24) (hzl:z.cells.length=sz)
  (hcv:z7h h (ps.map fun p=>p.2.ev ts)=some vs) (hsp:z4j z.cells.length (List.replicate n z) (ps.map (·.1)) vs=some es)
  (hr:r=((Instr.buildSlice t n (parts.map fun p=>(p.1,ρ p.2))).bind fun v=>Sem.pure (.value v)).run P w):
  Step G I h w gen slot r (if mu then .ob slot gen 0 n else .sl es .full)
   (if mu then (freezeAll h (z3y (ps.map fun p=>p.2.ev ts))).set slot (.blk gen es true false 0) else freezeAll h (z3y (ps.map fun p=>p.2.ev ts))):=by
 obtain⟨ti,zv,hi,hzv,hvz⟩:=z9m (G:=G) (I:=I) hz
 have hza:=ArrR.of_val (q4s hz) hvz
 obtain⟨he1,he2⟩:=x7p ht hps
 obtain⟨I1,hI1,rel1,hvs,hnn⟩:=q8b hcv he2 (Frozen.refl h) rel
 have hzc:zv.cells.size=sz:=by rw[←hza.1];exact hzl
 have hrow0:=q8t (n:=n) hza
 have hrow:w4d G I1 (List.replicate n z) ((Array.range (n * sz)).map fun i=>zv.cells[i % zv.cells.size]!) sz:=by
  have h1:sz=zv.cells.size:=hzc.symm
  rw[h1]
  exact⟨hrow0.1,hrow0.2.mono (GLe.refl _) hI1⟩
 obtain⟨hl,hvi⟩:=z9v.1 hvs
 obtain⟨ccs,hfill,hrr,hlen⟩:=x2l (sz:=sz) (ps.map (·.1)) vs (parts.toList.map fun p=>(p.1,ρ p.2)) _ es _ hrow (by rw[he1];simp) (by simpa using hl)
  (fun k i v q h1 h2 h3=>by
   rw[he1,List.getElem?_map,Option.map_eq_some_iff] at h1
   obtain⟨p,hp1,rfl⟩:=h1
   rw[List.getElem?_map,hp1] at h3
   simp at h3
   subst h3
   exact⟨rfl,hvi k v _ h2 (by rw[List.getElem?_map,hp1];rfl)⟩) (by rw[←hzl];exact hsp)
 have hes:es.length=n:=by simpa using hlen
 have hx:r= .ok (.value (.slice (some ⟨w.heap.size,0,none⟩) n n)) (w.alloc (.cells ccs e)):=by
  rw[hr,z5g]
  have hnb:¬ n * sz > 2 ^ 24:=by omega
  have hrun:(Instr.buildSlice t n (parts.map fun p=>(p.1,ρ p.2))).run P w= .ok (.slice (some ⟨w.heap.size,0,none⟩) n n) (w.alloc (.cells ccs e)):=by
   unfold Instr.buildSlice
   simp only[Sem.run_bind,run_underlying hu,Result.andThen,z6f hs,if_neg hnb]
   by_cases hn:n * sz=0
   ·rw[if_pos hn]
    have hne:(Array.range (n * sz)).map (fun i=>(#[]:Array Value)[i % (#[]:Array Value).size]!)=(Array.range (n * sz)).map fun i=>zv.cells[i % zv.cells.size]! :=by rw[hn];simp
    have hf':Instr.fill (fun i=>some (i * sz,sz)) ((Array.range (n * sz)).map fun i=>(#[]:Array Value)[i % (#[]:Array Value).size]!) (Array.map (fun x=>(x.fst,ρ x.snd)) parts).toList=some ccs:=by
     rw[hne,Array.toList_map]
     exact hfill
    simp only[Sem.run_bind,Sem.run_pure,Result.andThen]
    rw[hf']
    rfl
   ·rw[if_neg hn]
    have hzr:(zeroValue e).run P w= .ok zv w:=by simp[zeroValue,typeInfo,hi,hzv]
    have hf':Instr.fill (fun i=>some (i * sz,sz)) ((Array.range (n * sz)).map fun i=>zv.cells[i % zv.cells.size]!) (Array.map (fun x=>(x.fst,ρ x.snd)) parts).toList=some ccs:=by
     rw[Array.toList_map]
     exact hfill
    simp only[Sem.run_bind,hzr,Result.andThen,Sem.run_pure]
    rw[hf']
    rfl
  rw[hrun]
  rfl
 have hcs:ccs.size=n * sz:=by rw[hrr.1,hes]
 refine Step.pre (I1:=I1) (h':=freezeAll h (z3y (ps.map fun p=>p.2.ev ts))) ?_ hI1 hnn (z8v (z2j _ _))
 cases mu with
 | true=>
   simp only[if_true]
   refine Step.make (i:=⟨slot,w.heap.size,sz,n,0,0,false⟩) (I':=I1) hg rfl rel1 (fun i o b hi hb=>⟨i,o,hi,hb⟩) (.inl (Nat.le_refl _)) (fun j o hj ho=> ?_) (ILe.refl _)
    (fun b x _ hx=>z3f w _ hx) (fun _ _ _ _ hv=>hv) (fun o v hv=>absurd hv (z4b rel1 o v)) ?_ ?_ rfl rfl rfl (by rw[z6s];omega) hx ?_
   ·have:=q0a (rel1.obj j o hj) ho
    simp at this
   ·exact⟨_,_,e,Ghost.put_same,rfl,z7o w _,hcs,by simp;omega,by simp;omega,fun _=>by simp;omega,⟨by omega,fun _=>rfl⟩,hrr.2.mono (Ghost.put_le _ hg) (ILe.refl _),fun o v hv=>absurd hv (z4b rel1 o v)⟩
   ·intro b hb
    simp[own] at hb
    exact hb.symm
   ·simp only[VR]
    exact⟨_,_,_,Ghost.put_same,rfl,rfl,Nat.le_refl _,by simp, .inr (by simp)⟩
 | false=>
   simp only[Bool.false_eq_true,if_false]
   have hle:ILe I1 (z7d I1 w.heap.size (es.length * sz) ccs):=q8x fun o v hv=>absurd hv (z4b rel1 o v)
   refine Step.row (I':=z7d I1 w.heap.size (es.length * sz) ccs) hg rel1 hle (fun b x hx=>z3f w _ hx) q1x (fun o v hv=> ?_) rfl rfl rfl (by rw[z6s];omega) hx ?_
   ·simp only[World.cell?,z7o]
    unfold z7d at hv
    split at hv
    ·exact hv
    ·exact absurd hv (z4b rel1 o v)
   ·simp only[VR]
    refine⟨_,_,_,rfl,hes,Nat.le_refl _,by simp only[TipR];omega, ?_⟩
    by_cases hn:n=0
    ·exact .inl hn
    ·exact .inr ⟨w.heap.size,0,sz,rfl,by omega,k5u hle hrr⟩
def u9q (G:Ghost) (I:Imm) (w:World) (ys:List AV) (b o e:Nat):Prop:=
 ∀ (k:Nat) x,ys[k]? =some x→x.cells.length=e∧∀ (j:Nat) c,x.cells[j]? =some c→∃ u,w.cell? ⟨b,o + k * e + j,none⟩=some u∧VR G I c u
theorem j9v {y:AV} {ys:List AV} {cv:Value} (rel:Rel G I h w) (hy:z4e h y=some ys) (hv:VR G I y cv) (hns:∀ s,y≠ .str s):
  ∃ A c,cv= .slice A ys.length c∧ys.length≤c∧(ys.length=0∨∃ b o e,A=some ⟨b,o,none⟩∧0 < e∧u9q G I w ys b o e):=by
 cases y <;> simp only[z4e] at hy <;> try (simp at hy;done)
 ·rename_i s;exact absurd rfl (hns s)
 ·rename_i xs t
  simp at hy
  subst hy
  simp only[VR] at hv
  obtain⟨A,n,c,rfl,rfl,h1,_,h2⟩:=hv
  refine⟨A,c,rfl,h1, ?_⟩
  rcases h2 with h2 | ⟨b,o,e,rfl,hpos,hrow⟩
  ·exact .inl h2
  ·refine .inr ⟨b,o,e,rfl,hpos,fun k x hx=> ?_⟩
   obtain⟨h3,h4⟩:=z6j.1 hrow k x hx
   refine⟨h3,fun j c hj=> ?_⟩
   obtain⟨u,h5,h6⟩:=z7j.1 h4 j c hj
   exact⟨u,rel.imm _ _ _ h5,h6⟩
 ·rename_i s g off len
  obtain⟨es,grow,fz,hs,hle,rfl⟩:=j3f hy
  simp only[VR] at hv
  obtain⟨i,A,c,hi,_,rfl,h3,h4,h5⟩:=hv
  obtain⟨i',cs,ty,hi',_,hw,_,hpos,_,_,_,hE,_⟩:=rel.obj s _ hs
  obtain rfl:i=i':=by rw[hi] at hi';simpa using hi'
  have hlen:((es.drop off).take len).length=len:=by simp;omega
  rw[hlen]
  refine⟨A,c,rfl,h3, ?_⟩
  by_cases hl:len=0
  ·exact .inl hl
  ·rcases h5 with h5 | rfl
   ·omega
   ·refine .inr ⟨i.blk,off * i.esz,i.esz,rfl,hpos,fun k x hx=> ?_⟩
    have hk:k < len:=by
     rw[←hlen]
     exact (List.getElem?_eq_some_iff.1 hx).1
    rw[List.getElem?_take_of_lt hk,List.getElem?_drop] at hx
    obtain⟨h6,h7⟩:=hE (off + k) x hx
    refine⟨h6,fun j c hj=> ?_⟩
    obtain⟨u,h8,h9⟩:=h7 j c hj
    refine⟨u, ?_,h9⟩
    simp only[World.cell?,hw]
    rw[←Nat.add_mul]
    exact h8
theorem x2o:∀ {ys:List AV} {s:List Nat},z7i ys=some s→ys=s.map (fun (b:Nat)=>AV.int .u8 (Int.ofNat b))∧∀ b∈s,b < 256
 | [],s,hb=>by simp[z7i] at hb;subst hb;simp
 | y::ys,s,hb=>by
   unfold z7i at hb
   split at hb
   ·simp at *
   ·rename_i n vs heq
    obtain⟨rfl,rfl⟩:=List.cons.inj heq
    split at hb
    ·rename_i hn
     simp at hb
     obtain⟨s',h1,rfl⟩:=hb
     obtain⟨h2,h3⟩:=x2o h1
     refine⟨by simp only[List.map_cons,←h2];congr 2;simp;omega,fun b hb=> ?_⟩
     rcases List.mem_cons.1 hb with rfl | hb
     ·omega
     ·exact h3 b hb
    ·simp at hb
   ·simp at hb
theorem j6u {src dst e:TypeId} {x:AV} {ys:List AV} {s:List Nat} {a:Value} (rel:Rel G I h w) (hs:P.underlying src=some (.slice e)) (hd:P.underlying dst=some .string) (he:P.underlying e=some (.int .u8))
  (hx:VR G I x a) (hy:z4e h x=some ys) (hb:z7i ys=some s) (hns:∀ s,x≠ .str s):∃ cv,(convert src dst a).run P w= .ok cv w∧VR G I (.str s) cv:=by
 obtain⟨A,c,rfl,hlc,hrow⟩:=j9v rel hy hx hns
 obtain⟨rfl,hlt⟩:=x2o hb
 simp only[List.length_map] at *
 refine⟨.string (z8f s), ?_,by simp only[VR];exact⟨trivial,hlt⟩⟩
 rcases hrow with h0 | ⟨b,o,e',rfl,hpos,hrow⟩
 ·rw[List.length_eq_zero_iff] at h0
  subst h0
  rw[run_convert_bytes_string w src dst e A _ c hs he hd]
  cases A with
  | none=>rfl
  | some a=>rfl
 ·have:=run_convert_bytes_arg (P:=P) w src e hs he b o s.length c (s.map Int.ofNat) (by simp) (fun i hi=>by
   have hsi:(s.map fun (b:Nat)=>AV.int .u8 (Int.ofNat b))[i]? =some (.int .u8 (Int.ofNat s[i])):=by simp[hi]
   obtain⟨h1,h2⟩:=hrow i _ hsi
   obtain rfl:e'=1:=by simpa [AV.cells] using h1.symm
   obtain⟨u,h3,h4⟩:=h2 0 (.int .u8 (Int.ofNat s[i])) (by simp[AV.cells])
   simp only[VR] at h4
   subst h4
   simp only[Nat.mul_one,Nat.add_zero] at h3
   rw[h3]
   simp[hi]) dst hd
  rw[this]
  congr 2
  apply ByteArray.ext
  apply Array.ext'
  simp[strOfNums,z8f]
end
section
variable {P:Program} {G:Ghost} {I:Imm} {h:List AObj} {w:World} {gen slot:Nat}
theorem z3h {esz:Nat}:∀ {xs:List AV},z0o esz xs=true↔∀ x∈xs,x.def? =true∧x.cells.length=esz∧x.cells.all AV.one=true
 | []=>by simp[z0o]
 | x::xs=>by
   simp only[z0o,Bool.and_eq_true,beq_iff_eq,z3h (xs:=xs),List.mem_cons,forall_eq_or_imp]
   simp only[and_assoc]
def NewsR (G:Ghost) (I:Imm) (ys:List AV) (news:List Value) (sz:Nat):Prop:=
 news.length=ys.length * sz∧∀ (k:Nat) x,ys[k]? =some x→x.cells.length=sz∧∀ (j:Nat) c,x.cells[j]? =some c→∃ u,news[k * sz + j]? =some u∧VR G I c u
theorem v2d {a sz:Nat} (h:0 < sz):a=a / sz * sz + a % sz∧a % sz < sz:=⟨by rw[Nat.mul_comm];exact (Nat.div_add_mod a sz).symm,Nat.mod_lt _ h⟩
theorem NewsR.one {ys:List AV} {news:List Value} {sz:Nat} (hp:0 < sz) (hn:NewsR G I ys news sz) (ha:z0o sz ys=true) (u:Value) (hu:u∈news):u.oneCell'=true:=by
 obtain⟨q,hq⟩:=List.getElem?_of_mem hu
 have hlt:=(List.getElem?_eq_some_iff.1 hq).1
 rw[hn.1] at hlt
 obtain⟨h1,h2⟩:=v2d (a:=q) hp
 have hk:q / sz < ys.length:=by
  rcases Nat.lt_or_ge (q / sz) ys.length with h | h
  ·exact h
  ·have:ys.length * sz≤q / sz * sz:=Nat.mul_le_mul_right _ h
   omega
 obtain⟨h3,h4⟩:=hn.2 _ _ (List.getElem?_eq_getElem hk)
 obtain⟨h5,h6,h7⟩:=z3h.1 ha _ (List.getElem_mem hk)
 have hj:q % sz < (ys[q / sz]).cells.length:=by omega
 obtain⟨u',h8,h9⟩:=h4 _ _ (List.getElem?_eq_getElem hj)
 rw[←h1,hq] at h8
 simp at h8
 subst h8
 exact x2j (List.all_eq_true.1 h7 _ (List.getElem_mem hj)) h9
theorem j9w {y:AV} {ys:List AV} {cv:Value} {tx:TypeId} {sz:Nat} (rel:Rel G I h w) (hy:z4e h y=some ys) (hv:VR G I y cv) (ha:z0o sz ys=true) (hp:0 < sz)
  (hk:(∃ e',P.underlying tx=some (.slice e'))∨P.underlying tx=some .string):∃ news,Src P sz tx cv ys.length news w∧NewsR G I ys news sz:=by
 by_cases hs:∃ s,y= .str s
 ·obtain⟨s,rfl⟩:=hs
  simp[z4e] at hy
  subst hy
  simp only[VR] at hv
  obtain⟨rfl,hb⟩:=hv
  have hl:(byteCells (z8f s)).length=s.length:=by rw[byteCells_length,z4v]
  have hsz:s≠[]→sz=1:=fun hne=>by
   obtain⟨b,s',rfl⟩:=List.exists_cons_of_ne_nil hne
   have:=(z3h.1 ha (.int .u8 (Int.ofNat b)) (by simp)).2.1
   simpa [AV.cells] using this.symm
  have hnl:(byteCells (z8f s)).length=s.length * sz:=by
   rw[hl]
   by_cases hne:s=[]
   ·subst hne;simp
   ·rw[hsz hne,Nat.mul_one]
  have hN:NewsR G I (s.map fun (b:Nat)=>AV.int .u8 (Int.ofNat b)) (byteCells (z8f s)) sz:=by
   refine⟨by simpa using hnl,fun k x hx=> ?_⟩
   simp only[List.getElem?_map,Option.map_eq_some_iff] at hx
   obtain⟨b,hb1,rfl⟩:=hx
   have hne:s≠[]:=fun e=>by subst e;simp at hb1
   rw[hsz hne]
   refine⟨rfl,fun j c hj=> ?_⟩
   cases j with
   | succ j=>simp[AV.cells] at hj
   | zero=>
     simp[AV.cells] at hj
     subst hj
     refine⟨.int .u8 (Int.ofNat b), ?_,by simp only[VR];rfl⟩
     have hbl:=hb b (List.mem_of_getElem? hb1)
     simp only[Nat.mul_one,Nat.add_zero,byteCells,List.getElem?_map]
     have:(z8f s).data.toList[k]? =some (UInt8.ofNat b):=by simp[z8f,hb1]
     rw[this]
     simp[q0v hbl]
  refine⟨byteCells (z8f s),⟨hk,fun w'=> ?_, ?_, ?_,by simpa using hnl,fun u hu=> ?_⟩,hN⟩
  ·simp[Builtin.lenOf,z4v]
  ·have:=firstCells_string (P:=P) (z8f s) w
   simp only[Builtin.firstCells,List.length_map] at this⊢
   rw[z4v] at this
   exact this
  ·have:=firstCells_string (P:=P) (z8f s) w.drew
   simp only[Builtin.firstCells,List.length_map] at this⊢
   rw[z4v] at this
   exact this
  ·obtain⟨_,_,rfl⟩:=List.mem_map.1 hu
   rfl
 ·obtain⟨A,c,rfl,hlc,hrow⟩:=j9v rel hy hv fun s e=>hs ⟨s,e⟩
  by_cases h0:ys.length=0
  ·have he:ys=[]:=List.length_eq_zero_iff.1 h0
   subst he
   refine⟨[],⟨hk,fun _=>rfl, ?_, ?_,by simp,fun _ h=>by cases h⟩,by simp[NewsR]⟩ <;> cases A <;> simp[Builtin.firstCells,loadCells,loadCellsFrom]
  ·rcases hrow with hrow | ⟨b,o,e,rfl,hpos,hrow⟩
   ·exact absurd hrow h0
   ·obtain⟨y0,ys',rfl⟩:=List.exists_cons_of_ne_nil (fun e:ys=[]=>h0 (by rw[e];rfl))
    have he:=(hrow 0 y0 rfl).1
    have he':=(z3h.1 ha y0 (by simp)).2.1
    obtain rfl:e=sz:=by omega
    generalize hys:y0::ys'=ys at *
    let news:=(List.range (ys.length * e)).map fun j=>(w.cell? ⟨b,o + j,none⟩).getD undef
    have hnl:news.length=ys.length * e:=by simp[news]
    have hcell:∀ q,q < ys.length * e→∃ u,w.cell? ⟨b,o + q,none⟩=some u:=fun q hq=>by
     obtain⟨h1,h2⟩:=v2d (a:=q) hpos
     have hk:q / e < ys.length:=by
      rcases Nat.lt_or_ge (q / e) ys.length with h | h
      ·exact h
      ·have:ys.length * e≤q / e * e:=Nat.mul_le_mul_right _ h
       omega
     obtain⟨h3,h4⟩:=hrow _ _ (List.getElem?_eq_getElem hk)
     have hj:q % e < (ys[q / e]).cells.length:=by omega
     obtain⟨u,h5,_⟩:=h4 _ _ (List.getElem?_eq_getElem hj)
     rw[Nat.add_assoc,←h1] at h5
     exact⟨u,h5⟩
    have hnews:∀ (j:Nat) u,news[j]? =some u→w.cell? ((⟨b,o,none⟩:Addr).add j)=some u:=fun j u hu=>by
     have hj:j < ys.length * e:=by
      rw[←hnl]
      exact (List.getElem?_eq_some_iff.1 hu).1
     obtain⟨u',h1⟩:=hcell j hj
     simp[news,hj,h1] at hu
     subst hu
     rw[Addr.add_lit]
     exact h1
    have hN:NewsR G I ys news e:=by
     refine⟨hnl,fun k x hx=>⟨(hrow k x hx).1,fun j c hj=> ?_⟩⟩
     obtain⟨u,h1,h2⟩:=(hrow k x hx).2 j c hj
     have hk:=(List.getElem?_eq_some_iff.1 hx).1
     have hjl:=(List.getElem?_eq_some_iff.1 hj).1
     have hx1:=(hrow k x hx).1
     have:=z8u hk (show j < e by omega)
     refine⟨u, ?_,h2⟩
     rw[Nat.add_assoc] at h1
     simp[news,this,h1]
    have hone:=fun u hu=>hN.one hpos ha u hu
    exact⟨news,⟨hk,fun _=>rfl,run_firstCells_some w e ys.length ⟨b,o,none⟩ ys.length c news hnl hnews,run_firstCells_some w.drew e ys.length ⟨b,o,none⟩ ys.length c news hnl (by simpa using hnews),hnl,hone⟩,hN⟩
theorem q9a {t tx ty e:TypeId} {sz n c:Nat} {A:Option Addr} {x:Value} (ht:P.underlying t=some (.slice e)) (hs:sizeP P e=some sz) (hx:Src P sz tx x 0 [] w) (hnc:n≤c):
  (Builtin.append_ #[t,tx] ty #[.slice A n c,x]).run P w= .ok (.slice A n c) w:=by
 have hz:=z6f hs
 rcases hx.kind with ⟨e',hk⟩ | hk <;> cases A <;> simp[Builtin.append_,run_underlying ht,run_underlying hk,hz,hx.len,hnc,hx.cells,storeCells]
theorem q3p {t tx ty e ty':TypeId} {sz n c m b off:Nat} {x:Value} {news:List Value} {cs:Array Value} (ht:P.underlying t=some (.slice e)) (hs:sizeP P e=some sz) (hx:Src P sz tx x m news w) (hnc:n + m≤c)
  (hw:w.heap[b]? =some (.cells cs ty' (0,0))) (hfit:off + n * sz + news.length≤cs.size):
  (Builtin.append_ #[t,tx] ty #[.slice (some ⟨b,off,none⟩) n c,x]).run P w= .ok (.slice (some ⟨b,off,none⟩) (n + m) c)
   (w.setRow b (cs.toList.take (off + n * sz)++news++cs.toList.drop (off + n * sz + news.length)).toArray):=by
 have hz:=z6f hs
 have hst:=run_storeCells_at P b (off + n * sz) ty' news 0 cs w hw (by simpa using hfit) hx.one
 simp only[Nat.add_zero] at hst
 rcases hx.kind with ⟨e',hk⟩ | hk <;> simp[Builtin.append_,run_underlying ht,run_underlying hk,hz,hx.len,hnc,hx.cells,Addr.add_lit,hst]
theorem j0m {xs ys:List AV} {olds news:List Value} {sz:Nat} {zs:Array Value} (ho:NewsR G I xs olds sz) (hn:NewsR G I ys news sz):ElemsR G I (xs++ys) ((olds++news).toArray++zs) sz:=by
 intro k x hx
 have h1:x.cells.length=sz∧∀ (j:Nat) c,x.cells[j]? =some c→∃ u,(olds++news)[k * sz + j]? =some u∧VR G I c u:=by
  rw[List.getElem?_append] at hx
  split at hx
  ·rename_i hk
   obtain⟨h1,h2⟩:=ho.2 k x hx
   refine⟨h1,fun j c hj=> ?_⟩
   obtain⟨u,hu,hr⟩:=h2 j c hj
   refine⟨u, ?_,hr⟩
   rw[List.getElem?_append_left (List.getElem?_eq_some_iff.1 hu).1]
   exact hu
  ·rename_i hk
   obtain⟨h1,h2⟩:=hn.2 _ x hx
   refine⟨h1,fun j c hj=> ?_⟩
   obtain⟨u,hu,hr⟩:=h2 j c hj
   refine⟨u, ?_,hr⟩
   have:k * sz=xs.length * sz + (k - xs.length) * sz:=by rw[←Nat.add_mul];congr 1;omega
   rw[List.getElem?_append_right (by rw[ho.1];omega),ho.1]
   rw[show k * sz + j - xs.length * sz=(k - xs.length) * sz + j by omega]
   exact hu
 refine⟨h1.1,fun j c hj=> ?_⟩
 obtain⟨u,hu,hr⟩:=h1.2 j c hj
 refine⟨u, ?_,hr⟩
 have hlt:=(List.getElem?_eq_some_iff.1 hu).1
 rw[Array.getElem?_append_left (by simpa using hlt)]
 simpa using hu
theorem v6r {I':Imm} {B sz:Nat} {es:List AV} {ccs:Array Value} (hI:ILe I I') (hi:∀ o,o < es.length * sz→I' B o=ccs[o]?) (hr:ElemsR G I es ccs sz):RowI G I' es B 0 sz:=by
 refine z6j.2 fun k x hx=> ?_
 obtain⟨h1,h2⟩:=hr k x hx
 refine⟨h1,z7j.2 fun j c hj=> ?_⟩
 obtain⟨v,h3,h4⟩:=h2 j c hj
 have hk:=(List.getElem?_eq_some_iff.1 hx).1
 have hjl:=(List.getElem?_eq_some_iff.1 hj).1
 have:=z8u hk (show j < sz by omega)
 refine⟨v, ?_,VR.mono (GLe.refl _) hI h4⟩
 rw[Nat.zero_add,hi _ (by omega)]
 exact h3
theorem q9b {t tx ty e:TypeId} {sz by_ c:Nat} {z:AV} {A:Option Addr} {x:Value} {xs ys:List AV} {olds news:List Value} (ht:P.underlying t=some (.slice e)) (hs:sizeP P e=some sz) (hb:bytesP P e=some by_) (hz:zeroP P e=some z) (hzl:z.cells.length=sz)
  (hx:Src P sz t (.slice A xs.length c) xs.length olds w) (hy:Src P sz tx x ys.length news w) (ho:NewsR G I xs olds sz) (hn:NewsR G I ys news sz)
  (hg:c < xs.length + ys.length) (hroom:(xs.length + ys.length) * (by_ + 1)≤z1c):
  ∃ cap ccs,(Builtin.append_ #[t,tx] ty #[.slice A xs.length c,x]).run P w= .ok (.slice (some ⟨w.heap.size,0,none⟩) (xs.length + ys.length) cap) (w.drew.alloc (.cells ccs e))∧
    xs.length + ys.length≤cap∧ccs.size=cap * sz∧ElemsR G I (xs++ys) ccs sz:=by
 obtain⟨ti,zv,hi,hzv,hvz⟩:=z9m (G:=G) (I:=I) hz
 have hsz:ti.size=sz:=by simpa [sizeP,hi] using hs
 have hby:ti.bytes=by_:=by simpa [bytesP,hi] using hb
 have hzc:zv.cells.size=sz:=by rw[←(ArrR.of_val (q4s hz) hvz).1];exact hzl
 have hrb:z1c=70368744177664:=by decide
 rw[hrb,Nat.mul_add,Nat.mul_one] at hroom
 have hfit:Builtin.nextslicecap (xs.length + ys.length) c * ti.bytes≤281474976710656:=by
  refine growslice_fits hg ?_
  rw[hby]
  omega
 subst hsz
 have hrun:=run_append_grow_src (P:=P) w t tx ty e ti zv ht hi hzv A xs.length c olds hx.cellsD x ys.length news hy hg (by omega) hfit
 have hcap:=grownCap_ge w (xs.length + ys.length) c e
 generalize grownCap w (xs.length + ys.length) c e=cap at hrun hcap
 refine⟨cap,_,hrun,hcap, ?_,j0m ho hn⟩
 have h1:=ho.1
 have h2:=hn.1
 rw[Array.size_append,size_zeroCells,hzc]
 simp only[List.size_toArray,List.length_append,h1,h2]
 rw[←Nat.add_mul,←Nat.add_mul]
 congr 1
 omega
end
section
variable {P:Program} {G:Ghost} {I:Imm} {h:List AObj} {w:World} {gen slot:Nat}
structure AppK (P:Program) (t tx e:TypeId) (sz by_:Nat) (z:AV):Prop where
 ht:P.underlying t=some (.slice e)
 hk:(∃ e',P.underlying tx=some (.slice e'))∨P.underlying tx=some .string
 hs:sizeP P e=some sz
 hb:bytesP P e=some by_
 hz:zeroP P e=some z
 hzl:z.cells.length=sz
 h0:0 < sz
theorem q0d {s:Nat} (i:Nat) (o:AObj) (b:Nat) (hi:(h.set s .dead)[i]? =some o) (hb:own G o=some b):∃ (j:Nat) (x:AObj),h[j]? =some x∧own G x=some b:=
 ⟨i,o,(q3o hi hb).2,hb⟩
theorem x7q {t tx ty e:TypeId} {sz by_ c:Nat} {z:AV} {A:Option Addr} {x:Value} {xs ys:List AV} {olds news:List Value} {h1:List AObj} {r:Result Next} (ap:AppK P t tx e sz by_ z) (hg:G gen=none) (rel1:Rel G I h1 w)
  (hown:∀ (i:Nat) o b,h1[i]? =some o→own G o=some b→∃ (j:Nat) (x:AObj),h[j]? =some x∧own G x=some b)
  (hx:Src P sz t (.slice A xs.length c) xs.length olds w) (hy:Src P sz tx x ys.length news w) (ho:NewsR G I xs olds sz) (hn:NewsR G I ys news sz) (hgr:c < xs.length + ys.length) (hroom:(xs.length + ys.length) * (by_ + 1)≤z1c)
  (hr:r=((Builtin.append_ #[t,tx] ty #[.slice A xs.length c,x]).bind fun v=>Sem.pure (.value v)).run P w):Step G I h w gen slot r (.sl (xs++ys) (.at slot gen)) (h1.set slot (.tip gen sz)):=by
 obtain⟨cap,ccs,hrun,hcap,hsz,hE⟩:=q9b (G:=G) (I:=I) (ty:=ty) ap.ht ap.hs ap.hb ap.hz ap.hzl hx hy ho hn hgr hroom
 have hlen:(xs++ys).length=xs.length + ys.length:=by simp
 have hx1:r= .ok (.value (.slice (some ⟨w.heap.size,0,none⟩) (xs.length + ys.length) cap)) (w.drew.alloc (.cells ccs e)):=by
  rw[hr,z5g,hrun]
  rfl
 have hle:ILe I (z7d I w.heap.size ((xs++ys).length * sz) ccs):=q8x fun o v hv=>absurd hv (z4b rel1 o v)
 have hcm:(xs.length + ys.length) * sz≤cap * sz:=Nat.mul_le_mul_right _ hcap
 refine Step.make (w':=w.drew.alloc (.cells ccs e)) (i:=⟨slot,w.heap.size,sz,0,(xs.length + ys.length) * sz,cap * sz,true⟩) (I':=z7d I w.heap.size ((xs++ys).length * sz) ccs) hg rfl rel1 hown (.inl (Nat.le_refl _)) (fun j o hj ho=> ?_) hle
  (fun b x _ hx=>z3f w.drew _ hx) q1x (fun o v hv=> ?_) ?_ ?_ rfl rfl rfl (by have:=z6s w.drew (.cells ccs e);simp at this⊢) hx1 ?_
 ·have:=q0a (rel1.obj j o hj) ho
  simp at this
 ·have ha:(w.drew.alloc (.cells ccs e)).heap[w.heap.size]? =some (.cells ccs e):=z7o w.drew (.cells ccs e)
  simp only[World.cell?,ha]
  unfold z7d at hv
  split at hv
  ·exact hv
  ·exact absurd hv (z4b rel1 o v)
 ·refine⟨_,Ghost.put_same,rfl,rfl,fun _=>⟨ccs,e,z7o w.drew _,by simp only;omega,fun o v hv=> ?_⟩⟩
  unfold z7d at hv
  split at hv
  ·rename_i hc
   have:=hc.2
   rw[hlen] at this
   exact this
  ·exact absurd hv (z4b rel1 o v)
 ·intro b hb
  simp[own] at hb
  exact hb.symm
 ·simp only[VR]
  refine⟨_,_,_,rfl,hlen,hcap,⟨_,Ghost.put_same,rfl,ap.h0,fun y hy=> ?_, .inr ⟨rfl,0,rfl,by simp only[hlen,Nat.zero_add],by simp⟩⟩, .inr ⟨w.heap.size,0,sz,rfl,ap.h0, ?_⟩⟩
  ·obtain⟨k,hk⟩:=List.getElem?_of_mem hy
   exact (hE k y hk).1
  ·exact RowI.mono (Ghost.put_le _ hg) (ILe.refl _) (v6r hle (fun o ho=>q8y o ho) hE)
theorem q3q {t tx ty e:TypeId} {sz by_ c fz:Nat} {z:AV} {A:Option Addr} {x:Value} {xs ys:List AV} {olds news:List Value} {h1:List AObj} {r:Result Next} (ap:AppK P t tx e sz by_ z) (hg:G gen=none) (rel1:Rel G I h1 w)
  (hown:∀ (i:Nat) o b,h1[i]? =some o→own G o=some b→∃ (j:Nat) (x:AObj),h[j]? =some x∧own G x=some b)
  (hx:Src P sz t (.slice A xs.length c) xs.length olds w) (hy:Src P sz tx x ys.length news w) (ho:NewsR G I xs olds sz) (hn:NewsR G I ys news sz) (hgr:c < xs.length + ys.length) (hroom:(xs.length + ys.length) * (by_ + 1)≤z1c)
  (hfz:fz≤xs.length) (hr:r=((Builtin.append_ #[t,tx] ty #[.slice A xs.length c,x]).bind fun v=>Sem.pure (.value v)).run P w):
  Step G I h w gen slot r (.ob slot gen 0 (xs.length + ys.length)) (h1.set slot (.blk gen (xs++ys) true true fz)):=by
 obtain⟨cap,ccs,hrun,hcap,hsz,hE⟩:=q9b (G:=G) (I:=I) (ty:=ty) ap.ht ap.hs ap.hb ap.hz ap.hzl hx hy ho hn hgr hroom
 have hlen:(xs++ys).length=xs.length + ys.length:=by simp
 have hx1:r= .ok (.value (.slice (some ⟨w.heap.size,0,none⟩) (xs.length + ys.length) cap)) (w.drew.alloc (.cells ccs e)):=by
  rw[hr,z5g,hrun]
  rfl
 refine Step.make (w':=w.drew.alloc (.cells ccs e)) (i:=⟨slot,w.heap.size,sz,cap,0,0,false⟩) (I':=I) hg rfl rel1 hown (.inl (Nat.le_refl _)) (fun j o hj ho=> ?_) (ILe.refl _)
  (fun b x _ hx=>z3f w.drew _ hx) (fun _ _ _ _ hv=>hv) (fun o v hv=>absurd hv (z4b rel1 o v)) ?_ ?_ rfl rfl rfl (by have:=z6s w.drew (.cells ccs e);simp at this⊢) hx1 ?_
 ·have:=q0a (rel1.obj j o hj) ho
  simp at this
 ·exact⟨_,_,e,Ghost.put_same,rfl,z7o w.drew _,hsz,ap.h0,by simp only[hlen];exact hcap,by simp,⟨by omega,by simp⟩,hE.mono (Ghost.put_le _ hg) (ILe.refl _),fun o v hv=>absurd hv (z4b rel1 o v)⟩
 ·intro b hb
  simp[own] at hb
  exact hb.symm
 ·simp only[VR]
  exact⟨_,_,_,Ghost.put_same,rfl,rfl,hcap,by simp, .inr (by simp)⟩
theorem q9c (t tx ty e:TypeId) (k:IntKind) (i:TypeInfo) (z:Value) (ht:P.underlying t=some (.slice e)) (hk:P.underlying tx=some (.int k)) (hi:P.info? e=some i) (hz:i.zero=some z) (j:IntKind) (n:Nat) (h0:0 < n) (hs0:0 < i.size)
  (h63:(n:Int)≤9223372036854775807) (hfit:n * i.bytes≤281474976710656):
  (Builtin.append_ #[t,tx] ty #[.slice none 0 0, .int j n]).run P w=
   .ok (.slice (some ⟨w.heap.size,0,none⟩) n (grownCap w n 0 e)) (w.drew.alloc (.cells (Builtin.zeroCells z.cells n++Builtin.zeroCells z.cells (grownCap w n 0 e - n)) e)):=by
 have hw:IntKind.i64.wrap (n:Int)=n:=IntWalk.i64_in _ (by omega)
 have hnn:¬ n=0:=by omega
 have hmul:n * i.size≠0:=by
  have:=Nat.mul_pos h0 hs0
  omega
 have h48:¬ ((281474976710656:Int) < (n:Int) * (i.bytes:Int)):=by
  have:((n * i.bytes:Nat):Int)≤281474976710656:=by omega
  rw[Int.natCast_mul] at this
  omega
 have hcap:Builtin.nextslicecap n 0=n:=by simp[Builtin.nextslicecap];omega
 have hneg:¬ ((n:Int) < 0):=by omega
 have h63':¬ (9223372036854775807 < (n:Int)):=by omega
 have h48':¬ (281474976710656 < n * i.bytes):=by omega
 simp[Builtin.append_,run_underlying ht,run_underlying hk,sizeOf,typeInfo,zeroValue,hi,hz,asInt,asIntOf,hw,hneg,h48,hnn,hmul,hcap,h63',h48',Question.forced,newRow,grownCap,Builtin.firstCells]
theorem j0n {t tx ty e:TypeId} {k:IntKind} {sz by_ n:Nat} {z:AV} {j:IntKind} {r:Result Next} (ht:P.underlying t=some (.slice e)) (hk:P.underlying tx=some (.int k)) (hs:sizeP P e=some sz) (hb:bytesP P e=some by_) (hz:zeroP P e=some z) (hzl:z.cells.length=sz) (hzd:z.def? =true) (h0:0 < sz)
  (hg:G gen=none) (rel1:Rel G I h w) (hn0:0 < n) (hroom:n * (by_ + 1)≤z1c) (hr:r=((Builtin.append_ #[t,tx] ty #[.slice none 0 0, .int j n]).bind fun v=>Sem.pure (.value v)).run P w):
  Step G I h w gen slot r (.ob slot gen 0 n) (h.set slot (.blk gen (List.replicate n z) true true 0)):=by
 obtain⟨ti,zv,hi,hzv,hvz⟩:=z9m (G:=G) (I:=I) hz
 have hsz:ti.size=sz:=by simpa [sizeP,hi] using hs
 have hby:ti.bytes=by_:=by simpa [bytesP,hi] using hb
 have hzc:zv.cells.size=sz:=by rw[←(ArrR.of_val (q4s hz) hvz).1];exact hzl
 have hrb:z1c=70368744177664:=by decide
 rw[hrb,Nat.mul_add,Nat.mul_one] at hroom
 subst hsz hby
 have hrun:=q9c (w:=w) t tx ty e k ti zv ht hk hi hzv j n hn0 h0 (by omega) (by omega)
 have hcap:=grownCap_ge w n 0 e
 generalize grownCap w n 0 e=cap at hrun hcap
 have hx1:r= .ok (.value (.slice (some ⟨w.heap.size,0,none⟩) n cap)) (w.drew.alloc (.cells (Builtin.zeroCells zv.cells n++Builtin.zeroCells zv.cells (cap - n)) e)):=by
  rw[hr,z5g,hrun]
  rfl
 have hE:ElemsR G I (List.replicate n z) (Builtin.zeroCells zv.cells n++Builtin.zeroCells zv.cells (cap - n)) ti.size:=by
  have hrow:=q8t (G:=G) (I:=I) (n:=n) (ArrR.of_val hzd hvz)
  rw[hzc] at hrow
  intro k x hx
  obtain⟨h1,h2⟩:=hrow.2 k x hx
  refine⟨h1,fun q c hq=> ?_⟩
  obtain⟨u,hu,hur⟩:=h2 q c hq
  refine⟨u, ?_,hur⟩
  have hlt:=(Array.getElem?_eq_some_iff.1 hu).1
  have he:Builtin.zeroCells zv.cells n=(Array.range (n * ti.size)).map fun i=>zv.cells[i % ti.size]! :=by
   rw[←hzc];rfl
  rw[Array.getElem?_append_left (by rw[he];exact hlt),he]
  exact hu
 refine Step.make (w':=w.drew.alloc (.cells (Builtin.zeroCells zv.cells n++Builtin.zeroCells zv.cells (cap - n)) e)) (i:=⟨slot,w.heap.size,ti.size,cap,0,0,false⟩) (I':=I) hg rfl rel1 (fun i o b hi hb=>⟨i,o,hi,hb⟩) (.inl (Nat.le_refl _)) (fun j o hj ho=> ?_) (ILe.refl _)
  (fun b x _ hx=>z3f w.drew _ hx) (fun _ _ _ _ hv=>hv) (fun o v hv=>absurd hv (z4b rel1 o v)) ?_ ?_ rfl rfl rfl (by have:=z6s w.drew (.cells (Builtin.zeroCells zv.cells n++Builtin.zeroCells zv.cells (cap - n)) e);simp at this⊢) hx1 ?_
 ·have:=q0a (rel1.obj j o hj) ho
  simp at this
 ·refine⟨_,_,e,Ghost.put_same,rfl,z7o w.drew _, ?_,h0,by simp only[List.length_replicate];exact hcap,by simp,⟨by omega,by simp⟩,hE.mono (Ghost.put_le _ hg) (ILe.refl _),fun o v hv=>absurd hv (z4b rel1 o v)⟩
  rw[Array.size_append,size_zeroCells,size_zeroCells,hzc,←Nat.add_mul]
  show (n + (cap - n)) * ti.size=cap * ti.size
  rw[Nat.add_sub_cancel' hcap]
 ·intro b hb
  simp[own] at hb
  exact hb.symm
 ·simp only[VR]
  exact⟨_,_,_,Ghost.put_same,rfl,rfl,hcap,by simp, .inr (by simp)⟩
theorem x7r {t tx ty e:TypeId} {sz by_ c:Nat} {z:AV} {A:Option Addr} {x:Value} {xs:List AV} {h1:List AObj} {r:Result Next} (ap:AppK P t tx e sz by_ z) (hg:G gen=none) (rel1:Rel G I h1 w)
  (hown:∀ (i:Nat) o b,h1[i]? =some o→own G o=some b→∃ (j:Nat) (x:AObj),h[j]? =some x∧own G x=some b)
  (hy:Src P sz tx x 0 [] w) (hc:c=xs.length) (hall:z0o sz xs=true) (hrow:xs.length=0∨∃ b o e,A=some ⟨b,o,none⟩∧0 < e∧RowI G I xs b o e)
  (hr:r=((Builtin.append_ #[t,tx] ty #[.slice A xs.length c,x]).bind fun v=>Sem.pure (.value v)).run P w):Step G I h w gen slot r (.sl xs (.at slot gen)) (h1.set slot (.tip gen sz)):=by
 have hx1:r= .ok (.value (.slice A xs.length c)) w:=by
  rw[hr,z5g,q9a ap.ht ap.hs hy (by omega)]
  rfl
 refine Step.make (i:=⟨slot,w.heap.size,sz,0,0,0,false⟩) (I':=I) hg rfl rel1 hown (.inl (Nat.le_refl _)) (fun j o hj ho=> ?_) (ILe.refl _)
  (fun b x _ hx=>hx) (fun _ _ _ _ hv=>hv) (fun o v hv=>absurd hv (z4b rel1 o v)) ?_ ?_ rfl rfl rfl (Nat.le_refl _) hx1 ?_
 ·have:=q0a (rel1.obj j o hj) ho
  simp at this
 ·exact⟨_,Ghost.put_same,rfl,rfl,fun h=>by simp at h⟩
 ·intro b hb
  simp[own] at hb
 ·simp only[VR]
  refine⟨A,xs.length,c,rfl,rfl,by omega,⟨_,Ghost.put_same,rfl,ap.h0,fun y hy=>(z3h.1 hall y hy).2.1, .inl hc⟩, ?_⟩
  rcases hrow with h0 | ⟨b,o,e,rfl,h2,h3⟩
  ·exact .inl h0
  ·exact .inr ⟨b,o,e,rfl,h2,RowI.mono (Ghost.put_le _ hg) (ILe.refl _) h3⟩
theorem x7s {t tx ty e:TypeId} {sz by_ c s g:Nat} {z:AV} {A:Option Addr} {x:Value} {xs ys:List AV} {news:List Value} {i0:GInfo} {r:Result Next} (ap:AppK P t tx e sz by_ z) (hg:G gen=none) (rel:Rel G I h w)
  (hs:h[s]? =some (.tip g sz)) (hi0:G g=some i0) (hroomy:i0.room=true) (hA:∃ o,A=some ⟨i0.blk,o,none⟩∧o + xs.length * i0.esz=i0.endp∧o + c * i0.esz=i0.capE)
  (hall:z0o sz xs=true) (hall2:z0o sz ys=true) (hrow:xs.length=0∨∃ b o e,A=some ⟨b,o,none⟩∧0 < e∧RowI G I xs b o e)
  (hy:Src P sz tx x ys.length news w) (hn:NewsR G I ys news sz) (hfit:xs.length + ys.length≤c)
  (hr:r=((Builtin.append_ #[t,tx] ty #[.slice A xs.length c,x]).bind fun v=>Sem.pure (.value v)).run P w):Step G I h w gen slot r (.sl (xs++ys) (.at slot gen)) ((h.set s .dead).set slot (.tip gen sz)):=by
 obtain⟨i0',hi0',hsl,hesz,hob⟩:=rel.obj s _ hs
 obtain rfl:i0=i0':=by rw[hi0] at hi0';simpa using hi0'
 obtain⟨cs,ty',hw,hcap,hI⟩:=hob hroomy
 obtain⟨o,rfl,hend,hcapE⟩:=hA
 rw[hesz] at hend hcapE
 have hcm:(xs.length + ys.length) * sz≤c * sz:=Nat.mul_le_mul_right _ hfit
 rw[Nat.add_mul] at hcm
 have hnl:=hn.1
 have hrun:=q3p (ty:=ty) ap.ht ap.hs hy hfit hw (off:=o) (by omega)
 have hx1:r= .ok (.value (.slice (some ⟨i0.blk,o,none⟩) (xs.length + ys.length) c)) (w.setRow i0.blk (cs.toList.take (o + xs.length * sz)++news++cs.toList.drop (o + xs.length * sz + news.length)).toArray):=by
  rw[hr,z5g,hrun]
  rfl
 have hget:=fun j=>z8p (cs:=cs) (vs:=news) (o:=o + xs.length * sz) (by omega) j
 generalize hcs':(cs.toList.take (o + xs.length * sz)++news++cs.toList.drop (o + xs.length * sz + news.length)).toArray=cs' at hx1 hget
 have hsz':cs'.size=cs.size:=by
  rw[←hcs']
  simp
  omega
 have hown:own G (.tip g sz)=some i0.blk:=by simp[own,hi0,hroomy]
 have hw':=setRow_heap w i0.blk cs cs' ty' (0,0) hw
 have hlen:(xs++ys).length=xs.length + ys.length:=by simp
 have hle:ILe I (z7d I i0.blk (i0.endp + ys.length * sz) cs'):=q8x fun q v hv hq=>by
  have:=hI q v hv
  rw[hget q,if_neg (by omega)]
  have h1:=rel.imm _ q v hv
  simpa [World.cell?,hw] using h1
 refine Step.make (w':=w.setRow i0.blk cs') (i:=⟨slot,i0.blk,sz,0,i0.endp + ys.length * sz,i0.capE,true⟩) (I':=z7d I i0.blk (i0.endp + ys.length * sz) cs') hg rfl (rel.kill s) q0d (.inr ⟨s,_,hs,hown⟩) (fun j o hj ho=> ?_) hle
  (fun b x hb hx=>by rw[setRow_other w _ _ _ hb];exact hx) q1x (fun q v hv=> ?_) ?_ ?_ rfl rfl rfl (by simp) hx1 ?_
 ·obtain⟨h1,h2⟩:=q3o hj ho
  exact h1 (rel.inj j s o _ _ h2 hs ho hown)
 ·rw[cell_setRow_same w _ q cs cs' ty' _ hw]
  unfold z7d at hv
  split at hv
  ·exact hv
  ·rename_i hc
   have:=hI q v hv
   simp at hc
   omega
 ·refine⟨_,Ghost.put_same,rfl,rfl,fun _=>⟨cs',ty',hw',by simp only;omega,fun q v hv=> ?_⟩⟩
  unfold z7d at hv
  split at hv
  ·rename_i hc;exact hc.2
  ·have:=hI q v hv
   simp only
   omega
 ·intro b hb
  simp[own] at hb
  exact hb.symm
 ·simp only[VR]
  refine⟨_,_,_,rfl,hlen,hfit,⟨_,Ghost.put_same,rfl,ap.h0,fun y hy=> ?_, .inr ⟨rfl,o,rfl, ?_, ?_⟩⟩, .inr ⟨i0.blk,o,sz,rfl,ap.h0,RowI.mono (Ghost.put_le _ hg) (ILe.refl _) ?_⟩⟩
  ·rcases List.mem_append.1 hy with hy | hy
   ·exact (z3h.1 hall y hy).2.1
   ·exact (z3h.1 hall2 y hy).2.1
  ·simp only[hlen,Nat.add_mul]
   omega
  ·simp only
   omega
  ·refine z6j.2 fun k y hk=> ?_
   rw[List.getElem?_append] at hk
   split at hk
   ·rename_i hkl
    rcases hrow with h0 | ⟨b,o',e',hA,hpos,hrow⟩
    ·omega
    ·simp at hA
     obtain⟨rfl,rfl⟩:=hA
     obtain⟨h1,h2⟩:=z6j.1 hrow k y hk
     have h3:=(z3h.1 hall y (List.mem_of_getElem? hk)).2.1
     obtain rfl:e'=sz:=by omega
     exact⟨h1,CellsI.mono (GLe.refl _) hle h2⟩
   ·rename_i hkl
    obtain⟨h1,h2⟩:=hn.2 _ y hk
    refine⟨h1,z7j.2 fun j c hj=> ?_⟩
    obtain⟨u,h3,h4⟩:=h2 j c hj
    have hlt:=(List.getElem?_eq_some_iff.1 h3).1
    have he:k * sz=xs.length * sz + (k - xs.length) * sz:=by rw[←Nat.add_mul];congr 1;omega
    refine⟨u, ?_,VR.mono (GLe.refl _) hle h4⟩
    rw[q8y _ (by omega),hget,if_pos ⟨by omega,by omega⟩]
    rw[show o + k * sz + j - (o + xs.length * sz)=(k - xs.length) * sz + j by omega]
    exact h3
theorem j0o {t tx ty e:TypeId} {sz by_ c s g len fz:Nat} {z:AV} {A:Option Addr} {x:Value} {es ys:List AV} {news:List Value} {i0:GInfo} {r:Result Next} (ap:AppK P t tx e sz by_ z) (hg:G gen=none) (rel:Rel G I h w)
  (hs:h[s]? =some (.blk g es true true fz)) (hi0:G g=some i0) (hc:c=i0.cap) (hA:c=0∨A=some ⟨i0.blk,0,none⟩) (hle:len≤es.length) (hfz:fz≤len) (hes:i0.esz=sz)
  (hy:Src P sz tx x ys.length news w) (hn:NewsR G I ys news sz) (hm:ys≠[]) (hfit:len + ys.length≤c)
  (hr:r=((Builtin.append_ #[t,tx] ty #[.slice A len c,x]).bind fun v=>Sem.pure (.value v)).run P w):Step G I h w gen slot r (.ob slot gen 0 (len + ys.length)) ((h.set s .dead).set slot (.blk gen (es.take len++ys) true true fz)):=by
 obtain⟨i0',cs,ty',hi0',hsl,hw,hsz,hpos,hcap,_,_,hE,hI⟩:=rel.obj s _ hs
 obtain rfl:i0=i0':=by rw[hi0] at hi0';simpa using hi0'
 have hm0:0 < ys.length:=List.length_pos_iff.2 hm
 obtain rfl:A=some ⟨i0.blk,0,none⟩:=hA.resolve_left (by omega)
 subst hes
 have hcm:(len + ys.length) * i0.esz≤i0.cap * i0.esz:=Nat.mul_le_mul_right _ (by omega)
 rw[Nat.add_mul] at hcm
 have hnl:=hn.1
 have hrun:=q3p (ty:=ty) ap.ht ap.hs hy hfit hw (off:=0) (by omega)
 simp only[Nat.zero_add] at hrun
 have hx1:r= .ok (.value (.slice (some ⟨i0.blk,0,none⟩) (len + ys.length) c)) (w.setRow i0.blk (cs.toList.take (len * i0.esz)++news++cs.toList.drop (len * i0.esz + news.length)).toArray):=by
  rw[hr,z5g,hrun]
  rfl
 have hget:=fun j=>z8p (cs:=cs) (vs:=news) (o:=len * i0.esz) (by omega) j
 generalize hcs':(cs.toList.take (len * i0.esz)++news++cs.toList.drop (len * i0.esz + news.length)).toArray=cs' at hx1 hget
 have hsz':cs'.size=cs.size:=by
  rw[←hcs']
  simp
  omega
 have hown:own G (.blk g es true true fz)=some i0.blk:=by simp[own,hi0]
 have hw':=setRow_heap w i0.blk cs cs' ty' (0,0) hw
 have hfm:fz * i0.esz≤len * i0.esz:=Nat.mul_le_mul_right _ hfz
 refine Step.make (w':=w.setRow i0.blk cs') (i:=⟨slot,i0.blk,i0.esz,i0.cap,0,0,false⟩) (I':=I) hg rfl (rel.kill s) q0d (.inr ⟨s,_,hs,hown⟩) (fun j o hj ho=> ?_) (ILe.refl _)
  (fun b x hb hx=>by rw[setRow_other w _ _ _ hb];exact hx) (fun _ _ _ _ hv=>hv) (fun q v hv=> ?_) ?_ ?_ rfl rfl rfl (by simp) hx1 ?_
 ·obtain⟨h1,h2⟩:=q3o hj ho
  exact h1 (rel.inj j s o _ _ h2 hs ho hown)
 ·have h1:=hI q v hv
  rw[cell_setRow_same w _ q cs cs' ty' _ hw,hget q,if_neg (by omega)]
  have h2:=rel.imm _ q v hv
  simpa [World.cell?,hw] using h2
 ·refine⟨_,cs',ty',Ghost.put_same,rfl,hw',by simp only;omega,hpos,by simp;omega,by simp,⟨by simp;omega,by simp⟩, ?_,fun q v hv=>hI q v hv⟩
  refine ElemsR.mono (e:=i0.esz) (Ghost.put_le _ hg) (ILe.refl _) (fun k y hk=> ?_)
  rw[List.getElem?_append] at hk
  have htl:(es.take len).length=len:=by simp;omega
  rw[htl] at hk
  split at hk
  ·rename_i hkl
   rw[List.getElem?_take_of_lt hkl] at hk
   obtain⟨h1,h2⟩:=hE k y hk
   refine⟨h1,fun j c hj=> ?_⟩
   obtain⟨u,h3,h4⟩:=h2 j c hj
   have hjl:=(List.getElem?_eq_some_iff.1 hj).1
   have:=z8u hkl (show j < i0.esz by omega)
   exact⟨u,by rw[hget,if_neg (by omega)];exact h3,h4⟩
  ·rename_i hkl
   obtain⟨h1,h2⟩:=hn.2 _ y hk
   refine⟨h1,fun j c hj=> ?_⟩
   obtain⟨u,h3,h4⟩:=h2 j c hj
   have hlt:=(List.getElem?_eq_some_iff.1 h3).1
   have he:k * i0.esz=len * i0.esz + (k - len) * i0.esz:=by rw[←Nat.add_mul];congr 1;omega
   refine⟨u, ?_,h4⟩
   rw[hget,if_pos ⟨by omega,by omega⟩]
   rw[show k * i0.esz + j - len * i0.esz=(k - len) * i0.esz + j by omega]
   exact h3
 ·intro b hb
  simp[own] at hb
  exact hb.symm
 ·simp only[VR]
  exact⟨_,_,_,Ghost.put_same,rfl,rfl,hfit,by simp only;omega, .inr (by simp)⟩
theorem x7t {t tx ty e:TypeId} {sz by_ c s g len fz:Nat} {z:AV} {A:Option Addr} {x:Value} {es ys:List AV} {news:List Value} {i0:GInfo} {r:Result Next} (ap:AppK P t tx e sz by_ z) (hg:G gen=none) (rel:Rel G I h w)
  (hs:h[s]? =some (.blk g es true false fz)) (hi0:G g=some i0) (hc:c=i0.cap) (hA:c=0∨A=some ⟨i0.blk,0,none⟩) (hfz:fz≤len) (hes:i0.esz=sz)
  (hy:Src P sz tx x ys.length news w) (hn:NewsR G I ys news sz) (hm:ys≠[]) (hfit:len + ys.length≤es.length)
  (hr:r=((Builtin.append_ #[t,tx] ty #[.slice A len c,x]).bind fun v=>Sem.pure (.value v)).run P w):
  Step G I h w gen slot r (.ob s g 0 (len + ys.length)) (h.set s (.blk g (es.take len++ys++es.drop (len + ys.length)) true false fz)):=by
 obtain⟨i0',cs,ty',hi0',hsl,hw,hsz,hpos,hcap,hgr,hfz2,hE,hI⟩:=rel.obj s _ hs
 obtain rfl:i0=i0':=by rw[hi0] at hi0';simpa using hi0'
 have hec:=hgr rfl
 have hm0:0 < ys.length:=List.length_pos_iff.2 hm
 obtain rfl:A=some ⟨i0.blk,0,none⟩:=hA.resolve_left (by omega)
 subst hes
 have hcm:(len + ys.length) * i0.esz≤i0.cap * i0.esz:=Nat.mul_le_mul_right _ (by omega)
 rw[Nat.add_mul] at hcm
 have hnl:=hn.1
 have hrun:=q3p (ty:=ty) ap.ht ap.hs hy (c:=c) (n:=len) (by omega) hw (off:=0) (by omega)
 simp only[Nat.zero_add] at hrun
 have hx1:r= .ok (.value (.slice (some ⟨i0.blk,0,none⟩) (len + ys.length) c)) (w.setRow i0.blk (cs.toList.take (len * i0.esz)++news++cs.toList.drop (len * i0.esz + news.length)).toArray):=by
  rw[hr,z5g,hrun]
  rfl
 have hget:=fun j=>z8p (cs:=cs) (vs:=news) (o:=len * i0.esz) (by omega) j
 generalize hcs':(cs.toList.take (len * i0.esz)++news++cs.toList.drop (len * i0.esz + news.length)).toArray=cs' at hx1 hget
 have hsz':cs'.size=cs.size:=by
  rw[←hcs']
  simp
  omega
 have hown:own G (.blk g es true false fz)=some i0.blk:=by simp[own,hi0]
 have hfm:fz * i0.esz≤len * i0.esz:=Nat.mul_le_mul_right _ hfz
 have hel:(es.take len++ys++es.drop (len + ys.length)).length=es.length:=by simp;omega
 refine⟨_,_,_,G,I,hx1, .inl rfl, ?_,rel.setRow hs hi0 hw hsz' (by omega) (fun _=>by omega) ⟨by omega,by simp⟩ ?_ (fun q v hv=>⟨hI q v hv, ?_⟩),GLe.refl _,ILe.refl _,fun _ _=>rfl,fun i hi=>by simp[hg] at hi, ?_,Fr.setRow hs hown,IFr.refl⟩
 ·simp only[VR]
  exact⟨i0,_,_,hi0,hsl,rfl,by omega,by omega, .inr (by simp)⟩
 ·intro k y hk
  have htl:(es.take len).length=len:=by simp;omega
  rw[List.append_assoc,List.getElem?_append,htl] at hk
  split at hk
  ·rename_i hkl
   rw[List.getElem?_take_of_lt hkl] at hk
   obtain⟨h1,h2⟩:=hE k y hk
   refine⟨h1,fun j c hj=> ?_⟩
   obtain⟨u,h3,h4⟩:=h2 j c hj
   have hjl:=(List.getElem?_eq_some_iff.1 hj).1
   have:=z8u hkl (show j < i0.esz by omega)
   exact⟨u,by rw[hget,if_neg (by omega)];exact h3,h4⟩
  ·rename_i hkl
   rw[List.getElem?_append] at hk
   have he:k * i0.esz=len * i0.esz + (k - len) * i0.esz:=by rw[←Nat.add_mul];congr 1;omega
   split at hk
   ·rename_i hkm
    obtain⟨h1,h2⟩:=hn.2 _ y hk
    refine⟨h1,fun j c hj=> ?_⟩
    obtain⟨u,h3,h4⟩:=h2 j c hj
    have hlt:=(List.getElem?_eq_some_iff.1 h3).1
    refine⟨u, ?_,h4⟩
    rw[hget,if_pos ⟨by omega,by omega⟩]
    rw[show k * i0.esz + j - len * i0.esz=(k - len) * i0.esz + j by omega]
    exact h3
   ·rename_i hkm
    rw[List.getElem?_drop] at hk
    rw[show len + ys.length + (k - len - ys.length)=k by omega] at hk
    obtain⟨h1,h2⟩:=hE k y hk
    refine⟨h1,fun j c hj=> ?_⟩
    obtain⟨u,h3,h4⟩:=h2 j c hj
    have:(len + ys.length) * i0.esz≤k * i0.esz:=Nat.mul_le_mul_right _ (by omega)
    rw[Nat.add_mul] at this
    exact⟨u,by rw[hget,if_neg (by omega)];exact h3,h4⟩
 ·have:=hI q v hv
  rw[hget,if_neg (by omega)]
 ·refine OwnLe.same fun j o hj=> ?_
  rcases getElem?_set_cases hj with ⟨rfl,rfl⟩ | ⟨_,hj⟩
  ·exact⟨j,_,hs,fun b hb=>by simpa [own] using hb⟩
  ·exact⟨j,o,hj,fun _ hb=>hb⟩
end
section
variable {P:Program} {G:Ghost} {I:Imm} {h:List AObj} {w:World} {gen slot:Nat}
theorem x4p {sz n:Nat} {es:List AV} (ha:z0o sz es=true):z0o sz (es.take n)=true:=
 z3h.2 fun x hx=>z3h.1 ha x (List.mem_of_mem_take hx)
theorem j0p {t tx ty e:TypeId} {sz by_:Nat} {z:AV} {mu:Bool} {x y v:AV} {cx cy:Value} {h':List AObj} {r:Result Next} (ap:AppK P t tx e sz by_ z) (hg:G gen=none) (rel:Rel G I h w)
  (hx:VR G I x cx) (hy:VR G I y cy) (ha:z0n h slot gen sz by_ mu x y=some (v,h'))
  (hr:r=((Builtin.append_ #[t,tx] ty #[cx,cy]).bind fun v=>Sem.pure (.value v)).run P w):Step G I h w gen slot r v h':=by
 unfold z0n at ha
 split at ha
 ·simp at ha
 ·rename_i ys hys
  split at ha
  ·simp at ha
  ·rename_i hall2
   have hall2:z0o sz ys=true:=by simpa using hall2
   obtain⟨news,hsy,hn⟩:=j9w rel hys hy hall2 ap.h0 ap.hk
   have htk:(∃ e',P.underlying t=some (.slice e'))∨P.underlying t=some .string:= .inl ⟨e,ap.ht⟩
   have self:∀ (i:Nat) o b,h[i]? =some o→own G o=some b→∃ (j:Nat) (x:AObj),h[j]? =some x∧own G x=some b:=fun i o b hi hb=>⟨i,o,hi,hb⟩
   split at ha
   ·rename_i xs tp
    split at ha
    ·simp at ha
    ·rename_i hcond
     simp only[Bool.or_eq_true,decide_eq_true_eq,Bool.not_eq_true',not_or,Nat.not_lt,Bool.not_eq_false] at hcond
     obtain⟨hroom,hall⟩:=hcond
     obtain⟨olds,hsx,ho⟩:=j9w rel (y:= .sl xs tp) (ys:=xs) rfl hx hall ap.h0 htk
     simp only[VR] at hx
     obtain⟨A,n,c,rfl,rfl,hnc,htip,hrow⟩:=hx
     have grow:∀ h1,Rel G I h1 w→(∀ (i:Nat) o b,h1[i]? =some o→own G o=some b→∃ (j:Nat) (x:AObj),h[j]? =some x∧own G x=some b)→c < xs.length + ys.length→
       Step G I h w gen slot r (.sl (xs++ys) (.at slot gen)) (h1.set slot (.tip gen sz)):=fun h1 rel1 hown hgr=>x7q ap hg rel1 hown hsx hsy ho hn hgr hroom hr
     have same:∀ h1,Rel G I h1 w→(∀ (i:Nat) o b,h1[i]? =some o→own G o=some b→∃ (j:Nat) (x:AObj),h[j]? =some x∧own G x=some b)→c=xs.length→ys=[]→
       Step G I h w gen slot r (.sl (xs++ys) (.at slot gen)) (h1.set slot (.tip gen sz)):=fun h1 rel1 hown hc he=>by
      subst he
      have hnn:news=[]:=List.length_eq_zero_iff.1 (by rw[hn.1];simp)
      subst hnn
      rw[List.append_nil]
      exact x7r ap hg rel1 hown hsy hc hall hrow hr
     have either:∀ h1,Rel G I h1 w→(∀ (i:Nat) o b,h1[i]? =some o→own G o=some b→∃ (j:Nat) (x:AObj),h[j]? =some x∧own G x=some b)→c=xs.length→
       Step G I h w gen slot r (.sl (xs++ys) (.at slot gen)) (h1.set slot (.tip gen sz)):=fun h1 rel1 hown hc=>by
      cases hye:ys with
      | nil=>rw[←hye];exact same h1 rel1 hown hc hye
      | cons b bs=>
        rw[←hye]
        refine grow h1 rel1 hown ?_
        have:0 < ys.length:=by rw[hye];simp
        omega
     split at ha
     ·rename_i hmu
      split at ha
      ·rename_i b bs
       simp at ha
       obtain⟨rfl,rfl⟩:=ha
       simp only[TipR] at htip
       have:=q3q (slot:=slot) (h:=h) (fz:=0) ap hg rel self hsx hsy ho hn (by simp;omega) hroom (Nat.zero_le _) hr
       simpa using this
      ·rename_i b bs
       simp at ha
       obtain⟨rfl,rfl⟩:=ha
       simp only[TipR] at htip
       have:=q3q (slot:=slot) (h:=h) (fz:=0) ap hg rel self hsx hsy ho hn (by simp;omega) hroom (Nat.zero_le _) hr
       simpa using this
      ·simp at ha
     ·rename_i hmu
      split at ha
      ·simp at ha
       obtain⟨rfl,rfl⟩:=ha
       simp only[TipR] at htip
       exact either h rel self htip
      ·simp at ha
       obtain⟨rfl,rfl⟩:=ha
       simp only[TipR] at htip
       exact either h rel self (by omega)
      ·rename_i s g
       split at ha
       ·rename_i g' e' hs
        split at ha
        ·rename_i hge
         obtain⟨rfl,rfl⟩:=hge
         simp at ha
         obtain⟨rfl,rfl⟩:=ha
         simp only[TipR] at htip
         obtain⟨i0,hi0,hsl,hpos,hcl,htip⟩:=htip
         obtain⟨i0',hi0',_,hesz,_⟩:=rel.obj s _ hs
         obtain rfl:i0=i0':=by rw[hi0] at hi0';simpa using hi0'
         rcases htip with hc | ⟨hroomy,hA⟩
         ·exact either _ (rel.kill s) q0d hc
         ·by_cases hfit:xs.length + ys.length≤c
          ·exact x7s ap hg rel hs hi0 hroomy hA hall hall2 hrow hsy hn hfit hr
          ·exact grow _ (rel.kill s) q0d (by omega)
        ·simp at ha
       ·simp at ha
      ·simp at ha
   ·rename_i s g off len
    split at ha
    ·rename_i es grow fz hb
     have hs:=z9l hb
     split at ha
     ·simp at ha
     ·rename_i hcond
      simp only[Bool.or_eq_true,decide_eq_true_eq,Bool.not_eq_true',not_or,Nat.not_lt,Bool.not_eq_false,beq_iff_eq] at hcond
      obtain⟨⟨hroom,hall⟩,rfl⟩:=hcond
      split at ha
      ·rename_i hye
       simp at ha
       obtain⟨rfl,rfl⟩:=ha
       have hye:ys=[]:=by simpa using hye
       subst hye
       have hnn:news=[]:=List.length_eq_zero_iff.1 (by rw[hn.1];simp)
       subst hnn
       have hx0:=hx
       simp only[VR] at hx
       obtain⟨i0,A,c,hi0,hsl,rfl,hlc,hoc,hA⟩:=hx
       refine Step.pure hg rel (cv:= .slice A len c) ?_ hx0
       rw[hr,z5g,q9a ap.ht ap.hs hsy hlc]
       rfl
      ·rename_i hye
       have hye:ys≠[]:=by simpa using hye
       have hm0:0 < ys.length:=List.length_pos_iff.2 hye
       obtain⟨i1,cs1,ty1,hi1,_,_,_,_,hcap1,hgr1,_,hE1,_⟩:=rel.obj s _ hs
       have olds:len≤es.length→∃ olds,Src P sz t cx len olds w∧NewsR G I (es.take len) olds sz:=fun hle=>by
        have hro:z4e h (.ob s g 0 len)=some (es.take len):=by simp[z4e,q0r,hb,hle]
        obtain⟨olds,h1,h2⟩:=j9w rel hro hx (x4p hall) ap.h0 htk
        have htl:(es.take len).length=len:=by simp;omega
        rw[htl] at h1
        exact⟨olds,h1,h2⟩
       simp only[VR] at hx
       obtain⟨i0,A,c,hi0,hsl,rfl,hlc,hoc,hA⟩:=hx
       obtain rfl:i0=i1:=by rw[hi0] at hi1;simpa using hi1
       rw[Nat.zero_mul] at hA
       have hesz:0 < es.length→i0.esz=sz:=fun hlt=>by
        have h1:=(hE1 0 es[0] (List.getElem?_eq_getElem hlt)).1
        have h2:=(z3h.1 hall es[0] (List.getElem_mem hlt)).2.1
        omega
       have grow':len≤es.length→∀ fz',fz'≤len→∀ h1,Rel G I h1 w→(∀ (i:Nat) o b,h1[i]? =some o→own G o=some b→∃ (j:Nat) (x:AObj),h[j]? =some x∧own G x=some b)→c < len + ys.length→
         Step G I h w gen slot r (.ob slot gen 0 (len + ys.length)) (h1.set slot (.blk gen (es.take len++ys) true true fz')):=fun hle fz' hfz h1 rel1 hown hgr=>by
        obtain⟨olds,h2,h3⟩:=olds hle
        have key:∀ xs:List AV,xs.length=len→NewsR G I xs olds sz→Step G I h w gen slot r (.ob slot gen 0 (len + ys.length)) (h1.set slot (.blk gen (xs++ys) true true fz')):=fun xs hxl h4=>by
         subst hxl
         exact q3q ap hg rel1 hown h2 hsy h4 hn hgr hroom hfz hr
        exact key _ (by simp;omega) h3
       split at ha
       ·rename_i hgrow
        subst hgrow
        split at ha
        ·rename_i hc
         simp at ha
         obtain⟨rfl,rfl⟩:=ha
         by_cases hfit:len + ys.length≤c
         ·exact j0o ap hg rel hs hi0 (by omega) hA hc.2.1 hc.1 (hesz hc.2.2) hsy hn hye hfit hr
         ·exact grow' hc.2.1 fz hc.1 _ (rel.kill s) q0d (by omega)
        ·simp at ha
       ·rename_i hgrow
        have hgrow:grow=false:=by simpa using hgrow
        subst hgrow
        have hec:=hgr1 rfl
        split at ha
        ·rename_i hfit
         split at ha
         ·rename_i hfz
          simp at ha
          obtain⟨rfl,rfl⟩:=ha
          have:=x7t (slot:=slot) ap hg rel hs hi0 (by omega) hA hfz (hesz (by omega)) hsy hn hye hfit hr
          simpa using this
         ·simp at ha
        ·rename_i hfit
         split at ha
         ·rename_i hle
          simp at ha
          obtain⟨rfl,rfl⟩:=ha
          exact grow' hle 0 (Nat.zero_le _) _ rel self (by omega)
         ·simp at ha
    ·simp at ha
   ·simp at ha
end
end Go.Proofs.YtdfepmffiampgaaGreatDoor.Am
