/- One operation of the abstract machine stands for one operation of the model: places, elements, conversions, constants One operation of the abstract machine stands for one operation of the model: what  -/
import Derived.Laws.IdiomStrings
import Derived.Deep.AppendSrc
import Derived.IntWalk
import Derived.Test.YtkollgjffkdliaaGreatDoorK02
open Bool renaming not_eq_true' → d9
open List renaming exists_cons_of_ne_nil → m9,getElem?_append → n6,getElem?_drop → d8,getElem?_eq_getElem → v9,getElem?_eq_some_iff → x9,getElem?_map → m8,getElem?_take_of_lt → l8,getElem_mem → x8,length_eq_zero_iff → l6,length_map → z6,length_pos_iff → l0,map_cons → j4,mem_cons → j6,mem_of_getElem? → m6,replicate → x3
open Nat renaming add_assoc → d3,add_mul → k9,add_zero → b4,le_refl → x7,mul_le_mul_right → w8,zero_add → k6
open Option renaming map_eq_some_iff → x5
set_option linter.all false
namespace Go.Proofs.YtkollgjffkdliaaGreatDoor.Am
open Go
set_option maxRecDepth 100000
section
variable {P:Program} {G:Ghost} {I:Imm} {h:List AObj} {w:World} {gen slot:Nat}
theorem z5q {e:TypeId} {sz:Nat} (hsz:sizeP P e=some sz) (w:World):(sizeOf e).run P w= .ok sz w:=by
 unfold sizeP at hsz
 cases hi:P.info? e with
 | none=>simp[hi] at hsz
 | some i=>simp[hi] at hsz;simp[sizeOf,typeInfo,hi,hsz]
theorem j2t {v:Value} {x:AV} (hc:j5v v=some x):VR G I x v:=by
 unfold j5v at hc
 split at hc <;> simp at hc <;> subst hc <;> simp only[VR]
 ·rename_i s
  refine⟨?_, ?_⟩
  ·congr 1
   apply ByteArray.ext
   apply Array.ext'
   simp only[z7r,List.map_map]
   rw[show (UInt8.ofNat∘fun (x:UInt8)=>x.toNat)=id from by funext x;simp]
   simp
  ·intro b hb
   simp at hb
   obtain⟨u,_,rfl⟩:=hb
   exact UInt8.toNat_lt u
 ·exact⟨none,0,0,rfl,rfl,x7 _,⟨rfl,rfl,rfl⟩, .inl rfl⟩
theorem j2u:∀ {vs:List Value} {xs:List AV},j8g vs=some xs→VRL G I xs vs
 | [],xs,hc=>by simp[j8g] at hc;subst hc;simp[VRL]
 | v::vs,xs,hc=>by
   simp only[j8g] at hc
   split at hc
   ·rename_i a b ha hb
    simp at hc
    subst hc
    simp only[VRL]
    exact⟨v,vs,rfl,j2t ha,j2u hb⟩
   ·simp at hc
theorem j8t {v:Value} {x:AV} (hc:v4j v=some x):VR G I x v:=by
 unfold v4j at hc
 split at hc
 ·simp at hc
  obtain⟨cs,h1,rfl⟩:=hc
  simp only[VR]
  exact⟨_,rfl,j2u h1⟩
 ·exact j2t hc
def TR (G:Ghost) (I:Imm) (ts:Tmps) (ρ:Operand→Value):Prop:=
 (∀ t,VR G I (ts t) (ρ (.tmp t)))∧(∀ v,ρ (.const v)=v)∧∀ f,ρ (.func f)= .func (.func f) #[] #[]
theorem z1b {ts:Tmps} {ρ:Operand→Value} {o:Operand} {x:AOpd} (ht:TR G I ts ρ) (hc:z5x o=some x):VR G I (x.ev ts) (ρ o):=by
 cases o with
 | tmp t=>simp[z5x] at hc;subst hc;exact ht.1 t
 | const v=>
   simp[z5x] at hc
   subst hc
   simp only[AOpd.ev,ht.2.1]
   cases hv:v4j v with
   | none=>simp[VR]
   | some x=>exact j8t hv
 | func f=>
   simp[z5x] at hc
   subst hc
   simp only[AOpd.ev,ht.2.2]
   by_cases hf:f < z6i
   ·rw[if_pos hf]
    simp only[VR,j8f hf]
    exact⟨#[],rfl,by simp[VRL]⟩
   ·rw[if_neg hf]
    simp[VR]
 | global g=>simp[z5x] at hc;subst hc;simp[AOpd.ev,VR]
theorem q7q {ts:Tmps} {ρ:Operand→Value} (ht:TR G I ts ρ):∀ {os:List Operand} {xs:List AOpd},x3w os=some xs→VRL G I (xs.map (·.ev ts)) (os.map ρ)
 | [],xs,hc=>by simp[x3w] at hc;subst hc;simp[VRL]
 | o::os,xs,hc=>by
   simp only[x3w] at hc
   split at hc
   ·rename_i a b ha hb
    simp at hc
    subst hc
    simp only[j4,VRL]
    exact⟨_,_,rfl,z1b ht ha,q7q ht hb⟩
   ·simp at hc
theorem q2k {ts:Tmps} {ρ:Operand→Value} (ht:TR G I ts ρ) {o:Option Operand} {x:Option AOpd} (hc:q7k o=some x):OR G I (x.map (·.ev ts)) (o.map ρ):=by
 cases o with
 | none=>simp[q7k] at hc;subst hc;trivial
 | some o=>
   simp[q7k] at hc
   obtain⟨a,h1,rfl⟩:=hc
   exact z1b ht h1
theorem z9a {t:TypeId} {z:AV} (hz:zeroP P t=some z):∃ i zv,P.info? t=some i∧i.zero=some zv∧VR G I z zv:=by
 unfold zeroP at hz
 cases hi:P.info? t with
 | none=>simp[hi] at hz
 | some i=>
   cases hzz:i.zero with
   | none=>simp[hi,hzz] at hz
   | some zv=>
     simp[hi,hzz] at hz
     exact⟨i,zv,rfl,hzz,j8t hz⟩
theorem j8u {t:TypeId} {cells:List AV} {cs:Array Value} {off:Nat} {sz:Option Nat} {v:AV} (ha:ArrR G I cells cs) (hs:z7o P t=some sz) (hr:z1w cells off sz=some v):
  ∃ cv,(part t cs off).run P w= .ok cv w∧VR G I v cv:=by
 cases hu:P.underlying t with
 | none=>simp[z7o,hu] at hs
 | some d=>
   have hagg:=z9s (w:=w) hu
   by_cases hd:j5w d=true
   ·obtain⟨n,hn,rfl⟩:∃ n,sizeP P t=some n∧sz=some n:=by
     unfold z7o at hs
     rw[hu] at hs
     cases d <;> simp[j5w] at hd <;> (simp at hs;obtain⟨n,h1,h2⟩:=hs;exact⟨n,h1,h2.symm⟩)
    simp only[z1w] at hr
    split at hr
    ·rename_i hle
     simp only[Option.some.injEq] at hr
     subst hr
     refine⟨.agg (cs.extract off (off + n)),by simp[part,hagg,hd,z5q hn], ?_⟩
     refine ArrR.agg ⟨?_,fun j c hj=> ?_⟩
     ·have:=ha.1
      simp
      omega
     ·have hjn:j < n:=by
       have:=(x9.1 hj).1
       simp at this
       omega
      rw[l8 hjn,d8] at hj
      obtain⟨u,hu,hv⟩:=ha.2 (off + j) c hj
      refine⟨u, ?_,hv⟩
      have h1:=ha.1
      have:j < min (off + n) cs.size - off:=by omega
      rw[Array.getElem?_extract]
      simp[this,hu]
    ·simp at hr
   ·have hz:sz=none:=by
     unfold z7o at hs
     rw[hu] at hs
     cases d <;> first | (simp[j5w] at hd;done) | (simp at hs;exact hs.symm)
    subst hz
    simp only[z1w] at hr
    obtain⟨u,h1,h2⟩:=ha.2 off v hr
    have hd':j5w d=false:=by simpa using hd
    exact⟨u,by simp[part,hagg,hd',h1],h2⟩
theorem x2c {t ft:TypeId} {f o:Nat} (hf:q5s P t f=some (o,ft)):∃ fs fd,P.underlying t=some (.struct fs)∧fs[f]? =some fd∧fd.offset=o∧fd.type=ft:=by
 unfold q5s at hf
 split at hf
 ·rename_i fs hu
  simp at hf
  obtain⟨fd,h1,h2,h3⟩:=hf
  exact⟨fs,fd,hu,h1,h2,h3⟩
 ·simp at hf
theorem k4r {t ft:TypeId} {f o:Nat} {sz:Option Nat} {cs:List AV} {a:Value} {v:AV} (hx:VR G I (.agg cs) a) (hf:q5s P t f=some (o,ft)) (hs:z7o P ft=some sz) (hr:z1w cs o sz=some v):
  ∃ cv,(Instr.field t a f).run P w= .ok cv w∧VR G I v cv:=by
 obtain⟨fs,fd,hu,h1,rfl,rfl⟩:=x2c hf
 obtain⟨vs,rfl,ha⟩:=ArrR.of_agg hx
 obtain⟨cv,h2,h3⟩:=j8u (w:=w) ha hs hr
 exact⟨cv,by simp[Instr.field,run_underlying hu,h1,asAgg,h2],h3⟩
theorem x2d {t ft:TypeId} {f o:Nat} {b p:Nat} (hf:q5s P t f=some (o,ft)) {n:Nat} (hs:sizeP P ft=some (n + 1)):
  (Instr.fieldAt t (.pointer (some ⟨b,p,none⟩)) f).run P w= .ok (.pointer (some ⟨b,p + o,none⟩)) w:=by
 obtain⟨fs,fd,hu,h1,rfl,rfl⟩:=x2c hf
 have hz:=z5q hs
 simp[Instr.fieldAt,run_underlying hu,h1,Instr.sureAddr,fieldPlace,hz,Addr.add_lit]
theorem j6a {t e:TypeId} {sz:Nat} {k:IntKind} {i:Int} {xs:List AV} {tp:Tip} {x:AV} {a:Value} (hu:P.underlying t=some (.slice e)) (hs:sizeP P e=some sz) (hx:VR G I (.sl xs tp) a)
  (h0:0≤i) (he:xs[i.toNat]? =some x) (hl:x.cells.length=sz):∃ cv,(Instr.indexAt t a (.int k i)).run P w= .ok cv w∧VR G I (.iptr x.cells 0) cv:=by
 simp only[VR] at hx
 obtain⟨A,n,c,rfl,rfl,_,_,hrow⟩:=hx
 have hlt:=(x9.1 he).1
 rcases hrow with h | ⟨b,o,e',rfl,_,hrow⟩
 ·omega
 ·obtain⟨h1,h2⟩:=z5u.1 hrow _ _ he
  obtain rfl:e'=sz:=by omega
  have hc:0≤i∧i < (xs.length:Int):=⟨h0,by omega⟩
  refine⟨.pointer (some ⟨b,o + i.toNat * e',none⟩), ?_, ?_⟩
  ·simp[Instr.indexAt,asIntOf,run_underlying hu,hc,z5q hs,Addr.add_lit]
  ·simp only[VR]
   exact⟨b,o + i.toNat * e',rfl,h2⟩
theorem j6b {t e:TypeId} {sz:Nat} {k:IntKind} {i:Int} {s g off len:Nat} {es:List AV} {row grow:Bool} {fz:Nat} {x:AV} {a:Value} (rel:Rel G I h w) (hu:P.underlying t=some (.slice e)) (hs:sizeP P e=some sz) (hx:VR G I (.ob s g off len) a)
  (hb:z2f h s g=some (es,row,grow,fz)) (h0:0≤i) (he:es[off + i.toNat]? =some x) (hlt:i.toNat < len) (hl:x.cells.length=sz):
  ∃ cv,(Instr.indexAt t a (.int k i)).run P w= .ok cv w∧VR G I (.ptr s g (off + i.toNat) 0) cv:=by
 simp only[VR] at hx
 obtain⟨gi,A,c,hg,hsl,rfl,hlc,hoc,hA⟩:=hx
 obtain⟨gi',cs,ty,hg',_,_,_,_,_,_,_,hE,_⟩:=rel.obj s _ (z8z hb)
 obtain rfl:gi=gi':=by rw[hg] at hg';simpa using hg'
 have hz:=(hE _ _ he).1
 obtain rfl:gi.esz=sz:=by omega
 rcases hA with h | rfl
 ·omega
 ·have hc:0≤i∧i < (len:Int):=⟨h0,by omega⟩
  refine⟨.pointer (some ⟨gi.blk,off * gi.esz + i.toNat * gi.esz,none⟩), ?_, ?_⟩
  ·simp[Instr.indexAt,asIntOf,run_underlying hu,hc,z5q hs,Addr.add_lit]
  ·simp only[VR]
   exact⟨gi,hg,hsl,by rw[k9];rfl⟩
theorem q8l {t e:TypeId} {n sz:Nat} {k:IntKind} {i:Int} {b p:Nat} (hu:P.underlying t=some (.array n e)) (hs:sizeP P e=some sz) (h0:0≤i) (hlt:i.toNat < n):
  (Instr.indexAt t (.pointer (some ⟨b,p,none⟩)) (.int k i)).run P w= .ok (.pointer (some ⟨b,p + i.toNat * sz,none⟩)) w:=by
 have hc:0≤i∧i < (n:Int):=⟨h0,by omega⟩
 simp[Instr.indexAt,asIntOf,run_underlying hu,Instr.sureAddr,hc,z5q hs,Addr.add_lit]
theorem x9q {t e:TypeId} {n sz:Nat} {l:Option Nat} {k:IntKind} {i:Int} {cs:List AV} {a:Value} {v:AV} (hu:P.underlying t=some (.array n e)) (hs:sizeP P e=some sz) (hl:z7o P e=some l) (hx:VR G I (.agg cs) a)
  (h0:0≤i) (hlt:i.toNat < n) (hr:z1w cs (i.toNat * sz) l=some v):∃ cv,(Instr.index t a (.int k i)).run P w= .ok cv w∧VR G I v cv:=by
 obtain⟨vs,rfl,ha⟩:=ArrR.of_agg hx
 obtain⟨cv,h2,h3⟩:=j8u (w:=w) ha hl hr
 have hc:0≤i∧i < (n:Int):=⟨h0,by omega⟩
 exact⟨cv,by simp[Instr.index,asIntOf,run_underlying hu,hc,z5q hs,h2],h3⟩
theorem x9r {t:TypeId} {k:IntKind} {i:Int} {s:List Nat} {b:Nat} {a:Value} (hu:P.underlying t=some .string) (hx:VR G I (.str s) a) (h0:0≤i) (he:s[i.toNat]? =some b):
  ∃ cv,(Instr.index t a (.int k i)).run P w= .ok cv w∧VR G I (.int .u8 (Int.ofNat b)) cv:=by
 simp only[VR] at hx
 obtain⟨rfl,hs⟩:=hx
 have hb:=hs b (m6 he)
 have hg:(z7r s)[i.toNat]? =some (UInt8.ofNat b):=by
  have h1:i.toNat < (z7r s).size:=by
   rw[z4a]
   exact (x9.1 he).1
  rw[getElem?_pos (z7r s) i.toNat h1]
  congr 1
  show (z7r s).data[i.toNat]=_
  have:=(x9.1 he).2
  simp[z7r,this]
 refine⟨.int .u8 (Int.ofNat b), ?_,by simp only[VR]⟩
 simp[Instr.index,asIntOf,run_underlying hu,h0,hg,q0j hb]
theorem j6c {cs:List AV} {i:Nat} {a:Value} {v:AV} (hx:VR G I (.tup cs) a) (he:cs[i]? =some v):∃ cv,(Instr.extract a i).run P w= .ok cv w∧VR G I v cv:=by
 simp only[VR] at hx
 obtain⟨vs,rfl,h1⟩:=hx
 obtain⟨h2,h3⟩:=z9j.1 h1
 have hl:i < vs.toList.length:=by
  rw[←h2]
  exact (x9.1 he).1
 have hl':i < vs.size:=by simpa using hl
 refine⟨vs[i],by simp[Instr.extract,hl'],h3 i v _ he ?_⟩
 rw[Array.getElem?_toList,Array.getElem?_eq_getElem hl']
theorem x6u {mx:Bool} {k j:IntKind} {a b:Int} {tys:Array TypeId} {ty:TypeId}:
  ((if mx then Builtin.max_ else Builtin.min_) tys ty #[.int k a, .int j b]).run P w= .ok (.int k (if mx then (if b > a then b else a) else (if b < a then b else a))) w:=by
 cases mx <;> simp[Builtin.max_,Builtin.max2,Builtin.min_,Builtin.min2]
theorem k4s {s g off len l r:Nat} {es:List AV} {row grow:Bool} {fz:Nat} {t e:TypeId} {sz:Nat} {a:Value} {lo hi:Option AV} {clo chi:Option Value} (rel:Rel G I h w) (hx:VR G I (.ob s g off len) a) (hu:P.underlying t=some (.slice e)) (hsz:sizeP P e=some sz)
  (hb:z2f h s g=some (es,row,grow,fz)) (hh:z5m sz es=true) (hlo:OR G I lo clo) (hhi:OR G I hi chi) (hl:z4w 0 lo=some l) (hr:z4w len hi=some r) (hlr:l≤r)
  (hfit:if grow=true then r≤len∧off + len≤es.length else off + r≤es.length):
  ∃ cv,(Instr.sliceAt t a clo chi none).run P w= .ok cv w∧VR G I (.ob s g (off + l) (r - l)) cv:=by
 simp only[VR] at hx
 obtain⟨gi,A,c,hg,hsl,rfl,hlc,hoc,hA⟩:=hx
 obtain⟨gi',cs,ty,hg',_,_,_,hpos,hcap,hgr,_,hE,_⟩:=rel.obj s _ (z8z hb)
 obtain rfl:gi=gi':=by rw[hg] at hg';simpa using hg'
 have hrc:r≤c:=by
  cases grow with
  | true=>simp at hfit;omega
  | false=>
    have:=hgr rfl
    simp at hfit
    omega
 have hbd:=z9k (P:=P) (w:=w) (isSlice:=true) (cap:=c) hlo hhi hl hr hlr hrc
 have hrun:(Instr.sliceAt t (.slice A len c) clo chi none).run P w= .ok (.slice (if c=l then A else A.map (·.add (l * sz))) (r - l) (c - l)) w:=by
  simp only[Instr.sliceAt,Sem.run_bind,run_underlying hu,Result.andThen]
  simp only[Instr.slice,Sem.run_bind,run_underlying hu,Result.andThen,hbd,z5q hsz,Sem.run_pure]
 refine⟨.slice (if c=l then A else A.map (·.add (l * sz))) (r - l) (c - l),hrun, ?_⟩
 simp only[VR]
 refine⟨gi,(if c=l then A else A.map (·.add (l * sz))),c - l,hg,hsl,rfl,by omega,by omega, ?_⟩
 by_cases hcl:c=l
 ·exact .inl (by omega)
 ·rw[if_neg hcl]
  rcases hA with h0 | rfl
  ·omega
  ·refine .inr ?_
   simp only[Option.map_some,Addr.add_lit]
   by_cases hl0:l=0
   ·subst hl0;simp
   ·cases es with
    | nil=>
      exfalso
      simp at hfit
      cases grow <;> simp at hfit <;> omega
    | cons x es=>
      have h1:=(hE 0 x rfl).1
      simp[z5m] at hh
      rw[←hh,h1,k9]
theorem x6v {src dst e:TypeId} {s:List Nat} {a:Value} {r:Result Next} (hg:G gen=none) (rel:Rel G I h w) (hs:P.underlying src=some .string) (hd:P.underlying dst=some (.slice e)) (he:P.underlying e=some (.int .u8)) (hx:VR G I (.str s) a)
  (hr:r=((convert src dst a).bind fun v=>Sem.pure (.value v)).run P w):Step G I h w gen slot r (.sl (s.map fun (b:Nat)=> .int .u8 (Int.ofNat b)) .no) h:=by
 simp only[VR] at hx
 obtain⟨rfl,hb⟩:=hx
 have hrun:=run_bytes_of_string w src dst e (z7r s) hs hd he
 generalize hcap:grownCap w (z7r s).size 0 e=cap at hrun
 have hge:s.length≤cap:=by
  have:=grownCap_ge w (z7r s).size 0 e
  rw[z4a] at this hcap
  omega
 generalize hrow:bytesRow (z7r s) cap=row at hrun
 have hget:∀ (j b:Nat),s[j]? =some b→row[j]? =some (Value.int .u8 (Int.ofNat b)):=by
  intro j b hj
  have hlt:=(x9.1 hj).1
  have hv:=(x9.1 hj).2
  subst hrow
  unfold bytesRow
  have hsz:j < (Array.map (fun b:UInt8=>Value.int .u8 b.toNat) (z7r s).data).size:=by simpa [z7r] using hlt
  rw[Array.getElem?_append_left hsz]
  have:b < 256:=hb b (m6 hj)
  simp[z7r,hlt,hv]
  omega
 have hall:∀ j,j < row.size→∃ v,row[j]? =some v:=fun j hj=>⟨row[j],Array.getElem?_eq_getElem hj⟩
 let I':Imm:=fun b o=>if b=w.heap.size then row[o]? else I b o
 have hI:ILe I I':=fun b o v hv=>by
  have hlt:=World.block_lt_of_cell? w _ (rel.imm b o v hv)
  simp at hlt
  show (if b=w.heap.size then row[o]? else I b o)=some v
  rw[if_neg (by omega)]
  exact hv
 let w':=w.drew.alloc (.cells row e (row.size,row.size + 1))
 have hold:∀ (b:Nat) (x:Obj),w.heap[b]? =some x→w'.heap[b]? =some x:=fun b x hb=>z2r w.drew _ hb
 have hr0:=rel.world hold
 have hrel:Rel G I' h w':=by
  refine⟨fun b o v hv=> ?_,fun i o ho=> ?_,hr0.inj⟩
  ·have:(if b=w.heap.size then row[o]? else I b o)=some v:=hv
   split at this
   ·rename_i e;subst e
    have:=z7a w.drew (.cells row e (row.size,row.size + 1))
    simp only[World.cell?]
    show (match w'.heap[w.heap.size]? with | some (.cells cs _ _)=>cs[o]? | _=>none)=some v
    rw[show w'.heap[w.heap.size]? =some (.cells row e (row.size,row.size + 1)) from this]
    assumption
   ·exact hr0.imm b o v this
  ·have hob:=hr0.obj i o ho
   have hnb:∀ b,own G o=some b→b≠w.heap.size:=fun b hb=>by
    have:=z9q (rel.obj i o ho) hb
    omega
   have hother:∀ b o v,b≠w.heap.size→I' b o=some v→I b o=some v:=fun b o v hb hv=>by
    have:(if b=w.heap.size then row[o]? else I b o)=some v:=hv
    rwa [if_neg hb] at this
   cases o with
   | dead=>trivial
   | blk g' es' row' grow' fz'=>
     obtain⟨i',cs',t',h1,h2,h3,h4,h5,h6,h7,h8,h9,h10⟩:=hob
     have:=hnb i'.blk (by simp[own,h1])
     exact⟨i',cs',t',h1,h2,h3,h4,h5,h6,h7,h8,h9.mono (GLe.refl _) hI,fun o v hv=>h10 o v (hother _ _ _ this hv)⟩
   | tip g' e=>
     obtain⟨i',h1,h2,h3,h4⟩:=hob
     refine⟨i',h1,h2,h3,fun hr=> ?_⟩
     obtain⟨cs',t',h5,h6,h7⟩:=h4 hr
     have:=hnb i'.blk (by simp[own,h1,hr])
     exact⟨cs',t',h5,h6,fun o v hv=>h7 o v (hother _ _ _ this hv)⟩
   | map g' es'=>
     obtain⟨i',ents,clk,h1,h2,h3,h4⟩:=hob
     exact⟨i',ents,clk,h1,h2,h3,h4.mono (GLe.refl _) hI⟩
 refine Step.quiet hg hrel hI (cv:= .slice (some ⟨w.heap.size,0,none⟩) (z7r s).size cap) ?_ ?_ (((Fr.refl G h w).drew).alloc _) (fun b hb _ o v hv=>by
  have:(if b=w.heap.size then row[o]? else I b o)=some v:=hv
  rwa [if_neg (by omega)] at this)
 ·rw[hr]
  show Sem.run P ((convert src dst (.string (z7r s))).bind _) w=_
  have hbind:∀ (x:Sem Value) (f:Value→Sem Next),(x.bind f).run P w=(x.run P w).andThen fun v w'=>(f v).run P w':=fun x f=>Sem.run_bind (P:=P) w x f
  rw[hbind,hrun]
  rfl
 ·simp only[VR]
  refine⟨_,_,_,rfl,by simp[z4a],by rw[z4a];exact hge,trivial, ?_⟩
  by_cases hn:s.length=0
  ·exact .inl (by rw[z4a];exact hn)
  ·refine .inr ⟨w.heap.size,0,1,rfl,by omega,z5u.2 fun k x hx=> ?_⟩
   simp only[m8,x5] at hx
   obtain⟨b,hb1,rfl⟩:=hx
   refine⟨rfl,z6x.2 fun i c hc=> ?_⟩
   cases i with
   | zero=>
     simp[AV.cells] at hc
     subst hc
     refine⟨.int .u8 (Int.ofNat b), ?_,by simp only[VR];rfl⟩
     show (if w.heap.size=w.heap.size then row[0 + k * 1 + 0]? else _)=_
     rw[if_pos rfl]
     simpa using hget k b hb1
   | succ i=>simp[AV.cells] at hc
end
section
variable {P:Program} {G:Ghost} {I:Imm} {h:List AObj} {w:World} {gen slot:Nat}
theorem ObjR.shift {G':Ghost} {I':Imm} {w':World} {s:Nat} {o:AObj} (hG:GLe G G') (hI:ILe I I') (hw:∀ b,own G o=some b→w'.heap[b]? =w.heap[b]?)
  (hI':∀ b,own G o=some b→∀ o v,I' b o=some v→I b o=some v) (ho:ObjR G I w s o):ObjR G' I' w' s o:=by
 cases o with
 | dead=>trivial
 | blk g es row grow fz=>
   obtain⟨i,cs,t,h1,h2,h3,h4,h5,h6,h7,h8,h9,h10⟩:=ho
   have hb:own G (.blk g es row grow fz)=some i.blk:=by simp[own,h1]
   exact⟨i,cs,t,hG _ _ h1,h2,by rw[hw _ hb];exact h3,h4,h5,h6,h7,h8,h9.mono hG hI,fun o v hv=>h10 o v (hI' _ hb _ _ hv)⟩
 | tip g e=>
   obtain⟨i,h1,h2,h3,h4⟩:=ho
   refine⟨i,hG _ _ h1,h2,h3,fun hr=> ?_⟩
   obtain⟨cs,t,h5,h6,h7⟩:=h4 hr
   have hb:own G (.tip g e)=some i.blk:=by simp[own,h1,hr]
   exact⟨cs,t,by rw[hw _ hb];exact h5,h6,fun o v hv=>h7 o v (hI' _ hb _ _ hv)⟩
 | map g es=>
   obtain⟨i,ents,clk,h1,h2,h3,h4⟩:=ho
   have hb:own G (.map g es)=some i.blk:=by simp[own,h1]
   exact⟨i,ents,clk,hG _ _ h1,h2,by rw[hw _ hb];exact h3,h4.mono hG hI⟩
theorem Rel.shift {G':Ghost} {I':Imm} {w':World} {B:Nat} (rel:Rel G I h w) (hG:GLe G G') (hI:ILe I I') (hno:∀ (j:Nat) o,h[j]? =some o→own G o≠some B)
  (hw:∀ (b:Nat) (x:Obj),b≠B→w.heap[b]? =some x→w'.heap[b]? =some x) (hI':∀ b o v,b≠B→I' b o=some v→I b o=some v)
  (hB:∀ o v,I' B o=some v→w'.cell? ⟨B,o,none⟩=some v):Rel G' I' h w':=by
 refine⟨fun b o v hv=> ?_,fun i o ho=> ?_,fun i j oi oj b hi hj h1 h2=> ?_⟩
 ·by_cases hb:b=B
  ·subst hb;exact hB o v hv
  ·exact z4x (rel.imm b o v (hI' b o v hb hv)) (fun x hx=>hw b x hb hx)
 ·have hob:=rel.obj i o ho
  refine hob.shift hG hI (fun b hb=> ?_) (fun b hb o v hv=>hI' b o v (fun e=>hno i _ ho (by rw[←e];exact hb)) hv)
  obtain⟨x,hx⟩:=q1h hob hb
  rw[hx,hw b x (fun e=>hno i _ ho (by rw[←e];exact hb)) hx]
 ·rw[q0h hG (rel.obj i oi hi)] at h1
  rw[q0h hG (rel.obj j oj hj)] at h2
  exact rel.inj i j oi oj b hi hj h1 h2
theorem Step.pre {I1:Imm} {h' h'':List AObj} {r:Result Next} {v:AV} (hs:Step G I1 h' w gen slot r v h'') (hI:ILe I I1) (hN:NoNew G h I I1)
  (hown:∀ (i:Nat) o b,h'[i]? =some o→own G o=some b→∃ (j:Nat) (x:AObj),h[j]? =some x∧own G x=some b):Step G I h w gen slot r v h'':=by
 obtain⟨nx,cv,w',G',I',h1,h2,h3,h4,h5,h6,h7,h8,h9,h10,h11⟩:=hs
 refine⟨nx,cv,w',G',I',h1,h2,h3,h4,h5,hI.trans h6,h7,h8,fun i o b hi hb=> ?_,⟨h10.os,h10.tape,h10.output,h10.size,fun b hb hn=>h10.kept b hb fun i o hi ho=> ?_⟩,fun b hb hn o v hv=>hN b hn o v (h11 b hb (fun i x hi hx=> ?_) o v hv)⟩
 ·rcases h9 i o b hi hb with ⟨j,x,hj,hx⟩ | hge
  ·exact .inl (hown j x b hj hx)
  ·exact .inr hge
 ·obtain⟨j,x,hj,hx⟩:=hown i o b hi ho
  exact hn j x hj hx
 ·obtain⟨j,y,hj,hy⟩:=hown i x b hi hx
  exact hn j y hj hy
theorem z8k {h1:List AObj} (f:Frozen h h1) (i:Nat) (o:AObj) (b:Nat) (hi:h1[i]? =some o) (hb:own G o=some b):∃ (j:Nat) (x:AObj),h[j]? =some x∧own G x=some b:=by
 obtain⟨o',h2,h3⟩:=q5v f hi hb
 exact⟨i,o',h2,h3⟩
theorem q3j {s i b:Nat} {o:AObj} (hi:(h.set s .dead)[i]? =some o) (hb:own G o=some b):i≠s∧h[i]? =some o:=by
 rcases getElem?_set_cases hi with ⟨_,rfl⟩ | ⟨h1,h2⟩
 ·simp[own] at hb
 ·exact⟨h1,h2⟩
theorem Step.make {r:Result Next} {v:AV} {cv:Value} {w':World} {I':Imm} {h1:List AObj} {o:AObj} {i:GInfo} (hg:G gen=none) (hsl:i.slot=slot) (rel1:Rel G I h1 w)
  (hown:∀ (i:Nat) o b,h1[i]? =some o→own G o=some b→∃ (j:Nat) (x:AObj),h[j]? =some x∧own G x=some b)
  (hB:w.heap.size≤i.blk∨∃ (j:Nat) (x:AObj),h[j]? =some x∧own G x=some i.blk) (hno:∀ (j:Nat) o,h1[j]? =some o→own G o≠some i.blk)
  (hI:ILe I I') (hw:∀ (b:Nat) (x:Obj),b≠i.blk→w.heap[b]? =some x→w'.heap[b]? =some x) (hI':∀ b o v,b≠i.blk→I' b o=some v→I b o=some v)
  (hBI:∀ o v,I' i.blk o=some v→w'.cell? ⟨i.blk,o,none⟩=some v)
  (ho:ObjR (G.put gen i) I' w' slot o) (hoB:∀ b,own (G.put gen i) o=some b→b=i.blk)
  (hos:w'.os=w.os) (htp:w'.tape=w.tape) (hout:w'.output=w.output) (hsz:w.heap.size≤w'.heap.size)
  (hr:r= .ok (.value cv) w') (hv:VR (G.put gen i) I' v cv):Step G I h w gen slot r v (h1.set slot o):=by
 have hG:=Ghost.put_le (G:=G) (g:=gen) i hg
 refine⟨_,cv,w',G.put gen i,I',hr, .inl rfl,hv, ?_,hG,hI,fun g hg'=>Ghost.put_other hg',fun j hj=> ?_,fun k x b hk hb=> ?_,⟨hos,htp,hout,hsz,fun b hb hn=> ?_⟩,fun b hb hn o v hv=>hI' b o v ?_ hv⟩
 ·refine (rel1.shift hG hI hno hw hI' hBI).set slot o ho fun j oj b _ hj h2 h3=> ?_
  rw[q0h hG (rel1.obj j oj hj)] at h2
  have:=hoB b h3
  subst this
  exact hno j oj hj h2
 ·simp at hj
  subst hj
  exact hsl
 ·rcases getElem?_set_cases hk with ⟨_,rfl⟩ | ⟨_,hk⟩
  ·have:=hoB b hb
   subst this
   rcases hB with hB | hB
   ·exact .inr hB
   ·exact .inl hB
  ·rw[q0h hG (rel1.obj k x hk)] at hb
   exact .inl (hown k x b hk hb)
 ·have hbB:b≠i.blk:=by
   rintro rfl
   rcases hB with hB | ⟨j,x,hj,hx⟩
   ·omega
   ·exact hn j x hj hx
  rw[hw b w.heap[b] hbB (Array.getElem?_eq_getElem hb),Array.getElem?_eq_getElem hb]
 ·rintro rfl
  rcases hB with hB | ⟨j,x,hj,hx⟩
  ·omega
  ·exact hn j x hj hx
theorem Step.row {r:Result Next} {v:AV} {cv:Value} {w':World} {I':Imm} (hg:G gen=none) (rel:Rel G I h w)
  (hI:ILe I I') (hw:∀ (b:Nat) (x:Obj),w.heap[b]? =some x→w'.heap[b]? =some x) (hI':∀ b o v,b≠w.heap.size→I' b o=some v→I b o=some v)
  (hBI:∀ o v,I' w.heap.size o=some v→w'.cell? ⟨w.heap.size,o,none⟩=some v)
  (hos:w'.os=w.os) (htp:w'.tape=w.tape) (hout:w'.output=w.output) (hsz:w.heap.size≤w'.heap.size)
  (hr:r= .ok (.value cv) w') (hv:VR G I' v cv):Step G I h w gen slot r v h:=by
 refine Step.quiet hg (rel.shift (GLe.refl _) hI (B:=w.heap.size) (fun j o hj ho=> ?_) (fun b x _ hx=>hw b x hx) hI' hBI) hI hr hv ⟨hos,htp,hout,hsz,fun b hb _=> ?_⟩ (fun b hb _ o v hv=>hI' b o v (by omega) hv)
 ·have:=z9q (rel.obj j o hj) ho
  omega
 ·rw[hw b w.heap[b] (Array.getElem?_eq_getElem hb),Array.getElem?_eq_getElem hb]
def z6m (I:Imm) (B n:Nat) (cs:Array Value):Imm:=fun b o=>if b=B∧o < n then cs[o]? else I b o
theorem q8m {B n:Nat} {cs:Array Value} (hB:∀ o v,I B o=some v→o < n→cs[o]? =some v):ILe I (z6m I B n cs):=fun b o v hv=>by
 unfold z6m
 split
 ·rename_i hc
  obtain⟨rfl,h2⟩:=hc
  exact hB o v hv h2
 ·exact hv
theorem q1i {B n:Nat} {cs:Array Value} (b o:Nat) (v:Value) (hb:b≠B) (hv:z6m I B n cs b o=some v):I b o=some v:=by
 unfold z6m at hv
 rw[if_neg (fun hc=>hb hc.1)] at hv
 exact hv
theorem q8n {B n:Nat} {cs:Array Value} (o:Nat) (ho:o < n):z6m I B n cs B o=cs[o]? :=by
 unfold z6m
 rw[if_pos ⟨rfl,ho⟩]
theorem z3m (rel:Rel G I h w) (o:Nat) (v:Value):I w.heap.size o≠some v:=fun hv=>by
 have:=World.block_lt_of_cell? w _ (rel.imm _ o v hv)
 simp at this
theorem x6w {t:TypeId} {r:Result Next} (hg:G gen=none) (rel:Rel G I h w) (hr:r=((Instr.makeMap t none).bind fun v=>Sem.pure (.value v)).run P w):
  Step G I h w gen slot r (.mp slot gen) (h.set slot (.map gen [])):=by
 have hx:r= .ok (.value (.map (some w.heap.size))) (w.alloc (.map #[] 0)):=by
  rw[hr]
  rfl
 refine Step.make (i:=⟨slot,w.heap.size,0,0,0,0,false⟩) (I':=I) hg rfl rel (fun i o b hi hb=>⟨i,o,hi,hb⟩) (.inl (x7 _)) (fun j o hj ho=> ?_) (ILe.refl _)
  (fun b x _ hx=>z2r w _ hx) (fun _ _ _ _ hv=>hv) (fun o v hv=>absurd hv (z3m rel o v)) ?_ ?_ rfl rfl rfl (by rw[z6c];omega) hx ?_
 ·have:=z9q (rel.obj j o hj) ho
  simp at this
 ·exact⟨_, #[],0,Ghost.put_same,rfl,z7a w _,rfl⟩
 ·intro b hb
  simp[own] at hb
  exact hb.symm
 ·simp only[VR]
  exact⟨_,Ghost.put_same,rfl,rfl⟩
theorem x1n {t e:TypeId} {sz by_:Nat} {z:AV} {kl kc:IntKind} {l c:Int} {r:Result Next} (hg:G gen=none) (rel:Rel G I h w) (hu:P.underlying t=some (.slice e)) (hs:sizeP P e=some sz) (hz:zeroP P e=some z) (hb:bytesP P e=some by_)
  (h0:sz≠0) (hzl:z.cells.length=sz) (hd:z.def? =true) (hl:0≤l) (hlc:l≤c) (hroom:c * (by_ + 1)≤z1e) (hr:r=((Instr.makeSlice t (.int kl l) (.int kc c)).bind fun v=>Sem.pure (.value v)).run P w):
  Step G I h w gen slot r (.ob slot gen 0 l.toNat) (h.set slot (.blk gen (x3 c.toNat z) true false 0)):=by
 obtain⟨ti,zv,hi,hzv,hvz⟩:=z9a (G:=G) (I:=I) hz
 have hsz:ti.size=sz:=by simpa [sizeP,hi] using hs
 have hby:ti.bytes=by_:=by simpa [bytesP,hi] using hb
 have hza:=ArrR.of_val hd hvz
 have hc0:0≤c:=by omega
 have hrb:(z1e:Int)=70368744177664:=by decide
 rw[hrb] at hroom
 have hbc:(by_:Int) * c≤70368744177664∧c≤70368744177664:=by
  have h1:c * (by_ + 1)=(by_:Int) * c + c:=by rw[Int.mul_add,Int.mul_one,Int.mul_comm]
  rw[h1] at hroom
  have h2:0≤(by_:Int) * c:=Int.mul_nonneg (by omega) hc0
  omega
 have hrun:=run_make (P:=P) w t e ti zv hu hi hzv kl kc l c hl hlc (by rw[hby];omega) (by omega)
 have hx:r= .ok (.value (.slice (some ⟨w.heap.size,0,none⟩) l.toNat c.toNat)) (w.alloc (.cells (madeCells zv.cells (c.toNat * ti.size)) e)):=by
  rw[hr]
  have hbind:∀ (x:Sem Value) (f:Value→Sem Next),(x.bind f).run P w=(x.run P w).andThen fun v w'=>(f v).run P w':=fun x f=>Sem.run_bind (P:=P) w x f
  rw[hbind,hrun]
  rfl
 have hrow:=q8i (n:=c.toNat) hza
 have hzc:zv.cells.size=sz:=by rw[←hza.1];exact hzl
 have hmade:madeCells zv.cells (c.toNat * ti.size)=(Array.range (c.toNat * zv.cells.size)).map fun i=>zv.cells[i % zv.cells.size]! :=by
  rw[hsz,←hzc]
  rfl
 refine Step.make (i:=⟨slot,w.heap.size,sz,c.toNat,0,0,false⟩) (I':=I) hg rfl rel (fun i o b hi hb=>⟨i,o,hi,hb⟩) (.inl (x7 _)) (fun j o hj ho=> ?_) (ILe.refl _)
  (fun b x _ hx=>z2r w _ hx) (fun _ _ _ _ hv=>hv) (fun o v hv=>absurd hv (z3m rel o v)) ?_ ?_ rfl rfl rfl (by rw[z6c];omega) hx ?_
 ·have:=z9q (rel.obj j o hj) ho
  simp at this
 ·refine⟨_,_,e,Ghost.put_same,rfl,z7a w _, ?_,by simp;omega,by simp,fun _=>by simp,⟨by omega,fun _=>rfl⟩, ?_,fun o v hv=>absurd hv (z3m rel o v)⟩
  ·rw[size_madeCells,hsz]
  ·rw[hmade]
   have:=hrow.2.mono (Ghost.put_le ⟨slot,w.heap.size,sz,c.toNat,0,0,false⟩ hg) (ILe.refl I)
   rw[hzc] at this⊢
   exact this
 ·intro b hb
  simp[own] at hb
  exact hb.symm
 ·simp only[VR]
  exact⟨_,_,_,Ghost.put_same,rfl,rfl,by omega,by simp, .inr (by simp)⟩
end
section
variable {P:Program} {G:Ghost} {I:Imm} {h:List AObj} {w:World} {gen slot:Nat}
theorem z4m {α β:Type} (x:Sem α) (f:α→Sem β):(x.bind f).run P w=(x.run P w).andThen fun v w'=>(f v).run P w':=Sem.run_bind (P:=P) w x f
theorem j8v {v:Value} {x:AV} (hc:j5v v=some x):x.def? =true:=by
 unfold j5v at hc
 split at hc <;> simp at hc <;> subst hc <;> rfl
theorem k4t {v:Value} {x:AV} (hc:v4j v=some x):x.def? =true:=by
 unfold v4j at hc
 split at hc
 ·simp at hc
  obtain⟨cs,_,rfl⟩:=hc
  rfl
 ·exact j8v hc
theorem q4h {t:TypeId} {z:AV} (hz:zeroP P t=some z):z.def? =true:=by
 unfold zeroP at hz
 cases hi:(P.info? t).bind (·.zero) with
 | none=>rw[hi] at hz;simp at hz
 | some v=>rw[hi] at hz;exact k4t hz
theorem x6x {ts:Tmps} {ρ:Operand→Value} (ht:TR G I ts ρ) {q0a:Nat→Option (Nat×Nat)}:∀ {os:List (Nat×Operand)} {ps:List (Nat×Nat×AOpd)},q6t os q0a=some ps→
  (ps.map fun p=>(p.1,p.2.1,p.2.2.ev ts)).length=(os.map fun (i,x)=>(i,ρ x)).length∧
  ∀ (k:Nat) p q,(ps.map fun p=>(p.1,p.2.1,p.2.2.ev ts))[k]? =some p→(os.map fun (i,x)=>(i,ρ x))[k]? =some q→q0a q.1=some (p.1,p.2.1)∧VR G I p.2.2 q.2
 | [],ps,hc=>by
   simp[q6t] at hc
   subst hc
   exact⟨rfl,fun k p q h1 h2=>by simp at h1⟩
 | (i,x)::os,ps,hc=>by
   simp only[q6t] at hc
   split at hc
   ·rename_i o s a b h1 h2 h3
    simp at hc
    subst hc
    obtain⟨ih1,ih2⟩:=x6x ht h3
    refine⟨by simpa using ih1,fun k p q hp hq=> ?_⟩
    cases k with
    | zero=>
      simp at hp hq
      subst hp hq
      exact⟨h1,z1b ht h2⟩
    | succ k=>
      simp only[j4,List.getElem?_cons_succ] at hp hq
      exact ih2 k p q hp hq
   ·simp at hc
theorem x6y {ts:Tmps} {ρ:Operand→Value} (ht:TR G I ts ρ):∀ {os:List (Nat×Operand)} {ps:List (Nat×AOpd)},x1v os=some ps→
  ps.map (·.1)=os.map (·.1)∧VRL G I (ps.map fun p=>p.2.ev ts) (os.map fun p=>ρ p.2)
 | [],ps,hc=>by
   simp[x1v] at hc
   subst hc
   exact⟨rfl,by simp[VRL]⟩
 | (i,x)::os,ps,hc=>by
   simp only[x1v] at hc
   split at hc
   ·rename_i a b h1 h2
    simp at hc
    subst hc
    obtain⟨ih1,ih2⟩:=x6y ht h2
    exact⟨by simp[ih1],by simp only[j4,VRL];exact⟨_,_,rfl,z1b ht h1,ih2⟩⟩
   ·simp at hc
theorem k4u {t:TypeId} {ts:Tmps} {ρ:Operand→Value} {z:AV} {parts:Array (Nat×Operand)} {ps:List (Nat×Nat×AOpd)} {cs:List AV} {q0a:Nat→Option (Nat×Nat)} (ht:TR G I ts ρ) (hz:zeroP P t=some z)
  (hp:(∃ fs places,P.underlying t=some (.struct fs)∧fs.toList.mapM (fun f=>(P.info? f.type).map fun i=>(f.offset,i.size))=some places∧q0a=fun i=>places[i]?)∨
   (∃ n e s,P.underlying t=some (.array n e)∧sizeP P e=some s∧q0a=fun i=>some (i * s,s)))
  (hc:q6t parts.toList q0a=some ps) (hf:z5o z.cells (ps.map fun p=>(p.1,p.2.1,p.2.2.ev ts))=some cs):
  ∃ cv,(Instr.build t (parts.map fun (i,x)=>(i,ρ x))).run P w= .ok cv w∧VR G I (.agg cs) cv:=by
 obtain⟨it,zv,hi,hzv,hvz⟩:=z9a (G:=G) (I:=I) hz
 obtain⟨h1,h2⟩:=x6x ht hc
 obtain⟨ccs,h3,h4⟩:=j8n _ _ _ _ _ (ArrR.of_val (q4h hz) hvz) h1 h2 hf
 refine⟨.agg ccs,run_build w t _ ccs ?_,h4.agg⟩
 rcases hp with ⟨fs,places,hu,hpl,rfl⟩ | ⟨n,e,s,hu,hs,rfl⟩
 ·unfold Program.built
  simp only[hi,hu,hzv,hpl,Array.toList_map]
  have he:(fun (i:Nat)=>places.toArray[i]?)=fun (i:Nat)=>places[i]? :=by funext i;simp
  rw[he]
  exact h3
 ·unfold sizeP at hs
  cases hie:P.info? e with
  | none=>simp[hie] at hs
  | some ie=>
    simp[hie] at hs
    unfold Program.built
    simp only[hi,hu,hzv,hie,hs,Array.toList_map]
    exact h3
theorem k4v {B sz:Nat} {es:List AV} {ccs:Array Value} (hI:ILe I (z6m I B (es.length * sz) ccs)) (hr:w2b G I es ccs sz):RowI G (z6m I B (es.length * sz) ccs) es B 0 sz:=by
 refine z5u.2 fun k x hx=> ?_
 obtain⟨h1,h2⟩:=hr.2 k x hx
 refine⟨h1,z6x.2 fun j c hj=> ?_⟩
 obtain⟨v,h3,h4⟩:=h2 j c hj
 have hk:=(x9.1 hx).1
 have hjl:=(x9.1 hj).1
 have:=z8j hk (show j < sz by omega)
 refine⟨v, ?_,VR.mono (GLe.refl _) hI h4⟩
 rw[q8n _ (by omega),k6]
 exact h3
theorem q8o {t e:TypeId} {n sz:Nat} {mu:Bool} {z:AV} {ts:Tmps} {ρ:Operand→Value} {parts:Array (Nat×Operand)} {ps:List (Nat×AOpd)} {vs es:List AV} {r:Result Next} (hg:G gen=none) (rel:Rel G I h w) (ht:TR G I ts ρ)
  (hu:P.underlying t=some (.slice e)) (hs:sizeP P e=some sz) (hz:zeroP P e=some z) (hps:x1v parts.toList=some ps) (h0:sz≠0) (hbig:n * sz≤2 ^ 24) (hzl:z.cells.length=sz)
  (hcv:z8f h (ps.map fun p=>p.2.ev ts)=some vs) (hsp:z4f z.cells.length (x3 n z) (ps.map (·.1)) vs=some es)
  (hr:r=((Instr.buildSlice t n (parts.map fun p=>(p.1,ρ p.2))).bind fun v=>Sem.pure (.value v)).run P w):
  Step G I h w gen slot r (if mu then .ob slot gen 0 n else .sl es .full)
   (if mu then (freezeAll h (z4u (ps.map fun p=>p.2.ev ts))).set slot (.blk gen es true false 0) else freezeAll h (z4u (ps.map fun p=>p.2.ev ts))):=by
 obtain⟨ti,zv,hi,hzv,hvz⟩:=z9a (G:=G) (I:=I) hz
 have hza:=ArrR.of_val (q4h hz) hvz
 obtain⟨he1,he2⟩:=x6y ht hps
 obtain⟨I1,hI1,rel1,hvs,hnn⟩:=q7p hcv he2 (Frozen.refl h) rel
 have hzc:zv.cells.size=sz:=by rw[←hza.1];exact hzl
 have hrow0:=q8i (n:=n) hza
 have hrow:w2b G I1 (x3 n z) ((Array.range (n * sz)).map fun i=>zv.cells[i % zv.cells.size]!) sz:=by
  have h1:sz=zv.cells.size:=hzc.symm
  rw[h1]
  exact⟨hrow0.1,hrow0.2.mono (GLe.refl _) hI1⟩
 obtain⟨hl,hvi⟩:=z9j.1 hvs
 obtain⟨ccs,hfill,hrr,hlen⟩:=x2b (sz:=sz) (ps.map (·.1)) vs (parts.toList.map fun p=>(p.1,ρ p.2)) _ es _ hrow (by rw[he1];simp) (by simpa using hl)
  (fun k i v q h1 h2 h3=>by
   rw[he1,m8,x5] at h1
   obtain⟨p,hp1,rfl⟩:=h1
   rw[m8,hp1] at h3
   simp at h3
   subst h3
   exact⟨rfl,hvi k v _ h2 (by rw[m8,hp1];rfl)⟩) (by rw[←hzl];exact hsp)
 have hes:es.length=n:=by simpa using hlen
 have hx:r= .ok (.value (.slice (some ⟨w.heap.size,0,none⟩) n n)) (w.alloc (.cells ccs e)):=by
  rw[hr,z4m]
  have hnb:¬ n * sz > 2 ^ 24:=by omega
  have hrun:(Instr.buildSlice t n (parts.map fun p=>(p.1,ρ p.2))).run P w= .ok (.slice (some ⟨w.heap.size,0,none⟩) n n) (w.alloc (.cells ccs e)):=by
   unfold Instr.buildSlice
   simp only[Sem.run_bind,run_underlying hu,Result.andThen,z5q hs,if_neg hnb]
   by_cases hn:n * sz=0
   ·rw[if_pos hn]
    have hne:(Array.range (n * sz)).map (fun i=>(#[]:Array Value)[i % (#[]:Array Value).size]!)=(Array.range (n * sz)).map fun i=>zv.cells[i % zv.cells.size]! :=by rw[hn];simp
    have hf':Instr.fill (fun i=>some (i * sz,sz)) ((Array.range (n * sz)).map fun i=>(#[]:Array Value)[i % (#[]:Array Value).size]!) (Array.map (fun x=>(x.fst,ρ x.snd)) parts).toList=some ccs:=by
     rw[hne,Array.toList_map]
     exact hfill
    simp only[Sem.run_bind,Sem.run_pure,Result.andThen]
    rw[hf']
    rfl
   ·rw[if_neg hn]
    have hzr:(zeroValue e).run P w= .ok zv w:=by simp[zeroValue,typeInfo,hi,hzv]
    have hf':Instr.fill (fun i=>some (i * sz,sz)) ((Array.range (n * sz)).map fun i=>zv.cells[i % zv.cells.size]!) (Array.map (fun x=>(x.fst,ρ x.snd)) parts).toList=some ccs:=by
     rw[Array.toList_map]
     exact hfill
    simp only[Sem.run_bind,hzr,Result.andThen,Sem.run_pure]
    rw[hf']
    rfl
  rw[hrun]
  rfl
 have hcs:ccs.size=n * sz:=by rw[hrr.1,hes]
 refine Step.pre (I1:=I1) (h':=freezeAll h (z4u (ps.map fun p=>p.2.ev ts))) ?_ hI1 hnn (z8k (z2d _ _))
 cases mu with
 | true=>
   simp only[if_true]
   refine Step.make (i:=⟨slot,w.heap.size,sz,n,0,0,false⟩) (I':=I1) hg rfl rel1 (fun i o b hi hb=>⟨i,o,hi,hb⟩) (.inl (x7 _)) (fun j o hj ho=> ?_) (ILe.refl _)
    (fun b x _ hx=>z2r w _ hx) (fun _ _ _ _ hv=>hv) (fun o v hv=>absurd hv (z3m rel1 o v)) ?_ ?_ rfl rfl rfl (by rw[z6c];omega) hx ?_
   ·have:=z9q (rel1.obj j o hj) ho
    simp at this
   ·exact⟨_,_,e,Ghost.put_same,rfl,z7a w _,hcs,by simp;omega,by simp;omega,fun _=>by simp;omega,⟨by omega,fun _=>rfl⟩,hrr.2.mono (Ghost.put_le _ hg) (ILe.refl _),fun o v hv=>absurd hv (z3m rel1 o v)⟩
   ·intro b hb
    simp[own] at hb
    exact hb.symm
   ·simp only[VR]
    exact⟨_,_,_,Ghost.put_same,rfl,rfl,x7 _,by simp, .inr (by simp)⟩
 | false=>
   simp only[Bool.false_eq_true,if_false]
   have hle:ILe I1 (z6m I1 w.heap.size (es.length * sz) ccs):=q8m fun o v hv=>absurd hv (z3m rel1 o v)
   refine Step.row (I':=z6m I1 w.heap.size (es.length * sz) ccs) hg rel1 hle (fun b x hx=>z2r w _ hx) q1i (fun o v hv=> ?_) rfl rfl rfl (by rw[z6c];omega) hx ?_
   ·simp only[World.cell?,z7a]
    unfold z6m at hv
    split at hv
    ·exact hv
    ·exact absurd hv (z3m rel1 o v)
   ·simp only[VR]
    refine⟨_,_,_,rfl,hes,x7 _,by simp only[TipR];omega, ?_⟩
    by_cases hn:n=0
    ·exact .inl hn
    ·exact .inr ⟨w.heap.size,0,sz,rfl,by omega,k4v hle hrr⟩
def u4e (G:Ghost) (I:Imm) (w:World) (ys:List AV) (b o e:Nat):Prop:=
 ∀ (k:Nat) x,ys[k]? =some x→x.cells.length=e∧∀ (j:Nat) c,x.cells[j]? =some c→∃ u,w.cell? ⟨b,o + k * e + j,none⟩=some u∧VR G I c u
theorem j8w {y:AV} {ys:List AV} {cv:Value} (rel:Rel G I h w) (hy:z6k h y=some ys) (hv:VR G I y cv) (hns:∀ s,y≠ .str s):
  ∃ A c,cv= .slice A ys.length c∧ys.length≤c∧(ys.length=0∨∃ b o e,A=some ⟨b,o,none⟩∧0 < e∧u4e G I w ys b o e):=by
 cases y <;> simp only[z6k] at hy <;> try (simp at hy;done)
 ·rename_i s;exact absurd rfl (hns s)
 ·rename_i xs t
  simp at hy
  subst hy
  simp only[VR] at hv
  obtain⟨A,n,c,rfl,rfl,h1,_,h2⟩:=hv
  refine⟨A,c,rfl,h1, ?_⟩
  rcases h2 with h2 | ⟨b,o,e,rfl,hpos,hrow⟩
  ·exact .inl h2
  ·refine .inr ⟨b,o,e,rfl,hpos,fun k x hx=> ?_⟩
   obtain⟨h3,h4⟩:=z5u.1 hrow k x hx
   refine⟨h3,fun j c hj=> ?_⟩
   obtain⟨u,h5,h6⟩:=z6x.1 h4 j c hj
   exact⟨u,rel.imm _ _ _ h5,h6⟩
 ·rename_i s g off len
  obtain⟨es,grow,fz,hs,hle,rfl⟩:=j2p hy
  simp only[VR] at hv
  obtain⟨i,A,c,hi,_,rfl,h3,h4,h5⟩:=hv
  obtain⟨i',cs,ty,hi',_,hw,_,hpos,_,_,_,hE,_⟩:=rel.obj s _ hs
  obtain rfl:i=i':=by rw[hi] at hi';simpa using hi'
  have hlen:((es.drop off).take len).length=len:=by simp;omega
  rw[hlen]
  refine⟨A,c,rfl,h3, ?_⟩
  by_cases hl:len=0
  ·exact .inl hl
  ·rcases h5 with h5 | rfl
   ·omega
   ·refine .inr ⟨i.blk,off * i.esz,i.esz,rfl,hpos,fun k x hx=> ?_⟩
    have hk:k < len:=by
     rw[←hlen]
     exact (x9.1 hx).1
    rw[l8 hk,d8] at hx
    obtain⟨h6,h7⟩:=hE (off + k) x hx
    refine⟨h6,fun j c hj=> ?_⟩
    obtain⟨u,h8,h9⟩:=h7 j c hj
    refine⟨u, ?_,h9⟩
    simp only[World.cell?,hw]
    rw[←k9]
    exact h8
theorem x2e:∀ {ys:List AV} {s:List Nat},z6w ys=some s→ys=s.map (fun (b:Nat)=>AV.int .u8 (Int.ofNat b))∧∀ b∈s,b < 256
 | [],s,hb=>by simp[z6w] at hb;subst hb;simp
 | y::ys,s,hb=>by
   unfold z6w at hb
   split at hb
   ·simp at *
   ·rename_i n vs heq
    obtain⟨rfl,rfl⟩:=List.cons.inj heq
    split at hb
    ·rename_i hn
     simp at hb
     obtain⟨s',h1,rfl⟩:=hb
     obtain⟨h2,h3⟩:=x2e h1
     refine⟨by simp only[j4,←h2];congr 2;simp;omega,fun b hb=> ?_⟩
     rcases j6.1 hb with rfl | hb
     ·omega
     ·exact h3 b hb
    ·simp at hb
   ·simp at hb
theorem j6d {src dst e:TypeId} {x:AV} {ys:List AV} {s:List Nat} {a:Value} (rel:Rel G I h w) (hs:P.underlying src=some (.slice e)) (hd:P.underlying dst=some .string) (he:P.underlying e=some (.int .u8))
  (hx:VR G I x a) (hy:z6k h x=some ys) (hb:z6w ys=some s) (hns:∀ s,x≠ .str s):∃ cv,(convert src dst a).run P w= .ok cv w∧VR G I (.str s) cv:=by
 obtain⟨A,c,rfl,hlc,hrow⟩:=j8w rel hy hx hns
 obtain⟨rfl,hlt⟩:=x2e hb
 simp only[z6] at *
 refine⟨.string (z7r s), ?_,by simp only[VR];exact⟨trivial,hlt⟩⟩
 rcases hrow with h0 | ⟨b,o,e',rfl,hpos,hrow⟩
 ·rw[l6] at h0
  subst h0
  rw[run_convert_bytes_string w src dst e A _ c hs he hd]
  cases A with
  | none=>rfl
  | some a=>rfl
 ·have:=run_convert_bytes_arg (P:=P) w src e hs he b o s.length c (s.map Int.ofNat) (by simp) (fun i hi=>by
   have hsi:(s.map fun (b:Nat)=>AV.int .u8 (Int.ofNat b))[i]? =some (.int .u8 (Int.ofNat s[i])):=by simp[hi]
   obtain⟨h1,h2⟩:=hrow i _ hsi
   obtain rfl:e'=1:=by simpa [AV.cells] using h1.symm
   obtain⟨u,h3,h4⟩:=h2 0 (.int .u8 (Int.ofNat s[i])) (by simp[AV.cells])
   simp only[VR] at h4
   subst h4
   simp only[Nat.mul_one,b4] at h3
   rw[h3]
   simp[hi]) dst hd
  rw[this]
  congr 2
  apply ByteArray.ext
  apply Array.ext'
  simp[strOfNums,z7r]
end
section
variable {P:Program} {G:Ghost} {I:Imm} {h:List AObj} {w:World} {gen slot:Nat}
theorem z2t {esz:Nat}:∀ {xs:List AV},z0r esz xs=true↔∀ x∈xs,x.def? =true∧x.cells.length=esz∧x.cells.all AV.one=true
 | []=>by simp[z0r]
 | x::xs=>by
   simp only[z0r,Bool.and_eq_true,beq_iff_eq,z2t (xs:=xs),j6,forall_eq_or_imp]
   simp only[and_assoc]
def NewsR (G:Ghost) (I:Imm) (ys:List AV) (news:List Value) (sz:Nat):Prop:=
 news.length=ys.length * sz∧∀ (k:Nat) x,ys[k]? =some x→x.cells.length=sz∧∀ (j:Nat) c,x.cells[j]? =some c→∃ u,news[k * sz + j]? =some u∧VR G I c u
theorem v1c {a sz:Nat} (h:0 < sz):a=a / sz * sz + a % sz∧a % sz < sz:=⟨by rw[Nat.mul_comm];exact (Nat.div_add_mod a sz).symm,Nat.mod_lt _ h⟩
theorem NewsR.one {ys:List AV} {news:List Value} {sz:Nat} (hp:0 < sz) (hn:NewsR G I ys news sz) (ha:z0r sz ys=true) (u:Value) (hu:u∈news):u.oneCell'=true:=by
 obtain⟨q,hq⟩:=List.getElem?_of_mem hu
 have hlt:=(x9.1 hq).1
 rw[hn.1] at hlt
 obtain⟨h1,h2⟩:=v1c (a:=q) hp
 have hk:q / sz < ys.length:=by
  rcases Nat.lt_or_ge (q / sz) ys.length with h | h
  ·exact h
  ·have:ys.length * sz≤q / sz * sz:=w8 _ h
   omega
 obtain⟨h3,h4⟩:=hn.2 _ _ (v9 hk)
 obtain⟨h5,h6,h7⟩:=z2t.1 ha _ (x8 hk)
 have hj:q % sz < (ys[q / sz]).cells.length:=by omega
 obtain⟨u',h8,h9⟩:=h4 _ _ (v9 hj)
 rw[←h1,hq] at h8
 simp at h8
 subst h8
 exact x1z (List.all_eq_true.1 h7 _ (x8 hj)) h9
theorem j8x {y:AV} {ys:List AV} {cv:Value} {tx:TypeId} {sz:Nat} (rel:Rel G I h w) (hy:z6k h y=some ys) (hv:VR G I y cv) (ha:z0r sz ys=true) (hp:0 < sz)
  (hk:(∃ e',P.underlying tx=some (.slice e'))∨P.underlying tx=some .string):∃ news,Src P sz tx cv ys.length news w∧NewsR G I ys news sz:=by
 by_cases hs:∃ s,y= .str s
 ·obtain⟨s,rfl⟩:=hs
  simp[z6k] at hy
  subst hy
  simp only[VR] at hv
  obtain⟨rfl,hb⟩:=hv
  have hl:(byteCells (z7r s)).length=s.length:=by rw[byteCells_length,z4a]
  have hsz:s≠[]→sz=1:=fun hne=>by
   obtain⟨b,s',rfl⟩:=m9 hne
   have:=(z2t.1 ha (.int .u8 (Int.ofNat b)) (by simp)).2.1
   simpa [AV.cells] using this.symm
  have hnl:(byteCells (z7r s)).length=s.length * sz:=by
   rw[hl]
   by_cases hne:s=[]
   ·subst hne;simp
   ·rw[hsz hne,Nat.mul_one]
  have hN:NewsR G I (s.map fun (b:Nat)=>AV.int .u8 (Int.ofNat b)) (byteCells (z7r s)) sz:=by
   refine⟨by simpa using hnl,fun k x hx=> ?_⟩
   simp only[m8,x5] at hx
   obtain⟨b,hb1,rfl⟩:=hx
   have hne:s≠[]:=fun e=>by subst e;simp at hb1
   rw[hsz hne]
   refine⟨rfl,fun j c hj=> ?_⟩
   cases j with
   | succ j=>simp[AV.cells] at hj
   | zero=>
     simp[AV.cells] at hj
     subst hj
     refine⟨.int .u8 (Int.ofNat b), ?_,by simp only[VR];rfl⟩
     have hbl:=hb b (m6 hb1)
     simp only[Nat.mul_one,b4,byteCells,m8]
     have:(z7r s).data.toList[k]? =some (UInt8.ofNat b):=by simp[z7r,hb1]
     rw[this]
     simp[q0j hbl]
  refine⟨byteCells (z7r s),⟨hk,fun w'=> ?_, ?_, ?_,by simpa using hnl,fun u hu=> ?_⟩,hN⟩
  ·simp[Builtin.lenOf,z4a]
  ·have:=firstCells_string (P:=P) (z7r s) w
   simp only[Builtin.firstCells,z6] at this⊢
   rw[z4a] at this
   exact this
  ·have:=firstCells_string (P:=P) (z7r s) w.drew
   simp only[Builtin.firstCells,z6] at this⊢
   rw[z4a] at this
   exact this
  ·obtain⟨_,_,rfl⟩:=List.mem_map.1 hu
   rfl
 ·obtain⟨A,c,rfl,hlc,hrow⟩:=j8w rel hy hv fun s e=>hs ⟨s,e⟩
  by_cases h0:ys.length=0
  ·have he:ys=[]:=l6.1 h0
   subst he
   refine⟨[],⟨hk,fun _=>rfl, ?_, ?_,by simp,fun _ h=>by cases h⟩,by simp[NewsR]⟩ <;> cases A <;> simp[Builtin.firstCells,loadCells,loadCellsFrom]
  ·rcases hrow with hrow | ⟨b,o,e,rfl,hpos,hrow⟩
   ·exact absurd hrow h0
   ·obtain⟨y0,ys',rfl⟩:=m9 (fun e:ys=[]=>h0 (by rw[e];rfl))
    have he:=(hrow 0 y0 rfl).1
    have he':=(z2t.1 ha y0 (by simp)).2.1
    obtain rfl:e=sz:=by omega
    generalize hys:y0::ys'=ys at *
    let news:=(List.range (ys.length * e)).map fun j=>(w.cell? ⟨b,o + j,none⟩).getD undef
    have hnl:news.length=ys.length * e:=by simp[news]
    have hcell:∀ q,q < ys.length * e→∃ u,w.cell? ⟨b,o + q,none⟩=some u:=fun q hq=>by
     obtain⟨h1,h2⟩:=v1c (a:=q) hpos
     have hk:q / e < ys.length:=by
      rcases Nat.lt_or_ge (q / e) ys.length with h | h
      ·exact h
      ·have:ys.length * e≤q / e * e:=w8 _ h
       omega
     obtain⟨h3,h4⟩:=hrow _ _ (v9 hk)
     have hj:q % e < (ys[q / e]).cells.length:=by omega
     obtain⟨u,h5,_⟩:=h4 _ _ (v9 hj)
     rw[d3,←h1] at h5
     exact⟨u,h5⟩
    have hnews:∀ (j:Nat) u,news[j]? =some u→w.cell? ((⟨b,o,none⟩:Addr).add j)=some u:=fun j u hu=>by
     have hj:j < ys.length * e:=by
      rw[←hnl]
      exact (x9.1 hu).1
     obtain⟨u',h1⟩:=hcell j hj
     simp[news,hj,h1] at hu
     subst hu
     rw[Addr.add_lit]
     exact h1
    have hN:NewsR G I ys news e:=by
     refine⟨hnl,fun k x hx=>⟨(hrow k x hx).1,fun j c hj=> ?_⟩⟩
     obtain⟨u,h1,h2⟩:=(hrow k x hx).2 j c hj
     have hk:=(x9.1 hx).1
     have hjl:=(x9.1 hj).1
     have hx1:=(hrow k x hx).1
     have:=z8j hk (show j < e by omega)
     refine⟨u, ?_,h2⟩
     rw[d3] at h1
     simp[news,this,h1]
    have hone:=fun u hu=>hN.one hpos ha u hu
    exact⟨news,⟨hk,fun _=>rfl,run_firstCells_some w e ys.length ⟨b,o,none⟩ ys.length c news hnl hnews,run_firstCells_some w.drew e ys.length ⟨b,o,none⟩ ys.length c news hnl (by simpa using hnews),hnl,hone⟩,hN⟩
theorem q8p {t tx ty e:TypeId} {sz n c:Nat} {A:Option Addr} {x:Value} (ht:P.underlying t=some (.slice e)) (hs:sizeP P e=some sz) (hx:Src P sz tx x 0 [] w) (hnc:n≤c):
  (Builtin.append_ #[t,tx] ty #[.slice A n c,x]).run P w= .ok (.slice A n c) w:=by
 have hz:=z5q hs
 rcases hx.kind with ⟨e',hk⟩ | hk <;> cases A <;> simp[Builtin.append_,run_underlying ht,run_underlying hk,hz,hx.len,hnc,hx.cells,storeCells]
theorem q3k {t tx ty e ty':TypeId} {sz n c m b off:Nat} {x:Value} {news:List Value} {cs:Array Value} (ht:P.underlying t=some (.slice e)) (hs:sizeP P e=some sz) (hx:Src P sz tx x m news w) (hnc:n + m≤c)
  (hw:w.heap[b]? =some (.cells cs ty' (0,0))) (hfit:off + n * sz + news.length≤cs.size):
  (Builtin.append_ #[t,tx] ty #[.slice (some ⟨b,off,none⟩) n c,x]).run P w= .ok (.slice (some ⟨b,off,none⟩) (n + m) c)
   (w.setRow b (cs.toList.take (off + n * sz)++news++cs.toList.drop (off + n * sz + news.length)).toArray):=by
 have hz:=z5q hs
 have hst:=run_storeCells_at P b (off + n * sz) ty' news 0 cs w hw (by simpa using hfit) hx.one
 simp only[b4] at hst
 rcases hx.kind with ⟨e',hk⟩ | hk <;> simp[Builtin.append_,run_underlying ht,run_underlying hk,hz,hx.len,hnc,hx.cells,Addr.add_lit,hst]
theorem x9s {xs ys:List AV} {olds news:List Value} {sz:Nat} {zs:Array Value} (ho:NewsR G I xs olds sz) (hn:NewsR G I ys news sz):ElemsR G I (xs++ys) ((olds++news).toArray++zs) sz:=by
 intro k x hx
 have h1:x.cells.length=sz∧∀ (j:Nat) c,x.cells[j]? =some c→∃ u,(olds++news)[k * sz + j]? =some u∧VR G I c u:=by
  rw[n6] at hx
  split at hx
  ·rename_i hk
   obtain⟨h1,h2⟩:=ho.2 k x hx
   refine⟨h1,fun j c hj=> ?_⟩
   obtain⟨u,hu,hr⟩:=h2 j c hj
   refine⟨u, ?_,hr⟩
   rw[List.getElem?_append_left (x9.1 hu).1]
   exact hu
  ·rename_i hk
   obtain⟨h1,h2⟩:=hn.2 _ x hx
   refine⟨h1,fun j c hj=> ?_⟩
   obtain⟨u,hu,hr⟩:=h2 j c hj
   refine⟨u, ?_,hr⟩
   have:k * sz=xs.length * sz + (k - xs.length) * sz:=by rw[←k9];congr 1;omega
   rw[List.getElem?_append_right (by rw[ho.1];omega),ho.1]
   rw[show k * sz + j - xs.length * sz=(k - xs.length) * sz + j by omega]
   exact hu
 refine⟨h1.1,fun j c hj=> ?_⟩
 obtain⟨u,hu,hr⟩:=h1.2 j c hj
 refine⟨u, ?_,hr⟩
 have hlt:=(x9.1 hu).1
 rw[Array.getElem?_append_left (by simpa using hlt)]
 simpa using hu
theorem v4r {I':Imm} {B sz:Nat} {es:List AV} {ccs:Array Value} (hI:ILe I I') (hi:∀ o,o < es.length * sz→I' B o=ccs[o]?) (hr:ElemsR G I es ccs sz):RowI G I' es B 0 sz:=by
 refine z5u.2 fun k x hx=> ?_
 obtain⟨h1,h2⟩:=hr k x hx
 refine⟨h1,z6x.2 fun j c hj=> ?_⟩
 obtain⟨v,h3,h4⟩:=h2 j c hj
 have hk:=(x9.1 hx).1
 have hjl:=(x9.1 hj).1
 have:=z8j hk (show j < sz by omega)
 refine⟨v, ?_,VR.mono (GLe.refl _) hI h4⟩
 rw[k6,hi _ (by omega)]
 exact h3
theorem q8q {t tx ty e:TypeId} {sz by_ c:Nat} {z:AV} {A:Option Addr} {x:Value} {xs ys:List AV} {olds news:List Value} (ht:P.underlying t=some (.slice e)) (hs:sizeP P e=some sz) (hb:bytesP P e=some by_) (hz:zeroP P e=some z) (hzl:z.cells.length=sz)
  (hx:Src P sz t (.slice A xs.length c) xs.length olds w) (hy:Src P sz tx x ys.length news w) (ho:NewsR G I xs olds sz) (hn:NewsR G I ys news sz)
  (hg:c < xs.length + ys.length) (hroom:(xs.length + ys.length) * (by_ + 1)≤z1e):
  ∃ cap ccs,(Builtin.append_ #[t,tx] ty #[.slice A xs.length c,x]).run P w= .ok (.slice (some ⟨w.heap.size,0,none⟩) (xs.length + ys.length) cap) (w.drew.alloc (.cells ccs e))∧
    xs.length + ys.length≤cap∧ccs.size=cap * sz∧ElemsR G I (xs++ys) ccs sz:=by
 obtain⟨ti,zv,hi,hzv,hvz⟩:=z9a (G:=G) (I:=I) hz
 have hsz:ti.size=sz:=by simpa [sizeP,hi] using hs
 have hby:ti.bytes=by_:=by simpa [bytesP,hi] using hb
 have hzc:zv.cells.size=sz:=by rw[←(ArrR.of_val (q4h hz) hvz).1];exact hzl
 have hrb:z1e=70368744177664:=by decide
 rw[hrb,Nat.mul_add,Nat.mul_one] at hroom
 have hfit:Builtin.nextslicecap (xs.length + ys.length) c * ti.bytes≤281474976710656:=by
  refine growslice_fits hg ?_
  rw[hby]
  omega
 subst hsz
 have hrun:=run_append_grow_src (P:=P) w t tx ty e ti zv ht hi hzv A xs.length c olds hx.cellsD x ys.length news hy hg (by omega) hfit
 have hcap:=grownCap_ge w (xs.length + ys.length) c e
 generalize grownCap w (xs.length + ys.length) c e=cap at hrun hcap
 refine⟨cap,_,hrun,hcap, ?_,x9s ho hn⟩
 have h1:=ho.1
 have h2:=hn.1
 rw[Array.size_append,size_zeroCells,hzc]
 simp only[List.size_toArray,List.length_append,h1,h2]
 rw[←k9,←k9]
 congr 1
 omega
end
section
variable {P:Program} {G:Ghost} {I:Imm} {h:List AObj} {w:World} {gen slot:Nat}
structure AppK (P:Program) (t tx e:TypeId) (sz by_:Nat) (z:AV):Prop where
 ht:P.underlying t=some (.slice e)
 hk:(∃ e',P.underlying tx=some (.slice e'))∨P.underlying tx=some .string
 hs:sizeP P e=some sz
 hb:bytesP P e=some by_
 hz:zeroP P e=some z
 hzl:z.cells.length=sz
 h0:0 < sz
theorem z9t {s:Nat} (i:Nat) (o:AObj) (b:Nat) (hi:(h.set s .dead)[i]? =some o) (hb:own G o=some b):∃ (j:Nat) (x:AObj),h[j]? =some x∧own G x=some b:=
 ⟨i,o,(q3j hi hb).2,hb⟩
theorem x6z {t tx ty e:TypeId} {sz by_ c:Nat} {z:AV} {A:Option Addr} {x:Value} {xs ys:List AV} {olds news:List Value} {h1:List AObj} {r:Result Next} (ap:AppK P t tx e sz by_ z) (hg:G gen=none) (rel1:Rel G I h1 w)
  (hown:∀ (i:Nat) o b,h1[i]? =some o→own G o=some b→∃ (j:Nat) (x:AObj),h[j]? =some x∧own G x=some b)
  (hx:Src P sz t (.slice A xs.length c) xs.length olds w) (hy:Src P sz tx x ys.length news w) (ho:NewsR G I xs olds sz) (hn:NewsR G I ys news sz) (hgr:c < xs.length + ys.length) (hroom:(xs.length + ys.length) * (by_ + 1)≤z1e)
  (hr:r=((Builtin.append_ #[t,tx] ty #[.slice A xs.length c,x]).bind fun v=>Sem.pure (.value v)).run P w):Step G I h w gen slot r (.sl (xs++ys) (.at slot gen)) (h1.set slot (.tip gen sz)):=by
 obtain⟨cap,ccs,hrun,hcap,hsz,hE⟩:=q8q (G:=G) (I:=I) (ty:=ty) ap.ht ap.hs ap.hb ap.hz ap.hzl hx hy ho hn hgr hroom
 have hlen:(xs++ys).length=xs.length + ys.length:=by simp
 have hx1:r= .ok (.value (.slice (some ⟨w.heap.size,0,none⟩) (xs.length + ys.length) cap)) (w.drew.alloc (.cells ccs e)):=by
  rw[hr,z4m,hrun]
  rfl
 have hle:ILe I (z6m I w.heap.size ((xs++ys).length * sz) ccs):=q8m fun o v hv=>absurd hv (z3m rel1 o v)
 have hcm:(xs.length + ys.length) * sz≤cap * sz:=w8 _ hcap
 refine Step.make (w':=w.drew.alloc (.cells ccs e)) (i:=⟨slot,w.heap.size,sz,0,(xs.length + ys.length) * sz,cap * sz,true⟩) (I':=z6m I w.heap.size ((xs++ys).length * sz) ccs) hg rfl rel1 hown (.inl (x7 _)) (fun j o hj ho=> ?_) hle
  (fun b x _ hx=>z2r w.drew _ hx) q1i (fun o v hv=> ?_) ?_ ?_ rfl rfl rfl (by have:=z6c w.drew (.cells ccs e);simp at this⊢) hx1 ?_
 ·have:=z9q (rel1.obj j o hj) ho
  simp at this
 ·have ha:(w.drew.alloc (.cells ccs e)).heap[w.heap.size]? =some (.cells ccs e):=z7a w.drew (.cells ccs e)
  simp only[World.cell?,ha]
  unfold z6m at hv
  split at hv
  ·exact hv
  ·exact absurd hv (z3m rel1 o v)
 ·refine⟨_,Ghost.put_same,rfl,rfl,fun _=>⟨ccs,e,z7a w.drew _,by simp only;omega,fun o v hv=> ?_⟩⟩
  unfold z6m at hv
  split at hv
  ·rename_i hc
   have:=hc.2
   rw[hlen] at this
   exact this
  ·exact absurd hv (z3m rel1 o v)
 ·intro b hb
  simp[own] at hb
  exact hb.symm
 ·simp only[VR]
  refine⟨_,_,_,rfl,hlen,hcap,⟨_,Ghost.put_same,rfl,ap.h0,fun y hy=> ?_, .inr ⟨rfl,0,rfl,by simp only[hlen,k6],by simp⟩⟩, .inr ⟨w.heap.size,0,sz,rfl,ap.h0, ?_⟩⟩
  ·obtain⟨k,hk⟩:=List.getElem?_of_mem hy
   exact (hE k y hk).1
  ·exact RowI.mono (Ghost.put_le _ hg) (ILe.refl _) (v4r hle (fun o ho=>q8n o ho) hE)
theorem q3l {t tx ty e:TypeId} {sz by_ c fz:Nat} {z:AV} {A:Option Addr} {x:Value} {xs ys:List AV} {olds news:List Value} {h1:List AObj} {r:Result Next} (ap:AppK P t tx e sz by_ z) (hg:G gen=none) (rel1:Rel G I h1 w)
  (hown:∀ (i:Nat) o b,h1[i]? =some o→own G o=some b→∃ (j:Nat) (x:AObj),h[j]? =some x∧own G x=some b)
  (hx:Src P sz t (.slice A xs.length c) xs.length olds w) (hy:Src P sz tx x ys.length news w) (ho:NewsR G I xs olds sz) (hn:NewsR G I ys news sz) (hgr:c < xs.length + ys.length) (hroom:(xs.length + ys.length) * (by_ + 1)≤z1e)
  (hfz:fz≤xs.length) (hr:r=((Builtin.append_ #[t,tx] ty #[.slice A xs.length c,x]).bind fun v=>Sem.pure (.value v)).run P w):
  Step G I h w gen slot r (.ob slot gen 0 (xs.length + ys.length)) (h1.set slot (.blk gen (xs++ys) true true fz)):=by
 obtain⟨cap,ccs,hrun,hcap,hsz,hE⟩:=q8q (G:=G) (I:=I) (ty:=ty) ap.ht ap.hs ap.hb ap.hz ap.hzl hx hy ho hn hgr hroom
 have hlen:(xs++ys).length=xs.length + ys.length:=by simp
 have hx1:r= .ok (.value (.slice (some ⟨w.heap.size,0,none⟩) (xs.length + ys.length) cap)) (w.drew.alloc (.cells ccs e)):=by
  rw[hr,z4m,hrun]
  rfl
 refine Step.make (w':=w.drew.alloc (.cells ccs e)) (i:=⟨slot,w.heap.size,sz,cap,0,0,false⟩) (I':=I) hg rfl rel1 hown (.inl (x7 _)) (fun j o hj ho=> ?_) (ILe.refl _)
  (fun b x _ hx=>z2r w.drew _ hx) (fun _ _ _ _ hv=>hv) (fun o v hv=>absurd hv (z3m rel1 o v)) ?_ ?_ rfl rfl rfl (by have:=z6c w.drew (.cells ccs e);simp at this⊢) hx1 ?_
 ·have:=z9q (rel1.obj j o hj) ho
  simp at this
 ·exact⟨_,_,e,Ghost.put_same,rfl,z7a w.drew _,hsz,ap.h0,by simp only[hlen];exact hcap,by simp,⟨by omega,by simp⟩,hE.mono (Ghost.put_le _ hg) (ILe.refl _),fun o v hv=>absurd hv (z3m rel1 o v)⟩
 ·intro b hb
  simp[own] at hb
  exact hb.symm
 ·simp only[VR]
  exact⟨_,_,_,Ghost.put_same,rfl,rfl,hcap,by simp, .inr (by simp)⟩
theorem q8r (t tx ty e:TypeId) (k:IntKind) (i:TypeInfo) (z:Value) (ht:P.underlying t=some (.slice e)) (hk:P.underlying tx=some (.int k)) (hi:P.info? e=some i) (hz:i.zero=some z) (j:IntKind) (n:Nat) (h0:0 < n) (hs0:0 < i.size)
  (h63:(n:Int)≤9223372036854775807) (hfit:n * i.bytes≤281474976710656):
  (Builtin.append_ #[t,tx] ty #[.slice none 0 0, .int j n]).run P w=
   .ok (.slice (some ⟨w.heap.size,0,none⟩) n (grownCap w n 0 e)) (w.drew.alloc (.cells (Builtin.zeroCells z.cells n++Builtin.zeroCells z.cells (grownCap w n 0 e - n)) e)):=by
 have hw:IntKind.i64.wrap (n:Int)=n:=IntWalk.i64_in _ (by omega)
 have hnn:¬ n=0:=by omega
 have hmul:n * i.size≠0:=by
  have:=Nat.mul_pos h0 hs0
  omega
 have h48:¬ ((281474976710656:Int) < (n:Int) * (i.bytes:Int)):=by
  have:((n * i.bytes:Nat):Int)≤281474976710656:=by omega
  rw[Int.natCast_mul] at this
  omega
 have hcap:Builtin.nextslicecap n 0=n:=by simp[Builtin.nextslicecap];omega
 have hneg:¬ ((n:Int) < 0):=by omega
 have h63':¬ (9223372036854775807 < (n:Int)):=by omega
 have h48':¬ (281474976710656 < n * i.bytes):=by omega
 simp[Builtin.append_,run_underlying ht,run_underlying hk,sizeOf,typeInfo,zeroValue,hi,hz,asInt,asIntOf,hw,hneg,h48,hnn,hmul,hcap,h63',h48',Question.forced,newRow,grownCap,Builtin.firstCells]
theorem x9t {t tx ty e:TypeId} {k:IntKind} {sz by_ n:Nat} {z:AV} {j:IntKind} {r:Result Next} (ht:P.underlying t=some (.slice e)) (hk:P.underlying tx=some (.int k)) (hs:sizeP P e=some sz) (hb:bytesP P e=some by_) (hz:zeroP P e=some z) (hzl:z.cells.length=sz) (hzd:z.def? =true) (h0:0 < sz)
  (hg:G gen=none) (rel1:Rel G I h w) (hn0:0 < n) (hroom:n * (by_ + 1)≤z1e) (hr:r=((Builtin.append_ #[t,tx] ty #[.slice none 0 0, .int j n]).bind fun v=>Sem.pure (.value v)).run P w):
  Step G I h w gen slot r (.ob slot gen 0 n) (h.set slot (.blk gen (x3 n z) true true 0)):=by
 obtain⟨ti,zv,hi,hzv,hvz⟩:=z9a (G:=G) (I:=I) hz
 have hsz:ti.size=sz:=by simpa [sizeP,hi] using hs
 have hby:ti.bytes=by_:=by simpa [bytesP,hi] using hb
 have hzc:zv.cells.size=sz:=by rw[←(ArrR.of_val (q4h hz) hvz).1];exact hzl
 have hrb:z1e=70368744177664:=by decide
 rw[hrb,Nat.mul_add,Nat.mul_one] at hroom
 subst hsz hby
 have hrun:=q8r (w:=w) t tx ty e k ti zv ht hk hi hzv j n hn0 h0 (by omega) (by omega)
 have hcap:=grownCap_ge w n 0 e
 generalize grownCap w n 0 e=cap at hrun hcap
 have hx1:r= .ok (.value (.slice (some ⟨w.heap.size,0,none⟩) n cap)) (w.drew.alloc (.cells (Builtin.zeroCells zv.cells n++Builtin.zeroCells zv.cells (cap - n)) e)):=by
  rw[hr,z4m,hrun]
  rfl
 have hE:ElemsR G I (x3 n z) (Builtin.zeroCells zv.cells n++Builtin.zeroCells zv.cells (cap - n)) ti.size:=by
  have hrow:=q8i (G:=G) (I:=I) (n:=n) (ArrR.of_val hzd hvz)
  rw[hzc] at hrow
  intro k x hx
  obtain⟨h1,h2⟩:=hrow.2 k x hx
  refine⟨h1,fun q c hq=> ?_⟩
  obtain⟨u,hu,hur⟩:=h2 q c hq
  refine⟨u, ?_,hur⟩
  have hlt:=(Array.getElem?_eq_some_iff.1 hu).1
  have he:Builtin.zeroCells zv.cells n=(Array.range (n * ti.size)).map fun i=>zv.cells[i % ti.size]! :=by
   rw[←hzc];rfl
  rw[Array.getElem?_append_left (by rw[he];exact hlt),he]
  exact hu
 refine Step.make (w':=w.drew.alloc (.cells (Builtin.zeroCells zv.cells n++Builtin.zeroCells zv.cells (cap - n)) e)) (i:=⟨slot,w.heap.size,ti.size,cap,0,0,false⟩) (I':=I) hg rfl rel1 (fun i o b hi hb=>⟨i,o,hi,hb⟩) (.inl (x7 _)) (fun j o hj ho=> ?_) (ILe.refl _)
  (fun b x _ hx=>z2r w.drew _ hx) (fun _ _ _ _ hv=>hv) (fun o v hv=>absurd hv (z3m rel1 o v)) ?_ ?_ rfl rfl rfl (by have:=z6c w.drew (.cells (Builtin.zeroCells zv.cells n++Builtin.zeroCells zv.cells (cap - n)) e);simp at this⊢) hx1 ?_
 ·have:=z9q (rel1.obj j o hj) ho
  simp at this
 ·refine⟨_,_,e,Ghost.put_same,rfl,z7a w.drew _, ?_,h0,by simp only[List.length_replicate];exact hcap,by simp,⟨by omega,by simp⟩,hE.mono (Ghost.put_le _ hg) (ILe.refl _),fun o v hv=>absurd hv (z3m rel1 o v)⟩
  rw[Array.size_append,size_zeroCells,size_zeroCells,hzc,←k9]
  show (n + (cap - n)) * ti.size=cap * ti.size
  rw[Nat.add_sub_cancel' hcap]
 ·intro b hb
  simp[own] at hb
  exact hb.symm
 ·simp only[VR]
  exact⟨_,_,_,Ghost.put_same,rfl,rfl,hcap,by simp, .inr (by simp)⟩
theorem x7a {t tx ty e:TypeId} {sz by_ c:Nat} {z:AV} {A:Option Addr} {x:Value} {xs:List AV} {h1:List AObj} {r:Result Next} (ap:AppK P t tx e sz by_ z) (hg:G gen=none) (rel1:Rel G I h1 w)
  (hown:∀ (i:Nat) o b,h1[i]? =some o→own G o=some b→∃ (j:Nat) (x:AObj),h[j]? =some x∧own G x=some b)
  (hy:Src P sz tx x 0 [] w) (hc:c=xs.length) (hall:z0r sz xs=true) (hrow:xs.length=0∨∃ b o e,A=some ⟨b,o,none⟩∧0 < e∧RowI G I xs b o e)
  (hr:r=((Builtin.append_ #[t,tx] ty #[.slice A xs.length c,x]).bind fun v=>Sem.pure (.value v)).run P w):Step G I h w gen slot r (.sl xs (.at slot gen)) (h1.set slot (.tip gen sz)):=by
 have hx1:r= .ok (.value (.slice A xs.length c)) w:=by
  rw[hr,z4m,q8p ap.ht ap.hs hy (by omega)]
  rfl
 refine Step.make (i:=⟨slot,w.heap.size,sz,0,0,0,false⟩) (I':=I) hg rfl rel1 hown (.inl (x7 _)) (fun j o hj ho=> ?_) (ILe.refl _)
  (fun b x _ hx=>hx) (fun _ _ _ _ hv=>hv) (fun o v hv=>absurd hv (z3m rel1 o v)) ?_ ?_ rfl rfl rfl (x7 _) hx1 ?_
 ·have:=z9q (rel1.obj j o hj) ho
  simp at this
 ·exact⟨_,Ghost.put_same,rfl,rfl,fun h=>by simp at h⟩
 ·intro b hb
  simp[own] at hb
 ·simp only[VR]
  refine⟨A,xs.length,c,rfl,rfl,by omega,⟨_,Ghost.put_same,rfl,ap.h0,fun y hy=>(z2t.1 hall y hy).2.1, .inl hc⟩, ?_⟩
  rcases hrow with h0 | ⟨b,o,e,rfl,h2,h3⟩
  ·exact .inl h0
  ·exact .inr ⟨b,o,e,rfl,h2,RowI.mono (Ghost.put_le _ hg) (ILe.refl _) h3⟩
theorem x7b {t tx ty e:TypeId} {sz by_ c s g:Nat} {z:AV} {A:Option Addr} {x:Value} {xs ys:List AV} {news:List Value} {i0:GInfo} {r:Result Next} (ap:AppK P t tx e sz by_ z) (hg:G gen=none) (rel:Rel G I h w)
  (hs:h[s]? =some (.tip g sz)) (hi0:G g=some i0) (hroomy:i0.room=true) (hA:∃ o,A=some ⟨i0.blk,o,none⟩∧o + xs.length * i0.esz=i0.endp∧o + c * i0.esz=i0.capE)
  (hall:z0r sz xs=true) (hall2:z0r sz ys=true) (hrow:xs.length=0∨∃ b o e,A=some ⟨b,o,none⟩∧0 < e∧RowI G I xs b o e)
  (hy:Src P sz tx x ys.length news w) (hn:NewsR G I ys news sz) (hfit:xs.length + ys.length≤c)
  (hr:r=((Builtin.append_ #[t,tx] ty #[.slice A xs.length c,x]).bind fun v=>Sem.pure (.value v)).run P w):Step G I h w gen slot r (.sl (xs++ys) (.at slot gen)) ((h.set s .dead).set slot (.tip gen sz)):=by
 obtain⟨i0',hi0',hsl,hesz,hob⟩:=rel.obj s _ hs
 obtain rfl:i0=i0':=by rw[hi0] at hi0';simpa using hi0'
 obtain⟨cs,ty',hw,hcap,hI⟩:=hob hroomy
 obtain⟨o,rfl,hend,hcapE⟩:=hA
 rw[hesz] at hend hcapE
 have hcm:(xs.length + ys.length) * sz≤c * sz:=w8 _ hfit
 rw[k9] at hcm
 have hnl:=hn.1
 have hrun:=q3k (ty:=ty) ap.ht ap.hs hy hfit hw (off:=o) (by omega)
 have hx1:r= .ok (.value (.slice (some ⟨i0.blk,o,none⟩) (xs.length + ys.length) c)) (w.setRow i0.blk (cs.toList.take (o + xs.length * sz)++news++cs.toList.drop (o + xs.length * sz + news.length)).toArray):=by
  rw[hr,z4m,hrun]
  rfl
 have hget:=fun j=>z7y (cs:=cs) (vs:=news) (o:=o + xs.length * sz) (by omega) j
 generalize hcs':(cs.toList.take (o + xs.length * sz)++news++cs.toList.drop (o + xs.length * sz + news.length)).toArray=cs' at hx1 hget
 have hsz':cs'.size=cs.size:=by
  rw[←hcs']
  simp
  omega
 have hown:own G (.tip g sz)=some i0.blk:=by simp[own,hi0,hroomy]
 have hw':=setRow_heap w i0.blk cs cs' ty' (0,0) hw
 have hlen:(xs++ys).length=xs.length + ys.length:=by simp
 have hle:ILe I (z6m I i0.blk (i0.endp + ys.length * sz) cs'):=q8m fun q v hv hq=>by
  have:=hI q v hv
  rw[hget q,if_neg (by omega)]
  have h1:=rel.imm _ q v hv
  simpa [World.cell?,hw] using h1
 refine Step.make (w':=w.setRow i0.blk cs') (i:=⟨slot,i0.blk,sz,0,i0.endp + ys.length * sz,i0.capE,true⟩) (I':=z6m I i0.blk (i0.endp + ys.length * sz) cs') hg rfl (rel.kill s) z9t (.inr ⟨s,_,hs,hown⟩) (fun j o hj ho=> ?_) hle
  (fun b x hb hx=>by rw[setRow_other w _ _ _ hb];exact hx) q1i (fun q v hv=> ?_) ?_ ?_ rfl rfl rfl (by simp) hx1 ?_
 ·obtain⟨h1,h2⟩:=q3j hj ho
  exact h1 (rel.inj j s o _ _ h2 hs ho hown)
 ·rw[cell_setRow_same w _ q cs cs' ty' _ hw]
  unfold z6m at hv
  split at hv
  ·exact hv
  ·rename_i hc
   have:=hI q v hv
   simp at hc
   omega
 ·refine⟨_,Ghost.put_same,rfl,rfl,fun _=>⟨cs',ty',hw',by simp only;omega,fun q v hv=> ?_⟩⟩
  unfold z6m at hv
  split at hv
  ·rename_i hc;exact hc.2
  ·have:=hI q v hv
   simp only
   omega
 ·intro b hb
  simp[own] at hb
  exact hb.symm
 ·simp only[VR]
  refine⟨_,_,_,rfl,hlen,hfit,⟨_,Ghost.put_same,rfl,ap.h0,fun y hy=> ?_, .inr ⟨rfl,o,rfl, ?_, ?_⟩⟩, .inr ⟨i0.blk,o,sz,rfl,ap.h0,RowI.mono (Ghost.put_le _ hg) (ILe.refl _) ?_⟩⟩
  ·rcases List.mem_append.1 hy with hy | hy
   ·exact (z2t.1 hall y hy).2.1
   ·exact (z2t.1 hall2 y hy).2.1
  ·simp only[hlen,k9]
   omega
  ·simp only
   omega
  ·refine z5u.2 fun k y hk=> ?_
   rw[n6] at hk
   split at hk
   ·rename_i hkl
    rcases hrow with h0 | ⟨b,o',e',hA,hpos,hrow⟩
    ·omega
    ·simp at hA
     obtain⟨rfl,rfl⟩:=hA
     obtain⟨h1,h2⟩:=z5u.1 hrow k y hk
     have h3:=(z2t.1 hall y (m6 hk)).2.1
     obtain rfl:e'=sz:=by omega
     exact⟨h1,CellsI.mono (GLe.refl _) hle h2⟩
   ·rename_i hkl
    obtain⟨h1,h2⟩:=hn.2 _ y hk
    refine⟨h1,z6x.2 fun j c hj=> ?_⟩
    obtain⟨u,h3,h4⟩:=h2 j c hj
    have hlt:=(x9.1 h3).1
    have he:k * sz=xs.length * sz + (k - xs.length) * sz:=by rw[←k9];congr 1;omega
    refine⟨u, ?_,VR.mono (GLe.refl _) hle h4⟩
    rw[q8n _ (by omega),hget,if_pos ⟨by omega,by omega⟩]
    rw[show o + k * sz + j - (o + xs.length * sz)=(k - xs.length) * sz + j by omega]
    exact h3
theorem x9u {t tx ty e:TypeId} {sz by_ c s g len fz:Nat} {z:AV} {A:Option Addr} {x:Value} {es ys:List AV} {news:List Value} {i0:GInfo} {r:Result Next} (ap:AppK P t tx e sz by_ z) (hg:G gen=none) (rel:Rel G I h w)
  (hs:h[s]? =some (.blk g es true true fz)) (hi0:G g=some i0) (hc:c=i0.cap) (hA:c=0∨A=some ⟨i0.blk,0,none⟩) (hle:len≤es.length) (hfz:fz≤len) (hes:i0.esz=sz)
  (hy:Src P sz tx x ys.length news w) (hn:NewsR G I ys news sz) (hm:ys≠[]) (hfit:len + ys.length≤c)
  (hr:r=((Builtin.append_ #[t,tx] ty #[.slice A len c,x]).bind fun v=>Sem.pure (.value v)).run P w):Step G I h w gen slot r (.ob slot gen 0 (len + ys.length)) ((h.set s .dead).set slot (.blk gen (es.take len++ys) true true fz)):=by
 obtain⟨i0',cs,ty',hi0',hsl,hw,hsz,hpos,hcap,_,_,hE,hI⟩:=rel.obj s _ hs
 obtain rfl:i0=i0':=by rw[hi0] at hi0';simpa using hi0'
 have hm0:0 < ys.length:=l0.2 hm
 obtain rfl:A=some ⟨i0.blk,0,none⟩:=hA.resolve_left (by omega)
 subst hes
 have hcm:(len + ys.length) * i0.esz≤i0.cap * i0.esz:=w8 _ (by omega)
 rw[k9] at hcm
 have hnl:=hn.1
 have hrun:=q3k (ty:=ty) ap.ht ap.hs hy hfit hw (off:=0) (by omega)
 simp only[k6] at hrun
 have hx1:r= .ok (.value (.slice (some ⟨i0.blk,0,none⟩) (len + ys.length) c)) (w.setRow i0.blk (cs.toList.take (len * i0.esz)++news++cs.toList.drop (len * i0.esz + news.length)).toArray):=by
  rw[hr,z4m,hrun]
  rfl
 have hget:=fun j=>z7y (cs:=cs) (vs:=news) (o:=len * i0.esz) (by omega) j
 generalize hcs':(cs.toList.take (len * i0.esz)++news++cs.toList.drop (len * i0.esz + news.length)).toArray=cs' at hx1 hget
 have hsz':cs'.size=cs.size:=by
  rw[←hcs']
  simp
  omega
 have hown:own G (.blk g es true true fz)=some i0.blk:=by simp[own,hi0]
 have hw':=setRow_heap w i0.blk cs cs' ty' (0,0) hw
 have hfm:fz * i0.esz≤len * i0.esz:=w8 _ hfz
 refine Step.make (w':=w.setRow i0.blk cs') (i:=⟨slot,i0.blk,i0.esz,i0.cap,0,0,false⟩) (I':=I) hg rfl (rel.kill s) z9t (.inr ⟨s,_,hs,hown⟩) (fun j o hj ho=> ?_) (ILe.refl _)
  (fun b x hb hx=>by rw[setRow_other w _ _ _ hb];exact hx) (fun _ _ _ _ hv=>hv) (fun q v hv=> ?_) ?_ ?_ rfl rfl rfl (by simp) hx1 ?_
 ·obtain⟨h1,h2⟩:=q3j hj ho
  exact h1 (rel.inj j s o _ _ h2 hs ho hown)
 ·have h1:=hI q v hv
  rw[cell_setRow_same w _ q cs cs' ty' _ hw,hget q,if_neg (by omega)]
  have h2:=rel.imm _ q v hv
  simpa [World.cell?,hw] using h2
 ·refine⟨_,cs',ty',Ghost.put_same,rfl,hw',by simp only;omega,hpos,by simp;omega,by simp,⟨by simp;omega,by simp⟩, ?_,fun q v hv=>hI q v hv⟩
  refine ElemsR.mono (e:=i0.esz) (Ghost.put_le _ hg) (ILe.refl _) (fun k y hk=> ?_)
  rw[n6] at hk
  have htl:(es.take len).length=len:=by simp;omega
  rw[htl] at hk
  split at hk
  ·rename_i hkl
   rw[l8 hkl] at hk
   obtain⟨h1,h2⟩:=hE k y hk
   refine⟨h1,fun j c hj=> ?_⟩
   obtain⟨u,h3,h4⟩:=h2 j c hj
   have hjl:=(x9.1 hj).1
   have:=z8j hkl (show j < i0.esz by omega)
   exact⟨u,by rw[hget,if_neg (by omega)];exact h3,h4⟩
  ·rename_i hkl
   obtain⟨h1,h2⟩:=hn.2 _ y hk
   refine⟨h1,fun j c hj=> ?_⟩
   obtain⟨u,h3,h4⟩:=h2 j c hj
   have hlt:=(x9.1 h3).1
   have he:k * i0.esz=len * i0.esz + (k - len) * i0.esz:=by rw[←k9];congr 1;omega
   refine⟨u, ?_,h4⟩
   rw[hget,if_pos ⟨by omega,by omega⟩]
   rw[show k * i0.esz + j - len * i0.esz=(k - len) * i0.esz + j by omega]
   exact h3
 ·intro b hb
  simp[own] at hb
  exact hb.symm
 ·simp only[VR]
  exact⟨_,_,_,Ghost.put_same,rfl,rfl,hfit,by simp only;omega, .inr (by simp)⟩
theorem x7c {t tx ty e:TypeId} {sz by_ c s g len fz:Nat} {z:AV} {A:Option Addr} {x:Value} {es ys:List AV} {news:List Value} {i0:GInfo} {r:Result Next} (ap:AppK P t tx e sz by_ z) (hg:G gen=none) (rel:Rel G I h w)
  (hs:h[s]? =some (.blk g es true false fz)) (hi0:G g=some i0) (hc:c=i0.cap) (hA:c=0∨A=some ⟨i0.blk,0,none⟩) (hfz:fz≤len) (hes:i0.esz=sz)
  (hy:Src P sz tx x ys.length news w) (hn:NewsR G I ys news sz) (hm:ys≠[]) (hfit:len + ys.length≤es.length)
  (hr:r=((Builtin.append_ #[t,tx] ty #[.slice A len c,x]).bind fun v=>Sem.pure (.value v)).run P w):
  Step G I h w gen slot r (.ob s g 0 (len + ys.length)) (h.set s (.blk g (es.take len++ys++es.drop (len + ys.length)) true false fz)):=by
 obtain⟨i0',cs,ty',hi0',hsl,hw,hsz,hpos,hcap,hgr,hfz2,hE,hI⟩:=rel.obj s _ hs
 obtain rfl:i0=i0':=by rw[hi0] at hi0';simpa using hi0'
 have hec:=hgr rfl
 have hm0:0 < ys.length:=l0.2 hm
 obtain rfl:A=some ⟨i0.blk,0,none⟩:=hA.resolve_left (by omega)
 subst hes
 have hcm:(len + ys.length) * i0.esz≤i0.cap * i0.esz:=w8 _ (by omega)
 rw[k9] at hcm
 have hnl:=hn.1
 have hrun:=q3k (ty:=ty) ap.ht ap.hs hy (c:=c) (n:=len) (by omega) hw (off:=0) (by omega)
 simp only[k6] at hrun
 have hx1:r= .ok (.value (.slice (some ⟨i0.blk,0,none⟩) (len + ys.length) c)) (w.setRow i0.blk (cs.toList.take (len * i0.esz)++news++cs.toList.drop (len * i0.esz + news.length)).toArray):=by
  rw[hr,z4m,hrun]
  rfl
 have hget:=fun j=>z7y (cs:=cs) (vs:=news) (o:=len * i0.esz) (by omega) j
 generalize hcs':(cs.toList.take (len * i0.esz)++news++cs.toList.drop (len * i0.esz + news.length)).toArray=cs' at hx1 hget
 have hsz':cs'.size=cs.size:=by
  rw[←hcs']
  simp
  omega
 have hown:own G (.blk g es true false fz)=some i0.blk:=by simp[own,hi0]
 have hfm:fz * i0.esz≤len * i0.esz:=w8 _ hfz
 have hel:(es.take len++ys++es.drop (len + ys.length)).length=es.length:=by simp;omega
 refine⟨_,_,_,G,I,hx1, .inl rfl, ?_,rel.setRow hs hi0 hw hsz' (by omega) (fun _=>by omega) ⟨by omega,by simp⟩ ?_ (fun q v hv=>⟨hI q v hv, ?_⟩),GLe.refl _,ILe.refl _,fun _ _=>rfl,fun i hi=>by simp[hg] at hi, ?_,Fr.setRow hs hown,IFr.refl⟩
 ·simp only[VR]
  exact⟨i0,_,_,hi0,hsl,rfl,by omega,by omega, .inr (by simp)⟩
 ·intro k y hk
  have htl:(es.take len).length=len:=by simp;omega
  rw[List.append_assoc,n6,htl] at hk
  split at hk
  ·rename_i hkl
   rw[l8 hkl] at hk
   obtain⟨h1,h2⟩:=hE k y hk
   refine⟨h1,fun j c hj=> ?_⟩
   obtain⟨u,h3,h4⟩:=h2 j c hj
   have hjl:=(x9.1 hj).1
   have:=z8j hkl (show j < i0.esz by omega)
   exact⟨u,by rw[hget,if_neg (by omega)];exact h3,h4⟩
  ·rename_i hkl
   rw[n6] at hk
   have he:k * i0.esz=len * i0.esz + (k - len) * i0.esz:=by rw[←k9];congr 1;omega
   split at hk
   ·rename_i hkm
    obtain⟨h1,h2⟩:=hn.2 _ y hk
    refine⟨h1,fun j c hj=> ?_⟩
    obtain⟨u,h3,h4⟩:=h2 j c hj
    have hlt:=(x9.1 h3).1
    refine⟨u, ?_,h4⟩
    rw[hget,if_pos ⟨by omega,by omega⟩]
    rw[show k * i0.esz + j - len * i0.esz=(k - len) * i0.esz + j by omega]
    exact h3
   ·rename_i hkm
    rw[d8] at hk
    rw[show len + ys.length + (k - len - ys.length)=k by omega] at hk
    obtain⟨h1,h2⟩:=hE k y hk
    refine⟨h1,fun j c hj=> ?_⟩
    obtain⟨u,h3,h4⟩:=h2 j c hj
    have:(len + ys.length) * i0.esz≤k * i0.esz:=w8 _ (by omega)
    rw[k9] at this
    exact⟨u,by rw[hget,if_neg (by omega)];exact h3,h4⟩
 ·have:=hI q v hv
  rw[hget,if_neg (by omega)]
 ·refine OwnLe.same fun j o hj=> ?_
  rcases getElem?_set_cases hj with ⟨rfl,rfl⟩ | ⟨_,hj⟩
  ·exact⟨j,_,hs,fun b hb=>by simpa [own] using hb⟩
  ·exact⟨j,o,hj,fun _ hb=>hb⟩
end
section
variable {P:Program} {G:Ghost} {I:Imm} {h:List AObj} {w:World} {gen slot:Nat}
theorem x4b {sz n:Nat} {es:List AV} (ha:z0r sz es=true):z0r sz (es.take n)=true:=
 z2t.2 fun x hx=>z2t.1 ha x (List.mem_of_mem_take hx)
theorem x9v {t tx ty e:TypeId} {sz by_:Nat} {z:AV} {mu:Bool} {x y v:AV} {cx cy:Value} {h':List AObj} {r:Result Next} (ap:AppK P t tx e sz by_ z) (hg:G gen=none) (rel:Rel G I h w)
  (hx:VR G I x cx) (hy:VR G I y cy) (ha:z1a h slot gen sz by_ mu x y=some (v,h'))
  (hr:r=((Builtin.append_ #[t,tx] ty #[cx,cy]).bind fun v=>Sem.pure (.value v)).run P w):Step G I h w gen slot r v h':=by
 unfold z1a at ha
 split at ha
 ·simp at ha
 ·rename_i ys hys
  split at ha
  ·simp at ha
  ·rename_i hall2
   have hall2:z0r sz ys=true:=by simpa using hall2
   obtain⟨news,hsy,hn⟩:=j8x rel hys hy hall2 ap.h0 ap.hk
   have htk:(∃ e',P.underlying t=some (.slice e'))∨P.underlying t=some .string:= .inl ⟨e,ap.ht⟩
   have self:∀ (i:Nat) o b,h[i]? =some o→own G o=some b→∃ (j:Nat) (x:AObj),h[j]? =some x∧own G x=some b:=fun i o b hi hb=>⟨i,o,hi,hb⟩
   split at ha
   ·rename_i xs tp
    split at ha
    ·simp at ha
    ·rename_i hcond
     simp only[Bool.or_eq_true,decide_eq_true_eq,d9,not_or,Nat.not_lt,Bool.not_eq_false] at hcond
     obtain⟨hroom,hall⟩:=hcond
     obtain⟨olds,hsx,ho⟩:=j8x rel (y:= .sl xs tp) (ys:=xs) rfl hx hall ap.h0 htk
     simp only[VR] at hx
     obtain⟨A,n,c,rfl,rfl,hnc,htip,hrow⟩:=hx
     have grow:∀ h1,Rel G I h1 w→(∀ (i:Nat) o b,h1[i]? =some o→own G o=some b→∃ (j:Nat) (x:AObj),h[j]? =some x∧own G x=some b)→c < xs.length + ys.length→
       Step G I h w gen slot r (.sl (xs++ys) (.at slot gen)) (h1.set slot (.tip gen sz)):=fun h1 rel1 hown hgr=>x6z ap hg rel1 hown hsx hsy ho hn hgr hroom hr
     have same:∀ h1,Rel G I h1 w→(∀ (i:Nat) o b,h1[i]? =some o→own G o=some b→∃ (j:Nat) (x:AObj),h[j]? =some x∧own G x=some b)→c=xs.length→ys=[]→
       Step G I h w gen slot r (.sl (xs++ys) (.at slot gen)) (h1.set slot (.tip gen sz)):=fun h1 rel1 hown hc he=>by
      subst he
      have hnn:news=[]:=l6.1 (by rw[hn.1];simp)
      subst hnn
      rw[List.append_nil]
      exact x7a ap hg rel1 hown hsy hc hall hrow hr
     have either:∀ h1,Rel G I h1 w→(∀ (i:Nat) o b,h1[i]? =some o→own G o=some b→∃ (j:Nat) (x:AObj),h[j]? =some x∧own G x=some b)→c=xs.length→
       Step G I h w gen slot r (.sl (xs++ys) (.at slot gen)) (h1.set slot (.tip gen sz)):=fun h1 rel1 hown hc=>by
      cases hye:ys with
      | nil=>rw[←hye];exact same h1 rel1 hown hc hye
      | cons b bs=>
        rw[←hye]
        refine grow h1 rel1 hown ?_
        have:0 < ys.length:=by rw[hye];simp
        omega
     split at ha
     ·rename_i hmu
      split at ha
      ·rename_i b bs
       simp at ha
       obtain⟨rfl,rfl⟩:=ha
       simp only[TipR] at htip
       have:=q3l (slot:=slot) (h:=h) (fz:=0) ap hg rel self hsx hsy ho hn (by simp;omega) hroom (Nat.zero_le _) hr
       simpa using this
      ·rename_i b bs
       simp at ha
       obtain⟨rfl,rfl⟩:=ha
       simp only[TipR] at htip
       have:=q3l (slot:=slot) (h:=h) (fz:=0) ap hg rel self hsx hsy ho hn (by simp;omega) hroom (Nat.zero_le _) hr
       simpa using this
      ·simp at ha
     ·rename_i hmu
      split at ha
      ·simp at ha
       obtain⟨rfl,rfl⟩:=ha
       simp only[TipR] at htip
       exact either h rel self htip
      ·simp at ha
       obtain⟨rfl,rfl⟩:=ha
       simp only[TipR] at htip
       exact either h rel self (by omega)
      ·rename_i s g
       split at ha
       ·rename_i g' e' hs
        split at ha
        ·rename_i hge
         obtain⟨rfl,rfl⟩:=hge
         simp at ha
         obtain⟨rfl,rfl⟩:=ha
         simp only[TipR] at htip
         obtain⟨i0,hi0,hsl,hpos,hcl,htip⟩:=htip
         obtain⟨i0',hi0',_,hesz,_⟩:=rel.obj s _ hs
         obtain rfl:i0=i0':=by rw[hi0] at hi0';simpa using hi0'
         rcases htip with hc | ⟨hroomy,hA⟩
         ·exact either _ (rel.kill s) z9t hc
         ·by_cases hfit:xs.length + ys.length≤c
          ·exact x7b ap hg rel hs hi0 hroomy hA hall hall2 hrow hsy hn hfit hr
          ·exact grow _ (rel.kill s) z9t (by omega)
        ·simp at ha
       ·simp at ha
      ·simp at ha
   ·rename_i s g off len
    split at ha
    ·rename_i es grow fz hb
     have hs:=z8z hb
     split at ha
     ·simp at ha
     ·rename_i hcond
      simp only[Bool.or_eq_true,decide_eq_true_eq,d9,not_or,Nat.not_lt,Bool.not_eq_false,beq_iff_eq] at hcond
      obtain⟨⟨hroom,hall⟩,rfl⟩:=hcond
      split at ha
      ·rename_i hye
       simp at ha
       obtain⟨rfl,rfl⟩:=ha
       have hye:ys=[]:=by simpa using hye
       subst hye
       have hnn:news=[]:=l6.1 (by rw[hn.1];simp)
       subst hnn
       have hx0:=hx
       simp only[VR] at hx
       obtain⟨i0,A,c,hi0,hsl,rfl,hlc,hoc,hA⟩:=hx
       refine Step.pure hg rel (cv:= .slice A len c) ?_ hx0
       rw[hr,z4m,q8p ap.ht ap.hs hsy hlc]
       rfl
      ·rename_i hye
       have hye:ys≠[]:=by simpa using hye
       have hm0:0 < ys.length:=l0.2 hye
       obtain⟨i1,cs1,ty1,hi1,_,_,_,_,hcap1,hgr1,_,hE1,_⟩:=rel.obj s _ hs
       have olds:len≤es.length→∃ olds,Src P sz t cx len olds w∧NewsR G I (es.take len) olds sz:=fun hle=>by
        have hro:z6k h (.ob s g 0 len)=some (es.take len):=by simp[z6k,q3h,hb,hle]
        obtain⟨olds,h1,h2⟩:=j8x rel hro hx (x4b hall) ap.h0 htk
        have htl:(es.take len).length=len:=by simp;omega
        rw[htl] at h1
        exact⟨olds,h1,h2⟩
       simp only[VR] at hx
       obtain⟨i0,A,c,hi0,hsl,rfl,hlc,hoc,hA⟩:=hx
       obtain rfl:i0=i1:=by rw[hi0] at hi1;simpa using hi1
       rw[Nat.zero_mul] at hA
       have hesz:0 < es.length→i0.esz=sz:=fun hlt=>by
        have h1:=(hE1 0 es[0] (v9 hlt)).1
        have h2:=(z2t.1 hall es[0] (x8 hlt)).2.1
        omega
       have grow':len≤es.length→∀ fz',fz'≤len→∀ h1,Rel G I h1 w→(∀ (i:Nat) o b,h1[i]? =some o→own G o=some b→∃ (j:Nat) (x:AObj),h[j]? =some x∧own G x=some b)→c < len + ys.length→
         Step G I h w gen slot r (.ob slot gen 0 (len + ys.length)) (h1.set slot (.blk gen (es.take len++ys) true true fz')):=fun hle fz' hfz h1 rel1 hown hgr=>by
        obtain⟨olds,h2,h3⟩:=olds hle
        have key:∀ xs:List AV,xs.length=len→NewsR G I xs olds sz→Step G I h w gen slot r (.ob slot gen 0 (len + ys.length)) (h1.set slot (.blk gen (xs++ys) true true fz')):=fun xs hxl h4=>by
         subst hxl
         exact q3l ap hg rel1 hown h2 hsy h4 hn hgr hroom hfz hr
        exact key _ (by simp;omega) h3
       split at ha
       ·rename_i hgrow
        subst hgrow
        split at ha
        ·rename_i hc
         simp at ha
         obtain⟨rfl,rfl⟩:=ha
         by_cases hfit:len + ys.length≤c
         ·exact x9u ap hg rel hs hi0 (by omega) hA hc.2.1 hc.1 (hesz hc.2.2) hsy hn hye hfit hr
         ·exact grow' hc.2.1 fz hc.1 _ (rel.kill s) z9t (by omega)
        ·simp at ha
       ·rename_i hgrow
        have hgrow:grow=false:=by simpa using hgrow
        subst hgrow
        have hec:=hgr1 rfl
        split at ha
        ·rename_i hfit
         split at ha
         ·rename_i hfz
          simp at ha
          obtain⟨rfl,rfl⟩:=ha
          have:=x7c (slot:=slot) ap hg rel hs hi0 (by omega) hA hfz (hesz (by omega)) hsy hn hye hfit hr
          simpa using this
         ·simp at ha
        ·rename_i hfit
         split at ha
         ·rename_i hle
          simp at ha
          obtain⟨rfl,rfl⟩:=ha
          exact grow' hle 0 (Nat.zero_le _) _ rel self (by omega)
         ·simp at ha
    ·simp at ha
   ·simp at ha
end
end Go.Proofs.YtkollgjffkdliaaGreatDoor.Am
