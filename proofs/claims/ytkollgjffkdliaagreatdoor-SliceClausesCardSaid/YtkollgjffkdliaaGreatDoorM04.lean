/- One operation of the abstract machine stands for one operation of the model: places, elements, conversions, constants One operation of the abstract machine stands for one operation of the model: what  -/
import Derived.Laws.IdiomStrings
import Derived.Deep.AppendSrc
import Derived.Test.YtkollgjffkdliaaGreatDoorM03
set_option linter.all false
namespace Go.Proofs.YtkollgjffkdliaaGreatDoor.Am
open Go
set_option maxRecDepth 100000
section
variable {P:Program} {G:Ghost} {I:Imm} {h:List AObj} {w:World} {gen slot:Nat}
theorem z6g {e:TypeId} {sz:Nat} (hsz:sizeP P e=some sz) (w:World):(sizeOf e).run P w= .ok sz w:=by
 unfold sizeP at hsz
 cases hi:P.info? e with
 | none=>simp[hi] at hsz
 | some i=>simp[hi] at hsz;simp[sizeOf,typeInfo,hi,hsz]
theorem j4x {v:Value} {x:AV} (hc:j8e v=some x):VR G I x v:=by
 unfold j8e at hc
 split at hc <;> simp at hc <;> subst hc <;> simp only[VR]
 ·rename_i s
  refine⟨?_, ?_⟩
  ·congr 1
   apply ByteArray.ext
   apply Array.ext'
   simp only[z8k,List.map_map]
   rw[show (UInt8.ofNat∘fun (x:UInt8)=>x.toNat)=id from by funext x;simp]
   simp
  ·intro b hb
   simp at hb
   obtain⟨u,_,rfl⟩:=hb
   exact UInt8.toNat_lt u
 ·exact⟨none,0,0,rfl,rfl,Nat.le_refl _,⟨rfl,rfl,rfl⟩, .inl rfl⟩
theorem j4y:∀ {vs:List Value} {xs:List AV},k0r vs=some xs→VRL G I xs vs
 | [],xs,hc=>by simp[k0r] at hc;subst hc;simp[VRL]
 | v::vs,xs,hc=>by
   simp only[k0r] at hc
   split at hc
   ·rename_i a b ha hb
    simp at hc
    subst hc
    simp only[VRL]
    exact⟨v,vs,rfl,j4x ha,j4y hb⟩
   ·simp at hc
theorem k1f {v:Value} {x:AV} (hc:v8h v=some x):VR G I x v:=by
 unfold v8h at hc
 split at hc
 ·simp at hc
  obtain⟨cs,h1,rfl⟩:=hc
  simp only[VR]
  exact⟨_,rfl,j4y h1⟩
 ·exact j4x hc
def TR (G:Ghost) (I:Imm) (ts:Tmps) (ρ:Operand→Value):Prop:=
 (∀ t,VR G I (ts t) (ρ (.tmp t)))∧(∀ v,ρ (.const v)=v)∧∀ f,ρ (.func f)= .func (.func f) #[] #[]
theorem z1j {ts:Tmps} {ρ:Operand→Value} {o:Operand} {x:AOpd} (ht:TR G I ts ρ) (hc:z6n o=some x):VR G I (x.ev ts) (ρ o):=by
 cases o with
 | tmp t=>simp[z6n] at hc;subst hc;exact ht.1 t
 | const v=>
   simp[z6n] at hc
   subst hc
   simp only[AOpd.ev,ht.2.1]
   cases hv:v8h v with
   | none=>simp[VR]
   | some x=>exact k1f hv
 | func f=>
   simp[z6n] at hc
   subst hc
   simp only[AOpd.ev,ht.2.2]
   by_cases hf:f < z6y
   ·rw[if_pos hf]
    simp only[VR,k0q hf]
    exact⟨#[],rfl,by simp[VRL]⟩
   ·rw[if_neg hf]
    simp[VR]
 | global g=>simp[z6n] at hc;subst hc;simp[AOpd.ev,VR]
theorem q8x {ts:Tmps} {ρ:Operand→Value} (ht:TR G I ts ρ):∀ {os:List Operand} {xs:List AOpd},x5i os=some xs→VRL G I (xs.map (·.ev ts)) (os.map ρ)
 | [],xs,hc=>by simp[x5i] at hc;subst hc;simp[VRL]
 | o::os,xs,hc=>by
   simp only[x5i] at hc
   split at hc
   ·rename_i a b ha hb
    simp at hc
    subst hc
    simp only[List.map_cons,VRL]
    exact⟨_,_,rfl,z1j ht ha,q8x ht hb⟩
   ·simp at hc
theorem q3l {ts:Tmps} {ρ:Operand→Value} (ht:TR G I ts ρ) {o:Option Operand} {x:Option AOpd} (hc:q8r o=some x):OR G I (x.map (·.ev ts)) (o.map ρ):=by
 cases o with
 | none=>simp[q8r] at hc;subst hc;trivial
 | some o=>
   simp[q8r] at hc
   obtain⟨a,h1,rfl⟩:=hc
   exact z1j ht h1
theorem z9u {t:TypeId} {z:AV} (hz:zeroP P t=some z):∃ i zv,P.info? t=some i∧i.zero=some zv∧VR G I z zv:=by
 unfold zeroP at hz
 cases hi:P.info? t with
 | none=>simp[hi] at hz
 | some i=>
   cases hzz:i.zero with
   | none=>simp[hi,hzz] at hz
   | some zv=>
     simp[hi,hzz] at hz
     exact⟨i,zv,rfl,hzz,k1f hz⟩
theorem k1g {t:TypeId} {cells:List AV} {cs:Array Value} {off:Nat} {sz:Option Nat} {v:AV} (ha:ArrR G I cells cs) (hs:z8h P t=some sz) (hr:z1x cells off sz=some v):
  ∃ cv,(part t cs off).run P w= .ok cv w∧VR G I v cv:=by
 cases hu:P.underlying t with
 | none=>simp[z8h,hu] at hs
 | some d=>
   have hagg:=q0p (w:=w) hu
   by_cases hd:j8f d=true
   ·obtain⟨n,hn,rfl⟩:∃ n,sizeP P t=some n∧sz=some n:=by
     unfold z8h at hs
     rw[hu] at hs
     cases d <;> simp[j8f] at hd <;> (simp at hs;obtain⟨n,h1,h2⟩:=hs;exact⟨n,h1,h2.symm⟩)
    simp only[z1x] at hr
    split at hr
    ·rename_i hle
     simp only[Option.some.injEq] at hr
     subst hr
     refine⟨.agg (cs.extract off (off + n)),by simp[part,hagg,hd,z6g hn], ?_⟩
     refine ArrR.agg ⟨?_,fun j c hj=> ?_⟩
     ·have:=ha.1
      simp
      omega
     ·have hjn:j < n:=by
       have:=(List.getElem?_eq_some_iff.1 hj).1
       simp at this
       omega
      rw[List.getElem?_take_of_lt hjn,List.getElem?_drop] at hj
      obtain⟨u,hu,hv⟩:=ha.2 (off + j) c hj
      refine⟨u, ?_,hv⟩
      have h1:=ha.1
      have:j < min (off + n) cs.size - off:=by omega
      rw[Array.getElem?_extract]
      simp[this,hu]
    ·simp at hr
   ·have hz:sz=none:=by
     unfold z8h at hs
     rw[hu] at hs
     cases d <;> first | (simp[j8f] at hd;done) | (simp at hs;exact hs.symm)
    subst hz
    simp only[z1x] at hr
    obtain⟨u,h1,h2⟩:=ha.2 off v hr
    have hd':j8f d=false:=by simpa using hd
    exact⟨u,by simp[part,hagg,hd',h1],h2⟩
theorem x3k {t ft:TypeId} {f o:Nat} (hf:q6p P t f=some (o,ft)):∃ fs fd,P.underlying t=some (.struct fs)∧fs[f]? =some fd∧fd.offset=o∧fd.type=ft:=by
 unfold q6p at hf
 split at hf
 ·rename_i fs hu
  simp at hf
  obtain⟨fd,h1,h2,h3⟩:=hf
  exact⟨fs,fd,hu,h1,h2,h3⟩
 ·simp at hf
theorem k7v {t ft:TypeId} {f o:Nat} {sz:Option Nat} {cs:List AV} {a:Value} {v:AV} (hx:VR G I (.agg cs) a) (hf:q6p P t f=some (o,ft)) (hs:z8h P ft=some sz) (hr:z1x cs o sz=some v):
  ∃ cv,(Instr.field t a f).run P w= .ok cv w∧VR G I v cv:=by
 obtain⟨fs,fd,hu,h1,rfl,rfl⟩:=x3k hf
 obtain⟨vs,rfl,ha⟩:=ArrR.of_agg hx
 obtain⟨cv,h2,h3⟩:=k1g (w:=w) ha hs hr
 exact⟨cv,by simp[Instr.field,run_underlying hu,h1,asAgg,h2],h3⟩
theorem x3l {t ft:TypeId} {f o:Nat} {b p:Nat} (hf:q6p P t f=some (o,ft)) {n:Nat} (hs:sizeP P ft=some (n + 1)):
  (Instr.fieldAt t (.pointer (some ⟨b,p,none⟩)) f).run P w= .ok (.pointer (some ⟨b,p + o,none⟩)) w:=by
 obtain⟨fs,fd,hu,h1,rfl,rfl⟩:=x3k hf
 have hz:=z6g hs
 simp[Instr.fieldAt,run_underlying hu,h1,Instr.sureAddr,fieldPlace,hz,Addr.add_lit]
theorem j8j {t e:TypeId} {sz:Nat} {k:IntKind} {i:Int} {xs:List AV} {tp:Tip} {x:AV} {a:Value} (hu:P.underlying t=some (.slice e)) (hs:sizeP P e=some sz) (hx:VR G I (.sl xs tp) a)
  (h0:0≤i) (he:xs[i.toNat]? =some x) (hl:x.cells.length=sz):∃ cv,(Instr.indexAt t a (.int k i)).run P w= .ok cv w∧VR G I (.iptr x.cells 0) cv:=by
 simp only[VR] at hx
 obtain⟨A,n,c,rfl,rfl,_,_,hrow⟩:=hx
 have hlt:=(List.getElem?_eq_some_iff.1 he).1
 rcases hrow with h | ⟨b,o,e',rfl,_,hrow⟩
 ·omega
 ·obtain⟨h1,h2⟩:=z6l.1 hrow _ _ he
  obtain rfl:e'=sz:=by omega
  have hc:0≤i∧i < (xs.length:Int):=⟨h0,by omega⟩
  refine⟨.pointer (some ⟨b,o + i.toNat * e',none⟩), ?_, ?_⟩
  ·simp[Instr.indexAt,asIntOf,run_underlying hu,hc,z6g hs,Addr.add_lit]
  ·simp only[VR]
   exact⟨b,o + i.toNat * e',rfl,h2⟩
theorem j8k {t e:TypeId} {sz:Nat} {k:IntKind} {i:Int} {s g off len:Nat} {es:List AV} {row grow:Bool} {fz:Nat} {x:AV} {a:Value} (rel:Rel G I h w) (hu:P.underlying t=some (.slice e)) (hs:sizeP P e=some sz) (hx:VR G I (.ob s g off len) a)
  (hb:z2g h s g=some (es,row,grow,fz)) (h0:0≤i) (he:es[off + i.toNat]? =some x) (hlt:i.toNat < len) (hl:x.cells.length=sz):
  ∃ cv,(Instr.indexAt t a (.int k i)).run P w= .ok cv w∧VR G I (.ptr s g (off + i.toNat) 0) cv:=by
 simp only[VR] at hx
 obtain⟨gi,A,c,hg,hsl,rfl,hlc,hoc,hA⟩:=hx
 obtain⟨gi',cs,ty,hg',_,_,_,_,_,_,_,hE,_⟩:=rel.obj s _ (z9t hb)
 obtain rfl:gi=gi':=by rw[hg] at hg';simpa using hg'
 have hz:=(hE _ _ he).1
 obtain rfl:gi.esz=sz:=by omega
 rcases hA with h | rfl
 ·omega
 ·have hc:0≤i∧i < (len:Int):=⟨h0,by omega⟩
  refine⟨.pointer (some ⟨gi.blk,off * gi.esz + i.toNat * gi.esz,none⟩), ?_, ?_⟩
  ·simp[Instr.indexAt,asIntOf,run_underlying hu,hc,z6g hs,Addr.add_lit]
  ·simp only[VR]
   exact⟨gi,hg,hsl,by rw[Nat.add_mul];rfl⟩
theorem q9r {t e:TypeId} {n sz:Nat} {k:IntKind} {i:Int} {b p:Nat} (hu:P.underlying t=some (.array n e)) (hs:sizeP P e=some sz) (h0:0≤i) (hlt:i.toNat < n):
  (Instr.indexAt t (.pointer (some ⟨b,p,none⟩)) (.int k i)).run P w= .ok (.pointer (some ⟨b,p + i.toNat * sz,none⟩)) w:=by
 have hc:0≤i∧i < (n:Int):=⟨h0,by omega⟩
 simp[Instr.indexAt,asIntOf,run_underlying hu,Instr.sureAddr,hc,z6g hs,Addr.add_lit]
theorem j1r {t e:TypeId} {n sz:Nat} {l:Option Nat} {k:IntKind} {i:Int} {cs:List AV} {a:Value} {v:AV} (hu:P.underlying t=some (.array n e)) (hs:sizeP P e=some sz) (hl:z8h P e=some l) (hx:VR G I (.agg cs) a)
  (h0:0≤i) (hlt:i.toNat < n) (hr:z1x cs (i.toNat * sz) l=some v):∃ cv,(Instr.index t a (.int k i)).run P w= .ok cv w∧VR G I v cv:=by
 obtain⟨vs,rfl,ha⟩:=ArrR.of_agg hx
 obtain⟨cv,h2,h3⟩:=k1g (w:=w) ha hl hr
 have hc:0≤i∧i < (n:Int):=⟨h0,by omega⟩
 exact⟨cv,by simp[Instr.index,asIntOf,run_underlying hu,hc,z6g hs,h2],h3⟩
theorem j1s {t:TypeId} {k:IntKind} {i:Int} {s:List Nat} {b:Nat} {a:Value} (hu:P.underlying t=some .string) (hx:VR G I (.str s) a) (h0:0≤i) (he:s[i.toNat]? =some b):
  ∃ cv,(Instr.index t a (.int k i)).run P w= .ok cv w∧VR G I (.int .u8 (Int.ofNat b)) cv:=by
 simp only[VR] at hx
 obtain⟨rfl,hs⟩:=hx
 have hb:=hs b (List.mem_of_getElem? he)
 have hg:(z8k s)[i.toNat]? =some (UInt8.ofNat b):=by
  have h1:i.toNat < (z8k s).size:=by
   rw[z4j]
   exact (List.getElem?_eq_some_iff.1 he).1
  rw[getElem?_pos (z8k s) i.toNat h1]
  congr 1
  show (z8k s).data[i.toNat]=_
  have:=(List.getElem?_eq_some_iff.1 he).2
  simp[z8k,this]
 refine⟨.int .u8 (Int.ofNat b), ?_,by simp only[VR]⟩
 simp[Instr.index,asIntOf,run_underlying hu,h0,hg,q1k hb]
theorem j8l {cs:List AV} {i:Nat} {a:Value} {v:AV} (hx:VR G I (.tup cs) a) (he:cs[i]? =some v):∃ cv,(Instr.extract a i).run P w= .ok cv w∧VR G I v cv:=by
 simp only[VR] at hx
 obtain⟨vs,rfl,h1⟩:=hx
 obtain⟨h2,h3⟩:=q0e.1 h1
 have hl:i < vs.toList.length:=by
  rw[←h2]
  exact (List.getElem?_eq_some_iff.1 he).1
 have hl':i < vs.size:=by simpa using hl
 refine⟨vs[i],by simp[Instr.extract,hl'],h3 i v _ he ?_⟩
 rw[Array.getElem?_toList,Array.getElem?_eq_getElem hl']
theorem x8j {mx:Bool} {k j:IntKind} {a b:Int} {tys:Array TypeId} {ty:TypeId}:
  ((if mx then Builtin.max_ else Builtin.min_) tys ty #[.int k a, .int j b]).run P w= .ok (.int k (if mx then (if b > a then b else a) else (if b < a then b else a))) w:=by
 cases mx <;> simp[Builtin.max_,Builtin.max2,Builtin.min_,Builtin.min2]
theorem k7w {s g off len l r:Nat} {es:List AV} {row grow:Bool} {fz:Nat} {t e:TypeId} {sz:Nat} {a:Value} {lo hi:Option AV} {clo chi:Option Value} (rel:Rel G I h w) (hx:VR G I (.ob s g off len) a) (hu:P.underlying t=some (.slice e)) (hsz:sizeP P e=some sz)
  (hb:z2g h s g=some (es,row,grow,fz)) (hh:z4s sz es=true) (hlo:OR G I lo clo) (hhi:OR G I hi chi) (hl:z5b 0 lo=some l) (hr:z5b len hi=some r) (hlr:l≤r)
  (hfit:if grow=true then r≤len∧off + len≤es.length else off + r≤es.length):
  ∃ cv,(Instr.sliceAt t a clo chi none).run P w= .ok cv w∧VR G I (.ob s g (off + l) (r - l)) cv:=by
 simp only[VR] at hx
 obtain⟨gi,A,c,hg,hsl,rfl,hlc,hoc,hA⟩:=hx
 obtain⟨gi',cs,ty,hg',_,_,_,hpos,hcap,hgr,_,hE,_⟩:=rel.obj s _ (z9t hb)
 obtain rfl:gi=gi':=by rw[hg] at hg';simpa using hg'
 have hrc:r≤c:=by
  cases grow with
  | true=>simp at hfit;omega
  | false=>
    have:=hgr rfl
    simp at hfit
    omega
 have hbd:=q0f (P:=P) (w:=w) (isSlice:=true) (cap:=c) hlo hhi hl hr hlr hrc
 have hrun:(Instr.sliceAt t (.slice A len c) clo chi none).run P w= .ok (.slice (if c=l then A else A.map (·.add (l * sz))) (r - l) (c - l)) w:=by
  simp only[Instr.sliceAt,Sem.run_bind,run_underlying hu,Result.andThen]
  simp only[Instr.slice,Sem.run_bind,run_underlying hu,Result.andThen,hbd,z6g hsz,Sem.run_pure]
 refine⟨.slice (if c=l then A else A.map (·.add (l * sz))) (r - l) (c - l),hrun, ?_⟩
 simp only[VR]
 refine⟨gi,(if c=l then A else A.map (·.add (l * sz))),c - l,hg,hsl,rfl,by omega,by omega, ?_⟩
 by_cases hcl:c=l
 ·exact .inl (by omega)
 ·rw[if_neg hcl]
  rcases hA with h0 | rfl
  ·omega
  ·refine .inr ?_
   simp only[Option.map_some,Addr.add_lit]
   by_cases hl0:l=0
   ·subst hl0;simp
   ·cases es with
    | nil=>
      exfalso
      simp at hfit
      cases grow <;> simp at hfit <;> omega
    | cons x es=>
      have h1:=(hE 0 x rfl).1
      simp[z4s] at hh
      rw[←hh,h1,Nat.add_mul]
theorem x8k {src dst e:TypeId} {s:List Nat} {a:Value} {r:Result Next} (hg:G gen=none) (rel:Rel G I h w) (hs:P.underlying src=some .string) (hd:P.underlying dst=some (.slice e)) (he:P.underlying e=some (.int .u8)) (hx:VR G I (.str s) a)
  (hr:r=((convert src dst a).bind fun v=>Sem.pure (.value v)).run P w):Step G I h w gen slot r (.sl (s.map fun (b:Nat)=> .int .u8 (Int.ofNat b)) .no) h:=by
 simp only[VR] at hx
 obtain⟨rfl,hb⟩:=hx
 have hrun:=run_bytes_of_string w src dst e (z8k s) hs hd he
 generalize hcap:grownCap w (z8k s).size 0 e=cap at hrun
 have hge:s.length≤cap:=by
  have:=grownCap_ge w (z8k s).size 0 e
  rw[z4j] at this hcap
  omega
 generalize hrow:bytesRow (z8k s) cap=row at hrun
 have hget:∀ (j b:Nat),s[j]? =some b→row[j]? =some (Value.int .u8 (Int.ofNat b)):=by
  intro j b hj
  have hlt:=(List.getElem?_eq_some_iff.1 hj).1
  have hv:=(List.getElem?_eq_some_iff.1 hj).2
  subst hrow
  unfold bytesRow
  have hsz:j < (Array.map (fun b:UInt8=>Value.int .u8 b.toNat) (z8k s).data).size:=by simpa [z8k] using hlt
  rw[Array.getElem?_append_left hsz]
  have:b < 256:=hb b (List.mem_of_getElem? hj)
  simp[z8k,hlt,hv]
  omega
 have hall:∀ j,j < row.size→∃ v,row[j]? =some v:=fun j hj=>⟨row[j],Array.getElem?_eq_getElem hj⟩
 let I':Imm:=fun b o=>if b=w.heap.size then row[o]? else I b o
 have hI:ILe I I':=fun b o v hv=>by
  have hlt:=World.block_lt_of_cell? w _ (rel.imm b o v hv)
  simp at hlt
  show (if b=w.heap.size then row[o]? else I b o)=some v
  rw[if_neg (by omega)]
  exact hv
 let w':=w.drew.alloc (.cells row e (row.size,row.size + 1))
 have hold:∀ (b:Nat) (x:Obj),w.heap[b]? =some x→w'.heap[b]? =some x:=fun b x hb=>z3b w.drew _ hb
 have hr0:=rel.world hold
 have hrel:Rel G I' h w':=by
  refine⟨fun b o v hv=> ?_,fun i o ho=> ?_,hr0.inj⟩
  ·have:(if b=w.heap.size then row[o]? else I b o)=some v:=hv
   split at this
   ·rename_i e;subst e
    have:=z7s w.drew (.cells row e (row.size,row.size + 1))
    simp only[World.cell?]
    show (match w'.heap[w.heap.size]? with | some (.cells cs _ _)=>cs[o]? | _=>none)=some v
    rw[show w'.heap[w.heap.size]? =some (.cells row e (row.size,row.size + 1)) from this]
    assumption
   ·exact hr0.imm b o v this
  ·have hob:=hr0.obj i o ho
   have hnb:∀ b,own G o=some b→b≠w.heap.size:=fun b hb=>by
    have:=q0n (rel.obj i o ho) hb
    omega
   have hother:∀ b o v,b≠w.heap.size→I' b o=some v→I b o=some v:=fun b o v hb hv=>by
    have:(if b=w.heap.size then row[o]? else I b o)=some v:=hv
    rwa [if_neg hb] at this
   cases o with
   | dead=>trivial
   | blk g' es' row' grow' fz'=>
     obtain⟨i',cs',t',h1,h2,h3,h4,h5,h6,h7,h8,h9,h10⟩:=hob
     have:=hnb i'.blk (by simp[own,h1])
     exact⟨i',cs',t',h1,h2,h3,h4,h5,h6,h7,h8,h9.mono (GLe.refl _) hI,fun o v hv=>h10 o v (hother _ _ _ this hv)⟩
   | tip g' e=>
     obtain⟨i',h1,h2,h3,h4⟩:=hob
     refine⟨i',h1,h2,h3,fun hr=> ?_⟩
     obtain⟨cs',t',h5,h6,h7⟩:=h4 hr
     have:=hnb i'.blk (by simp[own,h1,hr])
     exact⟨cs',t',h5,h6,fun o v hv=>h7 o v (hother _ _ _ this hv)⟩
   | map g' es'=>
     obtain⟨i',ents,clk,h1,h2,h3,h4⟩:=hob
     exact⟨i',ents,clk,h1,h2,h3,h4.mono (GLe.refl _) hI⟩
 refine Step.quiet hg hrel hI (cv:= .slice (some ⟨w.heap.size,0,none⟩) (z8k s).size cap) ?_ ?_ (((Fr.refl G h w).drew).alloc _) (fun b hb _ o v hv=>by
  have:(if b=w.heap.size then row[o]? else I b o)=some v:=hv
  rwa [if_neg (by omega)] at this)
 ·rw[hr]
  show Sem.run P ((convert src dst (.string (z8k s))).bind _) w=_
  have hbind:∀ (x:Sem Value) (f:Value→Sem Next),(x.bind f).run P w=(x.run P w).andThen fun v w'=>(f v).run P w':=fun x f=>Sem.run_bind (P:=P) w x f
  rw[hbind,hrun]
  rfl
 ·simp only[VR]
  refine⟨_,_,_,rfl,by simp[z4j],by rw[z4j];exact hge,trivial, ?_⟩
  by_cases hn:s.length=0
  ·exact .inl (by rw[z4j];exact hn)
  ·refine .inr ⟨w.heap.size,0,1,rfl,by omega,z6l.2 fun k x hx=> ?_⟩
   simp only[List.getElem?_map,Option.map_eq_some_iff] at hx
   obtain⟨b,hb1,rfl⟩:=hx
   refine⟨rfl,z7n.2 fun i c hc=> ?_⟩
   cases i with
   | zero=>
     simp[AV.cells] at hc
     subst hc
     refine⟨.int .u8 (Int.ofNat b), ?_,by simp only[VR];rfl⟩
     show (if w.heap.size=w.heap.size then row[0 + k * 1 + 0]? else _)=_
     rw[if_pos rfl]
     simpa using hget k b hb1
   | succ i=>simp[AV.cells] at hc
end
section
variable {P:Program} {G:Ghost} {I:Imm} {h:List AObj} {w:World} {gen slot:Nat}
theorem ObjR.shift {G':Ghost} {I':Imm} {w':World} {s:Nat} {o:AObj} (hG:GLe G G') (hI:ILe I I') (hw:∀ b,own G o=some b→w'.heap[b]? =w.heap[b]?)
  (hI':∀ b,own G o=some b→∀ o v,I' b o=some v→I b o=some v) (ho:ObjR G I w s o):ObjR G' I' w' s o:=by
 cases o with
 | dead=>trivial
 | blk g es row grow fz=>
   obtain⟨i,cs,t,h1,h2,h3,h4,h5,h6,h7,h8,h9,h10⟩:=ho
   have hb:own G (.blk g es row grow fz)=some i.blk:=by simp[own,h1]
   exact⟨i,cs,t,hG _ _ h1,h2,by rw[hw _ hb];exact h3,h4,h5,h6,h7,h8,h9.mono hG hI,fun o v hv=>h10 o v (hI' _ hb _ _ hv)⟩
 | tip g e=>
   obtain⟨i,h1,h2,h3,h4⟩:=ho
   refine⟨i,hG _ _ h1,h2,h3,fun hr=> ?_⟩
   obtain⟨cs,t,h5,h6,h7⟩:=h4 hr
   have hb:own G (.tip g e)=some i.blk:=by simp[own,h1,hr]
   exact⟨cs,t,by rw[hw _ hb];exact h5,h6,fun o v hv=>h7 o v (hI' _ hb _ _ hv)⟩
 | map g es=>
   obtain⟨i,ents,clk,h1,h2,h3,h4⟩:=ho
   have hb:own G (.map g es)=some i.blk:=by simp[own,h1]
   exact⟨i,ents,clk,hG _ _ h1,h2,by rw[hw _ hb];exact h3,h4.mono hG hI⟩
theorem Rel.shift {G':Ghost} {I':Imm} {w':World} {B:Nat} (rel:Rel G I h w) (hG:GLe G G') (hI:ILe I I') (hno:∀ (j:Nat) o,h[j]? =some o→own G o≠some B)
  (hw:∀ (b:Nat) (x:Obj),b≠B→w.heap[b]? =some x→w'.heap[b]? =some x) (hI':∀ b o v,b≠B→I' b o=some v→I b o=some v)
  (hB:∀ o v,I' B o=some v→w'.cell? ⟨B,o,none⟩=some v):Rel G' I' h w':=by
 refine⟨fun b o v hv=> ?_,fun i o ho=> ?_,fun i j oi oj b hi hj h1 h2=> ?_⟩
 ·by_cases hb:b=B
  ·subst hb;exact hB o v hv
  ·exact z5h (rel.imm b o v (hI' b o v hb hv)) (fun x hx=>hw b x hb hx)
 ·have hob:=rel.obj i o ho
  refine hob.shift hG hI (fun b hb=> ?_) (fun b hb o v hv=>hI' b o v (fun e=>hno i _ ho (by rw[←e];exact hb)) hv)
  obtain⟨x,hx⟩:=q2l hob hb
  rw[hx,hw b x (fun e=>hno i _ ho (by rw[←e];exact hb)) hx]
 ·rw[q1i hG (rel.obj i oi hi)] at h1
  rw[q1i hG (rel.obj j oj hj)] at h2
  exact rel.inj i j oi oj b hi hj h1 h2
theorem Step.pre {I1:Imm} {h' h'':List AObj} {r:Result Next} {v:AV} (hs:Step G I1 h' w gen slot r v h'') (hI:ILe I I1) (hN:NoNew G h I I1)
  (hown:∀ (i:Nat) o b,h'[i]? =some o→own G o=some b→∃ (j:Nat) (x:AObj),h[j]? =some x∧own G x=some b):Step G I h w gen slot r v h'':=by
 obtain⟨nx,cv,w',G',I',h1,h2,h3,h4,h5,h6,h7,h8,h9,h10,h11⟩:=hs
 refine⟨nx,cv,w',G',I',h1,h2,h3,h4,h5,hI.trans h6,h7,h8,fun i o b hi hb=> ?_,⟨h10.os,h10.tape,h10.output,h10.size,fun b hb hn=>h10.kept b hb fun i o hi ho=> ?_⟩,fun b hb hn o v hv=>hN b hn o v (h11 b hb (fun i x hi hx=> ?_) o v hv)⟩
 ·rcases h9 i o b hi hb with ⟨j,x,hj,hx⟩ | hge
  ·exact .inl (hown j x b hj hx)
  ·exact .inr hge
 ·obtain⟨j,x,hj,hx⟩:=hown i o b hi ho
  exact hn j x hj hx
 ·obtain⟨j,y,hj,hy⟩:=hown i x b hi hx
  exact hn j y hj hy
theorem z9a {h1:List AObj} (f:Frozen h h1) (i:Nat) (o:AObj) (b:Nat) (hi:h1[i]? =some o) (hb:own G o=some b):∃ (j:Nat) (x:AObj),h[j]? =some x∧own G x=some b:=by
 obtain⟨o',h2,h3⟩:=q6r f hi hb
 exact⟨i,o',h2,h3⟩
theorem q4k {s i b:Nat} {o:AObj} (hi:(h.set s .dead)[i]? =some o) (hb:own G o=some b):i≠s∧h[i]? =some o:=by
 rcases getElem?_set_cases hi with ⟨_,rfl⟩ | ⟨h1,h2⟩
 ·simp[own] at hb
 ·exact⟨h1,h2⟩
theorem Step.make {r:Result Next} {v:AV} {cv:Value} {w':World} {I':Imm} {h1:List AObj} {o:AObj} {i:GInfo} (hg:G gen=none) (hsl:i.slot=slot) (rel1:Rel G I h1 w)
  (hown:∀ (i:Nat) o b,h1[i]? =some o→own G o=some b→∃ (j:Nat) (x:AObj),h[j]? =some x∧own G x=some b)
  (hB:w.heap.size≤i.blk∨∃ (j:Nat) (x:AObj),h[j]? =some x∧own G x=some i.blk) (hno:∀ (j:Nat) o,h1[j]? =some o→own G o≠some i.blk)
  (hI:ILe I I') (hw:∀ (b:Nat) (x:Obj),b≠i.blk→w.heap[b]? =some x→w'.heap[b]? =some x) (hI':∀ b o v,b≠i.blk→I' b o=some v→I b o=some v)
  (hBI:∀ o v,I' i.blk o=some v→w'.cell? ⟨i.blk,o,none⟩=some v)
  (ho:ObjR (G.put gen i) I' w' slot o) (hoB:∀ b,own (G.put gen i) o=some b→b=i.blk)
  (hos:w'.os=w.os) (htp:w'.tape=w.tape) (hout:w'.output=w.output) (hsz:w.heap.size≤w'.heap.size)
  (hr:r= .ok (.value cv) w') (hv:VR (G.put gen i) I' v cv):Step G I h w gen slot r v (h1.set slot o):=by
 have hG:=Ghost.put_le (G:=G) (g:=gen) i hg
 refine⟨_,cv,w',G.put gen i,I',hr, .inl rfl,hv, ?_,hG,hI,fun g hg'=>Ghost.put_other hg',fun j hj=> ?_,fun k x b hk hb=> ?_,⟨hos,htp,hout,hsz,fun b hb hn=> ?_⟩,fun b hb hn o v hv=>hI' b o v ?_ hv⟩
 ·refine (rel1.shift hG hI hno hw hI' hBI).set slot o ho fun j oj b _ hj h2 h3=> ?_
  rw[q1i hG (rel1.obj j oj hj)] at h2
  have:=hoB b h3
  subst this
  exact hno j oj hj h2
 ·simp at hj
  subst hj
  exact hsl
 ·rcases getElem?_set_cases hk with ⟨_,rfl⟩ | ⟨_,hk⟩
  ·have:=hoB b hb
   subst this
   rcases hB with hB | hB
   ·exact .inr hB
   ·exact .inl hB
  ·rw[q1i hG (rel1.obj k x hk)] at hb
   exact .inl (hown k x b hk hb)
 ·have hbB:b≠i.blk:=by
   rintro rfl
   rcases hB with hB | ⟨j,x,hj,hx⟩
   ·omega
   ·exact hn j x hj hx
  rw[hw b w.heap[b] hbB (Array.getElem?_eq_getElem hb),Array.getElem?_eq_getElem hb]
 ·rintro rfl
  rcases hB with hB | ⟨j,x,hj,hx⟩
  ·omega
  ·exact hn j x hj hx
theorem Step.row {r:Result Next} {v:AV} {cv:Value} {w':World} {I':Imm} (hg:G gen=none) (rel:Rel G I h w)
  (hI:ILe I I') (hw:∀ (b:Nat) (x:Obj),w.heap[b]? =some x→w'.heap[b]? =some x) (hI':∀ b o v,b≠w.heap.size→I' b o=some v→I b o=some v)
  (hBI:∀ o v,I' w.heap.size o=some v→w'.cell? ⟨w.heap.size,o,none⟩=some v)
  (hos:w'.os=w.os) (htp:w'.tape=w.tape) (hout:w'.output=w.output) (hsz:w.heap.size≤w'.heap.size)
  (hr:r= .ok (.value cv) w') (hv:VR G I' v cv):Step G I h w gen slot r v h:=by
 refine Step.quiet hg (rel.shift (GLe.refl _) hI (B:=w.heap.size) (fun j o hj ho=> ?_) (fun b x _ hx=>hw b x hx) hI' hBI) hI hr hv ⟨hos,htp,hout,hsz,fun b hb _=> ?_⟩ (fun b hb _ o v hv=>hI' b o v (by omega) hv)
 ·have:=q0n (rel.obj j o hj) ho
  omega
 ·rw[hw b w.heap[b] (Array.getElem?_eq_getElem hb),Array.getElem?_eq_getElem hb]
def z7a (I:Imm) (B n:Nat) (cs:Array Value):Imm:=fun b o=>if b=B∧o < n then cs[o]? else I b o
theorem q9s {B n:Nat} {cs:Array Value} (hB:∀ o v,I B o=some v→o < n→cs[o]? =some v):ILe I (z7a I B n cs):=fun b o v hv=>by
 unfold z7a
 split
 ·rename_i hc
  obtain⟨rfl,h2⟩:=hc
  exact hB o v hv h2
 ·exact hv
theorem q2m {B n:Nat} {cs:Array Value} (b o:Nat) (v:Value) (hb:b≠B) (hv:z7a I B n cs b o=some v):I b o=some v:=by
 unfold z7a at hv
 rw[if_neg (fun hc=>hb hc.1)] at hv
 exact hv
theorem q9t {B n:Nat} {cs:Array Value} (o:Nat) (ho:o < n):z7a I B n cs B o=cs[o]? :=by
 unfold z7a
 rw[if_pos ⟨rfl,ho⟩]
theorem z3t (rel:Rel G I h w) (o:Nat) (v:Value):I w.heap.size o≠some v:=fun hv=>by
 have:=World.block_lt_of_cell? w _ (rel.imm _ o v hv)
 simp at this
theorem x8l {t:TypeId} {r:Result Next} (hg:G gen=none) (rel:Rel G I h w) (hr:r=((Instr.makeMap t none).bind fun v=>Sem.pure (.value v)).run P w):
  Step G I h w gen slot r (.mp slot gen) (h.set slot (.map gen [])):=by
 have hx:r= .ok (.value (.map (some w.heap.size))) (w.alloc (.map #[] 0)):=by
  rw[hr]
  rfl
 refine Step.make (i:=⟨slot,w.heap.size,0,0,0,0,false⟩) (I':=I) hg rfl rel (fun i o b hi hb=>⟨i,o,hi,hb⟩) (.inl (Nat.le_refl _)) (fun j o hj ho=> ?_) (ILe.refl _)
  (fun b x _ hx=>z3b w _ hx) (fun _ _ _ _ hv=>hv) (fun o v hv=>absurd hv (z3t rel o v)) ?_ ?_ rfl rfl rfl (by rw[z6r];omega) hx ?_
 ·have:=q0n (rel.obj j o hj) ho
  simp at this
 ·exact⟨_, #[],0,Ghost.put_same,rfl,z7s w _,rfl⟩
 ·intro b hb
  simp[own] at hb
  exact hb.symm
 ·simp only[VR]
  exact⟨_,Ghost.put_same,rfl,rfl⟩
theorem x2t {t e:TypeId} {sz by_:Nat} {z:AV} {kl kc:IntKind} {l c:Int} {r:Result Next} (hg:G gen=none) (rel:Rel G I h w) (hu:P.underlying t=some (.slice e)) (hs:sizeP P e=some sz) (hz:zeroP P e=some z) (hb:bytesP P e=some by_)
  (h0:sz≠0) (hzl:z.cells.length=sz) (hd:z.def? =true) (hl:0≤l) (hlc:l≤c) (hroom:c * (by_ + 1)≤z1g) (hr:r=((Instr.makeSlice t (.int kl l) (.int kc c)).bind fun v=>Sem.pure (.value v)).run P w):
  Step G I h w gen slot r (.ob slot gen 0 l.toNat) (h.set slot (.blk gen (List.replicate c.toNat z) true false 0)):=by
 obtain⟨ti,zv,hi,hzv,hvz⟩:=z9u (G:=G) (I:=I) hz
 have hsz:ti.size=sz:=by simpa [sizeP,hi] using hs
 have hby:ti.bytes=by_:=by simpa [bytesP,hi] using hb
 have hza:=ArrR.of_val hd hvz
 have hc0:0≤c:=by omega
 have hrb:(z1g:Int)=70368744177664:=by decide
 rw[hrb] at hroom
 have hbc:(by_:Int) * c≤70368744177664∧c≤70368744177664:=by
  have h1:c * (by_ + 1)=(by_:Int) * c + c:=by rw[Int.mul_add,Int.mul_one,Int.mul_comm]
  rw[h1] at hroom
  have h2:0≤(by_:Int) * c:=Int.mul_nonneg (by omega) hc0
  omega
 have hrun:=run_make (P:=P) w t e ti zv hu hi hzv kl kc l c hl hlc (by rw[hby];omega) (by omega)
 have hx:r= .ok (.value (.slice (some ⟨w.heap.size,0,none⟩) l.toNat c.toNat)) (w.alloc (.cells (madeCells zv.cells (c.toNat * ti.size)) e)):=by
  rw[hr]
  have hbind:∀ (x:Sem Value) (f:Value→Sem Next),(x.bind f).run P w=(x.run P w).andThen fun v w'=>(f v).run P w':=fun x f=>Sem.run_bind (P:=P) w x f
  rw[hbind,hrun]
  rfl
 have hrow:=q9o (n:=c.toNat) hza
 have hzc:zv.cells.size=sz:=by rw[←hza.1];exact hzl
 have hmade:madeCells zv.cells (c.toNat * ti.size)=(Array.range (c.toNat * zv.cells.size)).map fun i=>zv.cells[i % zv.cells.size]! :=by
  rw[hsz,←hzc]
  rfl
 refine Step.make (i:=⟨slot,w.heap.size,sz,c.toNat,0,0,false⟩) (I':=I) hg rfl rel (fun i o b hi hb=>⟨i,o,hi,hb⟩) (.inl (Nat.le_refl _)) (fun j o hj ho=> ?_) (ILe.refl _)
  (fun b x _ hx=>z3b w _ hx) (fun _ _ _ _ hv=>hv) (fun o v hv=>absurd hv (z3t rel o v)) ?_ ?_ rfl rfl rfl (by rw[z6r];omega) hx ?_
 ·have:=q0n (rel.obj j o hj) ho
  simp at this
 ·refine⟨_,_,e,Ghost.put_same,rfl,z7s w _, ?_,by simp;omega,by simp,fun _=>by simp,⟨by omega,fun _=>rfl⟩, ?_,fun o v hv=>absurd hv (z3t rel o v)⟩
  ·rw[size_madeCells,hsz]
  ·rw[hmade]
   have:=hrow.2.mono (Ghost.put_le ⟨slot,w.heap.size,sz,c.toNat,0,0,false⟩ hg) (ILe.refl I)
   rw[hzc] at this⊢
   exact this
 ·intro b hb
  simp[own] at hb
  exact hb.symm
 ·simp only[VR]
  exact⟨_,_,_,Ghost.put_same,rfl,rfl,by omega,by simp, .inr (by simp)⟩
end
section
variable {P:Program} {G:Ghost} {I:Imm} {h:List AObj} {w:World} {gen slot:Nat}
theorem z4y {α β:Type} (x:Sem α) (f:α→Sem β):(x.bind f).run P w=(x.run P w).andThen fun v w'=>(f v).run P w':=Sem.run_bind (P:=P) w x f
theorem k1h {v:Value} {x:AV} (hc:j8e v=some x):x.def? =true:=by
 unfold j8e at hc
 split at hc <;> simp at hc <;> subst hc <;> rfl
theorem k7x {v:Value} {x:AV} (hc:v8h v=some x):x.def? =true:=by
 unfold v8h at hc
 split at hc
 ·simp at hc
  obtain⟨cs,_,rfl⟩:=hc
  rfl
 ·exact k1h hc
theorem q5e {t:TypeId} {z:AV} (hz:zeroP P t=some z):z.def? =true:=by
 unfold zeroP at hz
 cases hi:(P.info? t).bind (·.zero) with
 | none=>rw[hi] at hz;simp at hz
 | some v=>rw[hi] at hz;exact k7x hz
theorem x8m {ts:Tmps} {ρ:Operand→Value} (ht:TR G I ts ρ) {q0x:Nat→Option (Nat×Nat)}:∀ {os:List (Nat×Operand)} {ps:List (Nat×Nat×AOpd)},q7v os q0x=some ps→
  (ps.map fun p=>(p.1,p.2.1,p.2.2.ev ts)).length=(os.map fun (i,x)=>(i,ρ x)).length∧
  ∀ (k:Nat) p q,(ps.map fun p=>(p.1,p.2.1,p.2.2.ev ts))[k]? =some p→(os.map fun (i,x)=>(i,ρ x))[k]? =some q→q0x q.1=some (p.1,p.2.1)∧VR G I p.2.2 q.2
 | [],ps,hc=>by
   simp[q7v] at hc
   subst hc
   exact⟨rfl,fun k p q h1 h2=>by simp at h1⟩
 | (i,x)::os,ps,hc=>by
   simp only[q7v] at hc
   split at hc
   ·rename_i o s a b h1 h2 h3
    simp at hc
    subst hc
    obtain⟨ih1,ih2⟩:=x8m ht h3
    refine⟨by simpa using ih1,fun k p q hp hq=> ?_⟩
    cases k with
    | zero=>
      simp at hp hq
      subst hp hq
      exact⟨h1,z1j ht h2⟩
    | succ k=>
      simp only[List.map_cons,List.getElem?_cons_succ] at hp hq
      exact ih2 k p q hp hq
   ·simp at hc
theorem x8n {ts:Tmps} {ρ:Operand→Value} (ht:TR G I ts ρ):∀ {os:List (Nat×Operand)} {ps:List (Nat×AOpd)},x3d os=some ps→
  ps.map (·.1)=os.map (·.1)∧VRL G I (ps.map fun p=>p.2.ev ts) (os.map fun p=>ρ p.2)
 | [],ps,hc=>by
   simp[x3d] at hc
   subst hc
   exact⟨rfl,by simp[VRL]⟩
 | (i,x)::os,ps,hc=>by
   simp only[x3d] at hc
   split at hc
   ·rename_i a b h1 h2
    simp at hc
    subst hc
    obtain⟨ih1,ih2⟩:=x8n ht h2
    exact⟨by simp[ih1],by simp only[List.map_cons,VRL];exact⟨_,_,rfl,z1j ht h1,ih2⟩⟩
   ·simp at hc
theorem k7y {t:TypeId} {ts:Tmps} {ρ:Operand→Value} {z:AV} {parts:Array (Nat×Operand)} {ps:List (Nat×Nat×AOpd)} {cs:List AV} {q0x:Nat→Option (Nat×Nat)} (ht:TR G I ts ρ) (hz:zeroP P t=some z)
  (hp:(∃ fs places,P.underlying t=some (.struct fs)∧fs.toList.mapM (fun f=>(P.info? f.type).map fun i=>(f.offset,i.size))=some places∧q0x=fun i=>places[i]?)∨
   (∃ n e s,P.underlying t=some (.array n e)∧sizeP P e=some s∧q0x=fun i=>some (i * s,s)))
  (hc:q7v parts.toList q0x=some ps) (hf:z6e z.cells (ps.map fun p=>(p.1,p.2.1,p.2.2.ev ts))=some cs):
  ∃ cv,(Instr.build t (parts.map fun (i,x)=>(i,ρ x))).run P w= .ok cv w∧VR G I (.agg cs) cv:=by
 obtain⟨it,zv,hi,hzv,hvz⟩:=z9u (G:=G) (I:=I) hz
 obtain⟨h1,h2⟩:=x8m ht hc
 obtain⟨ccs,h3,h4⟩:=k0z _ _ _ _ _ (ArrR.of_val (q5e hz) hvz) h1 h2 hf
 refine⟨.agg ccs,run_build w t _ ccs ?_,h4.agg⟩
 rcases hp with ⟨fs,places,hu,hpl,rfl⟩ | ⟨n,e,s,hu,hs,rfl⟩
 ·unfold Program.built
  simp only[hi,hu,hzv,hpl,Array.toList_map]
  have he:(fun (i:Nat)=>places.toArray[i]?)=fun (i:Nat)=>places[i]? :=by funext i;simp
  rw[he]
  exact h3
 ·unfold sizeP at hs
  cases hie:P.info? e with
  | none=>simp[hie] at hs
  | some ie=>
    simp[hie] at hs
    unfold Program.built
    simp only[hi,hu,hzv,hie,hs,Array.toList_map]
    exact h3
theorem k7z {B sz:Nat} {es:List AV} {ccs:Array Value} (hI:ILe I (z7a I B (es.length * sz) ccs)) (hr:w6g G I es ccs sz):RowI G (z7a I B (es.length * sz) ccs) es B 0 sz:=by
 refine z6l.2 fun k x hx=> ?_
 obtain⟨h1,h2⟩:=hr.2 k x hx
 refine⟨h1,z7n.2 fun j c hj=> ?_⟩
 obtain⟨v,h3,h4⟩:=h2 j c hj
 have hk:=(List.getElem?_eq_some_iff.1 hx).1
 have hjl:=(List.getElem?_eq_some_iff.1 hj).1
 have:=z8z hk (show j < sz by omega)
 refine⟨v, ?_,VR.mono (GLe.refl _) hI h4⟩
 rw[q9t _ (by omega),Nat.zero_add]
 exact h3
theorem q9u {t e:TypeId} {n sz:Nat} {mu:Bool} {z:AV} {ts:Tmps} {ρ:Operand→Value} {parts:Array (Nat×Operand)} {ps:List (Nat×AOpd)} {vs es:List AV} {r:Result Next} (hg:G gen=none) (rel:Rel G I h w) (ht:TR G I ts ρ)
  (hu:P.underlying t=some (.slice e)) (hs:sizeP P e=some sz) (hz:zeroP P e=some z) (hps:x3d parts.toList=some ps) (h0:sz≠0) (hbig:n * sz≤2 ^ 24) (hzl:z.cells.length=sz)
  (hcv:q0j h (ps.map fun p=>p.2.ev ts)=some vs) (hsp:z5r z.cells.length (List.replicate n z) (ps.map (·.1)) vs=some es)
  (hr:r=((Instr.buildSlice t n (parts.map fun p=>(p.1,ρ p.2))).bind fun v=>Sem.pure (.value v)).run P w):
  Step G I h w gen slot r (if mu then .ob slot gen 0 n else .sl es .full)
   (if mu then (freezeAll h (z4r (ps.map fun p=>p.2.ev ts))).set slot (.blk gen es true false 0) else freezeAll h (z4r (ps.map fun p=>p.2.ev ts))):=by
 obtain⟨ti,zv,hi,hzv,hvz⟩:=z9u (G:=G) (I:=I) hz
 have hza:=ArrR.of_val (q5e hz) hvz
 obtain⟨he1,he2⟩:=x8n ht hps
 obtain⟨I1,hI1,rel1,hvs,hnn⟩:=q8w hcv he2 (Frozen.refl h) rel
 have hzc:zv.cells.size=sz:=by rw[←hza.1];exact hzl
 have hrow0:=q9o (n:=n) hza
 have hrow:w6g G I1 (List.replicate n z) ((Array.range (n * sz)).map fun i=>zv.cells[i % zv.cells.size]!) sz:=by
  have h1:sz=zv.cells.size:=hzc.symm
  rw[h1]
  exact⟨hrow0.1,hrow0.2.mono (GLe.refl _) hI1⟩
 obtain⟨hl,hvi⟩:=q0e.1 hvs
 obtain⟨ccs,hfill,hrr,hlen⟩:=x3j (sz:=sz) (ps.map (·.1)) vs (parts.toList.map fun p=>(p.1,ρ p.2)) _ es _ hrow (by rw[he1];simp) (by simpa using hl)
  (fun k i v q h1 h2 h3=>by
   rw[he1,List.getElem?_map,Option.map_eq_some_iff] at h1
   obtain⟨p,hp1,rfl⟩:=h1
   rw[List.getElem?_map,hp1] at h3
   simp at h3
   subst h3
   exact⟨rfl,hvi k v _ h2 (by rw[List.getElem?_map,hp1];rfl)⟩) (by rw[←hzl];exact hsp)
 have hes:es.length=n:=by simpa using hlen
 have hx:r= .ok (.value (.slice (some ⟨w.heap.size,0,none⟩) n n)) (w.alloc (.cells ccs e)):=by
  rw[hr,z4y]
  have hnb:¬ n * sz > 2 ^ 24:=by omega
  have hrun:(Instr.buildSlice t n (parts.map fun p=>(p.1,ρ p.2))).run P w= .ok (.slice (some ⟨w.heap.size,0,none⟩) n n) (w.alloc (.cells ccs e)):=by
   unfold Instr.buildSlice
   simp only[Sem.run_bind,run_underlying hu,Result.andThen,z6g hs,if_neg hnb]
   by_cases hn:n * sz=0
   ·rw[if_pos hn]
    have hne:(Array.range (n * sz)).map (fun i=>(#[]:Array Value)[i % (#[]:Array Value).size]!)=(Array.range (n * sz)).map fun i=>zv.cells[i % zv.cells.size]! :=by rw[hn];simp
    have hf':Instr.fill (fun i=>some (i * sz,sz)) ((Array.range (n * sz)).map fun i=>(#[]:Array Value)[i % (#[]:Array Value).size]!) (Array.map (fun x=>(x.fst,ρ x.snd)) parts).toList=some ccs:=by
     rw[hne,Array.toList_map]
     exact hfill
    simp only[Sem.run_bind,Sem.run_pure,Result.andThen]
    rw[hf']
    rfl
   ·rw[if_neg hn]
    have hzr:(zeroValue e).run P w= .ok zv w:=by simp[zeroValue,typeInfo,hi,hzv]
    have hf':Instr.fill (fun i=>some (i * sz,sz)) ((Array.range (n * sz)).map fun i=>zv.cells[i % zv.cells.size]!) (Array.map (fun x=>(x.fst,ρ x.snd)) parts).toList=some ccs:=by
     rw[Array.toList_map]
     exact hfill
    simp only[Sem.run_bind,hzr,Result.andThen,Sem.run_pure]
    rw[hf']
    rfl
  rw[hrun]
  rfl
 have hcs:ccs.size=n * sz:=by rw[hrr.1,hes]
 refine Step.pre (I1:=I1) (h':=freezeAll h (z4r (ps.map fun p=>p.2.ev ts))) ?_ hI1 hnn (z9a (z2e _ _))
 cases mu with
 | true=>
   simp only[if_true]
   refine Step.make (i:=⟨slot,w.heap.size,sz,n,0,0,false⟩) (I':=I1) hg rfl rel1 (fun i o b hi hb=>⟨i,o,hi,hb⟩) (.inl (Nat.le_refl _)) (fun j o hj ho=> ?_) (ILe.refl _)
    (fun b x _ hx=>z3b w _ hx) (fun _ _ _ _ hv=>hv) (fun o v hv=>absurd hv (z3t rel1 o v)) ?_ ?_ rfl rfl rfl (by rw[z6r];omega) hx ?_
   ·have:=q0n (rel1.obj j o hj) ho
    simp at this
   ·exact⟨_,_,e,Ghost.put_same,rfl,z7s w _,hcs,by simp;omega,by simp;omega,fun _=>by simp;omega,⟨by omega,fun _=>rfl⟩,hrr.2.mono (Ghost.put_le _ hg) (ILe.refl _),fun o v hv=>absurd hv (z3t rel1 o v)⟩
   ·intro b hb
    simp[own] at hb
    exact hb.symm
   ·simp only[VR]
    exact⟨_,_,_,Ghost.put_same,rfl,rfl,Nat.le_refl _,by simp, .inr (by simp)⟩
 | false=>
   simp only[Bool.false_eq_true,if_false]
   have hle:ILe I1 (z7a I1 w.heap.size (es.length * sz) ccs):=q9s fun o v hv=>absurd hv (z3t rel1 o v)
   refine Step.row (I':=z7a I1 w.heap.size (es.length * sz) ccs) hg rel1 hle (fun b x hx=>z3b w _ hx) q2m (fun o v hv=> ?_) rfl rfl rfl (by rw[z6r];omega) hx ?_
   ·simp only[World.cell?,z7s]
    unfold z7a at hv
    split at hv
    ·exact hv
    ·exact absurd hv (z3t rel1 o v)
   ·simp only[VR]
    refine⟨_,_,_,rfl,hes,Nat.le_refl _,by simp only[TipR];omega, ?_⟩
    by_cases hn:n=0
    ·exact .inl hn
    ·exact .inr ⟨w.heap.size,0,sz,rfl,by omega,k7z hle hrr⟩
def g0b (G:Ghost) (I:Imm) (w:World) (ys:List AV) (b o e:Nat):Prop:=
 ∀ (k:Nat) x,ys[k]? =some x→x.cells.length=e∧∀ (j:Nat) c,x.cells[j]? =some c→∃ u,w.cell? ⟨b,o + k * e + j,none⟩=some u∧VR G I c u
theorem k1i {y:AV} {ys:List AV} {cv:Value} (rel:Rel G I h w) (hy:z5s h y=some ys) (hv:VR G I y cv) (hns:∀ s,y≠ .str s):
  ∃ A c,cv= .slice A ys.length c∧ys.length≤c∧(ys.length=0∨∃ b o e,A=some ⟨b,o,none⟩∧0 < e∧g0b G I w ys b o e):=by
 cases y <;> simp only[z5s] at hy <;> try (simp at hy;done)
 ·rename_i s;exact absurd rfl (hns s)
 ·rename_i xs t
  simp at hy
  subst hy
  simp only[VR] at hv
  obtain⟨A,n,c,rfl,rfl,h1,_,h2⟩:=hv
  refine⟨A,c,rfl,h1, ?_⟩
  rcases h2 with h2 | ⟨b,o,e,rfl,hpos,hrow⟩
  ·exact .inl h2
  ·refine .inr ⟨b,o,e,rfl,hpos,fun k x hx=> ?_⟩
   obtain⟨h3,h4⟩:=z6l.1 hrow k x hx
   refine⟨h3,fun j c hj=> ?_⟩
   obtain⟨u,h5,h6⟩:=z7n.1 h4 j c hj
   exact⟨u,rel.imm _ _ _ h5,h6⟩
 ·rename_i s g off len
  obtain⟨es,grow,fz,hs,hle,rfl⟩:=j4t hy
  simp only[VR] at hv
  obtain⟨i,A,c,hi,_,rfl,h3,h4,h5⟩:=hv
  obtain⟨i',cs,ty,hi',_,hw,_,hpos,_,_,_,hE,_⟩:=rel.obj s _ hs
  obtain rfl:i=i':=by rw[hi] at hi';simpa using hi'
  have hlen:((es.drop off).take len).length=len:=by simp;omega
  rw[hlen]
  refine⟨A,c,rfl,h3, ?_⟩
  by_cases hl:len=0
  ·exact .inl hl
  ·rcases h5 with h5 | rfl
   ·omega
   ·refine .inr ⟨i.blk,off * i.esz,i.esz,rfl,hpos,fun k x hx=> ?_⟩
    have hk:k < len:=by
     rw[←hlen]
     exact (List.getElem?_eq_some_iff.1 hx).1
    rw[List.getElem?_take_of_lt hk,List.getElem?_drop] at hx
    obtain⟨h6,h7⟩:=hE (off + k) x hx
    refine⟨h6,fun j c hj=> ?_⟩
    obtain⟨u,h8,h9⟩:=h7 j c hj
    refine⟨u, ?_,h9⟩
    simp only[World.cell?,hw]
    rw[←Nat.add_mul]
    exact h8
theorem x3m:∀ {ys:List AV} {s:List Nat},z7m ys=some s→ys=s.map (fun (b:Nat)=>AV.int .u8 (Int.ofNat b))∧∀ b∈s,b < 256
 | [],s,hb=>by simp[z7m] at hb;subst hb;simp
 | y::ys,s,hb=>by
   unfold z7m at hb
   split at hb
   ·simp at *
   ·rename_i n vs heq
    obtain⟨rfl,rfl⟩:=List.cons.inj heq
    split at hb
    ·rename_i hn
     simp at hb
     obtain⟨s',h1,rfl⟩:=hb
     obtain⟨h2,h3⟩:=x3m h1
     refine⟨by simp only[List.map_cons,←h2];congr 2;simp;omega,fun b hb=> ?_⟩
     rcases List.mem_cons.1 hb with rfl | hb
     ·omega
     ·exact h3 b hb
    ·simp at hb
   ·simp at hb
theorem j8m {src dst e:TypeId} {x:AV} {ys:List AV} {s:List Nat} {a:Value} (rel:Rel G I h w) (hs:P.underlying src=some (.slice e)) (hd:P.underlying dst=some .string) (he:P.underlying e=some (.int .u8))
  (hx:VR G I x a) (hy:z5s h x=some ys) (hb:z7m ys=some s) (hns:∀ s,x≠ .str s):∃ cv,(convert src dst a).run P w= .ok cv w∧VR G I (.str s) cv:=by
 obtain⟨A,c,rfl,hlc,hrow⟩:=k1i rel hy hx hns
 obtain⟨rfl,hlt⟩:=x3m hb
 simp only[List.length_map] at *
 refine⟨.string (z8k s), ?_,by simp only[VR];exact⟨trivial,hlt⟩⟩
 rcases hrow with h0 | ⟨b,o,e',rfl,hpos,hrow⟩
 ·rw[List.length_eq_zero_iff] at h0
  subst h0
  rw[run_convert_bytes_string w src dst e A _ c hs he hd]
  cases A with
  | none=>rfl
  | some a=>rfl
 ·have:=run_convert_bytes_arg (P:=P) w src e hs he b o s.length c (s.map Int.ofNat) (by simp) (fun i hi=>by
   have hsi:(s.map fun (b:Nat)=>AV.int .u8 (Int.ofNat b))[i]? =some (.int .u8 (Int.ofNat s[i])):=by simp[hi]
   obtain⟨h1,h2⟩:=hrow i _ hsi
   obtain rfl:e'=1:=by simpa [AV.cells] using h1.symm
   obtain⟨u,h3,h4⟩:=h2 0 (.int .u8 (Int.ofNat s[i])) (by simp[AV.cells])
   simp only[VR] at h4
   subst h4
   simp only[Nat.mul_one,Nat.add_zero] at h3
   rw[h3]
   simp[hi]) dst hd
  rw[this]
  congr 2
  apply ByteArray.ext
  apply Array.ext'
  simp[strOfNums,z8k]
end
section
variable {P:Program} {G:Ghost} {I:Imm} {h:List AObj} {w:World} {gen slot:Nat}
theorem z3c {esz:Nat}:∀ {xs:List AV},z0v esz xs=true↔∀ x∈xs,x.def? =true∧x.cells.length=esz∧x.cells.all AV.one=true
 | []=>by simp[z0v]
 | x::xs=>by
   simp only[z0v,Bool.and_eq_true,beq_iff_eq,z3c (xs:=xs),List.mem_cons,forall_eq_or_imp]
   simp only[and_assoc]
def NewsR (G:Ghost) (I:Imm) (ys:List AV) (news:List Value) (sz:Nat):Prop:=
 news.length=ys.length * sz∧∀ (k:Nat) x,ys[k]? =some x→x.cells.length=sz∧∀ (j:Nat) c,x.cells[j]? =some c→∃ u,news[k * sz + j]? =some u∧VR G I c u
theorem v4u {a sz:Nat} (h:0 < sz):a=a / sz * sz + a % sz∧a % sz < sz:=⟨by rw[Nat.mul_comm];exact (Nat.div_add_mod a sz).symm,Nat.mod_lt _ h⟩
theorem NewsR.one {ys:List AV} {news:List Value} {sz:Nat} (hp:0 < sz) (hn:NewsR G I ys news sz) (ha:z0v sz ys=true) (u:Value) (hu:u∈news):u.oneCell'=true:=by
 obtain⟨q,hq⟩:=List.getElem?_of_mem hu
 have hlt:=(List.getElem?_eq_some_iff.1 hq).1
 rw[hn.1] at hlt
 obtain⟨h1,h2⟩:=v4u (a:=q) hp
 have hk:q / sz < ys.length:=by
  rcases Nat.lt_or_ge (q / sz) ys.length with h | h
  ·exact h
  ·have:ys.length * sz≤q / sz * sz:=Nat.mul_le_mul_right _ h
   omega
 obtain⟨h3,h4⟩:=hn.2 _ _ (List.getElem?_eq_getElem hk)
 obtain⟨h5,h6,h7⟩:=z3c.1 ha _ (List.getElem_mem hk)
 have hj:q % sz < (ys[q / sz]).cells.length:=by omega
 obtain⟨u',h8,h9⟩:=h4 _ _ (List.getElem?_eq_getElem hj)
 rw[←h1,hq] at h8
 simp at h8
 subst h8
 exact x3h (List.all_eq_true.1 h7 _ (List.getElem_mem hj)) h9
theorem k1j {y:AV} {ys:List AV} {cv:Value} {tx:TypeId} {sz:Nat} (rel:Rel G I h w) (hy:z5s h y=some ys) (hv:VR G I y cv) (ha:z0v sz ys=true) (hp:0 < sz)
  (hk:(∃ e',P.underlying tx=some (.slice e'))∨P.underlying tx=some .string):∃ news,Src P sz tx cv ys.length news w∧NewsR G I ys news sz:=by
 by_cases hs:∃ s,y= .str s
 ·obtain⟨s,rfl⟩:=hs
  simp[z5s] at hy
  subst hy
  simp only[VR] at hv
  obtain⟨rfl,hb⟩:=hv
  have hl:(byteCells (z8k s)).length=s.length:=by rw[byteCells_length,z4j]
  have hsz:s≠[]→sz=1:=fun hne=>by
   obtain⟨b,s',rfl⟩:=List.exists_cons_of_ne_nil hne
   have:=(z3c.1 ha (.int .u8 (Int.ofNat b)) (by simp)).2.1
   simpa [AV.cells] using this.symm
  have hnl:(byteCells (z8k s)).length=s.length * sz:=by
   rw[hl]
   by_cases hne:s=[]
   ·subst hne;simp
   ·rw[hsz hne,Nat.mul_one]
  have hN:NewsR G I (s.map fun (b:Nat)=>AV.int .u8 (Int.ofNat b)) (byteCells (z8k s)) sz:=by
   refine⟨by simpa using hnl,fun k x hx=> ?_⟩
   simp only[List.getElem?_map,Option.map_eq_some_iff] at hx
   obtain⟨b,hb1,rfl⟩:=hx
   have hne:s≠[]:=fun e=>by subst e;simp at hb1
   rw[hsz hne]
   refine⟨rfl,fun j c hj=> ?_⟩
   cases j with
   | succ j=>simp[AV.cells] at hj
   | zero=>
     simp[AV.cells] at hj
     subst hj
     refine⟨.int .u8 (Int.ofNat b), ?_,by simp only[VR];rfl⟩
     have hbl:=hb b (List.mem_of_getElem? hb1)
     simp only[Nat.mul_one,Nat.add_zero,byteCells,List.getElem?_map]
     have:(z8k s).data.toList[k]? =some (UInt8.ofNat b):=by simp[z8k,hb1]
     rw[this]
     simp[q1k hbl]
  refine⟨byteCells (z8k s),⟨hk,fun w'=> ?_, ?_, ?_,by simpa using hnl,fun u hu=> ?_⟩,hN⟩
  ·simp[Builtin.lenOf,z4j]
  ·have:=firstCells_string (P:=P) (z8k s) w
   simp only[Builtin.firstCells,List.length_map] at this⊢
   rw[z4j] at this
   exact this
  ·have:=firstCells_string (P:=P) (z8k s) w.drew
   simp only[Builtin.firstCells,List.length_map] at this⊢
   rw[z4j] at this
   exact this
  ·obtain⟨_,_,rfl⟩:=List.mem_map.1 hu
   rfl
 ·obtain⟨A,c,rfl,hlc,hrow⟩:=k1i rel hy hv fun s e=>hs ⟨s,e⟩
  by_cases h0:ys.length=0
  ·have he:ys=[]:=List.length_eq_zero_iff.1 h0
   subst he
   refine⟨[],⟨hk,fun _=>rfl, ?_, ?_,by simp,fun _ h=>by cases h⟩,by simp[NewsR]⟩ <;> cases A <;> simp[Builtin.firstCells,loadCells,loadCellsFrom]
  ·rcases hrow with hrow | ⟨b,o,e,rfl,hpos,hrow⟩
   ·exact absurd hrow h0
   ·obtain⟨y0,ys',rfl⟩:=List.exists_cons_of_ne_nil (fun e:ys=[]=>h0 (by rw[e];rfl))
    have he:=(hrow 0 y0 rfl).1
    have he':=(z3c.1 ha y0 (by simp)).2.1
    obtain rfl:e=sz:=by omega
    generalize hys:y0::ys'=ys at *
    let news:=(List.range (ys.length * e)).map fun j=>(w.cell? ⟨b,o + j,none⟩).getD undef
    have hnl:news.length=ys.length * e:=by simp[news]
    have hcell:∀ q,q < ys.length * e→∃ u,w.cell? ⟨b,o + q,none⟩=some u:=fun q hq=>by
     obtain⟨h1,h2⟩:=v4u (a:=q) hpos
     have hk:q / e < ys.length:=by
      rcases Nat.lt_or_ge (q / e) ys.length with h | h
      ·exact h
      ·have:ys.length * e≤q / e * e:=Nat.mul_le_mul_right _ h
       omega
     obtain⟨h3,h4⟩:=hrow _ _ (List.getElem?_eq_getElem hk)
     have hj:q % e < (ys[q / e]).cells.length:=by omega
     obtain⟨u,h5,_⟩:=h4 _ _ (List.getElem?_eq_getElem hj)
     rw[Nat.add_assoc,←h1] at h5
     exact⟨u,h5⟩
    have hnews:∀ (j:Nat) u,news[j]? =some u→w.cell? ((⟨b,o,none⟩:Addr).add j)=some u:=fun j u hu=>by
     have hj:j < ys.length * e:=by
      rw[←hnl]
      exact (List.getElem?_eq_some_iff.1 hu).1
     obtain⟨u',h1⟩:=hcell j hj
     simp[news,hj,h1] at hu
     subst hu
     rw[Addr.add_lit]
     exact h1
    have hN:NewsR G I ys news e:=by
     refine⟨hnl,fun k x hx=>⟨(hrow k x hx).1,fun j c hj=> ?_⟩⟩
     obtain⟨u,h1,h2⟩:=(hrow k x hx).2 j c hj
     have hk:=(List.getElem?_eq_some_iff.1 hx).1
     have hjl:=(List.getElem?_eq_some_iff.1 hj).1
     have hx1:=(hrow k x hx).1
     have:=z8z hk (show j < e by omega)
     refine⟨u, ?_,h2⟩
     rw[Nat.add_assoc] at h1
     simp[news,this,h1]
    have hone:=fun u hu=>hN.one hpos ha u hu
    exact⟨news,⟨hk,fun _=>rfl,run_firstCells_some w e ys.length ⟨b,o,none⟩ ys.length c news hnl hnews,run_firstCells_some w.drew e ys.length ⟨b,o,none⟩ ys.length c news hnl (by simpa using hnews),hnl,hone⟩,hN⟩
theorem q9v {t tx ty e:TypeId} {sz n c:Nat} {A:Option Addr} {x:Value} (ht:P.underlying t=some (.slice e)) (hs:sizeP P e=some sz) (hx:Src P sz tx x 0 [] w) (hnc:n≤c):
  (Builtin.append_ #[t,tx] ty #[.slice A n c,x]).run P w= .ok (.slice A n c) w:=by
 have hz:=z6g hs
 rcases hx.kind with ⟨e',hk⟩ | hk <;> cases A <;> simp[Builtin.append_,run_underlying ht,run_underlying hk,hz,hx.len,hnc,hx.cells,storeCells]
theorem q4l {t tx ty e ty':TypeId} {sz n c m b off:Nat} {x:Value} {news:List Value} {cs:Array Value} (ht:P.underlying t=some (.slice e)) (hs:sizeP P e=some sz) (hx:Src P sz tx x m news w) (hnc:n + m≤c)
  (hw:w.heap[b]? =some (.cells cs ty' (0,0))) (hfit:off + n * sz + news.length≤cs.size):
  (Builtin.append_ #[t,tx] ty #[.slice (some ⟨b,off,none⟩) n c,x]).run P w= .ok (.slice (some ⟨b,off,none⟩) (n + m) c)
   (w.setRow b (cs.toList.take (off + n * sz)++news++cs.toList.drop (off + n * sz + news.length)).toArray):=by
 have hz:=z6g hs
 have hst:=run_storeCells_at P b (off + n * sz) ty' news 0 cs w hw (by simpa using hfit) hx.one
 simp only[Nat.add_zero] at hst
 rcases hx.kind with ⟨e',hk⟩ | hk <;> simp[Builtin.append_,run_underlying ht,run_underlying hk,hz,hx.len,hnc,hx.cells,Addr.add_lit,hst]
theorem j1t {xs ys:List AV} {olds news:List Value} {sz:Nat} {zs:Array Value} (ho:NewsR G I xs olds sz) (hn:NewsR G I ys news sz):ElemsR G I (xs++ys) ((olds++news).toArray++zs) sz:=by
 intro k x hx
 have h1:x.cells.length=sz∧∀ (j:Nat) c,x.cells[j]? =some c→∃ u,(olds++news)[k * sz + j]? =some u∧VR G I c u:=by
  rw[List.getElem?_append] at hx
  split at hx
  ·rename_i hk
   obtain⟨h1,h2⟩:=ho.2 k x hx
   refine⟨h1,fun j c hj=> ?_⟩
   obtain⟨u,hu,hr⟩:=h2 j c hj
   refine⟨u, ?_,hr⟩
   rw[List.getElem?_append_left (List.getElem?_eq_some_iff.1 hu).1]
   exact hu
  ·rename_i hk
   obtain⟨h1,h2⟩:=hn.2 _ x hx
   refine⟨h1,fun j c hj=> ?_⟩
   obtain⟨u,hu,hr⟩:=h2 j c hj
   refine⟨u, ?_,hr⟩
   have:k * sz=xs.length * sz + (k - xs.length) * sz:=by rw[←Nat.add_mul];congr 1;omega
   rw[List.getElem?_append_right (by rw[ho.1];omega),ho.1]
   rw[show k * sz + j - xs.length * sz=(k - xs.length) * sz + j by omega]
   exact hu
 refine⟨h1.1,fun j c hj=> ?_⟩
 obtain⟨u,hu,hr⟩:=h1.2 j c hj
 refine⟨u, ?_,hr⟩
 have hlt:=(List.getElem?_eq_some_iff.1 hu).1
 rw[Array.getElem?_append_left (by simpa using hlt)]
 simpa using hu
theorem v8p {I':Imm} {B sz:Nat} {es:List AV} {ccs:Array Value} (hI:ILe I I') (hi:∀ o,o < es.length * sz→I' B o=ccs[o]?) (hr:ElemsR G I es ccs sz):RowI G I' es B 0 sz:=by
 refine z6l.2 fun k x hx=> ?_
 obtain⟨h1,h2⟩:=hr k x hx
 refine⟨h1,z7n.2 fun j c hj=> ?_⟩
 obtain⟨v,h3,h4⟩:=h2 j c hj
 have hk:=(List.getElem?_eq_some_iff.1 hx).1
 have hjl:=(List.getElem?_eq_some_iff.1 hj).1
 have:=z8z hk (show j < sz by omega)
 refine⟨v, ?_,VR.mono (GLe.refl _) hI h4⟩
 rw[Nat.zero_add,hi _ (by omega)]
 exact h3
theorem q9w {t tx ty e:TypeId} {sz by_ c:Nat} {z:AV} {A:Option Addr} {x:Value} {xs ys:List AV} {olds news:List Value} (ht:P.underlying t=some (.slice e)) (hs:sizeP P e=some sz) (hb:bytesP P e=some by_) (hz:zeroP P e=some z) (hzl:z.cells.length=sz)
  (hx:Src P sz t (.slice A xs.length c) xs.length olds w) (hy:Src P sz tx x ys.length news w) (ho:NewsR G I xs olds sz) (hn:NewsR G I ys news sz)
  (hg:c < xs.length + ys.length) (hroom:(xs.length + ys.length) * (by_ + 1)≤z1g):
  ∃ cap ccs,(Builtin.append_ #[t,tx] ty #[.slice A xs.length c,x]).run P w= .ok (.slice (some ⟨w.heap.size,0,none⟩) (xs.length + ys.length) cap) (w.drew.alloc (.cells ccs e))∧
    xs.length + ys.length≤cap∧ccs.size=cap * sz∧ElemsR G I (xs++ys) ccs sz:=by
 obtain⟨ti,zv,hi,hzv,hvz⟩:=z9u (G:=G) (I:=I) hz
 have hsz:ti.size=sz:=by simpa [sizeP,hi] using hs
 have hby:ti.bytes=by_:=by simpa [bytesP,hi] using hb
 have hzc:zv.cells.size=sz:=by rw[←(ArrR.of_val (q5e hz) hvz).1];exact hzl
 have hrb:z1g=70368744177664:=by decide
 rw[hrb,Nat.mul_add,Nat.mul_one] at hroom
 have hfit:Builtin.nextslicecap (xs.length + ys.length) c * ti.bytes≤281474976710656:=by
  refine growslice_fits hg ?_
  rw[hby]
  omega
 subst hsz
 have hrun:=run_append_grow_src (P:=P) w t tx ty e ti zv ht hi hzv A xs.length c olds hx.cellsD x ys.length news hy hg (by omega) hfit
 have hcap:=grownCap_ge w (xs.length + ys.length) c e
 generalize grownCap w (xs.length + ys.length) c e=cap at hrun hcap
 refine⟨cap,_,hrun,hcap, ?_,j1t ho hn⟩
 have h1:=ho.1
 have h2:=hn.1
 rw[Array.size_append,size_zeroCells,hzc]
 simp only[List.size_toArray,List.length_append,h1,h2]
 rw[←Nat.add_mul,←Nat.add_mul]
 congr 1
 omega
end
end Go.Proofs.YtkollgjffkdliaaGreatDoor.Am
