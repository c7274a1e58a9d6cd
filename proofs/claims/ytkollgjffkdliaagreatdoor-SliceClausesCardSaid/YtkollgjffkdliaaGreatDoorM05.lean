/- One operation of the abstract machine stands for one operation of the model: append, its cases One operation of the abstract machine stands for one operation of the model: append, joined One operation -/
import Derived.IntWalk
import Derived.MapKept
import Derived.Test.YtkollgjffkdliaaGreatDoorM04
set_option linter.all false
namespace Go.Proofs.YtkollgjffkdliaaGreatDoor.Am
open Go
set_option maxRecDepth 100000
section
variable {P:Program} {G:Ghost} {I:Imm} {h:List AObj} {w:World} {gen slot:Nat}
structure AppK (P:Program) (t tx e:TypeId) (sz by_:Nat) (z:AV):Prop where
 ht:P.underlying t=some (.slice e)
 hk:(∃ e',P.underlying tx=some (.slice e'))∨P.underlying tx=some .string
 hs:sizeP P e=some sz
 hb:bytesP P e=some by_
 hz:zeroP P e=some z
 hzl:z.cells.length=sz
 h0:0 < sz
theorem q0q {s:Nat} (i:Nat) (o:AObj) (b:Nat) (hi:(h.set s .dead)[i]? =some o) (hb:own G o=some b):∃ (j:Nat) (x:AObj),h[j]? =some x∧own G x=some b:=
 ⟨i,o,(q4k hi hb).2,hb⟩
theorem x8o {t tx ty e:TypeId} {sz by_ c:Nat} {z:AV} {A:Option Addr} {x:Value} {xs ys:List AV} {olds news:List Value} {h1:List AObj} {r:Result Next} (ap:AppK P t tx e sz by_ z) (hg:G gen=none) (rel1:Rel G I h1 w)
  (hown:∀ (i:Nat) o b,h1[i]? =some o→own G o=some b→∃ (j:Nat) (x:AObj),h[j]? =some x∧own G x=some b)
  (hx:Src P sz t (.slice A xs.length c) xs.length olds w) (hy:Src P sz tx x ys.length news w) (ho:NewsR G I xs olds sz) (hn:NewsR G I ys news sz) (hgr:c < xs.length + ys.length) (hroom:(xs.length + ys.length) * (by_ + 1)≤z1g)
  (hr:r=((Builtin.append_ #[t,tx] ty #[.slice A xs.length c,x]).bind fun v=>Sem.pure (.value v)).run P w):Step G I h w gen slot r (.sl (xs++ys) (.at slot gen)) (h1.set slot (.tip gen sz)):=by
 obtain⟨cap,ccs,hrun,hcap,hsz,hE⟩:=q9w (G:=G) (I:=I) (ty:=ty) ap.ht ap.hs ap.hb ap.hz ap.hzl hx hy ho hn hgr hroom
 have hlen:(xs++ys).length=xs.length + ys.length:=by simp
 have hx1:r= .ok (.value (.slice (some ⟨w.heap.size,0,none⟩) (xs.length + ys.length) cap)) (w.drew.alloc (.cells ccs e)):=by
  rw[hr,z4y,hrun]
  rfl
 have hle:ILe I (z7a I w.heap.size ((xs++ys).length * sz) ccs):=q9s fun o v hv=>absurd hv (z3t rel1 o v)
 have hcm:(xs.length + ys.length) * sz≤cap * sz:=Nat.mul_le_mul_right _ hcap
 refine Step.make (w':=w.drew.alloc (.cells ccs e)) (i:=⟨slot,w.heap.size,sz,0,(xs.length + ys.length) * sz,cap * sz,true⟩) (I':=z7a I w.heap.size ((xs++ys).length * sz) ccs) hg rfl rel1 hown (.inl (Nat.le_refl _)) (fun j o hj ho=> ?_) hle
  (fun b x _ hx=>z3b w.drew _ hx) q2m (fun o v hv=> ?_) ?_ ?_ rfl rfl rfl (by have:=z6r w.drew (.cells ccs e);simp at this⊢) hx1 ?_
 ·have:=q0n (rel1.obj j o hj) ho
  simp at this
 ·have ha:(w.drew.alloc (.cells ccs e)).heap[w.heap.size]? =some (.cells ccs e):=z7s w.drew (.cells ccs e)
  simp only[World.cell?,ha]
  unfold z7a at hv
  split at hv
  ·exact hv
  ·exact absurd hv (z3t rel1 o v)
 ·refine⟨_,Ghost.put_same,rfl,rfl,fun _=>⟨ccs,e,z7s w.drew _,by simp only;omega,fun o v hv=> ?_⟩⟩
  unfold z7a at hv
  split at hv
  ·rename_i hc
   have:=hc.2
   rw[hlen] at this
   exact this
  ·exact absurd hv (z3t rel1 o v)
 ·intro b hb
  simp[own] at hb
  exact hb.symm
 ·simp only[VR]
  refine⟨_,_,_,rfl,hlen,hcap,⟨_,Ghost.put_same,rfl,ap.h0,fun y hy=> ?_, .inr ⟨rfl,0,rfl,by simp only[hlen,Nat.zero_add],by simp⟩⟩, .inr ⟨w.heap.size,0,sz,rfl,ap.h0, ?_⟩⟩
  ·obtain⟨k,hk⟩:=List.getElem?_of_mem hy
   exact (hE k y hk).1
  ·exact RowI.mono (Ghost.put_le _ hg) (ILe.refl _) (v8p hle (fun o ho=>q9t o ho) hE)
theorem q4m {t tx ty e:TypeId} {sz by_ c fz:Nat} {z:AV} {A:Option Addr} {x:Value} {xs ys:List AV} {olds news:List Value} {h1:List AObj} {r:Result Next} (ap:AppK P t tx e sz by_ z) (hg:G gen=none) (rel1:Rel G I h1 w)
  (hown:∀ (i:Nat) o b,h1[i]? =some o→own G o=some b→∃ (j:Nat) (x:AObj),h[j]? =some x∧own G x=some b)
  (hx:Src P sz t (.slice A xs.length c) xs.length olds w) (hy:Src P sz tx x ys.length news w) (ho:NewsR G I xs olds sz) (hn:NewsR G I ys news sz) (hgr:c < xs.length + ys.length) (hroom:(xs.length + ys.length) * (by_ + 1)≤z1g)
  (hfz:fz≤xs.length) (hr:r=((Builtin.append_ #[t,tx] ty #[.slice A xs.length c,x]).bind fun v=>Sem.pure (.value v)).run P w):
  Step G I h w gen slot r (.ob slot gen 0 (xs.length + ys.length)) (h1.set slot (.blk gen (xs++ys) true true fz)):=by
 obtain⟨cap,ccs,hrun,hcap,hsz,hE⟩:=q9w (G:=G) (I:=I) (ty:=ty) ap.ht ap.hs ap.hb ap.hz ap.hzl hx hy ho hn hgr hroom
 have hlen:(xs++ys).length=xs.length + ys.length:=by simp
 have hx1:r= .ok (.value (.slice (some ⟨w.heap.size,0,none⟩) (xs.length + ys.length) cap)) (w.drew.alloc (.cells ccs e)):=by
  rw[hr,z4y,hrun]
  rfl
 refine Step.make (w':=w.drew.alloc (.cells ccs e)) (i:=⟨slot,w.heap.size,sz,cap,0,0,false⟩) (I':=I) hg rfl rel1 hown (.inl (Nat.le_refl _)) (fun j o hj ho=> ?_) (ILe.refl _)
  (fun b x _ hx=>z3b w.drew _ hx) (fun _ _ _ _ hv=>hv) (fun o v hv=>absurd hv (z3t rel1 o v)) ?_ ?_ rfl rfl rfl (by have:=z6r w.drew (.cells ccs e);simp at this⊢) hx1 ?_
 ·have:=q0n (rel1.obj j o hj) ho
  simp at this
 ·exact⟨_,_,e,Ghost.put_same,rfl,z7s w.drew _,hsz,ap.h0,by simp only[hlen];exact hcap,by simp,⟨by omega,by simp⟩,hE.mono (Ghost.put_le _ hg) (ILe.refl _),fun o v hv=>absurd hv (z3t rel1 o v)⟩
 ·intro b hb
  simp[own] at hb
  exact hb.symm
 ·simp only[VR]
  exact⟨_,_,_,Ghost.put_same,rfl,rfl,hcap,by simp, .inr (by simp)⟩
theorem q9x (t tx ty e:TypeId) (k:IntKind) (i:TypeInfo) (z:Value) (ht:P.underlying t=some (.slice e)) (hk:P.underlying tx=some (.int k)) (hi:P.info? e=some i) (hz:i.zero=some z) (j:IntKind) (n:Nat) (h0:0 < n) (hs0:0 < i.size)
  (h63:(n:Int)≤9223372036854775807) (hfit:n * i.bytes≤281474976710656):
  (Builtin.append_ #[t,tx] ty #[.slice none 0 0, .int j n]).run P w=
   .ok (.slice (some ⟨w.heap.size,0,none⟩) n (grownCap w n 0 e)) (w.drew.alloc (.cells (Builtin.zeroCells z.cells n++Builtin.zeroCells z.cells (grownCap w n 0 e - n)) e)):=by
 have hw:IntKind.i64.wrap (n:Int)=n:=IntWalk.i64_in _ (by omega)
 have hnn:¬ n=0:=by omega
 have hmul:n * i.size≠0:=by
  have:=Nat.mul_pos h0 hs0
  omega
 have h48:¬ ((281474976710656:Int) < (n:Int) * (i.bytes:Int)):=by
  have:((n * i.bytes:Nat):Int)≤281474976710656:=by omega
  rw[Int.natCast_mul] at this
  omega
 have hcap:Builtin.nextslicecap n 0=n:=by simp[Builtin.nextslicecap];omega
 have hneg:¬ ((n:Int) < 0):=by omega
 have h63':¬ (9223372036854775807 < (n:Int)):=by omega
 have h48':¬ (281474976710656 < n * i.bytes):=by omega
 simp[Builtin.append_,run_underlying ht,run_underlying hk,sizeOf,typeInfo,zeroValue,hi,hz,asInt,asIntOf,hw,hneg,h48,hnn,hmul,hcap,h63',h48',Question.forced,newRow,grownCap,Builtin.firstCells]
theorem j1u {t tx ty e:TypeId} {k:IntKind} {sz by_ n:Nat} {z:AV} {j:IntKind} {r:Result Next} (ht:P.underlying t=some (.slice e)) (hk:P.underlying tx=some (.int k)) (hs:sizeP P e=some sz) (hb:bytesP P e=some by_) (hz:zeroP P e=some z) (hzl:z.cells.length=sz) (hzd:z.def? =true) (h0:0 < sz)
  (hg:G gen=none) (rel1:Rel G I h w) (hn0:0 < n) (hroom:n * (by_ + 1)≤z1g) (hr:r=((Builtin.append_ #[t,tx] ty #[.slice none 0 0, .int j n]).bind fun v=>Sem.pure (.value v)).run P w):
  Step G I h w gen slot r (.ob slot gen 0 n) (h.set slot (.blk gen (List.replicate n z) true true 0)):=by
 obtain⟨ti,zv,hi,hzv,hvz⟩:=z9u (G:=G) (I:=I) hz
 have hsz:ti.size=sz:=by simpa [sizeP,hi] using hs
 have hby:ti.bytes=by_:=by simpa [bytesP,hi] using hb
 have hzc:zv.cells.size=sz:=by rw[←(ArrR.of_val (q5e hz) hvz).1];exact hzl
 have hrb:z1g=70368744177664:=by decide
 rw[hrb,Nat.mul_add,Nat.mul_one] at hroom
 subst hsz hby
 have hrun:=q9x (w:=w) t tx ty e k ti zv ht hk hi hzv j n hn0 h0 (by omega) (by omega)
 have hcap:=grownCap_ge w n 0 e
 generalize grownCap w n 0 e=cap at hrun hcap
 have hx1:r= .ok (.value (.slice (some ⟨w.heap.size,0,none⟩) n cap)) (w.drew.alloc (.cells (Builtin.zeroCells zv.cells n++Builtin.zeroCells zv.cells (cap - n)) e)):=by
  rw[hr,z4y,hrun]
  rfl
 have hE:ElemsR G I (List.replicate n z) (Builtin.zeroCells zv.cells n++Builtin.zeroCells zv.cells (cap - n)) ti.size:=by
  have hrow:=q9o (G:=G) (I:=I) (n:=n) (ArrR.of_val hzd hvz)
  rw[hzc] at hrow
  intro k x hx
  obtain⟨h1,h2⟩:=hrow.2 k x hx
  refine⟨h1,fun q c hq=> ?_⟩
  obtain⟨u,hu,hur⟩:=h2 q c hq
  refine⟨u, ?_,hur⟩
  have hlt:=(Array.getElem?_eq_some_iff.1 hu).1
  have he:Builtin.zeroCells zv.cells n=(Array.range (n * ti.size)).map fun i=>zv.cells[i % ti.size]! :=by
   rw[←hzc];rfl
  rw[Array.getElem?_append_left (by rw[he];exact hlt),he]
  exact hu
 refine Step.make (w':=w.drew.alloc (.cells (Builtin.zeroCells zv.cells n++Builtin.zeroCells zv.cells (cap - n)) e)) (i:=⟨slot,w.heap.size,ti.size,cap,0,0,false⟩) (I':=I) hg rfl rel1 (fun i o b hi hb=>⟨i,o,hi,hb⟩) (.inl (Nat.le_refl _)) (fun j o hj ho=> ?_) (ILe.refl _)
  (fun b x _ hx=>z3b w.drew _ hx) (fun _ _ _ _ hv=>hv) (fun o v hv=>absurd hv (z3t rel1 o v)) ?_ ?_ rfl rfl rfl (by have:=z6r w.drew (.cells (Builtin.zeroCells zv.cells n++Builtin.zeroCells zv.cells (cap - n)) e);simp at this⊢) hx1 ?_
 ·have:=q0n (rel1.obj j o hj) ho
  simp at this
 ·refine⟨_,_,e,Ghost.put_same,rfl,z7s w.drew _, ?_,h0,by simp only[List.length_replicate];exact hcap,by simp,⟨by omega,by simp⟩,hE.mono (Ghost.put_le _ hg) (ILe.refl _),fun o v hv=>absurd hv (z3t rel1 o v)⟩
  rw[Array.size_append,size_zeroCells,size_zeroCells,hzc,←Nat.add_mul]
  show (n + (cap - n)) * ti.size=cap * ti.size
  rw[Nat.add_sub_cancel' hcap]
 ·intro b hb
  simp[own] at hb
  exact hb.symm
 ·simp only[VR]
  exact⟨_,_,_,Ghost.put_same,rfl,rfl,hcap,by simp, .inr (by simp)⟩
theorem x8p {t tx ty e:TypeId} {sz by_ c:Nat} {z:AV} {A:Option Addr} {x:Value} {xs:List AV} {h1:List AObj} {r:Result Next} (ap:AppK P t tx e sz by_ z) (hg:G gen=none) (rel1:Rel G I h1 w)
  (hown:∀ (i:Nat) o b,h1[i]? =some o→own G o=some b→∃ (j:Nat) (x:AObj),h[j]? =some x∧own G x=some b)
  (hy:Src P sz tx x 0 [] w) (hc:c=xs.length) (hall:z0v sz xs=true) (hrow:xs.length=0∨∃ b o e,A=some ⟨b,o,none⟩∧0 < e∧RowI G I xs b o e)
  (hr:r=((Builtin.append_ #[t,tx] ty #[.slice A xs.length c,x]).bind fun v=>Sem.pure (.value v)).run P w):Step G I h w gen slot r (.sl xs (.at slot gen)) (h1.set slot (.tip gen sz)):=by
 have hx1:r= .ok (.value (.slice A xs.length c)) w:=by
  rw[hr,z4y,q9v ap.ht ap.hs hy (by omega)]
  rfl
 refine Step.make (i:=⟨slot,w.heap.size,sz,0,0,0,false⟩) (I':=I) hg rfl rel1 hown (.inl (Nat.le_refl _)) (fun j o hj ho=> ?_) (ILe.refl _)
  (fun b x _ hx=>hx) (fun _ _ _ _ hv=>hv) (fun o v hv=>absurd hv (z3t rel1 o v)) ?_ ?_ rfl rfl rfl (Nat.le_refl _) hx1 ?_
 ·have:=q0n (rel1.obj j o hj) ho
  simp at this
 ·exact⟨_,Ghost.put_same,rfl,rfl,fun h=>by simp at h⟩
 ·intro b hb
  simp[own] at hb
 ·simp only[VR]
  refine⟨A,xs.length,c,rfl,rfl,by omega,⟨_,Ghost.put_same,rfl,ap.h0,fun y hy=>(z3c.1 hall y hy).2.1, .inl hc⟩, ?_⟩
  rcases hrow with h0 | ⟨b,o,e,rfl,h2,h3⟩
  ·exact .inl h0
  ·exact .inr ⟨b,o,e,rfl,h2,RowI.mono (Ghost.put_le _ hg) (ILe.refl _) h3⟩
theorem x8q {t tx ty e:TypeId} {sz by_ c s g:Nat} {z:AV} {A:Option Addr} {x:Value} {xs ys:List AV} {news:List Value} {i0:GInfo} {r:Result Next} (ap:AppK P t tx e sz by_ z) (hg:G gen=none) (rel:Rel G I h w)
  (hs:h[s]? =some (.tip g sz)) (hi0:G g=some i0) (hroomy:i0.room=true) (hA:∃ o,A=some ⟨i0.blk,o,none⟩∧o + xs.length * i0.esz=i0.endp∧o + c * i0.esz=i0.capE)
  (hall:z0v sz xs=true) (hall2:z0v sz ys=true) (hrow:xs.length=0∨∃ b o e,A=some ⟨b,o,none⟩∧0 < e∧RowI G I xs b o e)
  (hy:Src P sz tx x ys.length news w) (hn:NewsR G I ys news sz) (hfit:xs.length + ys.length≤c)
  (hr:r=((Builtin.append_ #[t,tx] ty #[.slice A xs.length c,x]).bind fun v=>Sem.pure (.value v)).run P w):Step G I h w gen slot r (.sl (xs++ys) (.at slot gen)) ((h.set s .dead).set slot (.tip gen sz)):=by
 obtain⟨i0',hi0',hsl,hesz,hob⟩:=rel.obj s _ hs
 obtain rfl:i0=i0':=by rw[hi0] at hi0';simpa using hi0'
 obtain⟨cs,ty',hw,hcap,hI⟩:=hob hroomy
 obtain⟨o,rfl,hend,hcapE⟩:=hA
 rw[hesz] at hend hcapE
 have hcm:(xs.length + ys.length) * sz≤c * sz:=Nat.mul_le_mul_right _ hfit
 rw[Nat.add_mul] at hcm
 have hnl:=hn.1
 have hrun:=q4l (ty:=ty) ap.ht ap.hs hy hfit hw (off:=o) (by omega)
 have hx1:r= .ok (.value (.slice (some ⟨i0.blk,o,none⟩) (xs.length + ys.length) c)) (w.setRow i0.blk (cs.toList.take (o + xs.length * sz)++news++cs.toList.drop (o + xs.length * sz + news.length)).toArray):=by
  rw[hr,z4y,hrun]
  rfl
 have hget:=fun j=>z8s (cs:=cs) (vs:=news) (o:=o + xs.length * sz) (by omega) j
 generalize hcs':(cs.toList.take (o + xs.length * sz)++news++cs.toList.drop (o + xs.length * sz + news.length)).toArray=cs' at hx1 hget
 have hsz':cs'.size=cs.size:=by
  rw[←hcs']
  simp
  omega
 have hown:own G (.tip g sz)=some i0.blk:=by simp[own,hi0,hroomy]
 have hw':=setRow_heap w i0.blk cs cs' ty' (0,0) hw
 have hlen:(xs++ys).length=xs.length + ys.length:=by simp
 have hle:ILe I (z7a I i0.blk (i0.endp + ys.length * sz) cs'):=q9s fun q v hv hq=>by
  have:=hI q v hv
  rw[hget q,if_neg (by omega)]
  have h1:=rel.imm _ q v hv
  simpa [World.cell?,hw] using h1
 refine Step.make (w':=w.setRow i0.blk cs') (i:=⟨slot,i0.blk,sz,0,i0.endp + ys.length * sz,i0.capE,true⟩) (I':=z7a I i0.blk (i0.endp + ys.length * sz) cs') hg rfl (rel.kill s) q0q (.inr ⟨s,_,hs,hown⟩) (fun j o hj ho=> ?_) hle
  (fun b x hb hx=>by rw[setRow_other w _ _ _ hb];exact hx) q2m (fun q v hv=> ?_) ?_ ?_ rfl rfl rfl (by simp) hx1 ?_
 ·obtain⟨h1,h2⟩:=q4k hj ho
  exact h1 (rel.inj j s o _ _ h2 hs ho hown)
 ·rw[cell_setRow_same w _ q cs cs' ty' _ hw]
  unfold z7a at hv
  split at hv
  ·exact hv
  ·rename_i hc
   have:=hI q v hv
   simp at hc
   omega
 ·refine⟨_,Ghost.put_same,rfl,rfl,fun _=>⟨cs',ty',hw',by simp only;omega,fun q v hv=> ?_⟩⟩
  unfold z7a at hv
  split at hv
  ·rename_i hc;exact hc.2
  ·have:=hI q v hv
   simp only
   omega
 ·intro b hb
  simp[own] at hb
  exact hb.symm
 ·simp only[VR]
  refine⟨_,_,_,rfl,hlen,hfit,⟨_,Ghost.put_same,rfl,ap.h0,fun y hy=> ?_, .inr ⟨rfl,o,rfl, ?_, ?_⟩⟩, .inr ⟨i0.blk,o,sz,rfl,ap.h0,RowI.mono (Ghost.put_le _ hg) (ILe.refl _) ?_⟩⟩
  ·rcases List.mem_append.1 hy with hy | hy
   ·exact (z3c.1 hall y hy).2.1
   ·exact (z3c.1 hall2 y hy).2.1
  ·simp only[hlen,Nat.add_mul]
   omega
  ·simp only
   omega
  ·refine z6l.2 fun k y hk=> ?_
   rw[List.getElem?_append] at hk
   split at hk
   ·rename_i hkl
    rcases hrow with h0 | ⟨b,o',e',hA,hpos,hrow⟩
    ·omega
    ·simp at hA
     obtain⟨rfl,rfl⟩:=hA
     obtain⟨h1,h2⟩:=z6l.1 hrow k y hk
     have h3:=(z3c.1 hall y (List.mem_of_getElem? hk)).2.1
     obtain rfl:e'=sz:=by omega
     exact⟨h1,CellsI.mono (GLe.refl _) hle h2⟩
   ·rename_i hkl
    obtain⟨h1,h2⟩:=hn.2 _ y hk
    refine⟨h1,z7n.2 fun j c hj=> ?_⟩
    obtain⟨u,h3,h4⟩:=h2 j c hj
    have hlt:=(List.getElem?_eq_some_iff.1 h3).1
    have he:k * sz=xs.length * sz + (k - xs.length) * sz:=by rw[←Nat.add_mul];congr 1;omega
    refine⟨u, ?_,VR.mono (GLe.refl _) hle h4⟩
    rw[q9t _ (by omega),hget,if_pos ⟨by omega,by omega⟩]
    rw[show o + k * sz + j - (o + xs.length * sz)=(k - xs.length) * sz + j by omega]
    exact h3
theorem j1v {t tx ty e:TypeId} {sz by_ c s g len fz:Nat} {z:AV} {A:Option Addr} {x:Value} {es ys:List AV} {news:List Value} {i0:GInfo} {r:Result Next} (ap:AppK P t tx e sz by_ z) (hg:G gen=none) (rel:Rel G I h w)
  (hs:h[s]? =some (.blk g es true true fz)) (hi0:G g=some i0) (hc:c=i0.cap) (hA:c=0∨A=some ⟨i0.blk,0,none⟩) (hle:len≤es.length) (hfz:fz≤len) (hes:i0.esz=sz)
  (hy:Src P sz tx x ys.length news w) (hn:NewsR G I ys news sz) (hm:ys≠[]) (hfit:len + ys.length≤c)
  (hr:r=((Builtin.append_ #[t,tx] ty #[.slice A len c,x]).bind fun v=>Sem.pure (.value v)).run P w):Step G I h w gen slot r (.ob slot gen 0 (len + ys.length)) ((h.set s .dead).set slot (.blk gen (es.take len++ys) true true fz)):=by
 obtain⟨i0',cs,ty',hi0',hsl,hw,hsz,hpos,hcap,_,_,hE,hI⟩:=rel.obj s _ hs
 obtain rfl:i0=i0':=by rw[hi0] at hi0';simpa using hi0'
 have hm0:0 < ys.length:=List.length_pos_iff.2 hm
 obtain rfl:A=some ⟨i0.blk,0,none⟩:=hA.resolve_left (by omega)
 subst hes
 have hcm:(len + ys.length) * i0.esz≤i0.cap * i0.esz:=Nat.mul_le_mul_right _ (by omega)
 rw[Nat.add_mul] at hcm
 have hnl:=hn.1
 have hrun:=q4l (ty:=ty) ap.ht ap.hs hy hfit hw (off:=0) (by omega)
 simp only[Nat.zero_add] at hrun
 have hx1:r= .ok (.value (.slice (some ⟨i0.blk,0,none⟩) (len + ys.length) c)) (w.setRow i0.blk (cs.toList.take (len * i0.esz)++news++cs.toList.drop (len * i0.esz + news.length)).toArray):=by
  rw[hr,z4y,hrun]
  rfl
 have hget:=fun j=>z8s (cs:=cs) (vs:=news) (o:=len * i0.esz) (by omega) j
 generalize hcs':(cs.toList.take (len * i0.esz)++news++cs.toList.drop (len * i0.esz + news.length)).toArray=cs' at hx1 hget
 have hsz':cs'.size=cs.size:=by
  rw[←hcs']
  simp
  omega
 have hown:own G (.blk g es true true fz)=some i0.blk:=by simp[own,hi0]
 have hw':=setRow_heap w i0.blk cs cs' ty' (0,0) hw
 have hfm:fz * i0.esz≤len * i0.esz:=Nat.mul_le_mul_right _ hfz
 refine Step.make (w':=w.setRow i0.blk cs') (i:=⟨slot,i0.blk,i0.esz,i0.cap,0,0,false⟩) (I':=I) hg rfl (rel.kill s) q0q (.inr ⟨s,_,hs,hown⟩) (fun j o hj ho=> ?_) (ILe.refl _)
  (fun b x hb hx=>by rw[setRow_other w _ _ _ hb];exact hx) (fun _ _ _ _ hv=>hv) (fun q v hv=> ?_) ?_ ?_ rfl rfl rfl (by simp) hx1 ?_
 ·obtain⟨h1,h2⟩:=q4k hj ho
  exact h1 (rel.inj j s o _ _ h2 hs ho hown)
 ·have h1:=hI q v hv
  rw[cell_setRow_same w _ q cs cs' ty' _ hw,hget q,if_neg (by omega)]
  have h2:=rel.imm _ q v hv
  simpa [World.cell?,hw] using h2
 ·refine⟨_,cs',ty',Ghost.put_same,rfl,hw',by simp only;omega,hpos,by simp;omega,by simp,⟨by simp;omega,by simp⟩, ?_,fun q v hv=>hI q v hv⟩
  refine ElemsR.mono (e:=i0.esz) (Ghost.put_le _ hg) (ILe.refl _) (fun k y hk=> ?_)
  rw[List.getElem?_append] at hk
  have htl:(es.take len).length=len:=by simp;omega
  rw[htl] at hk
  split at hk
  ·rename_i hkl
   rw[List.getElem?_take_of_lt hkl] at hk
   obtain⟨h1,h2⟩:=hE k y hk
   refine⟨h1,fun j c hj=> ?_⟩
   obtain⟨u,h3,h4⟩:=h2 j c hj
   have hjl:=(List.getElem?_eq_some_iff.1 hj).1
   have:=z8z hkl (show j < i0.esz by omega)
   exact⟨u,by rw[hget,if_neg (by omega)];exact h3,h4⟩
  ·rename_i hkl
   obtain⟨h1,h2⟩:=hn.2 _ y hk
   refine⟨h1,fun j c hj=> ?_⟩
   obtain⟨u,h3,h4⟩:=h2 j c hj
   have hlt:=(List.getElem?_eq_some_iff.1 h3).1
   have he:k * i0.esz=len * i0.esz + (k - len) * i0.esz:=by rw[←Nat.add_mul];congr 1;omega
   refine⟨u, ?_,h4⟩
   rw[hget,if_pos ⟨by omega,by omega⟩]
   rw[show k * i0.esz + j - len * i0.esz=(k - len) * i0.esz + j by omega]
   exact h3
 ·intro b hb
  simp[own] at hb
  exact hb.symm
 ·simp only[VR]
  exact⟨_,_,_,Ghost.put_same,rfl,rfl,hfit,by simp only;omega, .inr (by simp)⟩
theorem x8r {t tx ty e:TypeId} {sz by_ c s g len fz:Nat} {z:AV} {A:Option Addr} {x:Value} {es ys:List AV} {news:List Value} {i0:GInfo} {r:Result Next} (ap:AppK P t tx e sz by_ z) (hg:G gen=none) (rel:Rel G I h w)
  (hs:h[s]? =some (.blk g es true false fz)) (hi0:G g=some i0) (hc:c=i0.cap) (hA:c=0∨A=some ⟨i0.blk,0,none⟩) (hfz:fz≤len) (hes:i0.esz=sz)
  (hy:Src P sz tx x ys.length news w) (hn:NewsR G I ys news sz) (hm:ys≠[]) (hfit:len + ys.length≤es.length)
  (hr:r=((Builtin.append_ #[t,tx] ty #[.slice A len c,x]).bind fun v=>Sem.pure (.value v)).run P w):
  Step G I h w gen slot r (.ob s g 0 (len + ys.length)) (h.set s (.blk g (es.take len++ys++es.drop (len + ys.length)) true false fz)):=by
 obtain⟨i0',cs,ty',hi0',hsl,hw,hsz,hpos,hcap,hgr,hfz2,hE,hI⟩:=rel.obj s _ hs
 obtain rfl:i0=i0':=by rw[hi0] at hi0';simpa using hi0'
 have hec:=hgr rfl
 have hm0:0 < ys.length:=List.length_pos_iff.2 hm
 obtain rfl:A=some ⟨i0.blk,0,none⟩:=hA.resolve_left (by omega)
 subst hes
 have hcm:(len + ys.length) * i0.esz≤i0.cap * i0.esz:=Nat.mul_le_mul_right _ (by omega)
 rw[Nat.add_mul] at hcm
 have hnl:=hn.1
 have hrun:=q4l (ty:=ty) ap.ht ap.hs hy (c:=c) (n:=len) (by omega) hw (off:=0) (by omega)
 simp only[Nat.zero_add] at hrun
 have hx1:r= .ok (.value (.slice (some ⟨i0.blk,0,none⟩) (len + ys.length) c)) (w.setRow i0.blk (cs.toList.take (len * i0.esz)++news++cs.toList.drop (len * i0.esz + news.length)).toArray):=by
  rw[hr,z4y,hrun]
  rfl
 have hget:=fun j=>z8s (cs:=cs) (vs:=news) (o:=len * i0.esz) (by omega) j
 generalize hcs':(cs.toList.take (len * i0.esz)++news++cs.toList.drop (len * i0.esz + news.length)).toArray=cs' at hx1 hget
 have hsz':cs'.size=cs.size:=by
  rw[←hcs']
  simp
  omega
 have hown:own G (.blk g es true false fz)=some i0.blk:=by simp[own,hi0]
 have hfm:fz * i0.esz≤len * i0.esz:=Nat.mul_le_mul_right _ hfz
 have hel:(es.take len++ys++es.drop (len + ys.length)).length=es.length:=by simp;omega
 refine⟨_,_,_,G,I,hx1, .inl rfl, ?_,rel.setRow hs hi0 hw hsz' (by omega) (fun _=>by omega) ⟨by omega,by simp⟩ ?_ (fun q v hv=>⟨hI q v hv, ?_⟩),GLe.refl _,ILe.refl _,fun _ _=>rfl,fun i hi=>by simp[hg] at hi, ?_,Fr.setRow hs hown,IFr.refl⟩
 ·simp only[VR]
  exact⟨i0,_,_,hi0,hsl,rfl,by omega,by omega, .inr (by simp)⟩
 ·intro k y hk
  have htl:(es.take len).length=len:=by simp;omega
  rw[List.append_assoc,List.getElem?_append,htl] at hk
  split at hk
  ·rename_i hkl
   rw[List.getElem?_take_of_lt hkl] at hk
   obtain⟨h1,h2⟩:=hE k y hk
   refine⟨h1,fun j c hj=> ?_⟩
   obtain⟨u,h3,h4⟩:=h2 j c hj
   have hjl:=(List.getElem?_eq_some_iff.1 hj).1
   have:=z8z hkl (show j < i0.esz by omega)
   exact⟨u,by rw[hget,if_neg (by omega)];exact h3,h4⟩
  ·rename_i hkl
   rw[List.getElem?_append] at hk
   have he:k * i0.esz=len * i0.esz + (k - len) * i0.esz:=by rw[←Nat.add_mul];congr 1;omega
   split at hk
   ·rename_i hkm
    obtain⟨h1,h2⟩:=hn.2 _ y hk
    refine⟨h1,fun j c hj=> ?_⟩
    obtain⟨u,h3,h4⟩:=h2 j c hj
    have hlt:=(List.getElem?_eq_some_iff.1 h3).1
    refine⟨u, ?_,h4⟩
    rw[hget,if_pos ⟨by omega,by omega⟩]
    rw[show k * i0.esz + j - len * i0.esz=(k - len) * i0.esz + j by omega]
    exact h3
   ·rename_i hkm
    rw[List.getElem?_drop] at hk
    rw[show len + ys.length + (k - len - ys.length)=k by omega] at hk
    obtain⟨h1,h2⟩:=hE k y hk
    refine⟨h1,fun j c hj=> ?_⟩
    obtain⟨u,h3,h4⟩:=h2 j c hj
    have:(len + ys.length) * i0.esz≤k * i0.esz:=Nat.mul_le_mul_right _ (by omega)
    rw[Nat.add_mul] at this
    exact⟨u,by rw[hget,if_neg (by omega)];exact h3,h4⟩
 ·have:=hI q v hv
  rw[hget,if_neg (by omega)]
 ·refine OwnLe.same fun j o hj=> ?_
  rcases getElem?_set_cases hj with ⟨rfl,rfl⟩ | ⟨_,hj⟩
  ·exact⟨j,_,hs,fun b hb=>by simpa [own] using hb⟩
  ·exact⟨j,o,hj,fun _ hb=>hb⟩
end
section
variable {P:Program} {G:Ghost} {I:Imm} {h:List AObj} {w:World} {gen slot:Nat}
theorem x5n {sz n:Nat} {es:List AV} (ha:z0v sz es=true):z0v sz (es.take n)=true:=
 z3c.2 fun x hx=>z3c.1 ha x (List.mem_of_mem_take hx)
theorem j1w {t tx ty e:TypeId} {sz by_:Nat} {z:AV} {mu:Bool} {x y v:AV} {cx cy:Value} {h':List AObj} {r:Result Next} (ap:AppK P t tx e sz by_ z) (hg:G gen=none) (rel:Rel G I h w)
  (hx:VR G I x cx) (hy:VR G I y cy) (ha:z1k h slot gen sz by_ mu x y=some (v,h'))
  (hr:r=((Builtin.append_ #[t,tx] ty #[cx,cy]).bind fun v=>Sem.pure (.value v)).run P w):Step G I h w gen slot r v h':=by
 unfold z1k at ha
 split at ha
 ·simp at ha
 ·rename_i ys hys
  split at ha
  ·simp at ha
  ·rename_i hall2
   have hall2:z0v sz ys=true:=by simpa using hall2
   obtain⟨news,hsy,hn⟩:=k1j rel hys hy hall2 ap.h0 ap.hk
   have htk:(∃ e',P.underlying t=some (.slice e'))∨P.underlying t=some .string:= .inl ⟨e,ap.ht⟩
   have self:∀ (i:Nat) o b,h[i]? =some o→own G o=some b→∃ (j:Nat) (x:AObj),h[j]? =some x∧own G x=some b:=fun i o b hi hb=>⟨i,o,hi,hb⟩
   split at ha
   ·rename_i xs tp
    split at ha
    ·simp at ha
    ·rename_i hcond
     simp only[Bool.or_eq_true,decide_eq_true_eq,Bool.not_eq_true',not_or,Nat.not_lt,Bool.not_eq_false] at hcond
     obtain⟨hroom,hall⟩:=hcond
     obtain⟨olds,hsx,ho⟩:=k1j rel (y:= .sl xs tp) (ys:=xs) rfl hx hall ap.h0 htk
     simp only[VR] at hx
     obtain⟨A,n,c,rfl,rfl,hnc,htip,hrow⟩:=hx
     have grow:∀ h1,Rel G I h1 w→(∀ (i:Nat) o b,h1[i]? =some o→own G o=some b→∃ (j:Nat) (x:AObj),h[j]? =some x∧own G x=some b)→c < xs.length + ys.length→
       Step G I h w gen slot r (.sl (xs++ys) (.at slot gen)) (h1.set slot (.tip gen sz)):=fun h1 rel1 hown hgr=>x8o ap hg rel1 hown hsx hsy ho hn hgr hroom hr
     have same:∀ h1,Rel G I h1 w→(∀ (i:Nat) o b,h1[i]? =some o→own G o=some b→∃ (j:Nat) (x:AObj),h[j]? =some x∧own G x=some b)→c=xs.length→ys=[]→
       Step G I h w gen slot r (.sl (xs++ys) (.at slot gen)) (h1.set slot (.tip gen sz)):=fun h1 rel1 hown hc he=>by
      subst he
      have hnn:news=[]:=List.length_eq_zero_iff.1 (by rw[hn.1];simp)
      subst hnn
      rw[List.append_nil]
      exact x8p ap hg rel1 hown hsy hc hall hrow hr
     have either:∀ h1,Rel G I h1 w→(∀ (i:Nat) o b,h1[i]? =some o→own G o=some b→∃ (j:Nat) (x:AObj),h[j]? =some x∧own G x=some b)→c=xs.length→
       Step G I h w gen slot r (.sl (xs++ys) (.at slot gen)) (h1.set slot (.tip gen sz)):=fun h1 rel1 hown hc=>by
      cases hye:ys with
      | nil=>rw[←hye];exact same h1 rel1 hown hc hye
      | cons b bs=>
        rw[←hye]
        refine grow h1 rel1 hown ?_
        have:0 < ys.length:=by rw[hye];simp
        omega
     split at ha
     ·rename_i hmu
      split at ha
      ·rename_i b bs
       simp at ha
       obtain⟨rfl,rfl⟩:=ha
       simp only[TipR] at htip
       have:=q4m (slot:=slot) (h:=h) (fz:=0) ap hg rel self hsx hsy ho hn (by simp;omega) hroom (Nat.zero_le _) hr
       simpa using this
      ·rename_i b bs
       simp at ha
       obtain⟨rfl,rfl⟩:=ha
       simp only[TipR] at htip
       have:=q4m (slot:=slot) (h:=h) (fz:=0) ap hg rel self hsx hsy ho hn (by simp;omega) hroom (Nat.zero_le _) hr
       simpa using this
      ·simp at ha
     ·rename_i hmu
      split at ha
      ·simp at ha
       obtain⟨rfl,rfl⟩:=ha
       simp only[TipR] at htip
       exact either h rel self htip
      ·simp at ha
       obtain⟨rfl,rfl⟩:=ha
       simp only[TipR] at htip
       exact either h rel self (by omega)
      ·rename_i s g
       split at ha
       ·rename_i g' e' hs
        split at ha
        ·rename_i hge
         obtain⟨rfl,rfl⟩:=hge
         simp at ha
         obtain⟨rfl,rfl⟩:=ha
         simp only[TipR] at htip
         obtain⟨i0,hi0,hsl,hpos,hcl,htip⟩:=htip
         obtain⟨i0',hi0',_,hesz,_⟩:=rel.obj s _ hs
         obtain rfl:i0=i0':=by rw[hi0] at hi0';simpa using hi0'
         rcases htip with hc | ⟨hroomy,hA⟩
         ·exact either _ (rel.kill s) q0q hc
         ·by_cases hfit:xs.length + ys.length≤c
          ·exact x8q ap hg rel hs hi0 hroomy hA hall hall2 hrow hsy hn hfit hr
          ·exact grow _ (rel.kill s) q0q (by omega)
        ·simp at ha
       ·simp at ha
      ·simp at ha
   ·rename_i s g off len
    split at ha
    ·rename_i es grow fz hb
     have hs:=z9t hb
     split at ha
     ·simp at ha
     ·rename_i hcond
      simp only[Bool.or_eq_true,decide_eq_true_eq,Bool.not_eq_true',not_or,Nat.not_lt,Bool.not_eq_false,beq_iff_eq] at hcond
      obtain⟨⟨hroom,hall⟩,rfl⟩:=hcond
      split at ha
      ·rename_i hye
       simp at ha
       obtain⟨rfl,rfl⟩:=ha
       have hye:ys=[]:=by simpa using hye
       subst hye
       have hnn:news=[]:=List.length_eq_zero_iff.1 (by rw[hn.1];simp)
       subst hnn
       have hx0:=hx
       simp only[VR] at hx
       obtain⟨i0,A,c,hi0,hsl,rfl,hlc,hoc,hA⟩:=hx
       refine Step.pure hg rel (cv:= .slice A len c) ?_ hx0
       rw[hr,z4y,q9v ap.ht ap.hs hsy hlc]
       rfl
      ·rename_i hye
       have hye:ys≠[]:=by simpa using hye
       have hm0:0 < ys.length:=List.length_pos_iff.2 hye
       obtain⟨i1,cs1,ty1,hi1,_,_,_,_,hcap1,hgr1,_,hE1,_⟩:=rel.obj s _ hs
       have olds:len≤es.length→∃ olds,Src P sz t cx len olds w∧NewsR G I (es.take len) olds sz:=fun hle=>by
        have hro:z5s h (.ob s g 0 len)=some (es.take len):=by simp[z5s,q8p,hb,hle]
        obtain⟨olds,h1,h2⟩:=k1j rel hro hx (x5n hall) ap.h0 htk
        have htl:(es.take len).length=len:=by simp;omega
        rw[htl] at h1
        exact⟨olds,h1,h2⟩
       simp only[VR] at hx
       obtain⟨i0,A,c,hi0,hsl,rfl,hlc,hoc,hA⟩:=hx
       obtain rfl:i0=i1:=by rw[hi0] at hi1;simpa using hi1
       rw[Nat.zero_mul] at hA
       have hesz:0 < es.length→i0.esz=sz:=fun hlt=>by
        have h1:=(hE1 0 es[0] (List.getElem?_eq_getElem hlt)).1
        have h2:=(z3c.1 hall es[0] (List.getElem_mem hlt)).2.1
        omega
       have grow':len≤es.length→∀ fz',fz'≤len→∀ h1,Rel G I h1 w→(∀ (i:Nat) o b,h1[i]? =some o→own G o=some b→∃ (j:Nat) (x:AObj),h[j]? =some x∧own G x=some b)→c < len + ys.length→
         Step G I h w gen slot r (.ob slot gen 0 (len + ys.length)) (h1.set slot (.blk gen (es.take len++ys) true true fz')):=fun hle fz' hfz h1 rel1 hown hgr=>by
        obtain⟨olds,h2,h3⟩:=olds hle
        have key:∀ xs:List AV,xs.length=len→NewsR G I xs olds sz→Step G I h w gen slot r (.ob slot gen 0 (len + ys.length)) (h1.set slot (.blk gen (xs++ys) true true fz')):=fun xs hxl h4=>by
         subst hxl
         exact q4m ap hg rel1 hown h2 hsy h4 hn hgr hroom hfz hr
        exact key _ (by simp;omega) h3
       split at ha
       ·rename_i hgrow
        subst hgrow
        split at ha
        ·rename_i hc
         simp at ha
         obtain⟨rfl,rfl⟩:=ha
         by_cases hfit:len + ys.length≤c
         ·exact j1v ap hg rel hs hi0 (by omega) hA hc.2.1 hc.1 (hesz hc.2.2) hsy hn hye hfit hr
         ·exact grow' hc.2.1 fz hc.1 _ (rel.kill s) q0q (by omega)
        ·simp at ha
       ·rename_i hgrow
        have hgrow:grow=false:=by simpa using hgrow
        subst hgrow
        have hec:=hgr1 rfl
        split at ha
        ·rename_i hfit
         split at ha
         ·rename_i hfz
          simp at ha
          obtain⟨rfl,rfl⟩:=ha
          have:=x8r (slot:=slot) ap hg rel hs hi0 (by omega) hA hfz (hesz (by omega)) hsy hn hye hfit hr
          simpa using this
         ·simp at ha
        ·rename_i hfit
         split at ha
         ·rename_i hle
          simp at ha
          obtain⟨rfl,rfl⟩:=ha
          exact grow' hle 0 (Nat.zero_le _) _ rel self (by omega)
         ·simp at ha
    ·simp at ha
   ·simp at ha
end
section
variable {P:Program} {G:Ghost} {I:Imm} {h:List AObj} {w:World} {gen slot:Nat}
theorem q4a {em:Bool} {m:Nat} {xs:Array Value} {asx:List AV} (ha:ArrR G I asx xs):∀ (fs:List Field) (n:Nat) (ts:List STy) (r:Bool),z3q P n fs=some ts→
  eqL ts (asx.drop n) (asx.drop n)=some r→(forIn fs PUnit.unit fun f _=>(if f.name≠ "_" then do
      let v←part f.type xs f.offset
      Instr.checkKey em (m + 1) f.type v
      pure (ForInStep.yield PUnit.unit)
   else pure (ForInStep.yield PUnit.unit):Sem (ForInStep PUnit))).run P w= .ok PUnit.unit w
 | [],n,ts,r,hr,he=>by simp
 | f::fs,n,ts,r,hr,he=>by
   simp only[z3q] at hr
   split at hr
   ·rename_i hf
    cases h1:sTy P f.type with
    | none=>simp[h1] at hr
    | some s=>
      cases h2:z3q P (n + 1) fs with
      | none=>simp[h1,h2] at hr
      | some ss=>
        simp[h1,h2] at hr
        subst hr
        cases hda:asx.drop n with
        | nil=>rw[hda] at he;simp[eqL] at he
        | cons x asx'=>
          rw[hda] at he
          simp only[eqL] at he
          have ga:asx[n]? =some x:=by
           have:=congrArg (fun l=>l[0]?) hda
           simpa [List.getElem?_drop] using this
          have da:asx.drop (n + 1)=asx':=by rw[show asx.drop (n + 1)=(asx.drop n).drop 1 by rw[List.drop_drop],hda];rfl
          cases e1:x.eq1 s x with
          | none=>simp[e1] at he
          | some q=>
            cases e2:eqL ss asx' asx' with
            | none=>simp[e1,e2] at he
            | some q'=>
              obtain⟨u,hu,ru⟩:=ha.2 n x ga
              have h3:=(x8i (w:=w) (d:=0) h1 ru ru e1).2.2.2 em m
              have p1:=q4j (w:=w) h1 hu
              have ih:=q4a (em:=em) (m:=m) ha fs (n + 1) ss q' h2 (by rw[da];exact e2)
              rw[List.forIn_cons]
              simp only[hf.1,hf.2,ne_eq,not_false_eq_true,if_true,Sem.run_bind,p1,h3,Result.andThen,Sem.run_pure]
              simpa using ih
   ·simp at hr
theorem q9y {t:TypeId} {e:ETy} {x:AV} {a:Value} {r em:Bool} {m:Nat} (hk:kTy P t=some e) (hx:VR G I x a) (he:x.eqv e x=some r):(Instr.checkKey em (m + 2) t a).run P w= .ok () w:=by
 rcases z7v hk with ⟨s,hs,rfl⟩ | ⟨_,fs,ts,hu,_,_,h3,rfl⟩
 ·simp only[AV.eqv] at he
  exact (x8i (w:=w) (d:=0) hs hx hx he).2.2.2 em (m + 1)
 ·cases x <;> simp only[AV.eqv] at he <;> try (simp at he;done)
  obtain⟨us,rfl,ha⟩:=ArrR.of_agg hx
  have:=q4a (P:=P) (em:=em) (m:=m) (w:=w) ha fs.toList 0 ts r h3 (by simpa using he)
  unfold Instr.checkKey
  simp only[Sem.run_bind,run_underlying hu,Result.andThen]
  rw[←Array.forIn_toList]
  rw[this]
  rfl
theorem x5o {xs:List (AV×AV)}:∀ {ms:List MapEntry},MapR G I xs ms→xs.length=ms.length∧∀ (j:Nat) x,xs[j]? =some x→∃ e,ms[j]? =some e∧VR G I x.1 e.key∧VR G I x.2 e.val:=by
 induction xs with
 | nil=>intro ms hm;cases hm;simp
 | cons x xs ih=>
   intro ms hm
   obtain⟨e,rest,rfl,h1,h2,h3⟩:=hm
   obtain⟨ih1,ih2⟩:=ih h3
   refine⟨by simp[ih1],fun j y hy=> ?_⟩
   cases j with
   | zero=>simp at hy;subst hy;exact⟨e,rfl,h1,h2⟩
   | succ j=>simp at hy;simpa using ih2 j y hy
theorem j1x {xs:List (AV×AV)}:∀ {ms:List MapEntry},xs.length=ms.length→(∀ (j:Nat) x e,xs[j]? =some x→ms[j]? =some e→VR G I x.1 e.key∧VR G I x.2 e.val)→MapR G I xs ms:=by
 induction xs with
 | nil=>intro ms hl _;cases ms <;> simp at hl;rfl
 | cons x xs ih=>
   intro ms hl hr
   cases ms with
   | nil=>simp at hl
   | cons e ms=>
     have h0:=hr 0 x e rfl rfl
     exact⟨e,ms,rfl,h0.1,h0.2,ih (by simpa using hl) fun j y u hy hu=>hr (j + 1) y u (by simpa using hy) (by simpa using hu)⟩
theorem q7w {e:ETy} {k:AV}:∀ {xs:List (AV×AV)},findKey e k xs=some none→∀ x∈xs,k.eqv e x.1=some false
 | [],_,x,hx=>by simp at hx
 | y::xs,hf,x,hx=>by
   simp only[findKey] at hf
   split at hf
   ·simp at hf
   ·rename_i heq
    rcases List.mem_cons.1 hx with rfl | hx
    ·exact heq
    ·exact q7w hf x hx
   ·simp at hf
theorem q7x {e:ETy} {k v:AV}:∀ {xs:List (AV×AV)},findKey e k xs=some (some v)→∃ (j:Nat) (kx:AV),xs[j]? =some (kx,v)∧k.eqv e kx=some true∧∀ (i:Nat) x,i < j→xs[i]? =some x→k.eqv e x.1=some false
 | [],hf=>by simp[findKey] at hf
 | y::xs,hf=>by
   simp only[findKey] at hf
   split at hf
   ·rename_i heq
    simp at hf
    subst hf
    exact⟨0,y.1,rfl,heq,fun i x hi=>by omega⟩
   ·rename_i heq
    obtain⟨j,kx,h1,h2,h3⟩:=q7x hf
    refine⟨j + 1,kx,by simpa using h1,h2,fun i x hi hx=> ?_⟩
    cases i with
    | zero=>simp at hx;subst hx;exact heq
    | succ i=>simp at hx;exact h3 i x (by omega) hx
   ·simp at hf
theorem q7y {e:ETy} {k v:AV}:∀ {xs ys:List (AV×AV)},z7t e k v xs=some ys→((∀ x∈xs,k.eqv e x.1=some false)∧ys=xs++[(k,v)])∨
  ∃ (j:Nat) (kx vx:AV),xs[j]? =some (kx,vx)∧k.eqv e kx=some true∧(∀ (i:Nat) x,i < j→xs[i]? =some x→k.eqv e x.1=some false)∧ys=xs.set j (k,v)
 | [],ys,hf=>by
   simp[z7t] at hf
   subst hf
   exact .inl ⟨by simp,rfl⟩
 | y::xs,ys,hf=>by
   simp only[z7t] at hf
   split at hf
   ·rename_i heq
    simp at hf
    subst hf
    exact .inr ⟨0,y.1,y.2,rfl,heq,fun i x hi=>by omega,rfl⟩
   ·rename_i heq
    simp at hf
    obtain⟨zs,h1,rfl⟩:=hf
    rcases q7y h1 with ⟨h2,rfl⟩ | ⟨j,kx,vx,h2,h3,h4,rfl⟩
    ·refine .inl ⟨fun x hx=> ?_,rfl⟩
     rcases List.mem_cons.1 hx with rfl | hx
     ·exact heq
     ·exact h2 x hx
    ·refine .inr ⟨j + 1,kx,vx,by simpa using h2,h3,fun i x hi hx=> ?_,rfl⟩
     cases i with
     | zero=>simp at hx;subst hx;exact heq
     | succ i=>simp at hx;exact h4 i x (by omega) hx
   ·simp at hf
theorem q4n {t:TypeId} {e:ETy} {x y:AV} {a b:Value} {r:Bool} {d:TypeDesc} (hk:kTy P t=some e) (hu:P.underlying t=some d) (hx:VR G I x a) (hy:VR G I y b) (he:x.eqv e y=some r):
  Instr.sameNow d a b=some r∨(∀ u v,Instr.sameNow d u v=none):=by
 rcases z7v hk with ⟨s,hs,rfl⟩ | ⟨_,fs,ts,hu',_,_,h3,rfl⟩
 ·simp only[AV.eqv] at he
  have:=(x8i (w:=default) (d:=0) hs hx hy he).2.2.1
  rw[hu] at this
  exact .inl this
 ·rw[hu] at hu'
  simp at hu'
  subst hu'
  exact .inr fun u v=>by simp[Instr.sameNow]
theorem q5f {t:TypeId} {e:ETy} {k:AV} {kv:Value} {xs:List (AV×AV)} {ms:List MapEntry} (hk:kTy P t=some e) (hx:VR G I k kv) (hm:MapR G I xs ms) (hf:∀ x∈xs,k.eqv e x.1=some false):
  (Instr.findKey t kv ms).run P w= .ok none w:=by
 obtain⟨d,hu⟩:∃ d,P.underlying t=some d:=by
  rcases z7v hk with ⟨s,hs,_⟩ | ⟨_,fs,ts,hu,_⟩
  ·unfold sTy at hs
   cases hu:P.underlying t with
   | none=>simp[hu] at hs
   | some d=>exact⟨d,rfl⟩
  ·exact⟨_,hu⟩
 have hask:∀ (xs:List (AV×AV)) (ms:List MapEntry) (i:Nat),MapR G I xs ms→(∀ x∈xs,k.eqv e x.1=some false)→(Instr.findAsking t kv ms i).run P w= .ok none w:=by
  intro xs
  induction xs with
  | nil=>intro ms i hm _;cases hm;rfl
  | cons x xs ih=>
    intro ms i hm hf
    obtain⟨en,rest,rfl,h1,h2,h3⟩:=hm
    have:=x5m (w:=w) (d:=9998) hk hx h1 (hf x (by simp))
    have ih:=ih rest (i + 1) h3 fun y hy=>hf y (by simp[hy])
    simp only[Instr.findAsking,Sem.run_bind,Op.equal,Op.maxDepth,this,Result.andThen,Bool.false_eq_true,if_false]
    exact ih
 have hnow:∀ (xs:List (AV×AV)) (ms:List MapEntry) (i:Nat),MapR G I xs ms→(∀ x∈xs,k.eqv e x.1=some false)→Instr.findNow d kv ms i=some none∨Instr.findNow d kv ms i=none:=by
  intro xs
  induction xs with
  | nil=>intro ms i hm _;cases hm;exact .inl rfl
  | cons x xs ih=>
    intro ms i hm hf
    obtain⟨en,rest,rfl,h1,h2,h3⟩:=hm
    simp only[Instr.findNow]
    rcases q4n hk hu hx h1 (hf x (by simp)) with h | h
    ·rw[h]
     exact ih rest (i + 1) h3 fun y hy=>hf y (by simp[hy])
    ·rw[h]
     exact .inr rfl
 unfold Instr.findKey
 simp only[Sem.run_bind,run_underlying hu,Result.andThen]
 rcases hnow xs ms 0 hm hf with h | h
 ·rw[h];rfl
 ·rw[h];exact hask xs ms 0 hm hf
theorem q5g {t:TypeId} {e:ETy} {k kx vx:AV} {kv:Value} {xs:List (AV×AV)} {ms:List MapEntry} {j:Nat} (hk:kTy P t=some e) (hx:VR G I k kv) (hm:MapR G I xs ms) (hj:xs[j]? =some (kx,vx)) (he:k.eqv e kx=some true)
  (hf:∀ (i:Nat) x,i < j→xs[i]? =some x→k.eqv e x.1=some false):∃ en,ms[j]? =some en∧VR G I kx en.key∧VR G I vx en.val∧(Instr.findKey t kv ms).run P w= .ok (some (j,en.val)) w:=by
 obtain⟨en,hen,hkr,hvr⟩:=(x5o hm).2 j _ hj
 refine⟨en,hen,hkr,hvr, ?_⟩
 obtain⟨d,hu⟩:∃ d,P.underlying t=some d:=by
  rcases z7v hk with ⟨s,hs,_⟩ | ⟨_,fs,ts,hu,_⟩
  ·unfold sTy at hs
   cases hu:P.underlying t with
   | none=>simp[hu] at hs
   | some d=>exact⟨d,rfl⟩
  ·exact⟨_,hu⟩
 have hask:∀ (xs:List (AV×AV)) (ms:List MapEntry) (i j:Nat),MapR G I xs ms→xs[j]? =some (kx,vx)→ms[j]? =some en→(∀ (i:Nat) x,i < j→xs[i]? =some x→k.eqv e x.1=some false)→
   (Instr.findAsking t kv ms i).run P w= .ok (some (i + j,en.val)) w:=by
  intro xs
  induction xs with
  | nil=>intro ms i j _ hj;simp at hj
  | cons x xs ih=>
    intro ms i j hm hj hen hf
    obtain⟨e1,rest,rfl,h1,h2,h3⟩:=hm
    cases j with
    | zero=>
      simp at hj hen
      subst hj hen
      have:=x5m (w:=w) (d:=9998) hk hx h1 he
      simp only[Instr.findAsking,Sem.run_bind,Op.equal,Op.maxDepth,this,Result.andThen,if_true]
      rfl
    | succ j=>
      have:=x5m (w:=w) (d:=9998) hk hx h1 (hf 0 x (by omega) rfl)
      have ih:=ih rest (i + 1) j h3 (by simpa using hj) (by simpa using hen) fun i' y hi hy=>hf (i' + 1) y (by omega) (by simpa using hy)
      simp only[Instr.findAsking,Sem.run_bind,Op.equal,Op.maxDepth,this,Result.andThen,Bool.false_eq_true,if_false]
      rw[show i + (j + 1)=i + 1 + j by omega]
      exact ih
 have hnow:∀ (xs:List (AV×AV)) (ms:List MapEntry) (i j:Nat),MapR G I xs ms→xs[j]? =some (kx,vx)→ms[j]? =some en→(∀ (i:Nat) x,i < j→xs[i]? =some x→k.eqv e x.1=some false)→
   Instr.findNow d kv ms i=some (some (i + j,en.val))∨Instr.findNow d kv ms i=none:=by
  intro xs
  induction xs with
  | nil=>intro ms i j _ hj;simp at hj
  | cons x xs ih=>
    intro ms i j hm hj hen hf
    obtain⟨e1,rest,rfl,h1,h2,h3⟩:=hm
    simp only[Instr.findNow]
    cases j with
    | zero=>
      simp at hj hen
      subst hj hen
      rcases q4n hk hu hx h1 he with h | h
      ·rw[h];exact .inl rfl
      ·rw[h];exact .inr rfl
    | succ j=>
      rcases q4n hk hu hx h1 (hf 0 x (by omega) rfl) with h | h
      ·rw[h]
       have:=ih rest (i + 1) j h3 (by simpa using hj) (by simpa using hen) fun i' y hi hy=>hf (i' + 1) y (by omega) (by simpa using hy)
       rw[show i + 1 + j=i + (j + 1) by omega] at this
       exact this
      ·rw[h];exact .inr rfl
 unfold Instr.findKey
 simp only[Sem.run_bind,run_underlying hu,Result.andThen]
 rcases hnow xs ms 0 j hm hj hen hf with h | h
 ·rw[h,Nat.zero_add];rfl
 ·rw[h]
  have:=hask xs ms 0 j hm hj hen hf
  rwa [Nat.zero_add] at this
theorem x8s {s:STy} {x y:AV} {a b:Value} {n:Nat} (hx:VR G I x a) (hy:VR G I y b) (he:x.eq1 s y=some true):Instr.sameBits n b a=true:=by
 cases s <;> cases x <;> cases y <;> simp only[AV.eq1] at he <;> (try (simp at he;done)) <;> simp only[VR] at hx hy
 ·split at he
  ·rename_i e;subst e
   simp at he
   subst he hx hy
   simp[Instr.sameBits]
  ·simp at he
 ·simp at he
  subst he hx hy
  simp[Instr.sameBits]
 ·simp at he
  subst he
  obtain⟨rfl,_⟩:=hx
  obtain⟨rfl,_⟩:=hy
  unfold Instr.sameBits
  rw[beq_toListBytes]
  exact beq_self_eq_true _
theorem x8t {t:TypeId} {e:ETy} {x y:AV} {a b:Value} {n:Nat} (hk:kTy P t=some e) (hx:VR G I x a) (hy:VR G I y b) (he:x.eqv e y=some true):Instr.sameBits (n + 1) b a=true:=by
 rcases z7v hk with ⟨s,hs,rfl⟩ | ⟨_,fs,ts,hu',_,_,h3,rfl⟩
 ·simp only[AV.eqv] at he
  exact x8s hx hy he
 ·cases x <;> cases y <;> simp only[AV.eqv] at he <;> try (simp at he;done)
  rename_i asx bs
  simp only[VR] at hx hy
  obtain⟨us,rfl,hx⟩:=hx
  obtain⟨vs,rfl,hy⟩:=hy
  have key:∀ (ts:List STy) (asx bs:List AV) (us vs:List Value),VRL G I asx us→VRL G I bs vs→eqL ts asx bs=some true→vs.length=us.length∧(vs.zip us).all (fun (x,y)=>Instr.sameBits n x y)=true:=by
   intro ts
   induction ts with
   | nil=>
     intro asx bs us vs h1 h2 h3
     cases asx <;> cases bs <;> simp[eqL] at h3
     simp only[VRL] at h1 h2
     subst h1 h2
     exact⟨rfl,rfl⟩
   | cons s ts ih=>
     intro asx bs us vs h1 h2 h3
     cases asx <;> cases bs <;> simp only[eqL] at h3 <;> try (simp at h3;done)
     rename_i a asx b bs
     split at h3
     ·rename_i q q' e1 e2
      simp at h3
      obtain⟨rfl,rfl⟩:=h3
      simp only[VRL] at h1 h2
      obtain⟨u,us',rfl,g1,g2⟩:=h1
      obtain⟨v,vs',rfl,g3,g4⟩:=h2
      obtain⟨i1,i2⟩:=ih asx bs us' vs' g2 g4 e2
      refine⟨by simp[i1], ?_⟩
      simp only[List.zip_cons_cons,List.all_cons,x8s g1 g3 e1,Bool.true_and]
      exact i2
     ·simp at h3
  obtain⟨k1,k2⟩:=key ts asx bs _ _ hx hy he
  unfold Instr.sameBits
  simp only[Array.length_toList] at k1
  simp[k1]
  simpa using k2
end
section
variable {P:Program} {G:Ghost} {I:Imm} {h:List AObj} {w:World} {gen slot:Nat}
theorem x3n {t k e:TypeId} {kt:ETy} {z ix:AV} {cx cix:Value} {ok:Bool} {es:List (AV×AV)} {ents:List MapEntry} {r:Option AV} (hu:P.underlying t=some (.map k e)) (hk:kTy P k=some kt) (hz:zeroP P e=some z)
  (hx:(cx= .map none∧ents=[])∨∃ b clk,cx= .map (some b)∧w.heap[b]? =some (.map ents.toArray clk)) (hm:MapR G I es ents) (hi:VR G I ix cix) (hself:(ix.eqv kt ix).isSome=true) (hf:findKey kt ix es=some r):
  ∃ cv,(Instr.lookup t cx cix ok).run P w= .ok cv w∧VR G I (q8q ok z r) cv:=by
 obtain⟨b,hself⟩:=Option.isSome_iff_exists.1 hself
 obtain⟨zi,zv,hzi,hzv,hzr⟩:=z9u (G:=G) (I:=I) hz
 have hzrun:(zeroValue e).run P w= .ok zv w:=by simp[zeroValue,typeInfo,hzi,hzv]
 have hck:∀ em,(Instr.checkKey em 10000 k cix).run P w= .ok () w:=fun em=>q9y (m:=9998) hk hi hself
 have tup:∀ (x:AV) (v:Value) (q:Bool),VR G I x v→VR G I (if ok=true then AV.tup [x, .bool q] else x) (if ok=true then .tuple #[v, .bool q] else v):=fun x v q hv=>by
  cases ok with
  | false=>exact hv
  | true=>
    simp only[if_true,VR]
    exact⟨_,rfl,by simp[VRL,hv,VR]⟩
 cases r with
 | none=>
   have hfind:=q5f (w:=w) hk hi hm (q7w hf)
   refine⟨if ok then .tuple #[zv, .bool false] else zv, ?_,tup z zv false hzr⟩
   rcases hx with ⟨rfl,rfl⟩ | ⟨b,clk,rfl,hb⟩
   ·unfold Instr.lookup
    simp only[Sem.run_bind,run_underlying hu,Result.andThen,Sem.run_pure,hck,hfind,hzrun]
   ·unfold Instr.lookup
    simp only[Sem.run_bind,run_underlying hu,Result.andThen,MapKept.run_getObj_map hb,Sem.run_pure,hck,hfind,hzrun]
 | some v=>
   obtain⟨j,kx,h1,h2,h3⟩:=q7x hf
   obtain⟨en,_,_,hv,hfind⟩:=q5g (w:=w) hk hi hm h1 h2 h3
   refine⟨if ok then .tuple #[en.val, .bool true] else en.val, ?_,tup v en.val true hv⟩
   rcases hx with ⟨rfl,rfl⟩ | ⟨b,clk,rfl,hb⟩
   ·unfold Instr.lookup
    simp only[Sem.run_bind,run_underlying hu,Result.andThen,Sem.run_pure,hck,hfind]
   ·unfold Instr.lookup
    simp only[Sem.run_bind,run_underlying hu,Result.andThen,MapKept.run_getObj_map hb,Sem.run_pure,hck,hfind]
theorem k1k {t k e:TypeId} {kt:ETy} {z x ix:AV} {cx cix:Value} {ok:Bool} {es:List (AV×AV)} {r:Option AV} (rel:Rel G I h w) (hu:P.underlying t=some (.map k e)) (hk:kTy P k=some kt) (hz:zeroP P e=some z)
  (hx:VR G I x cx) (hes:x8e h x=some es) (hi:VR G I ix cix) (hself:(ix.eqv kt ix).isSome=true) (hf:findKey kt ix es=some r):
  ∃ cv,(Instr.lookup t cx cix ok).run P w= .ok cv w∧VR G I (q8q ok z r) cv:=by
 cases x <;> simp only[x8e] at hes <;> try (simp at hes;done)
 ·rename_i s g
  simp only[VR] at hx
  obtain⟨i,hi0,_,rfl⟩:=hx
  obtain⟨i',ents,clk,hi',_,hw,hm⟩:=rel.obj s _ (x5k hes)
  obtain rfl:i=i':=by rw[hi0] at hi';simpa using hi'
  exact x3n (ents:=ents.toList) hu hk hz (.inr ⟨i.blk,clk,rfl,by simpa using hw⟩) hm hi hself hf
 ·simp at hes
  subst hes
  simp only[VR] at hx
  subst hx
  exact x3n (ents:=[]) hu hk hz (.inl ⟨rfl,rfl⟩) (show MapR G I [] [] from rfl) hi hself hf
theorem Rel.setMap {s g clk clk':Nat} {es es':List (AV×AV)} {i:GInfo} {ents ents':Array MapEntry} (rel:Rel G I h w) (hs:h[s]? =some (.map g es)) (hi:G g=some i) (hsl:i.slot=s) (hw:w.heap[i.blk]? =some (.map ents clk)) (hm:MapR G I es' ents'.toList):
  Rel G I (h.set s (.map g es')) {w with heap:=w.heap.setIfInBounds i.blk (.map ents' clk')}:=by
 have hown:own G (.map g es)=some i.blk:=by simp[own,hi]
 obtain⟨hsame,hother⟩:=MapKept.heap_set (w:=w) (o':= .map ents' clk') hw
 refine⟨fun b o v hv=> ?_,fun j o hj=> ?_,fun j k oj ok b hj hk h1 h2=> ?_⟩
 ·have h0:=rel.imm b o v hv
  refine z5h h0 fun x hx=> ?_
  by_cases hb:b=i.blk
  ·subst hb
   simp only[World.cell?,hw] at h0
   simp at h0
  ·rw[hother b hb];exact hx
 ·rcases getElem?_set_cases hj with ⟨rfl,rfl⟩ | ⟨hne,hj⟩
  ·exact⟨i,ents',clk',hi,hsl,hsame,hm⟩
  ·refine (rel.obj j o hj).world fun b hb=>hother _ fun e=> ?_
   subst e
   exact hne (rel.inj j s o _ _ hj hs hb hown)
 ·rcases getElem?_set_cases hj with ⟨e1,rfl⟩ | ⟨hj1,hj2⟩ <;> rcases getElem?_set_cases hk with ⟨e2,rfl⟩ | ⟨hk1,hk2⟩
  ·rw[e1,e2]
  ·rw[e1]
   exact rel.inj s k _ ok b hs hk2 (by simpa [own] using h1) h2
  ·rw[e2]
   exact rel.inj j s oj _ b hj2 hs h1 (by simpa [own] using h2)
  ·exact rel.inj j k oj ok b hj2 hk2 h1 h2
theorem j1y {t kty e:TypeId} {kt:ETy} {k v v':AV} {cm ck cv:Value} {s g:Nat} {es es':List (AV×AV)} {h':List AObj} {r:Result Next} (hg:G gen=none) (rel:Rel G I h w) (hu:P.underlying t=some (.map kty e)) (hk:kTy P kty=some kt)
  (hm:VR G I (.mp s g) cm) (hkv:VR G I k ck) (hv:VR G I v cv) (hes:z5q h s g=some es) (hp:pub h v=some (v',h')) (hself:(k.eqv kt k).isSome=true) (hput:z7t kt k v' es=some es')
  (hr:r=((Instr.mapUpdate t cm ck cv).bind fun _=>Sem.pure .skip).run P w):Step G I h w gen slot r .undef (h'.set s (.map g es')):=by
 obtain⟨b,hself⟩:=Option.isSome_iff_exists.1 hself
 simp only[pub,Option.map_eq_some_iff,Prod.mk.injEq] at hp
 obtain⟨v1,hcv,rfl,rfl⟩:=hp
 obtain⟨I1,hI1,rel1,hv1,hnn⟩:=q9n hcv hv (Frozen.refl h) rel
 have hfr:=z2e h v.obs
 have hs:=x5k hes
 have hs1:=hfr.2 s _ hs
 simp only at hs1
 generalize freezeAll h v.obs=h1 at *
 simp only[VR] at hm
 obtain⟨i,hi0,hsl,rfl⟩:=hm
 obtain⟨i',ents,clk,hi',_,hw,hmr⟩:=rel1.obj s _ hs1
 obtain rfl:i=i':=by rw[hi0] at hi';simpa using hi'
 have hk1:=VR.mono (GLe.refl _) hI1 hkv
 have hck:∀ em,(Instr.checkKey em 10000 kty ck).run P w= .ok () w:=fun em=>q9y (m:=9998) hk hkv hself
 have hown:own G (.map g es)=some i.blk:=by simp[own,hi0]
 obtain⟨hlen,hget⟩:=x5o hmr
 have done:∀ (ents':Array MapEntry) (clk':Nat),(Instr.mapUpdate t (.map (some i.blk)) ck cv).run P w= .ok () {w with heap:=w.heap.setIfInBounds i.blk (.map ents' clk')}→MapR G I1 es' ents'.toList→
   Step G I h w gen slot r .undef (h1.set s (.map g es')):=fun ents' clk' hrun hmr'=>by
  have hx1:r= .ok .skip {w with heap:=w.heap.setIfInBounds i.blk (.map ents' clk')}:=by
   rw[hr,z4y,hrun]
   rfl
  refine Step.pre (I1:=I1) (h':=h1) ?_ hI1 hnn (z9a hfr)
  refine⟨_,undef,_,G,I1,hx1, .inr ⟨rfl,rfl⟩,by simp[VR],rel1.setMap hs1 hi0 hsl hw hmr',GLe.refl _,ILe.refl _,fun _ _=>rfl,fun i hi=>by simp[hg] at hi, ?_,⟨rfl,rfl,rfl,by simp,fun k _ hn=> ?_⟩,IFr.refl⟩
  ·refine OwnLe.same fun j o hj=> ?_
   rcases getElem?_set_cases hj with ⟨rfl,rfl⟩ | ⟨_,hj⟩
   ·exact⟨j,_,hs1,fun b hb=>by simpa [own] using hb⟩
   ·exact⟨j,o,hj,fun _ hb=>hb⟩
  ·exact (MapKept.heap_set (w:=w) (o':= .map ents' clk') hw).2 k fun e=>hn s _ hs1 (by rw[e];exact hown)
 rcases q7y hput with ⟨hall,rfl⟩ | ⟨j,kx,vx,hj,heq,hbef,rfl⟩
 ·have hfind:=q5f (w:=w) hk hk1 hmr hall
  refine done (ents.push {key:=ck,val:=cv,born:=clk}) (clk + 1) ?_ ?_
  ·unfold Instr.mapUpdate
   simp only[Sem.run_bind,run_underlying hu,Result.andThen,MapKept.run_getObj_map hw,hck,hfind]
   exact MapKept.run_setObj_map _ hw
  ·refine j1x (by simp[hlen]) fun q x en hx hen=> ?_
   rw[Array.toList_push] at hen
   rw[List.getElem?_append] at hx hen
   split at hx
   ·rename_i hq
    rw[if_pos (by omega)] at hen
    obtain⟨en',h1,h2⟩:=hget q x hx
    rw[h1] at hen
    simp at hen
    subst hen
    exact h2
   ·rename_i hq
    rw[if_neg (by omega)] at hen
    have hq0:q - es.length=0:=by
     have:=(List.getElem?_eq_some_iff.1 hx).1
     simp at this
     omega
    rw[hq0] at hx
    rw[show q - ents.toList.length=0 by omega] at hen
    simp at hx hen
    subst hx hen
    exact⟨hk1,hv1⟩
 ·obtain⟨en,hen,hkr,hvr,hfind⟩:=q5g (w:=w) hk hk1 hmr hj heq hbef
  have hsb:=x8t (n:=9999) hk hk1 hkr heq
  have hen':ents[j]? =some en:=by rw[←Array.getElem?_toList];exact hen
  refine done (ents.modify j fun e=>{e with key:=ck,val:=cv}) clk ?_ ?_
  ·unfold Instr.mapUpdate
   simp only[Sem.run_bind,run_underlying hu,Result.andThen,MapKept.run_getObj_map hw,hck,hfind,hen',Option.map_some,Option.getD_some,Instr.keyThatStays,hsb,if_true,Sem.run_pure]
   exact MapKept.run_setObj_map _ hw
  ·refine j1x (by simp[hlen]) fun q x en' hx hen'=> ?_
   rw[Array.getElem?_toList,Array.getElem?_modify] at hen'
   rcases getElem?_set_cases hx with ⟨rfl,rfl⟩ | ⟨hne,hx⟩
   ·rw[if_pos rfl,←Array.getElem?_toList,hen] at hen'
    simp at hen'
    subst hen'
    exact⟨hk1,hv1⟩
   ·rw[if_neg (Ne.symm hne),←Array.getElem?_toList] at hen'
    obtain⟨en2,h1,h2⟩:=hget q x hx
    rw[h1] at hen'
    simp at hen'
    subst hen'
    exact h2
end
end Go.Proofs.YtkollgjffkdliaaGreatDoor.Am
